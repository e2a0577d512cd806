-- laid together by pack.py (a program of this session)
import Derived.Test.YtkklacijhmoopaaDoorADnSame2
namespace Go.Proofs.YtkklacijhmoopaaDoor.Print
open Go.RowKit Go.Proofs.YtkklacijhmoopaaDoorW.PrintWords Go.Proofs.YtkklacijhmoopaaDoorW.PrintLast Go.Proofs.YtkklacijhmoopaaDoorW.PrintMore Go.Proofs.YtkklacijhmoopaaDoor.Pure
set_option linter.unusedVariables false
set_option linter.unusedSimpArgs false
theorem sz_mk {B : Nat} (hB : B ≤ 100000) {n : List (List Pr)} (h : shortN B n) : (mkN n).length ≤ 1000000 ∧ szN (mkN n) ∧ ∀ l ∈ mkN n, l.length ≤ 1000000 := by
  have hs : szN (mkN n) := by
    intro l hl
    obtain ⟨x, hx, rfl⟩ := List.mem_map.1 hl
    obtain ⟨h1, h2⟩ := h.2 x hx
    refine ⟨by rw [mkR_len]; omega, ?_⟩
    intro a ha
    obtain ⟨p, hp, rfl⟩ := List.mem_map.1 ha
    obtain ⟨k1, k2⟩ := h2 p hp
    have e1 : (mkA p).f0.size = p.1.length := by rw [← bl_length]; rfl
    have e2 : (mkA p).f1.size = p.2.length := by rw [← bl_length]; rfl
    exact ⟨by omega, by omega⟩
  exact ⟨by rw [mkN_len]; have := h.1; omega, hs, fun l hl => (hs l hl).1⟩
end Go.Proofs.YtkklacijhmoopaaDoor.Print
namespace Go.Proofs.YtkklacijhmoopaaDoor.Print
open Go.RowKit Go.Proofs.YtkklacijhmoopaaDoorW.PrintWords Go.Proofs.YtkklacijhmoopaaDoorW.PrintLast Go.Proofs.YtkklacijhmoopaaDoorW.PrintMore
attribute [local go_sem] max2_int min2_int max_two min_two max_three min_three max_four min_four
set_option linter.unusedVariables false
set_option linter.unusedSimpArgs false
mutual
def L15Long.l0 : Nat → List (List (S40)) → Int → Option (Bool)
 | 0, _, _ => none
 | k + 1, x0, x3 => if x3 < (x0.length : Int) then (L15Long.j1 k x0 x3 (decide (x3 < 30))) else (L15Long.j1 k x0 x3 false)
def L15Long.j1 : Nat → List (List (S40)) → Int → Bool → Option (Bool)
 | 0, _, _, _ => none
 | k + 1, x0, x3, x12 => if x12 = true then (L15Long.l1 k x0 x3 0) else (some (decide ((x0.length : Int) > 30)))
def L15Long.l1 : Nat → List (List (S40)) → Int → Int → Option (Bool)
 | 0, _, _, _ => none
 | k + 1, x0, x3, x4 => if 0 ≤ x3 then (if x3 < (x0.length : Int) then (if x4 < ((rd_L7 x0 x3).length : Int) then (L15Long.j3 k x0 x3 x4 (decide (x4 < 30))) else (L15Long.j3 k x0 x3 x4 false)) else (none)) else (none)
def L15Long.j3 : Nat → List (List (S40)) → Int → Int → Bool → Option (Bool)
 | 0, _, _, _, _ => none
 | k + 1, x0, x3, x4, x25 => if x25 = true then (if 0 ≤ x3 then (if x3 < (x0.length : Int) then (if 0 ≤ x4 then (if x4 < ((rd_L7 x0 x3).length : Int) then (if (((rd_T40 (rd_L7 x0 x3) x4).f0).size : Int) > 600 then (some true) else (if (((rd_T40 (rd_L7 x0 x3) x4).f1).size : Int) > 600 then (some true) else (L15Long.l1 k x0 x3 (wrap64 (x4 + 1))))) else (none)) else (none)) else (none)) else (none)) else (if 0 ≤ x3 then (if x3 < (x0.length : Int) then (if ((rd_L7 x0 x3).length : Int) > 30 then (some true) else (L15Long.l0 k x0 (wrap64 (x3 + 1)))) else (none)) else (none))
end
def L15Long.f (k : Nat) (l0 : List (List (S40))) : Option (Bool) := L15Long.l0 k l0 0
set_option maxHeartbeats 8000000 in
set_option maxRecDepth 100000 in
theorem L15Long.calls (k : Nat) (A0 : Option Addr) (c0 : Nat) (l0 : List (List (S40))) (r : Bool) (w : World) (hr0 : Kd.C (Kd.slice 40 k40) w A0 l0.length l0) (hc0 : l0.length ≤ c0) (h : L15Long.f k l0 = some r) :
  Calls Tryd.prog 15 #[.slice A0 l0.length c0] w fun e w' => e = .returned (.bool r) ∧ Drawn0 w w' := by
 have HR0 := Aside0.mk hr0
 have HC0 := Aside0.mk hc0
 clear hr0 hc0
 have H : (L15Long.l0 k l0 0) = some r := h
 clear h
 have H' := Aside0.mk H
 clear H
 go_enter Tryd.func15, Tryd.ntmps15
 go_wp2
 go_loopg [3] k (fun kq v3 w' => ∃ (x3_1 : Int), v3 = .int .i64 x3_1 ∧ Aside0 (L15Long.l0 kq l0 x3_1 = some r) ∧ Aside0 (kq ≤ k) ∧ Drawn0 w w')
 case atStart => exact ⟨(0), ap2, H', ⟨Nat.le_refl _⟩, by repeat (first | exact Drawn0.refl _ | apply Drawn0.step)⟩
 case round =>
  clear H'
  try clear c1
  obtain ⟨x3_1, rfl, HA, HK1, ⟨m1, rfl⟩⟩ := hrel
  cases gk with
  | zero => exact absurd HA.out (by simp [L15Long.l0])
  | succ k1 =>
   have H := HA.out
   clear HA
   simp only [L15Long.l0] at H
   have HC2 := Aside0.mk H
   clear H
   go_upto_region 2 with (fail)
   go_cut [12] (fun v12 wc => ∃ (kq : Nat) (x12_1 : Bool), v12 = .bool x12_1 ∧ Aside0 (L15Long.j1 kq l0 x3_1 x12_1 = some r) ∧ Aside0 (kq ≤ k1) ∧ Drawn0 w wc)
   case first =>
    have H := HC2.out
    clear HC2
    by_cases c3 : x3_1 < (l0.length : Int)
    ·
     rw [if_pos c3] at H
     have c3b0 := decide_eq_true c3
     clear c3
     (first | rw [c3b0] | (simp only [i64_w, i32_w]; rw [c3b0]) | skip)
     have H' := Aside0.mk H
     clear H
     go_wp2
     go_meet
     case rel => exact ⟨_, (decide (x3_1 < 30)), ap2, H', ⟨by have := HK1.out; first | omega | exact Nat.le_refl _⟩, by repeat (first | exact Drawn0.refl _ | apply Drawn0.step)⟩
    ·
     rw [if_neg c3] at H
     have c3b0 := decide_eq_false c3
     clear c3
     (first | rw [c3b0] | (simp only [i64_w, i32_w]; rw [c3b0]) | skip)
     have H' := Aside0.mk H
     clear H
     go_wp2
     go_meet
     case rel => exact ⟨_, (false), ap2, H', ⟨by have := HK1.out; first | omega | exact Nat.le_refl _⟩, by repeat (first | exact Drawn0.refl _ | apply Drawn0.step)⟩
   case rest =>
    clear HC2
    try clear c1
    try clear p2
    try clear c3
    try clear c3b0
    obtain ⟨kq, x12_1, rfl, HA, HJ1, ⟨mc1, rfl⟩⟩ := hcut
    cases kq with
    | zero => exact absurd HA.out (by simp [L15Long.j1])
    | succ kj1 =>
     have H := HA.out
     clear HA
     simp only [L15Long.j1] at H
     by_cases c4 : x12_1 = true
     ·
      subst c4
      rw [if_pos rfl] at H
      have H' := Aside0.mk H
      clear H
      go_wp2
      go_loopg [4] kj1 (fun kq v4 w' => ∃ (x4_3 : Int), v4 = .int .i64 x4_3 ∧ Aside0 (L15Long.l1 kq l0 x3_1 x4_3 = some r) ∧ Aside0 (kq ≤ kj1) ∧ Drawn0 w w')
      case atStart => exact ⟨(0), ap2, H', ⟨Nat.le_refl _⟩, by repeat (first | exact Drawn0.refl _ | apply Drawn0.step)⟩
      case round =>
       clear H'
       try clear c1
       try clear p2
       try clear c3
       try clear c3b0
       try clear c4
       try clear p2
       obtain ⟨x4_3, rfl, HA, HK3, ⟨m3, rfl⟩⟩ := hrel
       cases gk with
       | zero => exact absurd HA.out (by simp [L15Long.l1])
       | succ k3 =>
        have H := HA.out
        clear HA
        simp only [L15Long.l1] at H
        have HC5 := Aside0.mk H
        clear H
        go_upto_region 5 with (fail)
        go_cut [25] (fun v25 wc => ∃ (kq : Nat) (x25_4 : Bool), v25 = .bool x25_4 ∧ Aside0 (L15Long.j3 kq l0 x3_1 x4_3 x25_4 = some r) ∧ Aside0 (kq ≤ k3) ∧ Drawn0 w wc)
        case first =>
         have H := HC5.out
         clear HC5
         by_cases c6 : 0 ≤ x3_1
         ·
          rw [if_pos c6] at H
          have c6b0 := decide_eq_true c6
          clear c6
          (first | rw [c6b0] | (simp only [i64_w, i32_w]; rw [c6b0]) | skip)
          by_cases c7 : x3_1 < (l0.length : Int)
          ·
           rw [if_pos c7] at H
           have c7b0 := decide_eq_true c7
           clear c7
           by_cases c8 : x4_3 < ((rd_L7 l0 x3_1).length : Int)
           ·
            rw [if_pos c8] at H
            have c8b0 := decide_eq_true c8
            clear c8
            have H' := Aside0.mk H
            clear H
            have p574 : 0 ≤ (x3_1 : Int) := of_decide_eq_true ap0
            have q574 : x3_1 < (l0.length : Int) := of_decide_eq_true ap0
            obtain ⟨ad574, A574_0, c574_0, e574, hx574_0, hl574_0, hi574_0⟩ := at_L7 HR0.out x3_1 p574 q574
            cases e574
            have HR574_0 := Aside0.mk hi574_0
            have HC574_0 := Aside0.mk hl574_0
            clear hi574_0 hl574_0
            replace p574 := eq_true p574
            replace q574 := eq_true q574
            go_wp2
            go_meet
            case rel => exact ⟨_, (decide (x4_3 < 30)), ap2, H', ⟨by have := HK1.out; have := HJ1.out; have := HK3.out; first | omega | exact Nat.le_refl _⟩, by repeat (first | exact Drawn0.refl _ | apply Drawn0.step)⟩
           ·
            rw [if_neg c8] at H
            have c8b0 := decide_eq_false c8
            clear c8
            have H' := Aside0.mk H
            clear H
            have p574 : 0 ≤ (x3_1 : Int) := of_decide_eq_true ap0
            have q574 : x3_1 < (l0.length : Int) := of_decide_eq_true ap0
            obtain ⟨ad574, A574_0, c574_0, e574, hx574_0, hl574_0, hi574_0⟩ := at_L7 HR0.out x3_1 p574 q574
            cases e574
            have HR574_0 := Aside0.mk hi574_0
            have HC574_0 := Aside0.mk hl574_0
            clear hi574_0 hl574_0
            replace p574 := eq_true p574
            replace q574 := eq_true q574
            go_wp2
            go_meet
            case rel => exact ⟨_, (false), ap2, H', ⟨by have := HK1.out; have := HJ1.out; have := HK3.out; first | omega | exact Nat.le_refl _⟩, by repeat (first | exact Drawn0.refl _ | apply Drawn0.step)⟩
          ·
           rw [if_neg c7] at H
           exact absurd H (by simp)
         ·
          rw [if_neg c6] at H
          exact absurd H (by simp)
        case rest =>
         clear HC5
         try clear c1
         try clear p2
         try clear c3
         try clear c3b0
         try clear c4
         try clear c5
         try clear p5
         try clear q5
         try clear hx5
         try clear c6
         try clear c6b0
         try clear c7
         try clear c7b0
         try clear c8
         try clear c8b0
         try clear hx574_0
         try clear p2
         try clear p574
         try clear q574
         obtain ⟨kq, x25_4, rfl, HA, HJ4, ⟨mc4, rfl⟩⟩ := hcut
         cases kq with
         | zero => exact absurd HA.out (by simp [L15Long.j3])
         | succ kj4 =>
          have H := HA.out
          clear HA
          simp only [L15Long.j3] at H
          by_cases c9 : x25_4 = true
          ·
           subst c9
           rw [if_pos rfl] at H
           by_cases c10 : 0 ≤ x3_1
           ·
            rw [if_pos c10] at H
            have c10b0 := decide_eq_true c10
            clear c10
            by_cases c11 : x3_1 < (l0.length : Int)
            ·
             rw [if_pos c11] at H
             have c11b0 := decide_eq_true c11
             clear c11
             by_cases c12 : 0 ≤ x4_3
             ·
              rw [if_pos c12] at H
              have c12b0 := decide_eq_true c12
              clear c12
              by_cases c13 : x4_3 < ((rd_L7 l0 x3_1).length : Int)
              ·
               rw [if_pos c13] at H
               have c13b0 := decide_eq_true c13
               clear c13
               by_cases c14 : (((rd_T40 (rd_L7 l0 x3_1) x4_3).f0).size : Int) > 600
               ·
                rw [if_pos c14] at H
                have c14b0 := decide_eq_true c14
                have c14b1 : decide (600 < ((rd_T40 (rd_L7 l0 x3_1) x4_3).f0).size) = true := decide_eq_true (by omega)
                clear c14
                obtain rfl := Option.some.inj H
                have p575 : 0 ≤ (x3_1 : Int) := of_decide_eq_true ap0
                have q575 : x3_1 < (l0.length : Int) := of_decide_eq_true ap0
                obtain ⟨ad575, A575_0, c575_0, e575, hx575_0, hl575_0, hi575_0⟩ := at_L7 HR0.out x3_1 p575 q575
                cases e575
                have HR575_0 := Aside0.mk hi575_0
                have HC575_0 := Aside0.mk hl575_0
                clear hi575_0 hl575_0
                replace p575 := eq_true p575
                replace q575 := eq_true q575
                have p576 : 0 ≤ (x4_3 : Int) := of_decide_eq_true ap0
                have q576 : x4_3 < ((rd_L7 l0 x3_1).length : Int) := of_decide_eq_true ap0
                obtain ⟨ad576, e576, hx576_0, hx576_1⟩ := at_T40 HR575_0.out x4_3 p576 q576
                cases e576
                replace p576 := eq_true p576
                replace q576 := eq_true q576
                go_wp2
                go_ret
                exact ⟨ap2, ap7⟩
               ·
                rw [if_neg c14] at H
                have c14b0 := decide_eq_false c14
                have c14b1 : decide (600 < ((rd_T40 (rd_L7 l0 x3_1) x4_3).f0).size) = false := decide_eq_false (by omega)
                clear c14
                by_cases c15 : (((rd_T40 (rd_L7 l0 x3_1) x4_3).f1).size : Int) > 600
                ·
                 rw [if_pos c15] at H
                 have c15b0 := decide_eq_true c15
                 have c15b1 : decide (600 < ((rd_T40 (rd_L7 l0 x3_1) x4_3).f1).size) = true := decide_eq_true (by omega)
                 clear c15
                 obtain rfl := Option.some.inj H
                 have p575 : 0 ≤ (x3_1 : Int) := of_decide_eq_true ap0
                 have q575 : x3_1 < (l0.length : Int) := of_decide_eq_true ap0
                 obtain ⟨ad575, A575_0, c575_0, e575, hx575_0, hl575_0, hi575_0⟩ := at_L7 HR0.out x3_1 p575 q575
                 cases e575
                 have HR575_0 := Aside0.mk hi575_0
                 have HC575_0 := Aside0.mk hl575_0
                 clear hi575_0 hl575_0
                 replace p575 := eq_true p575
                 replace q575 := eq_true q575
                 have p576 : 0 ≤ (x4_3 : Int) := of_decide_eq_true ap0
                 have q576 : x4_3 < ((rd_L7 l0 x3_1).length : Int) := of_decide_eq_true ap0
                 obtain ⟨ad576, e576, hx576_0, hx576_1⟩ := at_T40 HR575_0.out x4_3 p576 q576
                 cases e576
                 replace p576 := eq_true p576
                 replace q576 := eq_true q576
                 have p577 : 0 ≤ (x3_1 : Int) := of_decide_eq_true ap0
                 have q577 : x3_1 < (l0.length : Int) := of_decide_eq_true ap0
                 obtain ⟨ad577, A577_0, c577_0, e577, hx577_0, hl577_0, hi577_0⟩ := at_L7 HR0.out x3_1 p577 q577
                 obtain rfl : ad575 = ad577 := (by injection e577)
                 have HR577_0 := Aside0.mk hi577_0
                 have HC577_0 := Aside0.mk hl577_0
                 clear hi577_0 hl577_0
                 replace p577 := eq_true p577
                 replace q577 := eq_true q577
                 have ea_ := Option.some.inj (hx575_0.symm.trans hx577_0)
                 injection ea_ with ea_ en_ ec_
                 subst ea_
                 subst ec_
                 clear en_
                 have p578 : 0 ≤ (x4_3 : Int) := of_decide_eq_true ap0
                 have q578 : x4_3 < ((rd_L7 l0 x3_1).length : Int) := of_decide_eq_true ap0
                 obtain ⟨ad578, e578, hx578_0, hx578_1⟩ := at_T40 HR577_0.out x4_3 p578 q578
                 cases e578
                 replace p578 := eq_true p578
                 replace q578 := eq_true q578
                 go_wp2
                 go_ret
                 exact ⟨ap2, ap7⟩
                ·
                 rw [if_neg c15] at H
                 have c15b0 := decide_eq_false c15
                 have c15b1 : decide (600 < ((rd_T40 (rd_L7 l0 x3_1) x4_3).f1).size) = false := decide_eq_false (by omega)
                 clear c15
                 have H' := Aside0.mk H
                 clear H
                 have p575 : 0 ≤ (x3_1 : Int) := of_decide_eq_true ap0
                 have q575 : x3_1 < (l0.length : Int) := of_decide_eq_true ap0
                 obtain ⟨ad575, A575_0, c575_0, e575, hx575_0, hl575_0, hi575_0⟩ := at_L7 HR0.out x3_1 p575 q575
                 cases e575
                 have HR575_0 := Aside0.mk hi575_0
                 have HC575_0 := Aside0.mk hl575_0
                 clear hi575_0 hl575_0
                 replace p575 := eq_true p575
                 replace q575 := eq_true q575
                 have p576 : 0 ≤ (x4_3 : Int) := of_decide_eq_true ap0
                 have q576 : x4_3 < ((rd_L7 l0 x3_1).length : Int) := of_decide_eq_true ap0
                 obtain ⟨ad576, e576, hx576_0, hx576_1⟩ := at_T40 HR575_0.out x4_3 p576 q576
                 cases e576
                 replace p576 := eq_true p576
                 replace q576 := eq_true q576
                 have p577 : 0 ≤ (x3_1 : Int) := of_decide_eq_true ap0
                 have q577 : x3_1 < (l0.length : Int) := of_decide_eq_true ap0
                 obtain ⟨ad577, A577_0, c577_0, e577, hx577_0, hl577_0, hi577_0⟩ := at_L7 HR0.out x3_1 p577 q577
                 obtain rfl : ad575 = ad577 := (by injection e577)
                 have HR577_0 := Aside0.mk hi577_0
                 have HC577_0 := Aside0.mk hl577_0
                 clear hi577_0 hl577_0
                 replace p577 := eq_true p577
                 replace q577 := eq_true q577
                 have ea_ := Option.some.inj (hx575_0.symm.trans hx577_0)
                 injection ea_ with ea_ en_ ec_
                 subst ea_
                 subst ec_
                 clear en_
                 have p578 : 0 ≤ (x4_3 : Int) := of_decide_eq_true ap0
                 have q578 : x4_3 < ((rd_L7 l0 x3_1).length : Int) := of_decide_eq_true ap0
                 obtain ⟨ad578, e578, hx578_0, hx578_1⟩ := at_T40 HR577_0.out x4_3 p578 q578
                 cases e578
                 replace p578 := eq_true p578
                 replace q578 := eq_true q578
                 go_wp2
                 go_roundg kj4
                 case measure => have := HK1.out; have := HJ1.out; have := HK3.out; have := HJ4.out; omega
                 case rel => exact ⟨(wrap64 (x4_3 + 1)), ap2, H', ⟨by have := HK1.out; have := HJ1.out; have := HK3.out; have := HJ4.out; omega⟩, by repeat (first | exact Drawn0.refl _ | apply Drawn0.step)⟩
              ·
               rw [if_neg c13] at H
               exact absurd H (by simp)
             ·
              rw [if_neg c12] at H
              exact absurd H (by simp)
            ·
             rw [if_neg c11] at H
             exact absurd H (by simp)
           ·
            rw [if_neg c10] at H
            exact absurd H (by simp)
          ·
           replace c9 := Bool.eq_false_iff.mpr c9
           subst c9
           rw [if_neg (show ¬ (false = true) by decide)] at H
           by_cases c16 : 0 ≤ x3_1
           ·
            rw [if_pos c16] at H
            have c16b0 := decide_eq_true c16
            clear c16
            by_cases c17 : x3_1 < (l0.length : Int)
            ·
             rw [if_pos c17] at H
             have c17b0 := decide_eq_true c17
             clear c17
             by_cases c18 : ((rd_L7 l0 x3_1).length : Int) > 30
             ·
              rw [if_pos c18] at H
              have c18b0 := decide_eq_true c18
              have c18b1 : decide (30 < (rd_L7 l0 x3_1).length) = true := decide_eq_true (by omega)
              clear c18
              obtain rfl := Option.some.inj H
              have p579 : 0 ≤ (x3_1 : Int) := of_decide_eq_true ap0
              have q579 : x3_1 < (l0.length : Int) := of_decide_eq_true ap0
              obtain ⟨ad579, A579_0, c579_0, e579, hx579_0, hl579_0, hi579_0⟩ := at_L7 HR0.out x3_1 p579 q579
              cases e579
              have HR579_0 := Aside0.mk hi579_0
              have HC579_0 := Aside0.mk hl579_0
              clear hi579_0 hl579_0
              replace p579 := eq_true p579
              replace q579 := eq_true q579
              go_wp2
              go_ret
              exact ⟨ap2, ap7⟩
             ·
              rw [if_neg c18] at H
              have c18b0 := decide_eq_false c18
              have c18b1 : decide (30 < (rd_L7 l0 x3_1).length) = false := decide_eq_false (by omega)
              clear c18
              have H' := Aside0.mk H
              clear H
              have p579 : 0 ≤ (x3_1 : Int) := of_decide_eq_true ap0
              have q579 : x3_1 < (l0.length : Int) := of_decide_eq_true ap0
              obtain ⟨ad579, A579_0, c579_0, e579, hx579_0, hl579_0, hi579_0⟩ := at_L7 HR0.out x3_1 p579 q579
              cases e579
              have HR579_0 := Aside0.mk hi579_0
              have HC579_0 := Aside0.mk hl579_0
              clear hi579_0 hl579_0
              replace p579 := eq_true p579
              replace q579 := eq_true q579
              go_wp2
              go_roundg kj4
              case measure => have := HK1.out; have := HJ1.out; have := HK3.out; have := HJ4.out; omega
              case rel => exact ⟨(wrap64 (x3_1 + 1)), ap2, H', ⟨by have := HK1.out; have := HJ1.out; have := HK3.out; have := HJ4.out; omega⟩, by repeat (first | exact Drawn0.refl _ | apply Drawn0.step)⟩
            ·
             rw [if_neg c17] at H
             exact absurd H (by simp)
           ·
            rw [if_neg c16] at H
            exact absurd H (by simp)
     ·
      replace c4 := Bool.eq_false_iff.mpr c4
      subst c4
      rw [if_neg (show ¬ (false = true) by decide)] at H
      obtain rfl := Option.some.inj H
      go_wp2
      go_ret
      exact ⟨ap2, ap7⟩
end Go.Proofs.YtkklacijhmoopaaDoor.Print
namespace Go.Proofs.YtkklacijhmoopaaDoor.Print
open Go.RowKit Go.Proofs.YtkklacijhmoopaaDoorW.PrintWords Go.Proofs.YtkklacijhmoopaaDoorW.PrintLast Go.Proofs.YtkklacijhmoopaaDoorW.PrintMore Go.Proofs.YtkklacijhmoopaaDoor.Pure
set_option linter.unusedVariables false
set_option linter.unusedSimpArgs false
abbrev mkB (l : List UInt8) : ByteArray := ⟨l.toArray⟩
theorem mkB_size (l : List UInt8) : (mkB l).size = l.length := by rw [← bl_length]
theorem ba_app (a b : List UInt8) : mkB a ++ mkB b = mkB (a ++ b) := by
  apply ByteArray.ext
  apply Array.toList_inj.1
  rw [ByteArray.data_append]
  simp
def ofA (a : AvaS) : Pr := (bl a.f0, bl a.f1)
def ofN (n : List (List AvaS)) : List (List Pr) := n.map (·.map ofA)
theorem mk_of (n : List (List AvaS)) : mkN (ofN n) = n := by
  unfold mkN ofN
  rw [List.map_map]
  conv => rhs; rw [← List.map_id n]
  refine List.map_congr_left fun l _ => ?_
  show mkR (l.map ofA) = l
  unfold mkR
  rw [List.map_map]
  conv => rhs; rw [← List.map_id l]
  exact List.map_congr_left fun a _ => rfl
def okL (a : AvaS) : Prop := a.f0.size ≤ 600 ∧ a.f1.size ≤ 600
def okLs (n rest : List (List AvaS)) : Prop := n.length ≤ 30 ∧ ∀ l ∈ rest, l.length ≤ 30 ∧ ∀ a ∈ l, okL a
theorem long_l1 (n : List (List AvaS)) (i : Nat) (hi30 : i < 30) (l : List AvaS) (r : List (List AvaS)) (hr : n.drop i = l :: r)
    (hnext : ∃ b, Ev (fun k => L15Long.l0 k n ((i + 1 : Nat) : Int)) b ∧ (b = false → okLs n r)) : ∀ (m j : Nat), 30 - j = m → j ≤ 30 →
    ∃ b, Ev (fun k => L15Long.l1 k n (i : Int) (j : Int)) b ∧ (b = false → okLs n r ∧ l.length ≤ 30 ∧ ∀ a ∈ l.drop j, okL a) := by
  obtain ⟨g1, _, g3⟩ := getD_at (d := []) hr
  have g2 := rdR_at hr
  intro m
  induction m with
  | zero =>
    intro j hm hj
    have hend : Ev (fun k => L15Long.j3 k n (i : Int) (j : Int) false) true ∨ l.length ≤ 30 := by
      by_cases h : l.length ≤ 30
      · exact .inr h
      · left
        refine Ev.step (fun k => by rw [L15Long.j3]) ?_
        rw [g2]
        exact Ev.neg (by simp) (Ev.pos (by omega) (Ev.pos (by omega) (Ev.pos (by omega) Ev.rfl')))
    have hto : ∀ {b : Bool}, Ev (fun k => L15Long.j3 k n (i : Int) (j : Int) false) b → Ev (fun k => L15Long.l1 k n (i : Int) (j : Int)) b := by
      intro b h
      refine Ev.step (fun k => by rw [L15Long.l1]) ?_
      rw [g2]
      refine Ev.pos (by omega) (Ev.pos (by omega) ?_)
      by_cases hl : (j : Int) < (l.length : Int)
      · refine Ev.pos hl ?_
        rw [decide_eq_false (by omega)]; exact h
      · exact Ev.neg hl h
    rcases hend with h | h
    · exact ⟨true, hto h, fun h => by cases h⟩
    · obtain ⟨b, hb, hb2⟩ := hnext
      refine ⟨b, hto ?_, fun h0 => ⟨hb2 h0, h, by rw [List.drop_eq_nil_of_le (by omega)]; simp⟩⟩
      refine Ev.step (fun k => by rw [L15Long.j3]) ?_
      rw [g2, wsucc (p := i) (by omega)]
      exact Ev.neg (by simp) (Ev.pos (by omega) (Ev.pos (by omega) (Ev.neg (by omega) hb)))
  | succ m ih =>
    intro j hm hj
    cases hd : l.drop j with
    | nil =>
      have hjl := List.drop_eq_nil_iff.1 hd
      have hto : ∀ {b : Bool}, Ev (fun k => L15Long.j3 k n (i : Int) (j : Int) false) b → Ev (fun k => L15Long.l1 k n (i : Int) (j : Int)) b := by
        intro b h
        refine Ev.step (fun k => by rw [L15Long.l1]) ?_
        rw [g2]
        exact Ev.pos (by omega) (Ev.pos (by omega) (Ev.neg (by omega) h))
      obtain ⟨b, hb, hb2⟩ := hnext
      refine ⟨b, hto ?_, fun h0 => ⟨hb2 h0, by omega, by simp⟩⟩
      refine Ev.step (fun k => by rw [L15Long.j3]) ?_
      rw [g2, wsucc (p := i) (by omega)]
      exact Ev.neg (by simp) (Ev.pos (by omega) (Ev.pos (by omega) (Ev.neg (by omega) hb)))
    | cons a r2 =>
      obtain ⟨f1, _, f3⟩ := getD_at (d := z40) hd
      have f2 := rdA_at hd
      have hto : ∀ {b : Bool}, Ev (fun k => if (a.f0.size : Int) > 600 then (some true) else (if (a.f1.size : Int) > 600 then (some true) else (L15Long.l1 k n (i : Int) ((j + 1 : Nat) : Int)))) b → Ev (fun k => L15Long.l1 k n (i : Int) (j : Int)) b := by
        intro b h
        refine Ev.step (fun k => by rw [L15Long.l1]) ?_
        rw [g2]
        refine Ev.pos (by omega) (Ev.pos (by omega) (Ev.pos (by omega) ?_))
        rw [decide_eq_true (by omega)]
        refine Ev.step (fun k => by rw [L15Long.j3]) ?_
        rw [g2, f2, wsucc (p := j) (by omega)]
        exact Ev.pos rfl (Ev.pos (by omega) (Ev.pos (by omega) (Ev.pos (by omega) (Ev.pos (by omega) h))))
      by_cases h0 : a.f0.size > 600
      · exact ⟨true, hto (Ev.pos (by omega) Ev.rfl'), fun h => by cases h⟩
      by_cases h1 : a.f1.size > 600
      · exact ⟨true, hto (Ev.neg (by omega) (Ev.pos (by omega) Ev.rfl')), fun h => by cases h⟩
      obtain ⟨b, hb, hb2⟩ := ih (j + 1) (by omega) (by omega)
      rw [f3] at hb2
      refine ⟨b, hto (Ev.neg (by omega) (Ev.neg (by omega) hb)), fun h => ?_⟩
      obtain ⟨k1, k2, k3⟩ := hb2 h
      refine ⟨k1, k2, fun x hx => ?_⟩
      rcases List.mem_cons.1 hx with rfl | hx
      · exact ⟨by omega, by omega⟩
      · exact k3 x hx
theorem long_ev (n : List (List AvaS)) : ∃ b, Ev (fun k => L15Long.f k n) b ∧ (b = false → okLs n n) := by
  have hloop : ∀ (m i : Nat), 30 - i = m → i ≤ 30 → ∃ b, Ev (fun k => L15Long.l0 k n (i : Int)) b ∧ (b = false → okLs n (n.drop i)) := by
    intro m
    have hout : ∀ i : Nat, (n.length ≤ i ∨ 30 ≤ i) → ∃ b, Ev (fun k => L15Long.l0 k n (i : Int)) b ∧ (b = false → okLs n (n.drop i)) := by
      intro i h
      refine ⟨decide ((n.length : Int) > 30), ?_, fun h' => ?_⟩
      · refine Ev.step (fun k => by rw [L15Long.l0]) ?_
        have hj : Ev (fun k => L15Long.j1 k n (i : Int) false) (decide ((n.length : Int) > 30)) := Ev.step (fun k => by rw [L15Long.j1]) (Ev.neg (by simp) Ev.rfl')
        by_cases hl : (i : Int) < (n.length : Int)
        · refine Ev.pos hl ?_
          rw [show decide ((i : Int) < 30) = false from decide_eq_false (by omega)]; exact hj
        · exact Ev.neg hl hj
      · have := of_decide_eq_false h'
        refine ⟨by omega, ?_⟩
        rw [List.drop_eq_nil_of_le (by omega)]; simp
    induction m with
    | zero => intro i hm hi; exact hout i (.inr (by omega))
    | succ m ih =>
      intro i hm hi
      cases hr : n.drop i with
      | nil =>
        have := hout i (.inl (List.drop_eq_nil_iff.1 hr))
        rw [hr] at this; exact this
      | cons l r =>
        obtain ⟨g1, _, g3⟩ := getD_at (d := []) hr
        have hnext := ih (i + 1) (by omega) (by omega)
        rw [g3] at hnext
        obtain ⟨b, hb, hb2⟩ := long_l1 n i (by omega) l r hr hnext _ 0 rfl (by omega)
        refine ⟨b, ?_, fun h => ?_⟩
        · refine Ev.step (fun k => by rw [L15Long.l0]) ?_
          refine Ev.pos (by omega) ?_
          rw [show decide ((i : Int) < 30) = true from decide_eq_true (by omega)]
          refine Ev.step (fun k => by rw [L15Long.j1]) ?_
          exact Ev.pos rfl hb
        · obtain ⟨k1, k2, k3⟩ := hb2 h
          refine ⟨k1.1, fun x hx => ?_⟩
          rcases List.mem_cons.1 hx with rfl | hx
          · exact ⟨k2, fun a ha => k3 a (by rw [List.drop_zero]; exact ha)⟩
          · exact k1.2 x hx
  obtain ⟨b, hb, hb2⟩ := hloop _ 0 rfl (by omega)
  rw [List.drop_zero] at hb2
  exact ⟨b, hb, hb2⟩
set_option maxRecDepth 100000 in
theorem digit_hex : ∀ n : Nat, n < 256 → R14Digit.f (wrap64 (Int.tdiv (wrap64 (n : Int)) 16)) = some ((hexDig (n / 16)).toNat : Int) ∧ R14Digit.f (Int.tmod (wrap64 (n : Int)) 16) = some ((hexDig (n % 16)).toNat : Int) := by decide +kernel
theorem piece_len (n i : Nat) (c : UInt8) : (dnPiece n i c).length ≤ 3 := by
  rw [piece_is]
  split
  · show (92 :: hexOf [c]).length ≤ 3
    simp [hexOf]
  · split <;> simp
theorem textN_len (n : Nat) : ∀ (l : List UInt8) (i : Nat), (textN n i l).length ≤ 3 * l.length
  | [], i => by simp [textN]
  | c :: r, i => by
    have := piece_len n i c
    have := textN_len n r (i + 1)
    rw [textN, List.length_append, List.length_cons]; omega
theorem text_ev (s : ByteArray) (hs : s.size ≤ 1000000) : ∀ (m i : Nat) (acc : List UInt8), s.size - i = m → i ≤ s.size → acc.length ≤ 3 * i →
    Ev (fun k => R15Text.l0 k s (ints acc) (i : Int)) (mkB (acc ++ textN s.size i ((bl s).drop i))) := by
  intro m
  induction m with
  | zero =>
    intro i acc hm hi ha
    rw [drop_end (by omega), textN, List.append_nil]
    refine Ev.step (fun k => by rw [R15Text.l0]) (Ev.neg (by omega) ?_)
    rw [strOfNums_ints]; exact Ev.rfl'
  | succ m ih =>
    intro i acc hm hi ha
    cases hr : (bl s).drop i with
    | nil => have := drop_nil hr; omega
    | cons c r =>
      obtain ⟨g1, g2, g3⟩ := drop_cons hr
      have hc := c.toNat_lt
      have hal : ∀ x : List UInt8, x.length ≤ acc.length + 3 → (ints x).length < 140737488355328 := fun x hx => by rw [ints_length]; omega
      have hnext : Ev (fun k => R15Text.l0 k s (ints (acc ++ dnPiece s.size i c)) ((i + 1 : Nat) : Int)) (mkB (acc ++ textN s.size i (c :: r))) := by
        have hp := piece_len s.size i c
        have := ih (i + 1) (acc ++ dnPiece s.size i c) (by omega) (by omega) (by rw [List.length_append]; omega)
        rw [g3, List.append_assoc] at this
        rw [textN]; exact this
      rw [piece_is] at hnext
      refine Ev.step (fun k => by rw [R15Text.l0]) ?_
      rw [g2]
      refine Ev.pos (by omega) (Ev.pos (by omega) ?_)
      by_cases h1 : c.toNat < 32 ∨ c.toNat = 127
      · rw [if_pos h1] at hnext
        obtain ⟨d1, d2⟩ := digit_hex c.toNat hc
        have hj : Ev (fun k => R15Text.j1 k s (ints acc) (i : Int) (c.toNat : Int) true) (mkB (acc ++ textN s.size i (c :: r))) := by
          refine Ev.step (fun k => by rw [R15Text.j1]) ?_
          refine Ev.pos rfl (Ev.bindc d1 (Ev.bindc d2 (Ev.bindc rfl (Ev.pos (by rw [ints_length]; simp; omega) ?_))))
          rw [wsucc (by omega)]
          have e : ints acc ++ [92, ((hexDig (c.toNat / 16)).toNat : Int), ((hexDig (c.toNat % 16)).toNat : Int)] = ints (acc ++ 92 :: hexOf [c]) := by simp [ints, hexOf]
          rw [e]; exact hnext
        by_cases h2 : c.toNat < 32
        · exact Ev.pos (by omega) hj
        · refine Ev.neg (by omega) ?_
          rw [beq_iff_eq.2 (show (c.toNat : Int) = 127 by omega)]; exact hj
      · rw [if_neg h1] at hnext
        refine Ev.neg (by omega) ?_
        rw [beq_eq_false_iff_ne.2 (show (c.toNat : Int) ≠ 127 by omega)]
        refine Ev.step (fun k => by rw [R15Text.j1]) ?_
        rw [wsucc (by omega)]
        refine Ev.neg (by simp) (Ev.bindc (special_is c) ?_)
        have e32 : ((c.toNat : Int) = 32) ↔ c = 32 := ieq c 32
        have e35 : ((c.toNat : Int) = 35) ↔ c = 35 := ieq c 35
        have hput : ∀ {k : Nat}, R15Text.l0 k s (ints acc ++ [92] ++ [(c.toNat : Int)]) ((i + 1 : Nat) : Int) = R15Text.l0 k s (ints (acc ++ [92, c])) ((i + 1 : Nat) : Int) := fun {k} => by
          have : ints acc ++ [92] ++ [(c.toNat : Int)] = ints (acc ++ [92, c]) := by simp [ints]
          rw [this]
        have hesc : ((c = 32 ∧ (i = 0 ∨ i + 1 = s.size)) ∨ (c = 35 ∧ i = 0) ∨ special c = true) → Ev (fun k => (if (ints acc).length < 140737488355328 then ((some (ints acc ++ [92] : List Int)).bind fun y592 => (if y592.length < 140737488355328 then (R15Text.l0 k s (y592 ++ [(c.toNat : Int)]) ((i + 1 : Nat) : Int)) else (none))) else (none))) (mkB (acc ++ textN s.size i (c :: r))) := by
          intro h
          rw [if_pos h] at hnext
          refine Ev.pos (hal acc (by omega)) (Ev.bindc rfl (Ev.pos (by rw [List.length_append, ints_length]; simp; omega) ?_))
          exact Ev.congr (fun k => hput) hnext
        have hbar : ¬ ((c = 32 ∧ (i = 0 ∨ i + 1 = s.size)) ∨ (c = 35 ∧ i = 0) ∨ special c = true) → Ev (fun k => (if (ints acc).length < 140737488355328 then (R15Text.l0 k s (ints acc ++ [(c.toNat : Int)]) ((i + 1 : Nat) : Int)) else (none))) (mkB (acc ++ textN s.size i (c :: r))) := by
          intro h
          rw [if_neg h] at hnext
          refine Ev.pos (hal acc (by omega)) ?_
          rw [ints_snoc]; exact hnext
        cases hsp : special c with
        | true => exact Ev.pos rfl (hesc (.inr (.inr hsp)))
        | false =>
          refine Ev.neg (by simp) ?_
          by_cases h32 : c = 32
          · have h35 : c ≠ 35 := by rw [h32]; decide
            refine Ev.pos (e32.2 h32) ?_
            by_cases hi0 : i = 0
            · exact Ev.pos (by omega) (hesc (.inl ⟨h32, .inl hi0⟩))
            · refine Ev.neg (by omega) ?_
              by_cases hie : i + 1 = s.size
              · exact Ev.pos (by omega) (hesc (.inl ⟨h32, .inr hie⟩))
              · refine Ev.neg (by omega) (Ev.neg (fun h => h35 (e35.1 h)) (hbar ?_))
                simp [hi0, hie, h35, hsp]
          · refine Ev.neg (fun h => h32 (e32.1 h)) ?_
            by_cases h35 : c = 35
            · refine Ev.pos (e35.2 h35) ?_
              by_cases hi0 : i = 0
              · exact Ev.pos (by omega) (hesc (.inr (.inl ⟨h35, hi0⟩)))
              · refine Ev.neg (by omega) (hbar ?_)
                simp [hi0, h32, hsp]
            · refine Ev.neg (fun h => h35 (e35.1 h)) (hbar ?_)
              simp [h32, h35, hsp]
theorem refText_ev (s : ByteArray) (hs : s.size ≤ 1000000) : Ev (fun k => R15Text.f k s) (mkB (dnText (bl s))) := by
  have := text_ev s hs _ 0 [] rfl (Nat.zero_le _) (Nat.zero_le _)
  rw [List.drop_zero, List.nil_append] at this
  rw [dnText_is, bl_length]; exact this
theorem join_is (c : UInt8) : ∀ (l : List (List UInt8)), Lib.join l [c] = joinT c l
  | [] => rfl
  | [x] => by simp [Lib.join, joinT, List.intercalate]
  | x :: y :: r => by
    have ih := join_is c (y :: r)
    unfold Lib.join at ih ⊢
    rw [inter_cons] at ih ⊢
    rw [joinT, ← ih]; simp
theorem joinB_is (c : UInt8) (l : List (List UInt8)) : joinB (l.map mkB) (⟨#[c]⟩ : ByteArray) = joinT c l := by
  unfold joinB
  rw [List.map_map, ← join_is]
  congr 1
  conv => rhs; rw [← List.map_id l]
  exact List.map_congr_left fun x _ => rfl
theorem joinT_len (c : UInt8) (B : Nat) : ∀ (l : List (List UInt8)), (∀ x ∈ l, x.length ≤ B) → (joinT c l).length ≤ l.length * (B + 1)
  | [], _ => by simp [joinT]
  | [x], h => by have := h x (by simp); simp [joinT]; omega
  | x :: y :: r, h => by
    have ih := joinT_len c B (y :: r) fun z hz => h z (by simp at hz ⊢; exact .inr hz)
    have := h x (by simp)
    rw [joinT, List.length_append, List.length_cons]
    rw [List.length_cons (a := x), Nat.succ_mul]
    omega
theorem join_f (c : UInt8) (l : List (List UInt8)) (h1 : l.length ≤ 1000000) (h2 : (joinT c l).length ≤ 100000000) : strings_Join.f (l.map mkB) (⟨#[c]⟩ : ByteArray) = some (mkB (joinT c l)) := by
  unfold strings_Join.f
  rw [if_pos (by rw [List.length_map]; exact h1), joinB_is, if_pos h2]
def shortP (P : List (List Pr)) : Prop := P.length ≤ 30 ∧ ∀ l ∈ P, l.length ≤ 30 ∧ ∀ a ∈ l, a.1.length ≤ 600 ∧ a.2.length ≤ 600
theorem pairText_len {a : Pr} (h : a.1.length ≤ 600 ∧ a.2.length ≤ 600) : (pairText a).length ≤ 2401 := by
  have := textN_len a.2.length a.2 0
  unfold pairText
  rw [dnText_is, List.length_append, List.length_cons]; omega
theorem rdnText_len {l : List Pr} (h : l.length ≤ 30 ∧ ∀ a ∈ l, a.1.length ≤ 600 ∧ a.2.length ≤ 600) : (rdnText l).length ≤ 72060 := by
  have := joinT_len 43 2401 (l.map pairText) fun x hx => by
    obtain ⟨a, ha, rfl⟩ := List.mem_map.1 hx
    exact pairText_len (h.2 a ha)
  rw [List.length_map] at this
  unfold rdnText
  have h3 : l.length * 2402 ≤ 30 * 2402 := Nat.mul_le_mul_right _ h.1
  omega
theorem nameText_len {P : List (List Pr)} (h : shortP P) : (nameText P).length ≤ 2161830 := by
  have := joinT_len 44 72060 (P.map rdnText) fun x hx => by
    obtain ⟨l, hl, rfl⟩ := List.mem_map.1 hx
    exact rdnText_len (h.2 l hl)
  rw [List.length_map] at this
  unfold nameText
  have h3 : P.length * 72061 ≤ 30 * 72061 := Nat.mul_le_mul_right _ h.1
  omega
def fin (X : List UInt8) : ByteArray × Int := if X.length > 1000 then (⟨#[]⟩, 5) else (mkB X, 0)
theorem value_f (v : List UInt8) (h : v.length ≤ 600) : dn_value.f (mkB v) = some (mkB (dnText v)) := by
  unfold dn_value.f
  rw [if_pos (by rw [mkB_size]; omega)]
theorem drop_map' {α β : Type} (f : α → β) {l : List α} {i : Nat} {x : α} {r : List α} (h : l.drop i = x :: r) : (l.map f).drop i = f x :: r.map f := by
  rw [← List.map_drop, h]; rfl
theorem print_l1 (n : List (List AvaS)) (i : Nat) (l : List Pr) (hl : l.length ≤ 30 ∧ ∀ a ∈ l, a.1.length ≤ 600 ∧ a.2.length ≤ 600) (x4 : List ByteArray) (hx4 : x4.length ≤ 1000) (hi : i ≤ 1000) {o : ByteArray × Int}
    (hnext : Ev (fun k => dn_Print.l0 k (x4 ++ [mkB (rdnText l)]) n (n.length : Int) ((i + 1 : Nat) : Int)) o) : ∀ (m j : Nat), l.length - j = m → j ≤ l.length →
    Ev (fun k => dn_Print.l1 k x4 (((l.take j).map pairText).map mkB) n (n.length : Int) (i : Int) (mkR l) ((mkR l).length : Int) (j : Int)) o := by
  intro m
  induction m with
  | zero =>
    intro j hm hj
    refine Ev.step (fun k => by rw [dn_Print.l1]) ?_
    rw [List.take_of_length_le (by omega), wsucc (p := i) (by omega)]
    have := rdnText_len hl
    refine Ev.neg (by rw [mkR_len]; omega) (Ev.bindc (join_f 43 (l.map pairText) (by rw [List.length_map]; omega) (by unfold rdnText at this; omega)) (Ev.pos (by omega) ?_))
    exact hnext
  | succ m ih =>
    intro j hm hj
    cases hd : l.drop j with
    | nil => have := List.drop_eq_nil_iff.1 hd; omega
    | cons a r2 =>
      obtain ⟨f1, f0, f3⟩ := getD_at (d := (([], []) : Pr)) hd
      have hd' : (mkR l).drop j = mkA a :: mkR r2 := drop_map' mkA hd
      have f2 := rdA_at hd'
      have ha := hl.2 a (by
        have : a ∈ l.drop j := by rw [hd]; simp
        exact List.mem_of_mem_drop this)
      have hi2 := ih (j + 1) (by omega) (by omega)
      have htk : (l.take (j + 1)) = l.take j ++ [a] := by
        rw [List.take_succ_eq_append_getElem f1]
        congr 2
        rw [Int.toNat_natCast, List.getD_eq_getElem?_getD, List.getElem?_eq_getElem f1] at f0
        simpa using f0
      rw [htk, List.map_append, List.map_append] at hi2
      have htl := textN_len a.2.length a.2 0
      refine Ev.step (fun k => by rw [dn_Print.l1]) ?_
      rw [f2, wsucc (p := j) (by omega)]
      have e0 : (mkA a).f0 = mkB a.1 := rfl
      have e1 : (mkA a).f1 = mkB a.2 := rfl
      rw [e0, e1, show (⟨#[61]⟩ : ByteArray) = mkB [61] from rfl, ba_app]
      refine Ev.pos (by rw [mkR_len]; omega) (Ev.pos (by omega) (Ev.pos (by rw [mkR_len]; omega) (Ev.pos (by rw [mkB_size]; omega) (Ev.bindc (value_f a.2 ha.2) (Ev.pos ?_ (Ev.pos ?_ ?_))))))
      · rw [mkB_size, mkB_size, dnText_is, List.length_append]
        simp only [List.length_cons, List.length_nil]; omega
      · rw [List.length_map, List.length_map, List.length_take]; omega
      · rw [ba_app]
        have e : a.1 ++ [61] ++ dnText a.2 = pairText a := by unfold pairText; simp
        rw [e]; exact hi2
theorem print_loop (P : List (List Pr)) (hP : shortP P) : ∀ (m i : Nat), P.length - i = m → i ≤ P.length →
    Ev (fun k => dn_Print.l0 k (((P.take i).map rdnText).map mkB) (mkN P) ((mkN P).length : Int) (i : Int)) (fin (nameText P)) := by
  intro m
  induction m with
  | zero =>
    intro i hm hi
    refine Ev.step (fun k => by rw [dn_Print.l0]) ?_
    have hlen := nameText_len hP
    rw [List.take_of_length_le (by omega)]
    refine Ev.neg (by rw [mkN_len]; omega) (Ev.bindc (join_f 44 (P.map rdnText) (by rw [List.length_map]; have := hP.1; omega) (by unfold nameText at hlen; omega)) ?_)
    unfold fin
    rw [show joinT 44 (P.map rdnText) = nameText P from rfl]
    by_cases h : (nameText P).length > 1000
    · rw [if_pos h]; exact Ev.pos (by rw [mkB_size]; omega) Ev.rfl'
    · rw [if_neg h]; exact Ev.neg (by rw [mkB_size]; omega) Ev.rfl'
  | succ m ih =>
    intro i hm hi
    cases hr : P.drop i with
    | nil => have := List.drop_eq_nil_iff.1 hr; omega
    | cons l r =>
      obtain ⟨g1, g0, g3⟩ := getD_at (d := ([] : List Pr)) hr
      have hr' : (mkN P).drop i = mkR l :: mkN r := drop_map' mkR hr
      have g2 := rdR_at hr'
      have hl := hP.2 l (by
        have : l ∈ P.drop i := by rw [hr]; simp
        exact List.mem_of_mem_drop this)
      have hi2 := ih (i + 1) (by omega) (by omega)
      have htk : (P.take (i + 1)) = P.take i ++ [l] := by
        rw [List.take_succ_eq_append_getElem g1]
        congr 2
        rw [Int.toNat_natCast, List.getD_eq_getElem?_getD, List.getElem?_eq_getElem g1] at g0
        simpa using g0
      rw [htk, List.map_append, List.map_append] at hi2
      have h30 := hP.1
      have := print_l1 (mkN P) i l hl (((P.take i).map rdnText).map mkB) (by rw [List.length_map, List.length_map, List.length_take]; omega) (by omega) hi2 _ 0 rfl (Nat.zero_le _)
      refine Ev.step (fun k => by rw [dn_Print.l0]) ?_
      rw [g2]
      exact Ev.pos (by rw [mkN_len]; omega) (Ev.pos (by omega) (Ev.pos (by rw [mkN_len]; omega) this))
theorem sz_short {P : List (List Pr)} (h : shortP P) : (mkN P).length ≤ 1000000 ∧ szN (mkN P) ∧ ∀ l ∈ mkN P, l.length ≤ 1000000 :=
  sz_mk (B := 600) (by omega) ⟨by have := h.1; omega, fun l hl => ⟨by have := (h.2 l hl).1; omega, (h.2 l hl).2⟩⟩
theorem print_ev (P : List (List Pr)) (hP : shortP P) : Ev (fun k => dn_Print.f k (mkN P)) (if nameOk (mkN P) = true then fin (nameText P) else (⟨#[]⟩, 4)) := by
  obtain ⟨z1, z2, z3⟩ := sz_short hP
  unfold dn_Print.f
  refine Ev.bind (right_ev (mkN P) z1 z2) ?_
  cases nameOk (mkN P) with
  | true =>
    refine Ev.pos rfl ?_
    rw [if_pos rfl]
    exact print_loop P hP _ 0 rfl (Nat.zero_le _)
  | false => exact Ev.neg (by simp) (by simpa using Ev.rfl')
theorem nameOk_ne {P : List (List Pr)} (h : nameOk (mkN P) = true) : ∀ l ∈ P, l ≠ [] ∧ ∀ a ∈ l, typeOk a.1 = true := by
  unfold nameOk at h
  simp only [Bool.and_eq_true, List.all_eq_true] at h
  intro l hl
  have h2 := h.2 (mkR l) (List.mem_map_of_mem hl)
  unfold rdnOk at h2
  simp only [Bool.and_eq_true, decide_eq_true_eq] at h2
  refine ⟨fun h0 => by subst h0; simp [mkR] at h2, ?_⟩
  have hin : ∀ (xs pre : List AvaS), rdnIn pre xs = true → ∀ a ∈ xs, typeOk (bl a.f0) = true := by
    intro xs
    induction xs with
    | nil => intro pre _ a ha; simp at ha
    | cons x xs ih =>
      intro pre hx a ha
      rw [rdnIn] at hx
      simp only [Bool.and_eq_true] at hx
      rcases List.mem_cons.1 ha with rfl | ha
      · exact hx.1.1.1
      · exact ih _ hx.2 a ha
  intro a ha
  exact hin _ _ h2.2 (mkA a) (List.mem_map_of_mem ha)
end Go.Proofs.YtkklacijhmoopaaDoor.Print
namespace Go.Proofs.YtkklacijhmoopaaDoor.Print
open Go.RowKit Go.Proofs.YtkklacijhmoopaaDoorW.PrintWords Go.Proofs.YtkklacijhmoopaaDoorW.PrintLast Go.Proofs.YtkklacijhmoopaaDoorW.PrintMore
attribute [local go_sem] max2_int min2_int max_two min_two max_three min_three max_four min_four
set_option linter.unusedVariables false
set_option linter.unusedSimpArgs false
def L15awake.f (k : Nat)  : Option (Bool) := (dn_Parse.f k (⟨#[67, 78, 61, 65, 110, 110, 32, 92, 44, 32, 66, 32, 43, 32, 115, 110, 61, 120, 32, 44, 32, 111, 117, 61, 80, 101, 111, 112, 108, 101]⟩ : ByteArray)).bind fun bt353 => ((dn_Print.f k bt353.1).bind fun bt357 => (if bt353.2 = 0 then (if bt357.2 = 0 then (if bt357.1.toList = ([99, 110, 61, 65, 110, 110, 32, 92, 44, 32, 66, 43, 115, 110, 61, 120, 44, 111, 117, 61, 80, 101, 111, 112, 108, 101] : List UInt8) then (if (bt353.1.length : Int) = 2 then (if 0 < (bt353.1.length : Int) then (some (((rd_L7 bt353.1 0).length : Int) == 2)) else (none)) else (some false)) else (some false)) else (some false)) else (some false)))
set_option maxHeartbeats 8000000 in
set_option maxRecDepth 100000 in
theorem L15awake.calls (k : Nat)  (r : Bool) (w : World) (hG : Gw w) (h : L15awake.f k  = some r) :
  Calls Tryd.prog 11 #[] w fun e w' => e = .returned (.bool r) ∧ Below w.heap.size w w' := by
 have HB := Aside0.mk (Below.refl w.heap.size w)
 have HG := Aside0.mk hG
 clear hG
 have H : ((dn_Parse.f k (⟨#[67, 78, 61, 65, 110, 110, 32, 92, 44, 32, 66, 32, 43, 32, 115, 110, 61, 120, 32, 44, 32, 111, 117, 61, 80, 101, 111, 112, 108, 101]⟩ : ByteArray)).bind fun bt353 => ((dn_Print.f k bt353.1).bind fun bt357 => (if bt353.2 = 0 then (if bt357.2 = 0 then (if bt357.1.toList = ([99, 110, 61, 65, 110, 110, 32, 92, 44, 32, 66, 43, 115, 110, 61, 120, 44, 111, 117, 61, 80, 101, 111, 112, 108, 101] : List UInt8) then (if (bt353.1.length : Int) = 2 then (if 0 < (bt353.1.length : Int) then (some (((rd_L7 bt353.1 0).length : Int) == 2)) else (none)) else (some false)) else (some false)) else (some false)) else (some false)))) = some r := h
 clear h
 replace H := Option.bind_eq_some_iff.mp H
 obtain ⟨⟨t353, t354⟩, A10, H⟩ := H
 replace H : ((dn_Print.f k t353).bind fun bt357 => (if t354 = 0 then (if bt357.2 = 0 then (if bt357.1.toList = ([99, 110, 61, 65, 110, 110, 32, 92, 44, 32, 66, 43, 115, 110, 61, 120, 44, 111, 117, 61, 80, 101, 111, 112, 108, 101] : List UInt8) then (if (t353.length : Int) = 2 then (if 0 < (t353.length : Int) then (some (((rd_L7 t353 0).length : Int) == 2)) else (none)) else (some false)) else (some false)) else (some false)) else (some false))) = some r := H
 have A1 := Aside0.mk A10
 clear A10
 replace H := Option.bind_eq_some_iff.mp H
 obtain ⟨⟨t357, t358⟩, A20, H⟩ := H
 replace H : (if t354 = 0 then (if t358 = 0 then (if t357.toList = ([99, 110, 61, 65, 110, 110, 32, 92, 44, 32, 66, 43, 115, 110, 61, 120, 44, 111, 117, 61, 80, 101, 111, 112, 108, 101] : List UInt8) then (if (t353.length : Int) = 2 then (if 0 < (t353.length : Int) then (some (((rd_L7 t353 0).length : Int) == 2)) else (none)) else (some false)) else (some false)) else (some false)) else (some false)) = some r := H
 have A2 := Aside0.mk A20
 clear A20
 by_cases c3 : t354 = 0
 ·
  rw [if_pos c3] at H
  have c3b0 : (t354 == 0) = true := beq_iff_eq.mpr c3
  have c3b1 : (t354 != 0) = false := bne_eq_false_iff_eq.mpr c3
  clear c3
  by_cases c4 : t358 = 0
  ·
   rw [if_pos c4] at H
   have c4b0 : (t358 == 0) = true := beq_iff_eq.mpr c4
   have c4b1 : (t358 != 0) = false := bne_eq_false_iff_eq.mpr c4
   clear c4
   by_cases c5 : t357.toList = ([99, 110, 61, 65, 110, 110, 32, 92, 44, 32, 66, 43, 115, 110, 61, 120, 44, 111, 117, 61, 80, 101, 111, 112, 108, 101] : List UInt8)
   ·
    rw [if_pos c5] at H
    have c5b0 : (t357.toList == ([99, 110, 61, 65, 110, 110, 32, 92, 44, 32, 66, 43, 115, 110, 61, 120, 44, 111, 117, 61, 80, 101, 111, 112, 108, 101] : List UInt8)) = true := beq_iff_eq.mpr c5
    have c5b1 : (t357.toList != ([99, 110, 61, 65, 110, 110, 32, 92, 44, 32, 66, 43, 115, 110, 61, 120, 44, 111, 117, 61, 80, 101, 111, 112, 108, 101] : List UInt8)) = false := bne_eq_false_iff_eq.mpr c5
    clear c5
    by_cases c6 : (t353.length : Int) = 2
    ·
     rw [if_pos c6] at H
     have c6b0 : ((t353.length : Int) == 2) = true := beq_iff_eq.mpr c6
     have c6b1 : ((t353.length : Int) != 2) = false := bne_eq_false_iff_eq.mpr c6
     clear c6
     by_cases c7 : 0 < (t353.length : Int)
     ·
      rw [if_pos c7] at H
      have c7b0 := decide_eq_true c7
      have c7b1 : decide (0 < t353.length) = true := decide_eq_true (by omega)
      clear c7
      obtain rfl := Option.some.inj H
      go_enter Tryd.func11, Tryd.ntmps11
      go_wp2_with (first | ((with_reducible refine gate_callee (f := 12) rfl ?_); refine goesL_ (some 6) rfl rfl Tryd.func12 (by kernel_rfl) rfl #[.string (⟨#[67, 78, 61, 65, 110, 110, 32, 92, 44, 32, 66, 32, 43, 32, 115, 110, 61, 120, 32, 44, 32, 111, 117, 61, 80, 101, 111, 112, 108, 101]⟩ : ByteArray)] rfl ap3 ?_; (with_reducible refine (dn_Parse.calls k (⟨#[67, 78, 61, 65, 110, 110, 32, 92, 44, 32, 66, 32, 43, 32, 115, 110, 61, 120, 32, 44, 32, 111, 117, 61, 80, 101, 111, 112, 108, 101]⟩ : ByteArray) t353 t354 _ ?side1 A1.out).mono ?_); (case side1 => exact ap6); rintro e w8 ⟨v355, rfl, ho0, hb⟩; refine ⟨_, rfl, ?_⟩; have n0_ := Aside0.mk (Kd.S_lower ho0 (below_size ap1)); have n1_ := Aside0.mk (below_step ap1 hb); clear HB; have HO356 := n0_; have HB := n1_; clear n0_ n1_; (try clear hb); (try clear hb2); (try clear hk); (try clear hi); (try clear ho0); obtain ⟨Ao9, co9, eo9⟩ := Kd.S_slice HO356.out; subst eo9) | ((with_reducible refine gate_callee (f := 16) rfl ?_); refine goesL_ (some 11) rfl rfl Tryd.func16 (by kernel_rfl) rfl #[.slice Ao9 t353.length co9] rfl ap3 ?_; (with_reducible refine (dn_Print.calls k _ _ t353 t357 t358 _ ?side1 ?side2 ?side3 A2.out).mono ?_); (case side1 => repeat (first | exact (Kd.S_reads' HO356.out).2.2 | (with_reducible refine Kd.C_alloc ?_ _) | (with_reducible refine Kd.C_drewN ?_ _) | (with_reducible refine Kd.C_drew ?_))); (case side2 => exact (Kd.S_reads' HO356.out).2.1); (case side3 => exact ap6); rintro e w10 ⟨rfl, hb⟩; refine ⟨_, rfl, ?_⟩; have n0_ := Aside0.mk (Kd.S_below (apAS HO356.out) hb); have n1_ := Aside0.mk (below_step ap1 hb); clear HO356; clear HB; have HO356 := n0_; have HB := n1_; clear n0_ n1_; (try clear hb); (try clear hb2); (try clear hk); (try clear hi); have p359 : 0 ≤ (0 : Int) := (by omega); have q359 : 0 < (t353.length : Int) := of_decide_eq_true ap0; obtain ⟨ad359, A359_0, c359_0, e359, hx359_0, hl359_0, hi359_0⟩ := at_L7 (Kd.S_reads' HO356.out).2.2 0 p359 q359; cases e359; obtain ⟨ce359, hce359, hMe359, hcc359⟩ := Kd.S_get HO356.out [] 0 p359 (by first | exact q359 | exact of_decide_eq_true ap0 | (have e_ := (Kd.S_reads' HO356.out).1; omega)); obtain ⟨ve359_0, rfl, ge359_0⟩ := hMe359; have hv359_0 := hcc359 0 _ rfl; rw [Nat.add_zero, show ((Kd.slice 40 k40)).sz = 1 from rfl, Nat.mul_one] at hv359_0; replace hv359_0 := Option.some.inj (hv359_0.symm.trans hx359_0); rw [hv359_0] at ge359_0; have HL359_0 := Aside0.mk (show Kd.R k40 40 _ _ _ _ (rd_L7 t353 0) from ge359_0); clear hv359_0 ge359_0; clear hcc359 hce359; have qi359 : (0 < t353.length) = True := eq_true (by omega); (try rw [show ((0 : Int)).toNat = 0 from rfl] at hx359_0); (try rw [Addr.add_zero'] at hx359_0); have HR359_0 := Aside0.mk hi359_0; have HC359_0 := Aside0.mk hl359_0; clear hi359_0 hl359_0; replace p359 := eq_true p359; replace q359 := eq_true q359))
      go_ret
      exact ⟨by first | rfl | (simp [errW_none, errW_some, bne_nil8, beq_nil8]; done) | (simp [errW_none, errW_some] <;> rfl) | (simp [*, errW_none, errW_some] <;> rfl), by repeat (first | (with_reducible first | exact HB.out | apply below_alloc | apply pw_below_drewN | apply below_drew1) | exact HB.out)⟩
     ·
      rw [if_neg c7] at H
      exact absurd H (by simp)
    ·
     rw [if_neg c6] at H
     have c6b0 : ((t353.length : Int) == 2) = false := beq_eq_false_iff_ne.mpr c6
     have c6b1 : ((t353.length : Int) != 2) = true := bne_iff_ne.mpr c6
     obtain rfl := Option.some.inj H
     go_enter Tryd.func11, Tryd.ntmps11
     go_wp2_with (first | ((with_reducible refine gate_callee (f := 12) rfl ?_); refine goesL_ (some 6) rfl rfl Tryd.func12 (by kernel_rfl) rfl #[.string (⟨#[67, 78, 61, 65, 110, 110, 32, 92, 44, 32, 66, 32, 43, 32, 115, 110, 61, 120, 32, 44, 32, 111, 117, 61, 80, 101, 111, 112, 108, 101]⟩ : ByteArray)] rfl ap3 ?_; (with_reducible refine (dn_Parse.calls k (⟨#[67, 78, 61, 65, 110, 110, 32, 92, 44, 32, 66, 32, 43, 32, 115, 110, 61, 120, 32, 44, 32, 111, 117, 61, 80, 101, 111, 112, 108, 101]⟩ : ByteArray) t353 t354 _ ?side1 A1.out).mono ?_); (case side1 => exact ap6); rintro e w11 ⟨v355, rfl, ho0, hb⟩; refine ⟨_, rfl, ?_⟩; have n0_ := Aside0.mk (Kd.S_lower ho0 (below_size ap1)); have n1_ := Aside0.mk (below_step ap1 hb); clear HB; have HO356 := n0_; have HB := n1_; clear n0_ n1_; (try clear hb); (try clear hb2); (try clear hk); (try clear hi); (try clear ho0); obtain ⟨Ao12, co12, eo12⟩ := Kd.S_slice HO356.out; subst eo12) | ((with_reducible refine gate_callee (f := 16) rfl ?_); refine goesL_ (some 11) rfl rfl Tryd.func16 (by kernel_rfl) rfl #[.slice Ao12 t353.length co12] rfl ap3 ?_; (with_reducible refine (dn_Print.calls k _ _ t353 t357 t358 _ ?side1 ?side2 ?side3 A2.out).mono ?_); (case side1 => repeat (first | exact (Kd.S_reads' HO356.out).2.2 | (with_reducible refine Kd.C_alloc ?_ _) | (with_reducible refine Kd.C_drewN ?_ _) | (with_reducible refine Kd.C_drew ?_))); (case side2 => exact (Kd.S_reads' HO356.out).2.1); (case side3 => exact ap6); rintro e w13 ⟨rfl, hb⟩; refine ⟨_, rfl, ?_⟩; have n0_ := Aside0.mk (Kd.S_below (apAS HO356.out) hb); have n1_ := Aside0.mk (below_step ap1 hb); clear HO356; clear HB; have HO356 := n0_; have HB := n1_; clear n0_ n1_; (try clear hb); (try clear hb2); (try clear hk); (try clear hi)))
     go_ret
     exact ⟨by first | rfl | (simp [errW_none, errW_some, bne_nil8, beq_nil8]; done) | (simp [errW_none, errW_some] <;> rfl) | (simp [*, errW_none, errW_some] <;> rfl), by repeat (first | (with_reducible first | exact HB.out | apply below_alloc | apply pw_below_drewN | apply below_drew1) | exact HB.out)⟩
   ·
    rw [if_neg c5] at H
    have c5b0 : (t357.toList == ([99, 110, 61, 65, 110, 110, 32, 92, 44, 32, 66, 43, 115, 110, 61, 120, 44, 111, 117, 61, 80, 101, 111, 112, 108, 101] : List UInt8)) = false := beq_eq_false_iff_ne.mpr c5
    have c5b1 : (t357.toList != ([99, 110, 61, 65, 110, 110, 32, 92, 44, 32, 66, 43, 115, 110, 61, 120, 44, 111, 117, 61, 80, 101, 111, 112, 108, 101] : List UInt8)) = true := bne_iff_ne.mpr c5
    obtain rfl := Option.some.inj H
    go_enter Tryd.func11, Tryd.ntmps11
    go_wp2_with (first | ((with_reducible refine gate_callee (f := 12) rfl ?_); refine goesL_ (some 6) rfl rfl Tryd.func12 (by kernel_rfl) rfl #[.string (⟨#[67, 78, 61, 65, 110, 110, 32, 92, 44, 32, 66, 32, 43, 32, 115, 110, 61, 120, 32, 44, 32, 111, 117, 61, 80, 101, 111, 112, 108, 101]⟩ : ByteArray)] rfl ap3 ?_; (with_reducible refine (dn_Parse.calls k (⟨#[67, 78, 61, 65, 110, 110, 32, 92, 44, 32, 66, 32, 43, 32, 115, 110, 61, 120, 32, 44, 32, 111, 117, 61, 80, 101, 111, 112, 108, 101]⟩ : ByteArray) t353 t354 _ ?side1 A1.out).mono ?_); (case side1 => exact ap6); rintro e w14 ⟨v355, rfl, ho0, hb⟩; refine ⟨_, rfl, ?_⟩; have n0_ := Aside0.mk (Kd.S_lower ho0 (below_size ap1)); have n1_ := Aside0.mk (below_step ap1 hb); clear HB; have HO356 := n0_; have HB := n1_; clear n0_ n1_; (try clear hb); (try clear hb2); (try clear hk); (try clear hi); (try clear ho0); obtain ⟨Ao15, co15, eo15⟩ := Kd.S_slice HO356.out; subst eo15) | ((with_reducible refine gate_callee (f := 16) rfl ?_); refine goesL_ (some 11) rfl rfl Tryd.func16 (by kernel_rfl) rfl #[.slice Ao15 t353.length co15] rfl ap3 ?_; (with_reducible refine (dn_Print.calls k _ _ t353 t357 t358 _ ?side1 ?side2 ?side3 A2.out).mono ?_); (case side1 => repeat (first | exact (Kd.S_reads' HO356.out).2.2 | (with_reducible refine Kd.C_alloc ?_ _) | (with_reducible refine Kd.C_drewN ?_ _) | (with_reducible refine Kd.C_drew ?_))); (case side2 => exact (Kd.S_reads' HO356.out).2.1); (case side3 => exact ap6); rintro e w16 ⟨rfl, hb⟩; refine ⟨_, rfl, ?_⟩; have n0_ := Aside0.mk (Kd.S_below (apAS HO356.out) hb); have n1_ := Aside0.mk (below_step ap1 hb); clear HO356; clear HB; have HO356 := n0_; have HB := n1_; clear n0_ n1_; (try clear hb); (try clear hb2); (try clear hk); (try clear hi)))
    go_ret
    exact ⟨by first | rfl | (simp [errW_none, errW_some, bne_nil8, beq_nil8]; done) | (simp [errW_none, errW_some] <;> rfl) | (simp [*, errW_none, errW_some] <;> rfl), by repeat (first | (with_reducible first | exact HB.out | apply below_alloc | apply pw_below_drewN | apply below_drew1) | exact HB.out)⟩
  ·
   rw [if_neg c4] at H
   have c4b0 : (t358 == 0) = false := beq_eq_false_iff_ne.mpr c4
   have c4b1 : (t358 != 0) = true := bne_iff_ne.mpr c4
   obtain rfl := Option.some.inj H
   go_enter Tryd.func11, Tryd.ntmps11
   go_wp2_with (first | ((with_reducible refine gate_callee (f := 12) rfl ?_); refine goesL_ (some 6) rfl rfl Tryd.func12 (by kernel_rfl) rfl #[.string (⟨#[67, 78, 61, 65, 110, 110, 32, 92, 44, 32, 66, 32, 43, 32, 115, 110, 61, 120, 32, 44, 32, 111, 117, 61, 80, 101, 111, 112, 108, 101]⟩ : ByteArray)] rfl ap3 ?_; (with_reducible refine (dn_Parse.calls k (⟨#[67, 78, 61, 65, 110, 110, 32, 92, 44, 32, 66, 32, 43, 32, 115, 110, 61, 120, 32, 44, 32, 111, 117, 61, 80, 101, 111, 112, 108, 101]⟩ : ByteArray) t353 t354 _ ?side1 A1.out).mono ?_); (case side1 => exact ap6); rintro e w17 ⟨v355, rfl, ho0, hb⟩; refine ⟨_, rfl, ?_⟩; have n0_ := Aside0.mk (Kd.S_lower ho0 (below_size ap1)); have n1_ := Aside0.mk (below_step ap1 hb); clear HB; have HO356 := n0_; have HB := n1_; clear n0_ n1_; (try clear hb); (try clear hb2); (try clear hk); (try clear hi); (try clear ho0); obtain ⟨Ao18, co18, eo18⟩ := Kd.S_slice HO356.out; subst eo18) | ((with_reducible refine gate_callee (f := 16) rfl ?_); refine goesL_ (some 11) rfl rfl Tryd.func16 (by kernel_rfl) rfl #[.slice Ao18 t353.length co18] rfl ap3 ?_; (with_reducible refine (dn_Print.calls k _ _ t353 t357 t358 _ ?side1 ?side2 ?side3 A2.out).mono ?_); (case side1 => repeat (first | exact (Kd.S_reads' HO356.out).2.2 | (with_reducible refine Kd.C_alloc ?_ _) | (with_reducible refine Kd.C_drewN ?_ _) | (with_reducible refine Kd.C_drew ?_))); (case side2 => exact (Kd.S_reads' HO356.out).2.1); (case side3 => exact ap6); rintro e w19 ⟨rfl, hb⟩; refine ⟨_, rfl, ?_⟩; have n0_ := Aside0.mk (Kd.S_below (apAS HO356.out) hb); have n1_ := Aside0.mk (below_step ap1 hb); clear HO356; clear HB; have HO356 := n0_; have HB := n1_; clear n0_ n1_; (try clear hb); (try clear hb2); (try clear hk); (try clear hi)))
   go_ret
   exact ⟨by first | rfl | (simp [errW_none, errW_some, bne_nil8, beq_nil8]; done) | (simp [errW_none, errW_some] <;> rfl) | (simp [*, errW_none, errW_some] <;> rfl), by repeat (first | (with_reducible first | exact HB.out | apply below_alloc | apply pw_below_drewN | apply below_drew1) | exact HB.out)⟩
 ·
  rw [if_neg c3] at H
  have c3b0 : (t354 == 0) = false := beq_eq_false_iff_ne.mpr c3
  have c3b1 : (t354 != 0) = true := bne_iff_ne.mpr c3
  obtain rfl := Option.some.inj H
  go_enter Tryd.func11, Tryd.ntmps11
  go_wp2_with (first | ((with_reducible refine gate_callee (f := 12) rfl ?_); refine goesL_ (some 6) rfl rfl Tryd.func12 (by kernel_rfl) rfl #[.string (⟨#[67, 78, 61, 65, 110, 110, 32, 92, 44, 32, 66, 32, 43, 32, 115, 110, 61, 120, 32, 44, 32, 111, 117, 61, 80, 101, 111, 112, 108, 101]⟩ : ByteArray)] rfl ap3 ?_; (with_reducible refine (dn_Parse.calls k (⟨#[67, 78, 61, 65, 110, 110, 32, 92, 44, 32, 66, 32, 43, 32, 115, 110, 61, 120, 32, 44, 32, 111, 117, 61, 80, 101, 111, 112, 108, 101]⟩ : ByteArray) t353 t354 _ ?side1 A1.out).mono ?_); (case side1 => exact ap6); rintro e w20 ⟨v355, rfl, ho0, hb⟩; refine ⟨_, rfl, ?_⟩; have n0_ := Aside0.mk (Kd.S_lower ho0 (below_size ap1)); have n1_ := Aside0.mk (below_step ap1 hb); clear HB; have HO356 := n0_; have HB := n1_; clear n0_ n1_; (try clear hb); (try clear hb2); (try clear hk); (try clear hi); (try clear ho0); obtain ⟨Ao21, co21, eo21⟩ := Kd.S_slice HO356.out; subst eo21) | ((with_reducible refine gate_callee (f := 16) rfl ?_); refine goesL_ (some 11) rfl rfl Tryd.func16 (by kernel_rfl) rfl #[.slice Ao21 t353.length co21] rfl ap3 ?_; (with_reducible refine (dn_Print.calls k _ _ t353 t357 t358 _ ?side1 ?side2 ?side3 A2.out).mono ?_); (case side1 => repeat (first | exact (Kd.S_reads' HO356.out).2.2 | (with_reducible refine Kd.C_alloc ?_ _) | (with_reducible refine Kd.C_drewN ?_ _) | (with_reducible refine Kd.C_drew ?_))); (case side2 => exact (Kd.S_reads' HO356.out).2.1); (case side3 => exact ap6); rintro e w22 ⟨rfl, hb⟩; refine ⟨_, rfl, ?_⟩; have n0_ := Aside0.mk (Kd.S_below (apAS HO356.out) hb); have n1_ := Aside0.mk (below_step ap1 hb); clear HO356; clear HB; have HO356 := n0_; have HB := n1_; clear n0_ n1_; (try clear hb); (try clear hb2); (try clear hk); (try clear hi)))
  go_ret
  exact ⟨by first | rfl | (simp [errW_none, errW_some, bne_nil8, beq_nil8]; done) | (simp [errW_none, errW_some] <;> rfl) | (simp [*, errW_none, errW_some] <;> rfl), by repeat (first | (with_reducible first | exact HB.out | apply below_alloc | apply pw_below_drewN | apply below_drew1) | exact HB.out)⟩
end Go.Proofs.YtkklacijhmoopaaDoor.Print
namespace Go.Proofs.YtkklacijhmoopaaDoor.Print
open Go.RowKit Go.Proofs.YtkklacijhmoopaaDoorW.PrintWords Go.Proofs.YtkklacijhmoopaaDoorW.PrintLast Go.Proofs.YtkklacijhmoopaaDoorW.PrintMore Go.Proofs.YtkklacijhmoopaaDoor.Pure
def exT : List UInt8 := [67, 78, 61, 65, 110, 110, 32, 92, 44, 32, 66, 32, 43, 32, 115, 110, 61, 120, 32, 44, 32, 111, 117, 61, 80, 101, 111, 112, 108, 101]
def exN : List (List Pr) := [[([99, 110], [65, 110, 110, 32, 44, 32, 66]), ([115, 110], [120])], [([111, 117], [80, 101, 111, 112, 108, 101])]]
set_option maxRecDepth 100000 in
theorem exN_read : ((signs exT).bind fun L => goP L [] [] []) = some exN := by decide +kernel
set_option maxRecDepth 100000 in
theorem exN_ok : nameOk (mkN exN) = true := by decide +kernel
theorem exN_short : shortP exN := by unfold shortP exN; decide
theorem exN_text : nameText exN = [99, 110, 61, 65, 110, 110, 32, 92, 44, 32, 66, 43, 115, 110, 61, 120, 44, 111, 117, 61, 80, 101, 111, 112, 108, 101] := by decide +kernel
theorem awake15_ev : Ev (fun k => L15awake.f k) true := by
  obtain ⟨z1, z2, z3⟩ := sz_short exN_short
  obtain ⟨_, _, _, p4⟩ := parse_ev (mkB exT) (by rw [mkB_size]; decide)
  have hp := p4 (by rw [mkB_size]; decide) (by decide) exN _ exN_read (right_ev (mkN exN) z1 z2)
  have hq := print_ev exN exN_short
  rw [exN_ok, if_pos rfl] at hp hq
  have hf : fin (nameText exN) = (mkB [99, 110, 61, 65, 110, 110, 32, 92, 44, 32, 66, 43, 115, 110, 61, 120, 44, 111, 117, 61, 80, 101, 111, 112, 108, 101], 0) := by
    unfold fin; rw [exN_text, if_neg (by decide)]
  rw [hf] at hq
  unfold L15awake.f
  refine Ev.bind hp (Ev.bind hq (Ev.pos rfl (Ev.pos rfl (Ev.pos ?_ (Ev.pos rfl (Ev.pos (by decide) Ev.rfl'))))))
  rw [Lib.toList_data]
end Go.Proofs.YtkklacijhmoopaaDoor.Print
namespace Go.Proofs.YtkklacijhmoopaaDoor.Print
open Go.RowKit Go.Proofs.YtkklacijhmoopaaDoorW.PrintWords Go.Proofs.YtkklacijhmoopaaDoorW.PrintLast Go.Proofs.YtkklacijhmoopaaDoorW.PrintMore
set_option linter.unusedVariables false
set_option linter.unusedSimpArgs false
def upB (c : UInt8) : UInt8 := if 97 ≤ c.toNat ∧ c.toNat ≤ 122 then c - 32 else c
def L15upper.f (a0 : ByteArray) : Option ByteArray := if a0.size ≤ 1000000 then some ⟨(a0.data.toList.map upB).toArray⟩ else none
structure BytesAt (g : Nat) (l : List UInt8) (w : World) : Prop where
  cell : ∀ j (hj : j < l.length), w.cell? ⟨g, j, none⟩ = some (.int .u8 (l[j].toNat : Int))
  froz : ∀ j, j < l.length → w.frozen? ⟨g, j, none⟩ = false
theorem BytesAt.drewN {g : Nat} {l : List UInt8} {w : World} (h : BytesAt g l w) (n : Nat) : BytesAt g l (w.drewN n) := ⟨fun j hj => h.cell j hj, fun j hj => h.froz j hj⟩
theorem BytesAt.set {g : Nat} {l : List UInt8} {w : World} (h : BytesAt g l w) (k : Nat) (hk : k < l.length) (c : UInt8) : BytesAt g (l.set k c) (w.setCell ⟨g, k, none⟩ (.int .u8 (c.toNat : Int))) := by
  refine ⟨fun j hj => ?_, fun j hj => ?_⟩
  · rw [List.length_set] at hj
    by_cases e : k = j
    · subst e
      rw [World.cell?_setCell_same _ _ _ (h.cell k hk)]
      simp
    · rw [World.cell?_setCell_other _ _ _ _ (by intro e2; injection e2 with _ e3; exact e e3), h.cell j hj]
      simp [List.getElem_set, e]
  · rw [List.length_set] at hj
    rw [World.frozen?_setCell]
    exact h.froz j hj
theorem bytes_made (s : ByteArray) (w : World) : BytesAt w.heap.size s.data.toList (w.drew.alloc (.cells (bytesRow s (grownCap w s.size 0 5)) 5 ((bytesRow s (grownCap w s.size 0 5)).size, (bytesRow s (grownCap w s.size 0 5)).size + 1))) := by
  refine ⟨fun j hj => ?_, fun j hj => ?_⟩
  · have := World.cell?_alloc_mark w.drew (bytesRow s (grownCap w s.size 0 5)) 5 ((bytesRow s (grownCap w s.size 0 5)).size, (bytesRow s (grownCap w s.size 0 5)).size + 1) j
    rw [show w.drew.heap.size = w.heap.size from rfl] at this
    rw [this]
    have hj' : j < s.data.size := by simpa using hj
    have hj2 : j < s.size := hj'
    simp [bytesRow, hj', hj2, Array.getElem?_append]
  · have := World.frozen?_alloc_mark w.drew (bytesRow s (grownCap w s.size 0 5)) 5 ((bytesRow s (grownCap w s.size 0 5)).size) ((bytesRow s (grownCap w s.size 0 5)).size + 1) j
    rw [show w.drew.heap.size = w.heap.size from rfl] at this
    rw [this]
    have hj' : j < s.data.size := by simpa using hj
    have : ¬ (bytesRow s (grownCap w s.size 0 5)).size ≤ j := by have hj2 : j < s.size := hj'; simp [bytesRow]; omega
    simp [this]
theorem upper_at (s l : List UInt8) (k : Nat) (h : l = (s.take k).map upB ++ s.drop k) (hl : k < l.length) (hs : k < s.length) : l[k] = s[k] := by
  subst h
  have e0 : k ≥ ((s.take k).map upB).length := by simp; omega
  rw [List.getElem_append_right e0]
  have e : min k s.length = k := Nat.min_eq_left (Nat.le_of_lt hs)
  simp [e]
theorem upper_next (s l : List UInt8) (k : Nat) (h : l = (s.take k).map upB ++ s.drop k) (hl : k < l.length) (hs : k < s.length) (hu : upB s[k] = s[k]) : l = (s.take (k + 1)).map upB ++ s.drop (k + 1) := by
  rw [h, List.take_succ_eq_append_getElem hs, List.map_append, List.drop_eq_getElem_cons hs]
  simp [hu]
theorem upper_set (s l : List UInt8) (k : Nat) (h : l = (s.take k).map upB ++ s.drop k) (hs : k < s.length) : l.set k (upB s[k]) = (s.take (k + 1)).map upB ++ s.drop (k + 1) := by
  have hn : ((s.take k).map upB).length = k := by simp; omega
  rw [h, List.take_succ_eq_append_getElem hs, List.map_append, List.set_append_right _ _ (by omega), hn, Nat.sub_self, List.drop_eq_getElem_cons hs]
  simp only [List.set_cons_zero, List.append_assoc, List.map_cons, List.map_nil, List.singleton_append]
set_option maxHeartbeats 4000000 in
set_option maxRecDepth 1000000 in
theorem L15upper.calls (a0 : ByteArray) (r1 : ByteArray) (w : World) (h : L15upper.f a0 = some r1) :
    Calls Tryd.prog 22 #[.string a0] w fun e w' => e = .returned (.string r1) ∧ Below w.heap.size w w' := by
  have hsz : a0.size ≤ 1000000 := by unfold L15upper.f at h; by_cases c : a0.size ≤ 1000000 <;> simp_all
  have hof : (⟨(a0.data.toList.map upB).toArray⟩ : ByteArray) = r1 := by
    unfold L15upper.f at h; rw [if_pos hsz] at h; simpa using h
  subst hof
  clear h
  have hlen : a0.data.toList.length = a0.size := by simp
  have hconv := run_bytes_of_string (P := Tryd.prog) w 9 72 5 a0 Tryd.underlying9 Tryd.underlying72 Tryd.underlying5
  have HM := Aside0.mk (bytes_made a0 w)
  generalize hcap : grownCap w a0.size 0 5 = cap at *
  have HL := Aside0.mk hlen
  clear hlen hcap
  have HBl := Aside0.mk (((below_drew (Below.refl w.heap.size w)).alloc (Nat.le_refl _) (.cells (bytesRow a0 cap) 5 ((bytesRow a0 cap).size, (bytesRow a0 cap).size + 1))))
  generalize (bytesRow a0 cap) = C at *
  go_enter Tryd.func22, Tryd.ntmps22
  go_wp2
  go_loopw [4] (fun i wr => ∃ (k : Nat) (l : List UInt8), k ≤ a0.size ∧ i = .int .i64 k ∧ l.length = a0.size ∧ Aside0 (BytesAt w.heap.size l wr) ∧ Aside0 (Below w.heap.size w wr) ∧ Aside0 (l = (a0.data.toList.take k).map upB ++ a0.data.toList.drop k)) (fun i _ => (a0.size - intOf i).toNat)
  case atStart =>
    exact ⟨0, a0.data.toList, Nat.zero_le _, rfl, HL.out, ⟨HM.out⟩, ⟨HBl.out⟩, ⟨by simp⟩⟩
  case round =>
    clear HM HL HBl
    obtain ⟨k, l, hk, rfl, hl, HB, HBw, HE⟩ := hrel
    by_cases hlt : k < a0.size
    · have hkl : k < l.length := by omega
      have hlk : l[k] = a0.data.toList[k]'(by simpa using hlt) := upper_at a0.data.toList l k HE.out hkl (by simpa using hlt)
      have c0 := HB.out.cell k hkl
      have f0 := HB.out.froz k hkl
      generalize hb : l[k] = b at *
      have hby : (b.toNat : Int) < 256 := by have := b.toNat_lt; omega
      have HK := Aside0.mk hlk
      clear hlk hb
      have hkl := hkl
      by_cases h1 : 97 ≤ (b.toNat : Int)
      · by_cases h2 : (b.toNat : Int) ≤ 122
        · have hsub : (b - 32).toNat = b.toNat - 32 := by
            rw [UInt8.toNat_sub_of_le _ _ (by rw [UInt8.le_iff_toNat_le]; show 32 ≤ b.toNat; omega)]; rfl
          have HS := Aside0.mk hsub
          clear hsub
          go_wp2
          go_roundw
          case rel =>
            refine ⟨k + 1, l.set k (b - 32), by omega, by go_num, by simpa using hl, ⟨?_⟩, ⟨?_⟩, ⟨?_⟩⟩
            · have := HB.out.set k hkl (b - 32)
              rw [HS.out, Int.ofNat_sub (by omega)] at this
              exact this
            · exact HBw.out.setCell (p := ⟨w.heap.size, k, none⟩) (Nat.le_refl _) _
            · have hu := upper_set a0.data.toList l k HE.out (by simpa using hlt)
              rw [← HK.out] at hu
              rw [← hu]; unfold upB; rw [if_pos (by omega)]
          case measure => simp [intOf]; omega
        · go_wp2
          go_roundw
          case rel =>
            refine ⟨k + 1, l, by omega, by go_num, hl, HB, HBw, ⟨?_⟩⟩
            exact upper_next a0.data.toList l k HE.out hkl (by simpa using hlt) (by rw [← HK.out]; unfold upB; rw [if_neg (by omega)])
          case measure => simp [intOf]; omega
      · go_wp2
        go_roundw
        case rel =>
          refine ⟨k + 1, l, by omega, by go_num, hl, HB, HBw, ⟨?_⟩⟩
          exact upper_next a0.data.toList l k HE.out hkl (by simpa using hlt) (by rw [← HK.out]; unfold upB; rw [if_neg (by omega)])
        case measure => simp [intOf]; omega
    · have hE : l = a0.data.toList.map upB := by
        have := HE.out
        rw [show k = a0.size by omega] at this
        rw [List.take_of_length_le (by simp), List.drop_eq_nil_of_le (by simp), List.append_nil] at this
        exact this
      have hback := run_convert_bytes_back (P := Tryd.prog) wr 72 9 5 ⟨w.heap.size, 0, none⟩ cap l Tryd.underlying72 Tryd.underlying5 Tryd.underlying9 (fun j hj => by have := HB.out.cell j hj; by_cases e : j = 0 <;> simpa [Addr.add, e] using this)
      rw [hl] at hback
      have HE2 := Aside0.mk hE
      clear hE
      go_wp2
      go_ret
      have hE3 := HE2.out
      subst hE3
      exact ⟨rfl, HBw.out⟩
end Go.Proofs.YtkklacijhmoopaaDoor.Print
namespace Go.Proofs.YtkklacijhmoopaaDoor.Print
open Go.RowKit Go.Proofs.YtkklacijhmoopaaDoorW.PrintWords Go.Proofs.YtkklacijhmoopaaDoorW.PrintLast Go.Proofs.YtkklacijhmoopaaDoorW.PrintMore Go.Proofs.YtkklacijhmoopaaDoor.Pure
set_option linter.unusedVariables false
set_option linter.unusedSimpArgs false
theorem low_up_all : ∀ n : Nat, n < 256 → typeB (UInt8.ofNat n) = true → lowB (upB (UInt8.ofNat n)) = UInt8.ofNat n := by decide +kernel
theorem low_up {c : UInt8} (h : typeB c = true) : lowB (upB c) = c := by
  have e : UInt8.ofNat c.toNat = c := UInt8.ofNat_toNat
  have := low_up_all c.toNat c.toNat_lt (by rw [e]; exact h)
  rwa [e] at this
theorem low_ups {t : List UInt8} (h : typeOk t = true) : (t.map upB).map lowB = t := by
  rw [List.map_map]
  conv => rhs; rw [← List.map_id t]
  exact List.map_congr_left fun c hc => low_up ((typeOk_all h).2 c hc)
def qText (a : Pr) : List UInt8 := a.1.map upB ++ 32 :: 61 :: 32 :: dnText a.2
def qSigns (a : Pr) : List Sg := bare (a.1.map upB) ++ (32, true) :: (61, true) :: (32, true) :: sgs a.2
theorem ups_plain {a : Pr} (h : typeOk a.1 = true) : ∀ c ∈ a.1.map upB, c ≠ 92 ∧ c ≠ 61 ∧ c ≠ 32 ∧ c ≠ 44 ∧ c ≠ 59 ∧ c ≠ 43 := by
  intro c hc
  exact (typeOk_low (l := a.1.map upB) (by rw [low_ups h]; exact h)).2 c hc
theorem signs_q {a : Pr} (h : typeOk a.1 = true) (t : List UInt8) : signs (qText a ++ t) = (signs t).map (qSigns a ++ ·) := by
  unfold qText qSigns
  rw [List.append_assoc, signs_app _ _ (fun c hc => (ups_plain h c hc).1)]
  simp only [List.cons_append]
  rw [signs_bare (by decide), signs_bare (by decide), signs_bare (by decide), dnText_is, signs_text]
  cases signs t <;> simp [sgs]
theorem pair_q {a : Pr} (h : typeOk a.1 = true) (b1 b2 : List UInt8) (h1 : ∀ c ∈ b1, c = 32) (h2 : ∀ c ∈ b2, c = 32) : pair (bare b1 ++ (qSigns a ++ bare b2)) = some a := by
  have e : bare b1 ++ (qSigns a ++ bare b2) = bare (b1 ++ (a.1.map upB ++ [32])) ++ (61, true) :: (bare [32] ++ (sgs a.2 ++ bare b2)) := by
    simp [qSigns, bare]
  have ht : trim (bare [32] ++ (sgs a.2 ++ bare b2)) = sgs a.2 := by
    rw [trim_blanks _ (blank_bare (by simp))]
    have := trim_sgs a.2
    cases hs : sgs a.2 with
    | nil =>
      rw [List.nil_append]
      have h3 := trim_blanks (b := bare b2) [] (blank_bare h2)
      rw [List.append_nil] at h3
      rw [h3]; rfl
    | cons s z =>
      rw [hs] at this
      have hb : isBlank s = false := by
        cases hb : isBlank s with
        | false => rfl
        | true =>
          have l1 := dw_len isBlank z
          have l2 : (trim (s :: z)).length ≤ (trimL (s :: z)).length := by
            unfold trim trimR; rw [List.length_reverse]
            have := dw_len isBlank (trimL (s :: z)).reverse
            rw [List.length_reverse] at this; exact this
          have l3 : trimL (s :: z) = z.dropWhile isBlank := by unfold trimL; rw [List.dropWhile_cons, if_pos hb]
          rw [this, l3, List.length_cons] at l2
          omega
      rw [List.cons_append, trim_head hb, ← List.cons_append, trimR_app_blank _ _ (blank_bare h2), ← trim_head hb, this]
  have hl := low_ups h
  rw [e, pair_make (b1 := b1) (t := a.1.map upB) (b2 := [32]) _ h1 (by rw [hl]; exact h) (by simp), ht, valOk_sgs, if_pos rfl, hl]
  congr 1
  exact Prod.ext rfl (sgs_fst _ _ _)
theorem q_nosep {a : Pr} (h : typeOk a.1 = true) : ∀ s ∈ qSigns a, sep s = false := by
  intro s hs
  unfold qSigns at hs
  rcases List.mem_append.1 hs with hs | hs
  · obtain ⟨h1, h2⟩ := bare_mem.1 hs
    have := ups_plain h _ h2
    simp [sep, this]
  · rcases List.mem_cons.1 hs with rfl | hs
    · rfl
    rcases List.mem_cons.1 hs with rfl | hs
    · rfl
    rcases List.mem_cons.1 hs with rfl | hs
    · rfl
    · exact (sgs_mem _ _ _ _ hs).1
def Inv (T : List UInt8) (N0 : List (List Pr)) (rdn : List Pr) (a : Pr) : Prop :=
  ∃ cur, (∀ t, ((signs (T ++ t)).bind fun L => goP L [] [] []) = (signs t).bind fun L => goP L cur rdn N0) ∧ ∀ b : List UInt8, (∀ c ∈ b, c = 32) → pair (cur ++ bare b) = some a
def RD (T : List UInt8) (M : List (List Pr)) : Prop := (M = [] ∧ T = []) ∨ ∃ N0 rdn a, M = N0 ++ [rdn ++ [a]] ∧ Inv T N0 rdn a
theorem rd_first {a : Pr} (h : typeOk a.1 = true) : RD (qText a) [[a]] := by
  refine .inr ⟨[], [], a, rfl, qSigns a, fun t => ?_, fun b hb => ?_⟩
  · rw [signs_q h]
    cases signs t with
    | none => rfl
    | some L => simp only [Option.map_some, Option.bind_some]; rw [goP_app _ _ _ _ _ (q_nosep h), List.nil_append]
  · exact pair_q h [] b (by simp) hb
theorem sig3 (c : UInt8) (hc : c ≠ 92) (t : List UInt8) : signs ([32, c, 32] ++ t) = (signs t).map fun L => (32, true) :: (c, true) :: (32, true) :: L := by
  show signs (32 :: c :: 32 :: t) = _
  rw [signs_bare (by decide), signs_bare hc, signs_bare (by decide)]
  cases signs t <;> rfl
theorem inv_next {T : List UInt8} {N0 : List (List Pr)} {rdn : List Pr} {a b : Pr} (c : UInt8) (hc : c = 43 ∨ c = 59) (h : Inv T N0 rdn a) (hb : typeOk b.1 = true) :
    Inv (T ++ [32, c, 32] ++ qText b) (if c = 43 then N0 else N0 ++ [rdn ++ [a]]) (if c = 43 then rdn ++ [a] else []) b := by
  obtain ⟨cur, h1, h2⟩ := h
  have hp := h2 [32] (by simp)
  refine ⟨bare [32] ++ qSigns b, fun t => ?_, fun d hd => ?_⟩
  · rw [List.append_assoc, List.append_assoc, h1, sig3 c (by rcases hc with rfl | rfl <;> decide), signs_q hb]
    cases signs t with
    | none => rfl
    | some L =>
      simp only [Option.map_some, Option.bind_some]
      rw [goP, if_neg (show ¬ (sep (32, true) = true) by decide), goP, if_pos (show sep (c, true) = true by rcases hc with rfl | rfl <;> rfl)]
      have e : cur ++ [(32, true)] = cur ++ bare [32] := rfl
      rw [e, hp, Option.bind_some]
      have hr : ∀ (r : List Pr) (n : List (List Pr)), goP ((32, true) :: (qSigns b ++ L)) [] r n = goP L (bare [32] ++ qSigns b) r n := by
        intro r n
        rw [goP, if_neg (show ¬ (sep (32, true) = true) by decide), goP_app _ _ _ _ _ (q_nosep hb)]; rfl
      by_cases e : c = 43
      · rw [if_pos e, if_pos e, if_pos e, hr]
      · rw [if_neg e, if_neg e, if_neg e, hr]
  · rw [List.append_assoc]; exact pair_q hb [32] d (by simp) hd
theorem rd_plus {T : List UInt8} {N0 : List (List Pr)} {R : List Pr} {b : Pr} (h : RD T (N0 ++ [R])) (hR : R ≠ []) (hb : typeOk b.1 = true) : RD (T ++ [32, 43, 32] ++ qText b) (N0 ++ [R ++ [b]]) := by
  rcases h with ⟨h, _⟩ | ⟨N1, rdn, a, e, h⟩
  · exact absurd h (by simp)
  · obtain ⟨e1, e2⟩ := List.append_inj' e rfl
    have e3 : R = rdn ++ [a] := by simpa using e2
    subst e1
    have := inv_next 43 (.inl rfl) h hb
    exact .inr ⟨_, _, b, by rw [e3]; rfl, this⟩
theorem rd_semi {T : List UInt8} {M : List (List Pr)} {b : Pr} (h : RD T M) (hM : M ≠ []) (hb : typeOk b.1 = true) : RD (T ++ [32, 59, 32] ++ qText b) (M ++ [[b]]) := by
  rcases h with ⟨h, _⟩ | ⟨N1, rdn, a, e, h⟩
  · exact absurd h hM
  · have := inv_next 59 (.inr rfl) h hb
    exact .inr ⟨_, _, b, by rw [e]; rfl, this⟩
theorem rd_read {T : List UInt8} {M : List (List Pr)} (h : RD T M) (hM : M ≠ []) : ((signs T).bind fun L => goP L [] [] []) = some M := by
  rcases h with ⟨h, _⟩ | ⟨N1, rdn, a, rfl, cur, h1, h2⟩
  · exact absurd h hM
  · have := h1 []
    rw [List.append_nil] at this
    rw [this, signs_nil, Option.bind_some, goP]
    have hp := h2 [] (by simp)
    rw [show cur ++ bare [] = cur by simp [bare]] at hp
    rw [hp]; rfl
theorem signs_none_blank : ∀ (T : List UInt8), T.dropWhile (· == 32) = [] → ((signs T).bind fun L => goP L [] [] []) = none := by
  intro T h
  have hb : ∀ c ∈ T, c = 32 := fun c hc => by simpa using dw_nil h c hc
  have h1 := signs_app T [] (fun c hc => by rw [hb c hc]; decide)
  rw [List.append_nil, signs_nil] at h1
  rw [h1]
  simp only [Option.map_some, Option.bind_some, List.append_nil]
  have h2 := goP_app (bare T) [] [] [] [] (nosep_blank hb)
  rw [List.append_nil, List.nil_append] at h2
  rw [h2, goP]
  have : pair (bare T) = none := by
    unfold pair
    rw [dw_of_all (l := bare T) (p := fun s => !isEq s) fun s hs => by
      obtain ⟨k1, k2⟩ := bare_mem.1 hs
      simp [isEq, hb _ k2]]
  rw [this]; rfl
end Go.Proofs.YtkklacijhmoopaaDoor.Print
namespace Go.Proofs.YtkklacijhmoopaaDoor.Print
open Go.RowKit Go.Proofs.YtkklacijhmoopaaDoorW.PrintWords
def strings_ReplaceAll.f (a0 a1 a2 : ByteArray) : Option ByteArray :=
  if a0.size ≤ 1000000 then (if 1 ≤ a1.size then (if a2.size ≤ 1000 then some ⟨(Lib.replaceAll a0.data.toList a1.data.toList a2.data.toList).toArray⟩ else none) else none) else none
theorem strings_ReplaceAll.calls (a0 a1 a2 : ByteArray) (r : ByteArray) (w : World) (hG : Gw w) (h : strings_ReplaceAll.f a0 a1 a2 = some r) :
    Calls Tryd.prog 115 #[.string a0, .string a1, .string a2] w fun e w' => e = .returned (.string r) ∧ Below w.heap.size w w' := by
  unfold strings_ReplaceAll.f at h
  by_cases c : a0.size ≤ 1000000
  · by_cases c1 : 1 ≤ a1.size
    · by_cases c2 : a2.size ≤ 1000
      · rw [if_pos c, if_pos c1, if_pos c2] at h
        injection h with h
        subst h
        obtain ⟨m, hm⟩ := hG.maxLen
        have hle := Lib.countB_le a1 c1 a0.size a0 (Nat.le_refl _)
        have : Lib.countB a0 a1 * a2.size ≤ 1000000 * 1000 := Nat.mul_le_mul (by omega) c2
        exact Tryd.strings_ReplaceAll a0 a1 a2 m w (by omega) hm c1 (by omega)
      · rw [if_pos c, if_pos c1, if_neg c2] at h; cases h
    · rw [if_pos c, if_neg c1] at h; cases h
  · rw [if_neg c] at h; cases h
end Go.Proofs.YtkklacijhmoopaaDoor.Print
namespace Go.Proofs
open Go.Shelf
def Tryd.lays170_ren : Go.Shelf.Ren := ⟨fun | 170 => 116 | n => n, fun | 70 => 87 | 3 => 3 | 0 => 0 | 72 => 89 | 37 => 72 | 5 => 5 | n => n, fun | n => n⟩
theorem Tryd.lays170 : Go.Proofs.Lays.n170 Tryd.prog Tryd.lays170_ren := {
  mixed := by kernel_rfl
  f170 := Tryd.func116.trans (congrArg some (by kernel_rfl))
  t0 := Tryd.underlying0
  a0 := Tryd.isAgg0
  z0 := Tryd.sizeOf0
  v0 := Tryd.zeroValue0
  t3 := Tryd.underlying3
  a3 := Tryd.isAgg3
  z3 := Tryd.sizeOf3
  v3 := Tryd.zeroValue3
  t37 := Tryd.underlying72
  a37 := Tryd.isAgg72
  z37 := Tryd.sizeOf72
  v37 := Tryd.zeroValue72
  t70 := Tryd.underlying87
  a70 := Tryd.isAgg87
  z70 := Tryd.sizeOf87
  v70 := Tryd.zeroValue87
  t72 := Tryd.underlying89
  a72 := Tryd.isAgg89
  z72 := Tryd.sizeOf89
  v72 := Tryd.zeroValue89 }
open Go.RowKit in
theorem Tryd.Builder_Len_f (B b : Nat) (bs : List Value) (w : World) (h : Lib.IsBuilderF 89 5 B b bs w) :
    Calls Tryd.prog 116 #[.pointer (some ⟨b, 0, none⟩)] w fun e w' => e = .returned (.int .i64 bs.length) ∧ w' = w := Any.Builder_Len_f Tryd.lays170 B b bs w h
end Go.Proofs
namespace Go.Proofs.YtkklacijhmoopaaDoor.Print
open Go.RowKit Go.Proofs.YtkklacijhmoopaaDoorW.PrintWords Go.Proofs.YtkklacijhmoopaaDoorW.PrintLast Go.Proofs.YtkklacijhmoopaaDoorW.PrintMore
set_option linter.unusedVariables false
set_option linter.unusedSimpArgs false
theorem idx_of1 (z : UInt8) (a b : List UInt8) (h : ∀ c ∈ a, c ≠ z) : Lib.index (a ++ z :: b) [z] = (a.length : Int) := by
  rw [Lib.index_one]
  induction a with
  | nil => simp [Lib.indexByte]
  | cons c a ih =>
    have hc := h c (by simp)
    have ih := ih fun x hx => h x (by simp [hx])
    rw [List.cons_append, Lib.indexByte, if_neg (by simpa using hc), ih, if_neg (by simp <;> omega)]
    simp
theorem first_z (z : UInt8) (l : List UInt8) : (∀ c ∈ l, c ≠ z) ∨ ∃ a b, l = a ++ z :: b ∧ ∀ c ∈ a, c ≠ z := by
  induction l with
  | nil => exact .inl (by simp)
  | cons c l ih =>
    by_cases hc : c = z
    · exact .inr ⟨[], l, by rw [hc]; rfl, by simp⟩
    · rcases ih with h | ⟨a, b, rfl, h⟩
      · exact .inl fun x hx => by rcases List.mem_cons.1 hx with rfl | hx; exact hc; exact h x hx
      · exact .inr ⟨c :: a, b, rfl, fun x hx => by rcases List.mem_cons.1 hx with rfl | hx; exact hc; exact h x hx⟩
def swapZ (z : UInt8) (new l : List UInt8) : List UInt8 := l.flatMap fun c => if c = z then new else [c]
theorem swapZ_none (z : UInt8) (new : List UInt8) : ∀ (a : List UInt8), (∀ c ∈ a, c ≠ z) → swapZ z new a = a
  | [], _ => rfl
  | c :: a, h => by
    have ih := swapZ_none z new a fun x hx => h x (by simp [hx])
    show (if c = z then new else [c]) ++ swapZ z new a = _
    rw [if_neg (h c (by simp)), ih]; rfl
theorem replaceK_z (z : UInt8) (new : List UInt8) : ∀ (k : Nat) (l : List UInt8), l.count z = k → Lib.replaceK [z] new k l = swapZ z new l
  | 0, l, h => by
    have hn : ∀ c ∈ l, c ≠ z := by
      intro c hc h2; subst h2
      have := List.count_pos_iff.2 hc; omega
    rw [swapZ_none z new l hn]; rfl
  | k + 1, l, h => by
    rcases first_z z l with hn | ⟨a, b, rfl, hn⟩
    · have : l.count z = 0 := List.count_eq_zero.2 fun hc => hn z hc rfl
      omega
    · have hc : b.count z = k := by
        rw [List.count_append, List.count_cons] at h
        have : a.count z = 0 := List.count_eq_zero.2 fun hc => hn z hc rfl
        simp at h; omega
      rw [Lib.replaceK_hit [z] new k _ a.length (idx_of1 z a b hn), show (a ++ z :: b).drop (a.length + ([z] : List UInt8).length) = b by simp, replaceK_z z new k b hc]
      have : swapZ z new (a ++ z :: b) = swapZ z new a ++ (new ++ swapZ z new b) := by simp [swapZ]
      rw [this, swapZ_none z new a hn]; simp
theorem replaceAll_z (z : UInt8) (new l : List UInt8) (h : ([z] == new) = false) : Lib.replaceAll l [z] new = swapZ z new l := by
  unfold Lib.replaceAll Lib.replace
  rw [h]
  have : Lib.replaceNum l [z] (-1) = l.count z := by
    unfold Lib.replaceNum
    rw [if_pos (Or.inl (by decide)), Lib.count_one]
  rw [this, replaceK_z z new _ l rfl]; rfl
theorem swapZ_len (z : UInt8) (new : List UInt8) (B : Nat) (hB : 1 ≤ B) (hn : new.length ≤ B) : ∀ (l : List UInt8), (swapZ z new l).length ≤ B * l.length
  | [] => by simp [swapZ]
  | c :: l => by
    have ih := swapZ_len z new B hB hn l
    have h : (if c = z then new else [c]).length ≤ B := by
      split
      · exact hn
      · simpa using hB
    have : swapZ z new (c :: l) = (if c = z then new else [c]) ++ swapZ z new l := rfl
    rw [this, List.length_append, List.length_cons, Nat.mul_succ]; omega
def part1 (p : ByteArray) : List UInt8 := swapZ 0 [0, 255] p.data.toList ++ [0, 1]
def tupOf (l : List ByteArray) : List UInt8 := l.flatMap part1
def field_Tuple.f (l0 : List ByteArray) : Option (ByteArray × Int) :=
  if 16 < l0.length then some (⟨#[]⟩, 1) else if l0.any (fun p => decide (4096 < p.size)) = true then some (⟨#[]⟩, 5) else if 4096 < (tupOf l0).length then some (⟨#[]⟩, 5) else some (⟨(tupOf l0).toArray⟩, 0)
theorem tupOf_snoc (l : List ByteArray) (p : ByteArray) : tupOf (l ++ [p]) = tupOf l ++ part1 p := by simp [tupOf]
theorem part1_len (p : ByteArray) (h : p.size ≤ 4096) : (part1 p).length ≤ 8194 := by
  have := swapZ_len 0 [0, 255] 2 (by omega) (by simp) p.data.toList
  have h2 : p.data.toList.length = p.size := by simp
  unfold part1
  rw [List.length_append]
  simp only [List.length_cons, List.length_nil]; omega
theorem rep_f (p : ByteArray) (h : p.size ≤ 4096) : strings_ReplaceAll.f p (⟨#[0]⟩ : ByteArray) (⟨#[0, 255]⟩ : ByteArray) = some ⟨(swapZ 0 [0, 255] p.data.toList).toArray⟩ := by
  unfold strings_ReplaceAll.f
  rw [if_pos (by omega), if_pos (show 1 ≤ (⟨#[0]⟩ : ByteArray).size from Nat.le_refl _), if_pos (show (⟨#[0, 255]⟩ : ByteArray).size ≤ 1000 by decide)]
  have : Lib.replaceAll p.data.toList (⟨#[0]⟩ : ByteArray).data.toList (⟨#[0, 255]⟩ : ByteArray).data.toList = swapZ 0 [0, 255] p.data.toList := replaceAll_z 0 [0, 255] _ (by decide)
  rw [this]
theorem take_succ_ba (l : List ByteArray) (k : Nat) (h : k < l.length) : l.take (k + 1) = l.take k ++ [l.getD k ByteArray.empty] := by
  rw [List.take_succ_eq_append_getElem h]
  simp [List.getD_eq_getElem?_getD, h]
set_option maxHeartbeats 4000000 in
set_option maxRecDepth 1000000 in
theorem field_Tuple.calls (A0 : Option Addr) (c0 : Nat) (l0 : List ByteArray) (r1 : ByteArray) (r2 : Int) (w : World) (hr0 : Kd.C Kd.string w A0 l0.length l0) (hc0 : l0.length ≤ c0) (hG : Gw w) (h : field_Tuple.f l0 = some (r1, r2)) :
    Calls Tryd.prog 95 #[.slice A0 l0.length c0] w fun e w' => e = .returned (.tuple #[.string r1, .int .i64 r2]) ∧ Below w.heap.size w w' := by
  have hlm := hr0.2.1
  unfold field_Tuple.f at h
  by_cases h16 : 16 < l0.length
  · rw [if_pos h16] at h
    simp only [Option.some.injEq, Prod.mk.injEq] at h
    obtain ⟨rfl, rfl⟩ := h
    clear hr0
    go_enter Tryd.func95, Tryd.ntmps95
    go_wp2
    go_ret2
    exact ⟨rfl, Below.refl _ _⟩
  · rw [if_neg h16] at h
    have HH := Aside0.mk h
    have HC := Aside0.mk hr0
    have HG := Aside0.mk hG
    clear h hr0 hG
    go_enter Tryd.func95, Tryd.ntmps95
    go_wp2
    go_loopw [12] (fun i wr => ∃ (k : Nat) (acc : List UInt8), k ≤ l0.length ∧ i = .int .i64 k ∧ Aside0 (Bld w.heap.size w.heap.size (Lib.byteCells acc) wr) ∧ Aside0 (Below w.heap.size w wr) ∧ Aside0 (acc = tupOf (l0.take k)) ∧ Aside0 (acc.length ≤ 8194 * k) ∧ Aside0 (∀ p ∈ l0.take k, p.size ≤ 4096)) (fun i wr => l0.length - (intOf i).toNat)
    case atStart =>
      exact ⟨0, [], Nat.zero_le _, rfl, ⟨Lib.IsBuilderF.of (Lib.fresh_isBuilder 89 5 w)⟩, ⟨(Below.refl _ w).alloc (Nat.le_refl _) _⟩, ⟨rfl⟩, ⟨by simp⟩, ⟨by simp⟩⟩
    case round =>
      obtain ⟨k, acc, hk, rfl, HB, hbw, hacc, hacl, hsml⟩ := hrel
      by_cases hlt : k < l0.length
      · obtain ⟨ad, hA, hc⟩ := (Kd.reads_of_C (d := ByteArray.empty) HC.out).at_ (k : Int) (by omega) (by omega)
        have hcw := (hbw.out.cell (World.block_lt_of_cell? _ _ hc)).trans hc
        clear hc
        subst hA
        have hts := take_succ_ba l0 k hlt
        have hmem : l0.getD k ByteArray.empty ∈ l0 := by rw [List.getD_eq_getElem?_getD, List.getElem?_eq_getElem hlt]; simp
        simp only [Int.toNat_natCast, rdOf] at hcw
        generalize hx : l0.getD k ByteArray.empty = p at *
        have HT := Aside0.mk hts
        have HM := Aside0.mk hmem
        clear hts hx hmem
        by_cases hz : 4096 < p.size
        · go_wp2
          go_ret2
          have hany : l0.any (fun p => decide (4096 < p.size)) = true := List.any_eq_true.2 ⟨p, HM.out, by simpa using hz⟩
          have := HH.out
          rw [if_pos hany] at this
          simp only [Option.some.injEq, Prod.mk.injEq] at this
          obtain ⟨rfl, rfl⟩ := this
          exact ⟨rfl, hbw.out⟩
        · have HF := Aside0.mk (rep_f p (by omega))
          have hpl := part1_len p (by omega)
          have h15 : k ≤ 15 := by omega
          have hsw := swapZ_len 0 [0, 255] 2 (by omega) (by simp) p.data.toList
          have h2 : p.data.toList.length = p.size := by simp
          have HS := Aside0.mk (show (swapZ 0 [0, 255] p.data.toList).length ≤ 8192 by omega)
          clear hsw h2
          go_wp2_with (first
            | (go_at_call 115; (with_reducible refine (strings_ReplaceAll.calls _ _ _ _ _ ?hG HF.out).mono ?_); (case hG => exact HG.out.below hbw.out); rintro e w2 ⟨rfl, hb2⟩; have hcc := Aside0.mk (Lib.IsBuilderF.below HB.out hb2); replace hb2 := Aside0.mk (hbw.out.trans (hb2.mono hbw.out.size)))
            | (go_at_call 65; first
                | ((with_reducible refine (bld_WriteString w.heap.size w.heap.size _ _ _ g1.out ?h3 ?h4).mono ?_); (case h3 => have q1 := hacl.out; have q2 := HS.out; simp [Lib.byteCells_length, Lib.strCells_length, ByteArray.size]; omega); (case h4 => have a2 := hb2.out.size; have a3 := g2.out.size; omega); rintro e w4 ⟨rfl, f1, f2, _⟩; replace f1 := Aside0.mk f1; replace f2 := Aside0.mk f2)
                | ((with_reducible refine (bld_WriteString w.heap.size w.heap.size (Lib.byteCells acc) _ _ ?hB ?h3 ?h4).mono ?_); (case hB => exact hcc.out); (case h3 => have q1 := hacl.out; have q2 := HS.out; simp [Lib.byteCells_length, ByteArray.size]; omega); (case h4 => have a2 := hb2.out.size; omega); rintro e w3 ⟨rfl, g1, g2, _⟩; replace g1 := Aside0.mk g1; replace g2 := Aside0.mk g2)))
          go_roundw
          case rel =>
            refine ⟨k + 1, acc ++ part1 p, by omega, by go_num, ⟨?_⟩, ⟨hb2.out.trans (g2.out.trans f2.out)⟩, ⟨?_⟩, ⟨?_⟩, ⟨?_⟩⟩
            · have := f1.out
              rw [Lib.byteCells_append]
              simpa [Lib.byteCells, Lib.strCells, part1, List.append_assoc] using this
            · rw [HT.out, tupOf_snoc, hacc.out]
            · have := hacl.out; rw [List.length_append]; omega
            · intro x hx
              rw [HT.out] at hx
              rcases List.mem_append.1 hx with hx | hx
              · exact hsml.out x hx
              · simp only [List.mem_singleton] at hx; subst hx; omega
          case measure => simp [intOf]; omega
      · obtain rfl : k = l0.length := by omega
        have hac2 : acc = tupOf l0 := by rw [hacc.out, List.take_length]
        have hall : ¬ l0.any (fun p => decide (4096 < p.size)) = true := by
          rw [List.any_eq_true]
          rintro ⟨x, hx, h2⟩
          have := hsml.out x (by rw [List.take_length]; exact hx)
          simp at h2; omega
        have H2 := HH.out
        rw [if_neg hall, ← hac2] at H2
        have HA := Aside0.mk H2
        clear hac2 hall H2 HH hacc
        have hbl : (Lib.byteCells acc).length = acc.length := Lib.byteCells_length _
        by_cases hz : 4096 < acc.length
        · have := HA.out
          rw [if_pos hz] at this
          simp only [Option.some.injEq, Prod.mk.injEq] at this
          obtain ⟨rfl, rfl⟩ := this
          have hz2 : 4096 < (Lib.byteCells acc).length := by omega
          clear hbl
          go_wp2_with (go_at_call 116; (with_reducible refine (Tryd.Builder_Len_f w.heap.size w.heap.size _ _ HB.out).mono ?_); rintro e w2 ⟨rfl, rfl⟩)
          go_ret2
          exact ⟨rfl, hbw.out⟩
        · have := HA.out
          rw [if_neg hz] at this
          simp only [Option.some.injEq, Prod.mk.injEq] at this
          obtain ⟨rfl, rfl⟩ := this
          have hz2 : ¬ 4096 < (Lib.byteCells acc).length := by omega
          clear hbl
          go_wp2_with (first
            | (go_at_call 116; (with_reducible refine (Tryd.Builder_Len_f w.heap.size w.heap.size _ _ HB.out).mono ?_); rintro e w2 ⟨rfl, rfl⟩)
            | (go_at_call 68; (with_reducible refine (bld_String w.heap.size w.heap.size _ _ HB.out ?h1).mono ?_); (case h1 => have := hbw.out.size; omega); rintro e w2 ⟨rfl, h2⟩; replace h2 := Aside0.mk h2))
          go_ret2
          exact ⟨rfl, hbw.out.trans h2.out⟩
end Go.Proofs.YtkklacijhmoopaaDoor.Print
namespace Go.Proofs
open Go.Shelf
def Tryd.lays190_ren : Go.Shelf.Ren := ⟨fun | 190 => 96 | 125 => 118 | 258 => 117 | 128 => 145 | 129 => 146 | 302 => 136 | 303 => 137 | 304 => 138 | 305 => 139 | 306 => 140 | 307 => 141 | 308 => 142 | 309 => 143 | 310 => 144 | 333 => 154 | 329 => 155 | 330 => 156 | 334 => 157 | 335 => 158 | 336 => 159 | 344 => 162 | n => n, fun | 31 => 69 | 9 => 9 | 3 => 3 | 46 => 111 | 0 => 0 | 51 => 153 | 53 => 155 | 4 => 4 | 183 => 146 | 182 => 145 | 131 => 150 | 5 => 5 | 218 => 165 | 222 => 169 | 228 => 172 | 229 => 163 | n => n, fun | n => n⟩
theorem Tryd.lays190 : Go.Proofs.Lays.n190 Tryd.prog Tryd.lays190_ren := {
  mixed := by kernel_rfl
  f125 := Tryd.func118.trans (congrArg some (by kernel_rfl))
  f128 := Tryd.func145.trans (congrArg some (by kernel_rfl))
  f129 := Tryd.func146.trans (congrArg some (by kernel_rfl))
  f190 := Tryd.func96.trans (congrArg some (by kernel_rfl))
  f258 := Tryd.func117.trans (congrArg some (by kernel_rfl))
  f302 := Tryd.func136.trans (congrArg some (by kernel_rfl))
  f303 := Tryd.func137.trans (congrArg some (by kernel_rfl))
  f304 := Tryd.func138.trans (congrArg some (by kernel_rfl))
  f305 := Tryd.func139.trans (congrArg some (by kernel_rfl))
  f306 := Tryd.func140.trans (congrArg some (by kernel_rfl))
  f307 := Tryd.func141.trans (congrArg some (by kernel_rfl))
  f308 := Tryd.func142.trans (congrArg some (by kernel_rfl))
  f309 := Tryd.func143.trans (congrArg some (by kernel_rfl))
  f310 := Tryd.func144.trans (congrArg some (by kernel_rfl))
  f329 := Tryd.func155.trans (congrArg some (by kernel_rfl))
  f330 := Tryd.func156.trans (congrArg some (by kernel_rfl))
  f333 := Tryd.func154.trans (congrArg some (by kernel_rfl))
  f334 := Tryd.func157.trans (congrArg some (by kernel_rfl))
  f335 := Tryd.func158.trans (congrArg some (by kernel_rfl))
  f336 := Tryd.func159.trans (congrArg some (by kernel_rfl))
  f344 := Tryd.func162.trans (congrArg some (by kernel_rfl))
  t0 := Tryd.underlying0
  a0 := Tryd.isAgg0
  z0 := Tryd.sizeOf0
  v0 := Tryd.zeroValue0
  t3 := Tryd.underlying3
  a3 := Tryd.isAgg3
  z3 := Tryd.sizeOf3
  v3 := Tryd.zeroValue3
  t4 := Tryd.underlying4
  a4 := Tryd.isAgg4
  z4 := Tryd.sizeOf4
  v4 := Tryd.zeroValue4
  t5 := Tryd.underlying5
  a5 := Tryd.isAgg5
  z5 := Tryd.sizeOf5
  v5 := Tryd.zeroValue5
  t9 := Tryd.underlying9
  a9 := Tryd.isAgg9
  z9 := Tryd.sizeOf9
  v9 := Tryd.zeroValue9
  t31 := Tryd.underlying69
  a31 := Tryd.isAgg69
  z31 := Tryd.sizeOf69
  v31 := Tryd.zeroValue69
  t46 := Tryd.underlying111
  a46 := Tryd.isAgg111
  z46 := Tryd.sizeOf111
  v46 := Tryd.zeroValue111
  t51 := Tryd.underlying153
  a51 := Tryd.isAgg153
  z51 := Tryd.sizeOf153
  v51 := Tryd.zeroValue153
  t53 := Tryd.underlying155
  a53 := Tryd.isAgg155
  z53 := Tryd.sizeOf155
  v53 := Tryd.zeroValue155
  t131 := Tryd.underlying150
  a131 := Tryd.isAgg150
  z131 := Tryd.sizeOf150
  v131 := Tryd.zeroValue150
  t182 := Tryd.underlying145
  a182 := Tryd.isAgg145
  z182 := Tryd.sizeOf145
  v182 := Tryd.zeroValue145
  t183 := Tryd.underlying146
  a183 := Tryd.isAgg146
  z183 := Tryd.sizeOf146
  v183 := Tryd.zeroValue146
  t218 := Tryd.underlying165
  a218 := Tryd.isAgg165
  z218 := Tryd.sizeOf165
  v218 := Tryd.zeroValue165
  t222 := Tryd.underlying169
  a222 := Tryd.isAgg169
  z222 := Tryd.sizeOf169
  v222 := Tryd.zeroValue169
  t228 := Tryd.underlying172
  a228 := Tryd.isAgg172
  z228 := Tryd.sizeOf172
  v228 := Tryd.zeroValue172
  t229 := Tryd.underlying163
  a229 := Tryd.isAgg163
  z229 := Tryd.sizeOf163
  v229 := Tryd.zeroValue163 }
open Go.Sort Go.RowKit in
theorem Tryd.slices_Sort_string (blk off cap : Nat) (ss : List (List UInt8)) (w : World) (hH : Holds encStr w blk off ss.toArray) (hblk : blk < w.heap.size) (hsz : ss.length < 4611686018427387904) :
    Calls Tryd.prog 96 #[.slice (some ⟨blk, off, none⟩) ss.length cap] w fun e w' =>
      e = .returned (.tuple #[]) ∧ ∃ n os, w' = grow (putRow encStr (Sort.ahead w n) blk off (ss.mergeSort fun x y => decide (x ≤ y)).toArray) os := Any.slices_Sort_string Tryd.lays190 blk off cap ss w hH hblk hsz
open Go.RowKit Go.Sort in
theorem Tryd.slices_Sort_string_none (p : Option Addr) (cap : Nat) (w : World) :
    Calls Tryd.prog 96 #[.slice p 0 cap] w fun e w' => e = .returned (.tuple #[]) ∧ w' = w := Any.slices_Sort_string_none Tryd.lays190 p cap w
end Go.Proofs
namespace Go.Proofs.YtkklacijhmoopaaDoor.Print
open Go.RowKit Go.Proofs.YtkklacijhmoopaaDoorW.PrintWords Go.Proofs.YtkklacijhmoopaaDoorW.PrintLast Go.Proofs.YtkklacijhmoopaaDoorW.PrintMore Go.Sort
set_option linter.unusedVariables false
def sortL (l : List (List UInt8)) : List (List UInt8) := l.mergeSort fun x y => decide (x ≤ y)
def sortB (xs : List ByteArray) : List ByteArray := (sortL (xs.map (·.data.toList))).map fun l => ⟨l.toArray⟩
theorem sortB_len (xs : List ByteArray) : (sortB xs).length = xs.length := by simp [sortB, sortL]
theorem encs_str (xs : List ByteArray) : encs Value.string xs = (xs.map (·.data.toList)).map encStr := by
  unfold encs
  rw [List.map_map]
  exact List.map_congr_left fun x _ => rfl
theorem encs_sort (xs : List ByteArray) : encs Value.string (sortB xs) = (sortL (xs.map (·.data.toList))).map encStr := by
  unfold encs sortB
  rw [List.map_map]
  exact List.map_congr_left fun x _ => rfl
theorem sort_own (A : Option Addr) (c : Nat) (xs : List ByteArray) (B : Nat) (w : World) (ho : Kd.R Kd.string 9 w B (fun _ => True) (.slice A xs.length c) xs) (hB : B ≤ w.heap.size) (hle : xs.length ≤ 1000000) :
    Calls Tryd.prog 96 #[.slice A xs.length c] w fun e w' => e = .returned (.tuple #[]) ∧ Kd.R Kd.string 9 w' B (fun _ => True) (.slice A xs.length c) (sortB xs) ∧ Below B w w' := by
  have hrow := Kd.own_of_R ho
  rw [encs_str] at hrow
  have hmax := (Kd.R_reads' ho).2.2.2.1
  rcases hrow.2 with ⟨hnil, hn0⟩ | ⟨g, cap, cur, hv, hbase, hb, h1, h2, h3, h4⟩
  · have hx : xs = [] := List.eq_nil_of_length_eq_zero (by simpa using hn0)
    subst hx
    refine (Tryd.slices_Sort_string_none A c w).mono ?_
    rintro e w' ⟨he, rfl⟩
    have e0 : sortB [] = [] := by simp [sortB, sortL]
    rw [e0]
    exact ⟨he, ho, Below.refl _ _⟩
  · injection hv with hA hl hc
    subst hA; subst hc
    have hH : Holds encStr w g 0 (xs.map (·.data.toList)).toArray := holds_of_block hb (by simpa using h4)
    have hlen : xs.length = (xs.map (·.data.toList)).length := by simp
    have hcall := Tryd.slices_Sort_string g 0 c (xs.map (·.data.toList)) w hH (Array.getElem?_eq_some_iff.1 hb).1 (by rw [← hlen]; omega)
    rw [← hlen] at hcall
    refine hcall.mono ?_
    rintro e w' ⟨he, n, os, rfl⟩
    have hs := ownsRow_sorted (w := w) (n := n) (os := os) (ss := xs.map (·.data.toList)) (ts := sortL (xs.map (·.data.toList))) (by simp [sortL]) hbase hb (by rw [← hlen]; exact h1) h2 h3
    rw [← hlen, ← encs_sort] at hs
    refine ⟨he, Kd.R_of_own (by rw [sortB_len]; exact hs) (fun _ _ => trivial), ?_⟩
    exact (Below.refl B w).grown (grownBy_sorted _) hB (fun j hj => by cases hj; exact hbase)
theorem join_le {l : List ByteArray} {s r : ByteArray} (h : strings_Join.f (sortB l) s = some r) : l.length ≤ 1000000 := by
  unfold strings_Join.f at h
  by_cases c : (sortB l).length ≤ 1000000
  · rw [sortB_len] at c; exact c
  · rw [if_neg c] at h; cases h
theorem join_n (A0 : Option Addr) (c0 : Nat) (l0 : List ByteArray) (n : Nat) (hn : l0.length = n) (a1 : ByteArray) (r : ByteArray) (w : World) (hr0 : Kd.C Kd.string w A0 l0.length l0) (hc0 : l0.length ≤ c0) (h : strings_Join.f l0 a1 = some r) :
    Calls Tryd.prog 40 #[.slice A0 n c0, .string a1] w fun e w' => e = .returned (.string r) ∧ Below w.heap.size w w' := by
  subst hn
  exact strings_Join.calls A0 c0 l0 a1 r w hr0 hc0 h
theorem reads_srt {A : Option Addr} {c : Nat} {xs : List ByteArray} {B : Nat} {w : World} {ok : Nat → Prop} (h : Kd.R Kd.string 9 w B ok (.slice A xs.length c) (sortB xs)) : (sortB xs).length ≤ c ∧ Kd.C Kd.string w A (sortB xs).length (sortB xs) := by
  have h2 := Kd.R_reads' (xs := sortB xs) (n := xs.length) h
  refine ⟨?_, ?_⟩
  · rw [sortB_len]; exact h2.2.1
  · exact h2.2.2
end Go.Proofs.YtkklacijhmoopaaDoor.Print
namespace Go.Proofs.YtkklacijhmoopaaDoor.Print
open Go.RowKit Go.Proofs.YtkklacijhmoopaaDoorW.PrintWords Go.Proofs.YtkklacijhmoopaaDoorW.PrintLast Go.Proofs.YtkklacijhmoopaaDoorW.PrintMore
attribute [local go_sem] max2_int min2_int max_two min_two max_three min_three max_four min_four
set_option linter.unusedVariables false
set_option linter.unusedSimpArgs false
def dn_key.l0 : Nat → List ByteArray → List (S40) → Int → Int → Option (ByteArray)
 | 0, _, _, _, _ => none
 | k + 1, x3, x10, x11, x12 => if x12 < x11 then (if 0 ≤ x12 then (if x12 < (x10.length : Int) then ((prep_Ready.f k ((rd_T40 x10 x12).f1) true).bind fun bt781 => ((field_Tuple.f (([(rd_T40 x10 x12).f0, bt781.1] : List ByteArray))).bind fun bt786 => (if x3.length < 8796093022208 then (dn_key.l0 k (x3 ++ [bt786.1]) x10 x11 (wrap64 (x12 + 1))) else (none)))) else (none)) else (none)) else ((strings_Join.f (sortB x3) (⟨#[]⟩ : ByteArray)).bind fun t791 => (some t791))
def dn_key.f (k : Nat) (l0 : List (S40)) : Option (ByteArray) := dn_key.l0 k ([] : List ByteArray) l0 (l0.length : Int) 0
set_option maxHeartbeats 8000000 in
set_option maxRecDepth 100000 in
theorem dn_key.calls (k : Nat) (A0 : Option Addr) (c0 : Nat) (l0 : List (S40)) (r : ByteArray) (w : World) (hr0 : Kd.C k40 w A0 l0.length l0) (hc0 : l0.length ≤ c0) (hG : Gw w) (h : dn_key.f k l0 = some r) :
  Calls Tryd.prog 74 #[.slice A0 l0.length c0] w fun e w' => e = .returned (.string r) ∧ Below w.heap.size w w' := by
 have hu40 := Tryd.underlying40
 have HR0 := Aside0.mk hr0
 have HC0 := Aside0.mk hc0
 clear hr0 hc0
 have HB := Aside0.mk (Below.refl w.heap.size w)
 have HG := Aside0.mk hG
 clear hG
 have H : (dn_key.l0 k ([] : List ByteArray) l0 (l0.length : Int) 0) = some r := h
 clear h
 have H' := Aside0.mk H
 clear H
 go_enter Tryd.func74, Tryd.ntmps74
 go_wp2
 go_loopg [3, 12] k (fun kq v3 v12 w' => ∃ (x3_1 : List ByteArray) (x12_1 : Int), v12 = .int .i64 x12_1 ∧ Aside0 (dn_key.l0 kq x3_1 l0 (l0.length : Int) x12_1 = some r) ∧ Aside0 (kq ≤ k) ∧ Aside0 (Kd.R Kd.string 9 w' w.heap.size (fun _ => True) v3 x3_1) ∧ Aside0 (Below w.heap.size w w'))
 case atStart => exact ⟨(([] : List ByteArray)), (0), ap2, H', ⟨Nat.le_refl _⟩, ⟨by first | exact Kd.R_nil _ _ _ _ _ | exact Kd.N_nil _ _ _ _ _ | exact Kd.V_nil _ _ _ _ _ | exact Kd.Q_nil _ _ _ _ _ | exact Kd.S_nil _ _ _ _ _⟩, ⟨by repeat (first | (with_reducible first | exact HB.out | apply below_alloc | apply pw_below_drewN | apply below_drew1) | exact HB.out)⟩⟩
 case round =>
  clear H'
  obtain ⟨x3_1, x12_1, rfl, HA, HK1, HO_3, HB⟩ := hrel
  cases gk with
  | zero => exact absurd HA.out (by simp [dn_key.l0])
  | succ k1 =>
   have H := HA.out
   clear HA
   simp only [dn_key.l0] at H
   by_cases c2 : x12_1 < (l0.length : Int)
   ·
    rw [if_pos c2] at H
    have c2b0 := decide_eq_true c2
    clear c2
    by_cases c3 : 0 ≤ x12_1
    ·
     rw [if_pos c3] at H
     have c3b0 := decide_eq_true c3
     clear c3
     by_cases c4 : x12_1 < (l0.length : Int)
     ·
      rw [if_pos c4] at H
      have c4b0 := decide_eq_true c4
      clear c4
      replace H := Option.bind_eq_some_iff.mp H
      obtain ⟨⟨t781, t782⟩, A50, H⟩ := H
      replace H : ((field_Tuple.f (([(rd_T40 l0 x12_1).f0, t781] : List ByteArray))).bind fun bt786 => (if x3_1.length < 8796093022208 then (dn_key.l0 k1 (x3_1 ++ [bt786.1]) l0 (l0.length : Int) (wrap64 (x12_1 + 1))) else (none))) = some r := H
      have A5 := Aside0.mk A50
      clear A50
      obtain ⟨y783, hy783⟩ : ∃ y_ : List ByteArray, y_ = (([(rd_T40 l0 x12_1).f0, t781] : List ByteArray)) := ⟨_, rfl⟩
      replace H : ((field_Tuple.f y783).bind fun bt786 => (if x3_1.length < 8796093022208 then (dn_key.l0 k1 (x3_1 ++ [bt786.1]) l0 (l0.length : Int) (wrap64 (x12_1 + 1))) else (none))) = some r := by first | (rw [hy783]; with_reducible exact H) | (have H2_ := (Option.bind_some _ _).symm.trans H; rw [hy783]; with_reducible exact H2_) | (have H2_ := (Option.bind_some _ _).symm.trans H; with_reducible exact H2_) | with_reducible exact H | (rw [hy783]; exact H) | exact H
      have Ny783 := Aside0.mk hy783
      clear hy783
      replace H := Option.bind_eq_some_iff.mp H
      obtain ⟨⟨t786, t787⟩, A60, H⟩ := H
      replace H : (if x3_1.length < 8796093022208 then (dn_key.l0 k1 (x3_1 ++ [t786]) l0 (l0.length : Int) (wrap64 (x12_1 + 1))) else (none)) = some r := H
      have A6 := Aside0.mk A60
      clear A60
      by_cases c7 : x3_1.length < 8796093022208
      ·
       rw [if_pos c7] at H
       have LMc7 := Aside0.mk c7
       clear c7
       obtain ⟨y788, hy788⟩ : ∃ y_ : List ByteArray, y_ = (x3_1 ++ [t786]) := ⟨_, rfl⟩
       replace H : (dn_key.l0 k1 y788 l0 (l0.length : Int) (wrap64 (x12_1 + 1))) = some r := by first | (rw [hy788]; with_reducible exact H) | (have H2_ := (Option.bind_some _ _).symm.trans H; rw [hy788]; with_reducible exact H2_) | (have H2_ := (Option.bind_some _ _).symm.trans H; with_reducible exact H2_) | with_reducible exact H | (rw [hy788]; exact H) | exact H
       have Ny788 := Aside0.mk hy788
       clear hy788
       have H' := Aside0.mk H
       clear H
       have p779 : 0 ≤ (x12_1 : Int) := of_decide_eq_true ap0
       have q779 : x12_1 < (l0.length : Int) := of_decide_eq_true ap0
       obtain ⟨ad779, e779, hx779_0, hx779_1⟩ := at_T40 HR0.out x12_1 p779 q779
       cases e779
       replace hx779_0 := (HB.out.cell (World.block_lt_of_cell? w _ hx779_0)).trans hx779_0
       replace hx779_1 := (HB.out.cell (World.block_lt_of_cell? w _ hx779_1)).trans hx779_1
       replace p779 := eq_true p779
       replace q779 := eq_true q779
       go_wp2_with (first | ((with_reducible refine gate_dst (N := 5) rfl ?_); refine box_event ?hg (N := 5) ?hd (cs := #[.string (⟨#[]⟩ : ByteArray), .string (⟨#[]⟩ : ByteArray)]) (t := 40) ?hr ?_; (case hd => rfl); (case hg => rfl); (case hr => first | (go_simp; done) | (go_simp; rfl)); intro gb780 hg w8 hbox hb; have n0_ := Aside0.mk (Kd.R_below (apAR HO_3.out) hb); have n1_ := Aside0.mk (below_step ap1 hb); have n2_ := Aside0.mk (hbox); have n3_ := Aside0.mk ((by rw [hg]; exact (below_size ap1) : w.heap.size ≤ gb780)); have n4_ := Aside0.mk ((by rw [hg]; exact (below_size ap1) : w.heap.size ≤ gb780)); clear HO_3; clear HB; have HO_3 := n0_; have HB := n1_; have BK780 := n2_; have GW780 := n3_; have GE780 := n4_; clear n0_ n1_ n2_ n3_ n4_; clear hb hbox hg; have hcz9_0 : w8.cell? ⟨gb780, 0, none⟩ = some (.string (⟨#[]⟩ : ByteArray)) := (blk_cell BK780.out 0).trans rfl; have hcz9_1 : w8.cell? ⟨gb780, 1, none⟩ = some (.string (⟨#[]⟩ : ByteArray)) := (blk_cell BK780.out 1).trans rfl; have hfz9_0 := blk_frozen BK780.out 0; have hfz9_1 := blk_frozen BK780.out 1) | ((with_reducible refine gate_callee (f := 93) rfl ?_); refine goesL_ (some 19) rfl rfl Tryd.func93 (by kernel_rfl) rfl #[.string ((rd_T40 l0 x12_1).f1), .bool true] rfl ap3 ?_; (with_reducible refine (prep_Ready.calls k1 ((rd_T40 l0 x12_1).f1) true t781 t782 _ ?side1 A5.out).mono ?_); (case side1 => first | exact HG.out | (refine Gw.below HG.out ?_; repeat (first | (with_reducible first | exact HB.out | apply below_alloc | apply pw_below_drewN | apply below_drew1 | refine below_set ?_ GE780.out) | exact HB.out))); rintro e w10 ⟨rfl, hb⟩; refine ⟨_, rfl, ?_⟩; have n0_ := Aside0.mk (Kd.R_below (by (with_reducible repeat (first | apply Kd.R_alloc | apply Kd.R_drewN | apply Kd.R_drew)); exact (Kd.R_mono (Kd.R_far (p := ⟨gb780, 1, none⟩) (Kd.R_far (p := ⟨gb780, 0, none⟩) (Kd.R_types HO_3.out BK780.out (by decide)) (fun _ hk => hk.2) (.string ((rd_T40 l0 x12_1).f0))) (fun _ hk => hk.2) (.string ((rd_T40 l0 x12_1).f1))) (fun _ h_ => h_.1))) hb); have n1_ := Aside0.mk (blk_below (g := gb780) (o := .cells #[.string ((rd_T40 l0 x12_1).f0), .string ((rd_T40 l0 x12_1).f1)] 40 (0, 0)) (by (with_reducible repeat (first | refine blk_drewN ?_ _ | refine blk_drew ?_ | refine blk_alloc ?_ _)); refine blk_put (cs := #[.string ((rd_T40 l0 x12_1).f0), .string (⟨#[]⟩ : ByteArray)]) ?_ 1 _ rfl; (with_reducible repeat (first | refine blk_drewN ?_ _ | refine blk_drew ?_ | refine blk_alloc ?_ _)); refine blk_put (cs := #[.string (⟨#[]⟩ : ByteArray), .string (⟨#[]⟩ : ByteArray)]) ?_ 0 _ rfl; (with_reducible repeat (first | refine blk_drewN ?_ _ | refine blk_drew ?_ | refine blk_alloc ?_ _)); exact BK780.out) hb); have n2_ := Aside0.mk (below_step (apG GE780.out) hb); clear HO_3; clear BK780; clear HB; have HO_3 := n0_; have BK780 := n1_; have HB := n2_; clear n0_ n1_ n2_; (try clear hb); (try clear hb2); (try clear hk); (try clear hi); have hcz11_0 : w10.cell? ⟨gb780, 0, none⟩ = some (.string ((rd_T40 l0 x12_1).f0)) := (blk_cell BK780.out 0).trans rfl; have hcz11_1 : w10.cell? ⟨gb780, 1, none⟩ = some (.string ((rd_T40 l0 x12_1).f1)) := (blk_cell BK780.out 1).trans rfl; have hfz11_0 := blk_frozen BK780.out 0; have hfz11_1 := blk_frozen BK780.out 1) | ((with_reducible refine gate_dst (N := 26) rfl ?_); refine Kd.R_lit Kd.string _ 9 ?hg (N := 26) ?hd (xs := ([(rd_T40 l0 x12_1).f0, t781] : List ByteArray)) (inner := [.string ((rd_T40 l0 x12_1).f0), .string t781]) (ok := fun _ => True) (okp := fun _ => True) ?hr ?hp (fun _ hk => hk) trivial (Below.refl _ _) (Nat.le_refl _) (by simp) ?_; (case hd => rfl); (case hg => rfl); (case hr => first | (go_simp; done) | (go_simp; rfl)); (case hp => exact (Reps.one (show Kd.M Kd.string _ _ _ ((rd_T40 l0 x12_1).f0) [.string ((rd_T40 l0 x12_1).f0)] from rfl) (Reps.one (show Kd.M Kd.string _ _ _ t781 [.string t781] from rfl) (Reps.none _ _)))); intro v784 w12 ho13 hb hg_ hnew_; clear hg_ hnew_; (first | rw [← Ny783.out] at ho13 | (simp only [Int.reduceToNat] at ho13; rw [← Ny783.out] at ho13)); have n0_ := Aside0.mk (Kd.R_elder' (apAR HO_3.out) (Kd.R_base ho13) hb); have n1_ := Aside0.mk (Kd.R_lower (Kd.R_new' ho13 (Kd.R_lt (apAR HO_3.out))) (below_size (apG GE780.out))); have n2_ := Aside0.mk (blk_below (g := gb780) (o := .cells #[.string ((rd_T40 l0 x12_1).f0), .string ((rd_T40 l0 x12_1).f1)] 40 (0, 0)) (apB BK780.out) hb); have n3_ := Aside0.mk (below_step (apG GE780.out) hb); clear HO_3; clear BK780; clear HB; have HO_3 := n0_; have HO785 := n1_; have BK780 := n2_; have HB := n3_; clear n0_ n1_ n2_ n3_; clear hb ho13; obtain ⟨Ao14, co14, eo14⟩ := Kd.R_slice HO785.out; subst eo14) | ((with_reducible refine gate_callee (f := 95) rfl ?_); refine goesL_ (some 27) rfl rfl Tryd.func95 (by kernel_rfl) rfl #[.slice Ao14 y783.length co14] rfl ap3 ?_; (with_reducible refine (field_Tuple.calls _ _ y783 t786 t787 _ ?side1 ?side2 ?side3 A6.out).mono ?_); (case side1 => repeat (first | exact (Kd.R_reads' HO785.out).2.2 | (with_reducible refine Kd.C_alloc ?_ _) | (with_reducible refine Kd.C_drewN ?_ _) | (with_reducible refine Kd.C_drew ?_))); (case side2 => exact (Kd.R_reads' HO785.out).2.1); (case side3 => first | exact HG.out | (refine Gw.below HG.out ?_; repeat (first | (with_reducible first | exact HB.out | apply below_alloc | apply pw_below_drewN | apply below_drew1 | refine below_set ?_ GE780.out) | exact HB.out))); rintro e w15 ⟨rfl, hb⟩; refine ⟨_, rfl, ?_⟩; have n0_ := Aside0.mk (Kd.R_below (apAR HO_3.out) hb); have n1_ := Aside0.mk (Kd.R_below (apAR HO785.out) hb); have n2_ := Aside0.mk (blk_below (g := gb780) (o := .cells #[.string ((rd_T40 l0 x12_1).f0), .string ((rd_T40 l0 x12_1).f1)] 40 (0, 0)) (apB BK780.out) hb); have n3_ := Aside0.mk (below_step (apG GE780.out) hb); clear HO_3; clear HO785; clear BK780; clear HB; have HO_3 := n0_; have HO785 := n1_; have BK780 := n2_; have HB := n3_; clear n0_ n1_ n2_ n3_; (try clear hb); (try clear hb2); (try clear hk); (try clear hi)) | ((with_reducible refine gate_builtin (b := .append) (xs := #[.tmp 30, .tmp 32]) rfl ?_); at_builtin; refine Kd.R_append Kd.string (w0 := w) w.heap.size rfl (.tmp 30) (.tmp 32) 69 9 (.string ⟨#[]⟩) 16 rfl Tryd.underlying69 info9 rfl (by decide) (by omega) u3 x3_1 t786 [.string t786] (fun k_ => some k_ ≠ (.slice Ao14 y783.length co14 : Value).ownBlock) (fun _ => False) rfl rfl ?aP (fun _ hk => hk.elim) ?aF ?aO ?aB ?aS ?aL ?_; (case aP => exact rfl); (case aB => exact (apG GE780.out)); (case aF => exact (fun k_ hk => Kd.fresh' (Kd.R_lt (apAR HO785.out)) k_ hk)); (case aO => exact (by (with_reducible repeat (first | apply Kd.R_alloc | apply Kd.R_drewN | apply Kd.R_drew)); exact Kd.R_mono HO_3.out (fun _ hk => hk.2))); (case aS => exact (below_size (apG GE780.out))); (case aL => have := LMc7.out; omega); intro v789 w16 ho hb hg hat; rw [← Ny788.out] at ho; have n0_ := Aside0.mk (blk_grown (g := gb780) (o := .cells #[.string ((rd_T40 l0 x12_1).f0), .string ((rd_T40 l0 x12_1).f1)] 40 (0, 0)) (apB BK780.out) hg (Kd.R_ne HO_3.out BK780.out (by decide))); have n1_ := Aside0.mk (Kd.R_after (ok := (fun _ => True)) (apAR HO785.out) hg hat); have n2_ := Aside0.mk (hb); have n3_ := Aside0.mk (ho); clear BK780; clear HO785; clear HB; clear HO_3; have BK780 := n0_; have HO785 := n1_; have HB := n2_; have HO790 := n3_; clear n0_ n1_ n2_ n3_; clear ho hb hg hat))
       go_roundg k1
       case measure => have := HK1.out; omega
       case rel => exact ⟨(y788), (wrap64 (x12_1 + 1)), ap2, H', ⟨by have := HK1.out; omega⟩, ⟨by (with_reducible repeat (first | apply Kd.R_alloc | apply Kd.R_drewN | apply Kd.R_drew)); exact Kd.R_mono HO790.out (fun _ hk => trivial)⟩, ⟨by repeat (first | (with_reducible first | exact HB.out | apply below_alloc | apply pw_below_drewN | apply below_drew1 | refine below_set ?_ GE780.out) | exact HB.out)⟩⟩
      ·
       rw [if_neg c7] at H
       exact absurd H (by simp)
     ·
      rw [if_neg c4] at H
      exact absurd H (by simp)
    ·
     rw [if_neg c3] at H
     exact absurd H (by simp)
   ·
    rw [if_neg c2] at H
    have c2b0 := decide_eq_false c2
    clear c2
    replace H := Option.bind_eq_some_iff.mp H
    obtain ⟨t791, A170, H⟩ := H
    replace H : (some t791) = some r := H
    have A17 := Aside0.mk A170
    clear A170
    obtain rfl := Option.some.inj H
    have JL := Aside0.mk A17.out
    obtain ⟨Ao18, co18, eo18⟩ := Kd.R_slice HO_3.out
    subst eo18
    go_wp2_with (first | ((with_reducible refine gate_callee (f := 96) rfl ?_); refine goesL_ (some 36) rfl rfl Tryd.func96 (by kernel_rfl) rfl #[.slice Ao18 x3_1.length co18] rfl ap3 ?_; (with_reducible refine (sort_own Ao18 co18 x3_1 w.heap.size _ ?sa ?sb ?sc).mono ?_); (case sa => exact (apAR HO_3.out)); (case sb => exact (below_size ap1)); (case sc => exact join_le JL.out); rintro e w90 ⟨rfl, ho0, hb⟩; refine ⟨_, rfl, ?_⟩; have n0_ := Aside0.mk ho0; have n1_ := Aside0.mk (Below.trans ap1 hb); clear HO_3; clear HB; have HO_3 := n0_; have HB := n1_; clear n0_ n1_; clear hb ho0) | ((with_reducible refine gate_callee (f := 40) rfl ?_); refine goesL_ (some 38) rfl rfl Tryd.func40 (by kernel_rfl) rfl #[.slice Ao18 x3_1.length co18, .string (⟨#[]⟩ : ByteArray)] rfl ap3 ?_; (with_reducible refine (join_n _ _ (sortB x3_1) x3_1.length (sortB_len _) (⟨#[]⟩ : ByteArray) t791 _ ?side1 ?side2 A17.out).mono ?_); (case side1 => repeat (first | exact (reads_srt HO_3.out).2 | (with_reducible refine Kd.C_alloc ?_ _) | (with_reducible refine Kd.C_drewN ?_ _) | (with_reducible refine Kd.C_drew ?_))); (case side2 => exact (reads_srt HO_3.out).1); rintro e w19 ⟨rfl, hb⟩; refine ⟨_, rfl, ?_⟩; have n0_ := Aside0.mk (Kd.R_below (apAR HO_3.out) hb); have n1_ := Aside0.mk (below_step ap1 hb); clear HO_3; clear HB; have HO_3 := n0_; have HB := n1_; clear n0_ n1_; (try clear hb); (try clear hb2); (try clear hk); (try clear hi)))
    go_ret
    exact ⟨by first | rfl | (simp [errW_none, errW_some, bne_nil8, beq_nil8]; done) | (simp [errW_none, errW_some] <;> rfl) | (simp [*, errW_none, errW_some] <;> rfl), by repeat (first | (with_reducible first | exact HB.out | apply below_alloc | apply pw_below_drewN | apply below_drew1) | exact HB.out)⟩
def dn_Keys.l0 : Nat → List (List (S40)) → List ByteArray → Int → Int → Option (List ByteArray × Int)
 | 0, _, _, _, _ => none
 | k + 1, x0, x4, x10, x11 => if x11 < x10 then (if 0 ≤ (wrap64 ((wrap64 ((x0.length : Int) - 1)) - x11)) then (if (wrap64 ((wrap64 ((x0.length : Int) - 1)) - x11)) < (x0.length : Int) then ((dn_key.f k (rd_L7 x0 (wrap64 ((wrap64 ((x0.length : Int) - 1)) - x11)))).bind fun t794 => (if x4.length < 8796093022208 then (dn_Keys.l0 k x0 (x4 ++ [t794]) x10 (wrap64 (x11 + 1))) else (none))) else (none)) else (none)) else (some (x4, 0))
def dn_Keys.f (k : Nat) (l0 : List (List (S40))) : Option (List ByteArray × Int) := (dn_Right.f k l0).bind fun t792 => (if t792 = true then (dn_Keys.l0 k l0 ([] : List ByteArray) (l0.length : Int) 0) else (some (([] : List ByteArray), 4)))
set_option maxHeartbeats 8000000 in
set_option maxRecDepth 100000 in
theorem dn_Keys.calls (k : Nat) (A0 : Option Addr) (c0 : Nat) (l0 : List (List (S40))) (r1 : List ByteArray) (r2 : Int) (w : World) (hr0 : Kd.C (Kd.slice 40 k40) w A0 l0.length l0) (hc0 : l0.length ≤ c0) (hG : Gw w) (h : dn_Keys.f k l0 = some (r1, r2)) :
  Calls Tryd.prog 45 #[.slice A0 l0.length c0] w fun e w' => ∃ v0_ : Value, e = .returned (.tuple #[v0_, .int .i64 r2]) ∧ Kd.R Kd.string 9 w' w.heap.size (fun _ => True) v0_ r1 ∧ Below w.heap.size w w' := by
 have HR0 := Aside0.mk hr0
 have HC0 := Aside0.mk hc0
 clear hr0 hc0
 have HB := Aside0.mk (Below.refl w.heap.size w)
 have HG := Aside0.mk hG
 clear hG
 have H : ((dn_Right.f k l0).bind fun t792 => (if t792 = true then (dn_Keys.l0 k l0 ([] : List ByteArray) (l0.length : Int) 0) else (some (([] : List ByteArray), 4)))) = some (r1, r2) := h
 clear h
 replace H := Option.bind_eq_some_iff.mp H
 obtain ⟨t792, A20, H⟩ := H
 replace H : (if t792 = true then (dn_Keys.l0 k l0 ([] : List ByteArray) (l0.length : Int) 0) else (some (([] : List ByteArray), 4))) = some (r1, r2) := H
 have A2 := Aside0.mk A20
 clear A20
 by_cases c3 : t792 = true
 ·
  subst c3
  rw [if_pos rfl] at H
  have H' := Aside0.mk H
  clear H
  go_enter Tryd.func45, Tryd.ntmps45
  go_wp2_with (first | ((with_reducible refine gate_callee (f := 18) rfl ?_); refine goesL_ (some 7) rfl rfl Tryd.func18 (by kernel_rfl) rfl #[.slice A0 l0.length c0] rfl ap3 ?_; (with_reducible refine (dn_Right.calls k _ _ l0 true _ ?side1 ?side2 ?side3 A2.out).mono ?_); (case side1 => repeat (first | exact HR0.out | (with_reducible refine Kd.C_alloc ?_ _) | (with_reducible refine Kd.C_drewN ?_ _) | (with_reducible refine Kd.C_drew ?_))); (case side2 => exact HC0.out); (case side3 => exact ap6); rintro e w4 ⟨rfl, hb⟩; refine ⟨_, rfl, ?_⟩; have n0_ := Aside0.mk (below_step ap1 hb); clear HB; have HB := n0_; clear n0_; (try clear hb); (try clear hb2); (try clear hk); (try clear hi)))
  go_loopg [4, 11] k (fun kq v4 v11 w' => ∃ (x4_1 : List ByteArray) (x11_1 : Int), v11 = .int .i64 x11_1 ∧ Aside0 (dn_Keys.l0 kq l0 x4_1 (l0.length : Int) x11_1 = some (r1, r2)) ∧ Aside0 (kq ≤ k) ∧ Aside0 (Kd.R Kd.string 9 w' w.heap.size (fun _ => True) v4 x4_1) ∧ Aside0 (Below w.heap.size w w'))
  case atStart => exact ⟨(([] : List ByteArray)), (0), ap2, H', ⟨Nat.le_refl _⟩, ⟨by first | exact Kd.R_nil _ _ _ _ _ | exact Kd.N_nil _ _ _ _ _ | exact Kd.V_nil _ _ _ _ _ | exact Kd.Q_nil _ _ _ _ _ | exact Kd.S_nil _ _ _ _ _⟩, ⟨by repeat (first | (with_reducible first | exact HB.out | apply below_alloc | apply pw_below_drewN | apply below_drew1) | exact HB.out)⟩⟩
  case round =>
   clear H'
   try clear c1
   try clear p2
   try clear c3
   try clear c4
   obtain ⟨x4_1, x11_1, rfl, HA, HK1, HO_4, HB⟩ := hrel
   cases gk with
   | zero => exact absurd HA.out (by simp [dn_Keys.l0])
   | succ k1 =>
    have H := HA.out
    clear HA
    simp only [dn_Keys.l0] at H
    by_cases c5 : x11_1 < (l0.length : Int)
    ·
     rw [if_pos c5] at H
     have c5b0 := decide_eq_true c5
     clear c5
     obtain ⟨ji6, hji6⟩ : ∃ j_ : Int, (wrap64 ((wrap64 ((l0.length : Int) - 1)) - x11_1)) = j_ := ⟨_, rfl⟩
     replace H : (if 0 ≤ (ji6) then (if (ji6) < (l0.length : Int) then ((dn_key.f k1 (rd_L7 l0 (ji6))).bind fun t794 => (if x4_1.length < 8796093022208 then (dn_Keys.l0 k1 l0 (x4_1 ++ [t794]) (l0.length : Int) (wrap64 (x11_1 + 1))) else (none))) else (none)) else (none)) = some (r1, r2) := by first | (rw [hji6] at H; exact H) | (simp only [hji6] at H ⊢; exact H)
     have hji6w : (IntKind.i64.wrap ((wrap64 ((l0.length : Int) - 1)) - x11_1)) = ji6 := (i64_w _).trans hji6
     by_cases c7 : 0 ≤ (ji6)
     ·
      rw [if_pos c7] at H
      have c7b0 := decide_eq_true c7
      clear c7
      by_cases c8 : (ji6) < (l0.length : Int)
      ·
       rw [if_pos c8] at H
       have c8b0 := decide_eq_true c8
       clear c8
       replace H := Option.bind_eq_some_iff.mp H
       obtain ⟨t794, A90, H⟩ := H
       replace H : (if x4_1.length < 8796093022208 then (dn_Keys.l0 k1 l0 (x4_1 ++ [t794]) (l0.length : Int) (wrap64 (x11_1 + 1))) else (none)) = some (r1, r2) := H
       have A9 := Aside0.mk A90
       clear A90
       by_cases c10 : x4_1.length < 8796093022208
       ·
        rw [if_pos c10] at H
        have LMc10 := Aside0.mk c10
        clear c10
        obtain ⟨y795, hy795⟩ : ∃ y_ : List ByteArray, y_ = (x4_1 ++ [t794]) := ⟨_, rfl⟩
        replace H : (dn_Keys.l0 k1 l0 y795 (l0.length : Int) (wrap64 (x11_1 + 1))) = some (r1, r2) := by first | (rw [hy795]; with_reducible exact H) | (have H2_ := (Option.bind_some _ _).symm.trans H; rw [hy795]; with_reducible exact H2_) | (have H2_ := (Option.bind_some _ _).symm.trans H; with_reducible exact H2_) | with_reducible exact H | (rw [hy795]; exact H) | exact H
        have Ny795 := Aside0.mk hy795
        clear hy795
        have H' := Aside0.mk H
        clear H
        have p793 : 0 ≤ ((ji6) : Int) := of_decide_eq_true ap0
        have q793 : (ji6) < (l0.length : Int) := of_decide_eq_true ap0
        obtain ⟨ad793, A793_0, c793_0, e793, hx793_0, hl793_0, hi793_0⟩ := at_L7 HR0.out (ji6) p793 q793
        cases e793
        replace hx793_0 := (HB.out.cell (World.block_lt_of_cell? w _ hx793_0)).trans hx793_0
        have HR793_0 := Aside0.mk hi793_0
        have HC793_0 := Aside0.mk hl793_0
        clear hi793_0 hl793_0
        replace p793 := eq_true p793
        replace q793 := eq_true q793
        go_wp2_with (first | ((with_reducible refine gate_callee (f := 74) rfl ?_); refine goesL_ (some 23) rfl rfl Tryd.func74 (by kernel_rfl) rfl #[.slice A793_0 (rd_L7 l0 (ji6)).length c793_0] rfl (by (try simp only [List.map_toArray, List.map_cons, List.map_nil]); first | done | (simp only [hji6]; rfl) | rfl | (simp only [List.length_drop, List.length_take]; rfl)) ?_; (with_reducible refine (dn_key.calls k1 _ _ (rd_L7 l0 (ji6)) t794 _ ?side1 ?side2 ?side3 A9.out).mono ?_); (case side1 => repeat (first | exact (Kd.C_below HR793_0.out HB.out) | (with_reducible refine Kd.C_alloc ?_ _) | (with_reducible refine Kd.C_drewN ?_ _) | (with_reducible refine Kd.C_drew ?_))); (case side2 => exact HC793_0.out); (case side3 => exact ap6); rintro e w11 ⟨rfl, hb⟩; refine ⟨_, rfl, ?_⟩; have n0_ := Aside0.mk (Kd.R_below (apAR HO_4.out) hb); have n1_ := Aside0.mk (below_step ap1 hb); clear HO_4; clear HB; have HO_4 := n0_; have HB := n1_; clear n0_ n1_; (try clear hb); (try clear hb2); (try clear hk); (try clear hi)) | ((with_reducible refine gate_builtin (b := .append) (xs := #[.tmp 14, .tmp 24]) rfl ?_); at_builtin; refine Kd.R_append Kd.string (w0 := w) w.heap.size rfl (.tmp 14) (.tmp 24) 69 9 (.string ⟨#[]⟩) 16 rfl Tryd.underlying69 info9 rfl (by decide) (by omega) u4 x4_1 t794 [.string t794] (fun _ => True) (fun _ => False) rfl rfl ?aP (fun _ hk => hk.elim) ?aF ?aO ?aB ?aS ?aL ?_; (case aP => exact rfl); (case aB => exact ap1); (case aF => exact (fun _ _ => trivial)); (case aO => exact (apAR HO_4.out)); (case aS => exact (below_size ap1)); (case aL => have := LMc10.out; omega); intro v796 w12 ho hb hg hat; rw [← Ny795.out] at ho; have n0_ := Aside0.mk (hb); have n1_ := Aside0.mk (ho); clear HB; clear HO_4; have HB := n0_; have HO797 := n1_; clear n0_ n1_; clear ho hb hg hat))
        go_roundg k1
        case measure => have := HK1.out; omega
        case rel => exact ⟨(y795), (wrap64 (x11_1 + 1)), ap2, H', ⟨by have := HK1.out; omega⟩, ⟨by (with_reducible repeat (first | apply Kd.R_alloc | apply Kd.R_drewN | apply Kd.R_drew)); exact HO797.out⟩, ⟨by repeat (first | (with_reducible first | exact HB.out | apply below_alloc | apply pw_below_drewN | apply below_drew1) | exact HB.out)⟩⟩
       ·
        rw [if_neg c10] at H
        exact absurd H (by simp)
      ·
       rw [if_neg c8] at H
       exact absurd H (by simp)
     ·
      rw [if_neg c7] at H
      exact absurd H (by simp)
    ·
     rw [if_neg c5] at H
     have c5b0 := decide_eq_false c5
     clear c5
     simp only [Option.some.injEq, Prod.mk.injEq] at H
     obtain ⟨rfl, rfl⟩ := H
     go_wp2
     go_ret2
     exact ⟨_, by first | rfl | (simp [errW_none, errW_some, bne_nil8, beq_nil8]; done) | (simp [errW_none, errW_some] <;> rfl) | (simp [*, errW_none, errW_some] <;> rfl), by (with_reducible repeat (first | apply Kd.R_alloc | apply Kd.R_drewN | apply Kd.R_drew)); exact HO_4.out, by repeat (first | (with_reducible first | exact HB.out | apply below_alloc | apply pw_below_drewN | apply below_drew1) | exact HB.out)⟩
 ·
  replace c3 := Bool.eq_false_iff.mpr c3
  subst c3
  rw [if_neg (show ¬ (false = true) by decide)] at H
  simp only [Option.some.injEq, Prod.mk.injEq] at H
  obtain ⟨rfl, rfl⟩ := H
  go_enter Tryd.func45, Tryd.ntmps45
  go_wp2_with (first | ((with_reducible refine gate_callee (f := 18) rfl ?_); refine goesL_ (some 7) rfl rfl Tryd.func18 (by kernel_rfl) rfl #[.slice A0 l0.length c0] rfl ap3 ?_; (with_reducible refine (dn_Right.calls k _ _ l0 false _ ?side1 ?side2 ?side3 A2.out).mono ?_); (case side1 => repeat (first | exact HR0.out | (with_reducible refine Kd.C_alloc ?_ _) | (with_reducible refine Kd.C_drewN ?_ _) | (with_reducible refine Kd.C_drew ?_))); (case side2 => exact HC0.out); (case side3 => exact ap6); rintro e w13 ⟨rfl, hb⟩; refine ⟨_, rfl, ?_⟩; have n0_ := Aside0.mk (below_step ap1 hb); clear HB; have HB := n0_; clear n0_; (try clear hb); (try clear hb2); (try clear hk); (try clear hi)))
  go_ret2
  exact ⟨_, by first | rfl | (simp [errW_none, errW_some, bne_nil8, beq_nil8]; done) | (simp [errW_none, errW_some] <;> rfl) | (simp [*, errW_none, errW_some] <;> rfl), by first | exact Kd.R_nil _ _ _ _ _ | exact Kd.N_nil _ _ _ _ _ | exact Kd.V_nil _ _ _ _ _ | exact Kd.Q_nil _ _ _ _ _ | exact Kd.S_nil _ _ _ _ _, by repeat (first | (with_reducible first | exact HB.out | apply below_alloc | apply pw_below_drewN | apply below_drew1) | exact HB.out)⟩
def slices_Equal_string_string.l0 : Nat → List ByteArray → List ByteArray → Int → Int → Option (Bool)
 | 0, _, _, _, _ => none
 | k + 1, x0, x1, x12, x13 => if x13 < x12 then (if 0 ≤ x13 then (if x13 < (x0.length : Int) then (if x13 < (x1.length : Int) then (if (rdOf ByteArray.empty x0 x13).toList = (rdOf ByteArray.empty x1 x13).toList then (slices_Equal_string_string.l0 k x0 x1 x12 (wrap64 (x13 + 1))) else (some false)) else (none)) else (none)) else (none)) else (some true)
def slices_Equal_string_string.f (k : Nat) (l0 : List ByteArray) (l1 : List ByteArray) : Option (Bool) := if (l0.length : Int) = (l1.length : Int) then (slices_Equal_string_string.l0 k l0 l1 (l0.length : Int) 0) else (some false)
set_option maxHeartbeats 8000000 in
set_option maxRecDepth 100000 in
theorem slices_Equal_string_string.calls (k : Nat) (A0 : Option Addr) (c0 : Nat) (l0 : List ByteArray) (A1 : Option Addr) (c1 : Nat) (l1 : List ByteArray) (r : Bool) (w : World) (hr0 : Kd.C Kd.string w A0 l0.length l0) (hc0 : l0.length ≤ c0) (hr1 : Kd.C Kd.string w A1 l1.length l1) (hc1 : l1.length ≤ c1) (h : slices_Equal_string_string.f k l0 l1 = some r) :
  Calls Tryd.prog 46 #[.slice A0 l0.length c0, .slice A1 l1.length c1] w fun e w' => e = .returned (.bool r) ∧ Drawn0 w w' := by
 have HR0 := Aside0.mk hr0
 have HC0 := Aside0.mk hc0
 clear hr0 hc0
 have HR1 := Aside0.mk hr1
 have HC1 := Aside0.mk hc1
 clear hr1 hc1
 have H : (if (l0.length : Int) = (l1.length : Int) then (slices_Equal_string_string.l0 k l0 l1 (l0.length : Int) 0) else (some false)) = some r := h
 clear h
 by_cases c3 : (l0.length : Int) = (l1.length : Int)
 ·
  rw [if_pos c3] at H
  have c3b0 : ((l0.length : Int) == (l1.length : Int)) = true := beq_iff_eq.mpr c3
  have c3b1 : ((l0.length : Int) != (l1.length : Int)) = false := bne_eq_false_iff_eq.mpr c3
  have c3b2 : (l0.length == l1.length) = true := by first | simpa using c3 | (simp at c3 ⊢; omega)
  clear c3
  have H' := Aside0.mk H
  clear H
  go_enter Tryd.func46, Tryd.ntmps46
  go_wp2
  repeat (go_quiet (fail); try go_wp2)
  go_loopg [13] k (fun kq v13 w' => ∃ (x13_1 : Int), v13 = .int .i64 x13_1 ∧ Aside0 (slices_Equal_string_string.l0 kq l0 l1 (l0.length : Int) x13_1 = some r) ∧ Aside0 (kq ≤ k) ∧ Drawn0 w w')
  case atStart => exact ⟨(0), ap2, H', ⟨Nat.le_refl _⟩, by repeat (first | exact Drawn0.refl _ | apply Drawn0.step)⟩
  case round =>
   clear H'
   try clear c1
   try clear p2
   try clear c3
   try clear c3b0
   try clear c3b1
   try clear c3b2
   obtain ⟨x13_1, rfl, HA, HK1, ⟨m1, rfl⟩⟩ := hrel
   cases gk with
   | zero => exact absurd HA.out (by simp [slices_Equal_string_string.l0])
   | succ k1 =>
    have H := HA.out
    clear HA
    simp only [slices_Equal_string_string.l0] at H
    by_cases c4 : x13_1 < (l0.length : Int)
    ·
     rw [if_pos c4] at H
     have c4b0 := decide_eq_true c4
     clear c4
     by_cases c5 : 0 ≤ x13_1
     ·
      rw [if_pos c5] at H
      have c5b0 := decide_eq_true c5
      clear c5
      by_cases c6 : x13_1 < (l0.length : Int)
      ·
       rw [if_pos c6] at H
       have c6b0 := decide_eq_true c6
       clear c6
       by_cases c7 : x13_1 < (l1.length : Int)
       ·
        rw [if_pos c7] at H
        have c7b0 := decide_eq_true c7
        clear c7
        by_cases c8 : (rdOf ByteArray.empty l0 x13_1).toList = (rdOf ByteArray.empty l1 x13_1).toList
        ·
         rw [if_pos c8] at H
         have c8b0 : ((rdOf ByteArray.empty l0 x13_1).toList == (rdOf ByteArray.empty l1 x13_1).toList) = true := beq_iff_eq.mpr c8
         have c8b1 : ((rdOf ByteArray.empty l0 x13_1).toList != (rdOf ByteArray.empty l1 x13_1).toList) = false := bne_eq_false_iff_eq.mpr c8
         clear c8
         have H' := Aside0.mk H
         clear H
         have p798 : 0 ≤ (x13_1 : Int) := of_decide_eq_true ap0
         have q798 : x13_1 < (l0.length : Int) := of_decide_eq_true ap0
         obtain ⟨ad798, e798, hx798_0⟩ := Kd.at_string HR0.out x13_1 p798 q798
         cases e798
         replace p798 := eq_true p798
         replace q798 := eq_true q798
         have p799 : 0 ≤ (x13_1 : Int) := of_decide_eq_true ap0
         have q799 : x13_1 < (l1.length : Int) := of_decide_eq_true ap0
         obtain ⟨ad799, e799, hx799_0⟩ := Kd.at_string HR1.out x13_1 p799 q799
         cases e799
         replace p799 := eq_true p799
         replace q799 := eq_true q799
         go_wp2
         repeat (go_quiet (fail); try go_wp2)
         go_roundg k1
         case measure => have := HK1.out; omega
         case rel => exact ⟨(wrap64 (x13_1 + 1)), ap2, H', ⟨by have := HK1.out; omega⟩, by repeat (first | exact Drawn0.refl _ | apply Drawn0.step)⟩
        ·
         rw [if_neg c8] at H
         have c8b0 : ((rdOf ByteArray.empty l0 x13_1).toList == (rdOf ByteArray.empty l1 x13_1).toList) = false := beq_eq_false_iff_ne.mpr c8
         have c8b1 : ((rdOf ByteArray.empty l0 x13_1).toList != (rdOf ByteArray.empty l1 x13_1).toList) = true := bne_iff_ne.mpr c8
         obtain rfl := Option.some.inj H
         have p798 : 0 ≤ (x13_1 : Int) := of_decide_eq_true ap0
         have q798 : x13_1 < (l0.length : Int) := of_decide_eq_true ap0
         obtain ⟨ad798, e798, hx798_0⟩ := Kd.at_string HR0.out x13_1 p798 q798
         cases e798
         replace p798 := eq_true p798
         replace q798 := eq_true q798
         have p799 : 0 ≤ (x13_1 : Int) := of_decide_eq_true ap0
         have q799 : x13_1 < (l1.length : Int) := of_decide_eq_true ap0
         obtain ⟨ad799, e799, hx799_0⟩ := Kd.at_string HR1.out x13_1 p799 q799
         cases e799
         replace p799 := eq_true p799
         replace q799 := eq_true q799
         go_wp2
         repeat (go_quiet (fail); try go_wp2)
         go_ret
         exact ⟨ap2, ap7⟩
       ·
        rw [if_neg c7] at H
        exact absurd H (by simp)
      ·
       rw [if_neg c6] at H
       exact absurd H (by simp)
     ·
      rw [if_neg c5] at H
      exact absurd H (by simp)
    ·
     rw [if_neg c4] at H
     have c4b0 := decide_eq_false c4
     clear c4
     obtain rfl := Option.some.inj H
     go_wp2
     repeat (go_quiet (fail); try go_wp2)
     go_ret
     exact ⟨ap2, ap7⟩
 ·
  rw [if_neg c3] at H
  have c3b0 : ((l0.length : Int) == (l1.length : Int)) = false := beq_eq_false_iff_ne.mpr c3
  have c3b1 : ((l0.length : Int) != (l1.length : Int)) = true := bne_iff_ne.mpr c3
  have c3b2 : (l0.length == l1.length) = false := by first | simpa using c3 | (simp at c3 ⊢; omega)
  obtain rfl := Option.some.inj H
  go_enter Tryd.func46, Tryd.ntmps46
  go_wp2
  repeat (go_quiet (fail); try go_wp2)
  go_ret
  exact ⟨ap2, ap7⟩
def dn_Under.f (k : Nat) (l0 : List (List (S40))) (l1 : List (List (S40))) : Option (Bool) := (dn_Keys.f k l0).bind fun bt800 => ((dn_Keys.f k l1).bind fun bt804 => (if bt800.2 = 0 then (if bt804.2 = 0 then (if (bt804.1.length : Int) ≤ (bt800.1.length : Int) then (if 0 ≤ (bt804.1.length : Int) then ((slices_Equal_string_string.f k (bt800.1.take ((bt804.1.length : Int) : Int).toNat) bt804.1).bind fun t812 => (some t812)) else (none)) else (some false)) else (some false)) else (some false)))
set_option maxHeartbeats 8000000 in
set_option maxRecDepth 100000 in
theorem dn_Under.calls (k : Nat) (A0 : Option Addr) (c0 : Nat) (l0 : List (List (S40))) (A1 : Option Addr) (c1 : Nat) (l1 : List (List (S40))) (r : Bool) (w : World) (hr0 : Kd.C (Kd.slice 40 k40) w A0 l0.length l0) (hc0 : l0.length ≤ c0) (hr1 : Kd.C (Kd.slice 40 k40) w A1 l1.length l1) (hc1 : l1.length ≤ c1) (hG : Gw w) (h : dn_Under.f k l0 l1 = some r) :
  Calls Tryd.prog 24 #[.slice A0 l0.length c0, .slice A1 l1.length c1] w fun e w' => e = .returned (.bool r) ∧ Below w.heap.size w w' := by
 have HR0 := Aside0.mk hr0
 have HC0 := Aside0.mk hc0
 clear hr0 hc0
 have HR1 := Aside0.mk hr1
 have HC1 := Aside0.mk hc1
 clear hr1 hc1
 have HB := Aside0.mk (Below.refl w.heap.size w)
 have HG := Aside0.mk hG
 clear hG
 have H : ((dn_Keys.f k l0).bind fun bt800 => ((dn_Keys.f k l1).bind fun bt804 => (if bt800.2 = 0 then (if bt804.2 = 0 then (if (bt804.1.length : Int) ≤ (bt800.1.length : Int) then (if 0 ≤ (bt804.1.length : Int) then ((slices_Equal_string_string.f k (bt800.1.take ((bt804.1.length : Int) : Int).toNat) bt804.1).bind fun t812 => (some t812)) else (none)) else (some false)) else (some false)) else (some false)))) = some r := h
 clear h
 replace H := Option.bind_eq_some_iff.mp H
 obtain ⟨⟨t800, t801⟩, A30, H⟩ := H
 replace H : ((dn_Keys.f k l1).bind fun bt804 => (if t801 = 0 then (if bt804.2 = 0 then (if (bt804.1.length : Int) ≤ (t800.length : Int) then (if 0 ≤ (bt804.1.length : Int) then ((slices_Equal_string_string.f k (t800.take ((bt804.1.length : Int) : Int).toNat) bt804.1).bind fun t812 => (some t812)) else (none)) else (some false)) else (some false)) else (some false))) = some r := H
 have A3 := Aside0.mk A30
 clear A30
 replace H := Option.bind_eq_some_iff.mp H
 obtain ⟨⟨t804, t805⟩, A40, H⟩ := H
 replace H : (if t801 = 0 then (if t805 = 0 then (if (t804.length : Int) ≤ (t800.length : Int) then (if 0 ≤ (t804.length : Int) then ((slices_Equal_string_string.f k (t800.take ((t804.length : Int) : Int).toNat) t804).bind fun t812 => (some t812)) else (none)) else (some false)) else (some false)) else (some false)) = some r := H
 have A4 := Aside0.mk A40
 clear A40
 by_cases c5 : t801 = 0
 ·
  rw [if_pos c5] at H
  have c5b0 : (t801 == 0) = true := beq_iff_eq.mpr c5
  have c5b1 : (t801 != 0) = false := bne_eq_false_iff_eq.mpr c5
  clear c5
  by_cases c6 : t805 = 0
  ·
   rw [if_pos c6] at H
   have c6b0 : (t805 == 0) = true := beq_iff_eq.mpr c6
   have c6b1 : (t805 != 0) = false := bne_eq_false_iff_eq.mpr c6
   clear c6
   by_cases c7 : (t804.length : Int) ≤ (t800.length : Int)
   ·
    rw [if_pos c7] at H
    have c7b0 := decide_eq_true c7
    have c7b1 : decide (t804.length ≤ t800.length) = true := decide_eq_true (Int.ofNat_le.mp c7)
    clear c7
    by_cases c8 : 0 ≤ (t804.length : Int)
    ·
     rw [if_pos c8] at H
     have c8b0 := eq_true c8
     have c8b1 := decide_eq_true c8
     clear c8
     have c9b0 := eq_true (of_decide_eq_true ap0 : (t804.length : Int) ≤ (t800.length : Int))
     obtain ⟨y808, hy808⟩ : ∃ y_ : List ByteArray, y_ = (t800.take ((t804.length : Int) : Int).toNat) := ⟨_, rfl⟩
     replace H : ((slices_Equal_string_string.f k y808 t804).bind fun t812 => (some t812)) = some r := by first | (rw [hy808]; with_reducible exact H) | (have H2_ := (Option.bind_some _ _).symm.trans H; rw [hy808]; with_reducible exact H2_) | (have H2_ := (Option.bind_some _ _).symm.trans H; with_reducible exact H2_) | with_reducible exact H | (rw [hy808]; exact H) | exact H
     have Ny808 := Aside0.mk hy808
     clear hy808
     replace H := Option.bind_eq_some_iff.mp H
     obtain ⟨t812, A100, H⟩ := H
     replace H : (some t812) = some r := H
     have A10 := Aside0.mk A100
     clear A100
     obtain rfl := Option.some.inj H
     go_enter Tryd.func24, Tryd.ntmps24
     go_wp2_with (first | ((with_reducible refine gate_callee (f := 45) rfl ?_); refine goesL_ (some 11) rfl rfl Tryd.func45 (by kernel_rfl) rfl #[.slice A0 l0.length c0] rfl ap3 ?_; (with_reducible refine (dn_Keys.calls k _ _ l0 t800 t801 _ ?side1 ?side2 ?side3 A3.out).mono ?_); (case side1 => repeat (first | exact HR0.out | (with_reducible refine Kd.C_alloc ?_ _) | (with_reducible refine Kd.C_drewN ?_ _) | (with_reducible refine Kd.C_drew ?_))); (case side2 => exact HC0.out); (case side3 => exact ap6); rintro e w11 ⟨v802, rfl, ho0, hb⟩; refine ⟨_, rfl, ?_⟩; have n0_ := Aside0.mk (Kd.R_lower ho0 (below_size ap1)); have n1_ := Aside0.mk (below_step ap1 hb); clear HB; have HO803 := n0_; have HB := n1_; clear n0_ n1_; (try clear hb); (try clear hb2); (try clear hk); (try clear hi); (try clear ho0)) | ((with_reducible refine gate_callee (f := 45) rfl ?_); refine goesL_ (some 16) rfl rfl Tryd.func45 (by kernel_rfl) rfl #[.slice A1 l1.length c1] rfl ap3 ?_; (with_reducible refine (dn_Keys.calls k _ _ l1 t804 t805 _ ?side1 ?side2 ?side3 A4.out).mono ?_); (case side1 => repeat (first | exact (Kd.C_below HR1.out HB.out) | (with_reducible refine Kd.C_alloc ?_ _) | (with_reducible refine Kd.C_drewN ?_ _) | (with_reducible refine Kd.C_drew ?_))); (case side2 => exact HC1.out); (case side3 => exact ap6); rintro e w12 ⟨v806, rfl, ho0, hb⟩; refine ⟨_, rfl, ?_⟩; have n0_ := Aside0.mk (Kd.R_elder' (apAR HO803.out) (Kd.R_base ho0) hb); have n1_ := Aside0.mk (Kd.R_lower (Kd.R_new' ho0 (Kd.R_lt (apAR HO803.out))) (below_size ap1)); have n2_ := Aside0.mk (below_step ap1 hb); clear HO803; clear HB; have HO803 := n0_; have HO807 := n1_; have HB := n2_; clear n0_ n1_ n2_; (try clear hb); (try clear hb2); (try clear hk); (try clear hi); (try clear ho0); obtain ⟨Ao13, co13, eo13⟩ := Kd.R_slice HO807.out; subst eo13; obtain ⟨Ao14, co14, eo14⟩ := Kd.R_slice HO803.out; subst eo14; have q15 : ((t804.length : Int) : Int) ≤ ((t800.length : Int) : Int) := of_decide_eq_true ap0; obtain ⟨i015, hi015, _, hsz15, _⟩ := info_parts info9; have hroom15 : t800.length ≤ co14 := (Kd.R_reads' HO803.out).2.1; have hC15 : Kd.C Kd.string _ Ao14 t800.length t800 := (Kd.R_reads' HO803.out).2.2; have hcut15 := cut_to (P := Tryd.prog) 69 9 .i64 Tryd.underlying69 hi015 Ao14 t800.length co14 (t804.length : Int) (of_decide_eq_true ap0) q15 hroom15; have hr15 := Kd.C_take (m := ((t804.length : Int) : Int).toNat) hC15 (by omega); have hy15 : y808.length = ((t804.length : Int) : Int).toNat := (by rw [Ny808.out, List.length_take]; omega); rw [← Ny808.out] at hr15; rw [← hy15] at hcut15; have HR811 := Aside0.mk hr15; have HC811 := Aside0.mk (show y808.length ≤ co14 from by omega); clear hr15 hC15 hroom15 hi015 hsz15; have KY15 := Aside0.mk hy15; clear hy15; have KL15 := Aside0.mk (show ((t804.length : Int) : Int).toNat ≤ t800.length from by omega); replace q15 := eq_true q15) | (go_at_call 46; (with_reducible refine (slices_Equal_string_string.calls k _ _ y808 _ _ t804 t812 _ ?side1 ?side2 ?side3 ?side4 A10.out).mono ?_); (case side1 => repeat (first | exact (apC HR811.out) | (with_reducible refine Kd.C_alloc ?_ _) | (with_reducible refine Kd.C_drewN ?_ _) | (with_reducible refine Kd.C_drew ?_))); (case side2 => exact HC811.out); (case side3 => repeat (first | exact (Kd.R_reads' HO807.out).2.2 | (with_reducible refine Kd.C_alloc ?_ _) | (with_reducible refine Kd.C_drewN ?_ _) | (with_reducible refine Kd.C_drew ?_))); (case side4 => exact (Kd.R_reads' HO807.out).2.1); rintro e w' ⟨rfl, ⟨nd, rfl⟩⟩))
     go_ret
     exact ⟨by first | rfl | (simp [errW_none, errW_some, bne_nil8, beq_nil8]; done) | (simp [errW_none, errW_some] <;> rfl) | (simp [*, errW_none, errW_some] <;> rfl), by repeat (first | (with_reducible first | exact HB.out | apply below_alloc | apply pw_below_drewN | apply below_drew1) | exact HB.out)⟩
    ·
     rw [if_neg c8] at H
     exact absurd H (by simp)
   ·
    rw [if_neg c7] at H
    have c7b0 := decide_eq_false c7
    have c7b1 : decide (t804.length ≤ t800.length) = false := decide_eq_false (fun h => c7 (Int.ofNat_le.mpr h))
    clear c7
    obtain rfl := Option.some.inj H
    go_enter Tryd.func24, Tryd.ntmps24
    go_wp2_with (first | ((with_reducible refine gate_callee (f := 45) rfl ?_); refine goesL_ (some 11) rfl rfl Tryd.func45 (by kernel_rfl) rfl #[.slice A0 l0.length c0] rfl ap3 ?_; (with_reducible refine (dn_Keys.calls k _ _ l0 t800 t801 _ ?side1 ?side2 ?side3 A3.out).mono ?_); (case side1 => repeat (first | exact HR0.out | (with_reducible refine Kd.C_alloc ?_ _) | (with_reducible refine Kd.C_drewN ?_ _) | (with_reducible refine Kd.C_drew ?_))); (case side2 => exact HC0.out); (case side3 => exact ap6); rintro e w16 ⟨v802, rfl, ho0, hb⟩; refine ⟨_, rfl, ?_⟩; have n0_ := Aside0.mk (Kd.R_lower ho0 (below_size ap1)); have n1_ := Aside0.mk (below_step ap1 hb); clear HB; have HO803 := n0_; have HB := n1_; clear n0_ n1_; (try clear hb); (try clear hb2); (try clear hk); (try clear hi); (try clear ho0)) | ((with_reducible refine gate_callee (f := 45) rfl ?_); refine goesL_ (some 16) rfl rfl Tryd.func45 (by kernel_rfl) rfl #[.slice A1 l1.length c1] rfl ap3 ?_; (with_reducible refine (dn_Keys.calls k _ _ l1 t804 t805 _ ?side1 ?side2 ?side3 A4.out).mono ?_); (case side1 => repeat (first | exact (Kd.C_below HR1.out HB.out) | (with_reducible refine Kd.C_alloc ?_ _) | (with_reducible refine Kd.C_drewN ?_ _) | (with_reducible refine Kd.C_drew ?_))); (case side2 => exact HC1.out); (case side3 => exact ap6); rintro e w17 ⟨v806, rfl, ho0, hb⟩; refine ⟨_, rfl, ?_⟩; have n0_ := Aside0.mk (Kd.R_elder' (apAR HO803.out) (Kd.R_base ho0) hb); have n1_ := Aside0.mk (Kd.R_lower (Kd.R_new' ho0 (Kd.R_lt (apAR HO803.out))) (below_size ap1)); have n2_ := Aside0.mk (below_step ap1 hb); clear HO803; clear HB; have HO803 := n0_; have HO807 := n1_; have HB := n2_; clear n0_ n1_ n2_; (try clear hb); (try clear hb2); (try clear hk); (try clear hi); (try clear ho0); obtain ⟨Ao18, co18, eo18⟩ := Kd.R_slice HO807.out; subst eo18; obtain ⟨Ao19, co19, eo19⟩ := Kd.R_slice HO803.out; subst eo19))
    go_ret
    exact ⟨by first | rfl | (simp [errW_none, errW_some, bne_nil8, beq_nil8]; done) | (simp [errW_none, errW_some] <;> rfl) | (simp [*, errW_none, errW_some] <;> rfl), by repeat (first | (with_reducible first | exact HB.out | apply below_alloc | apply pw_below_drewN | apply below_drew1) | exact HB.out)⟩
  ·
   rw [if_neg c6] at H
   have c6b0 : (t805 == 0) = false := beq_eq_false_iff_ne.mpr c6
   have c6b1 : (t805 != 0) = true := bne_iff_ne.mpr c6
   obtain rfl := Option.some.inj H
   go_enter Tryd.func24, Tryd.ntmps24
   go_wp2_with (first | ((with_reducible refine gate_callee (f := 45) rfl ?_); refine goesL_ (some 11) rfl rfl Tryd.func45 (by kernel_rfl) rfl #[.slice A0 l0.length c0] rfl ap3 ?_; (with_reducible refine (dn_Keys.calls k _ _ l0 t800 t801 _ ?side1 ?side2 ?side3 A3.out).mono ?_); (case side1 => repeat (first | exact HR0.out | (with_reducible refine Kd.C_alloc ?_ _) | (with_reducible refine Kd.C_drewN ?_ _) | (with_reducible refine Kd.C_drew ?_))); (case side2 => exact HC0.out); (case side3 => exact ap6); rintro e w20 ⟨v802, rfl, ho0, hb⟩; refine ⟨_, rfl, ?_⟩; have n0_ := Aside0.mk (Kd.R_lower ho0 (below_size ap1)); have n1_ := Aside0.mk (below_step ap1 hb); clear HB; have HO803 := n0_; have HB := n1_; clear n0_ n1_; (try clear hb); (try clear hb2); (try clear hk); (try clear hi); (try clear ho0)) | ((with_reducible refine gate_callee (f := 45) rfl ?_); refine goesL_ (some 16) rfl rfl Tryd.func45 (by kernel_rfl) rfl #[.slice A1 l1.length c1] rfl ap3 ?_; (with_reducible refine (dn_Keys.calls k _ _ l1 t804 t805 _ ?side1 ?side2 ?side3 A4.out).mono ?_); (case side1 => repeat (first | exact (Kd.C_below HR1.out HB.out) | (with_reducible refine Kd.C_alloc ?_ _) | (with_reducible refine Kd.C_drewN ?_ _) | (with_reducible refine Kd.C_drew ?_))); (case side2 => exact HC1.out); (case side3 => exact ap6); rintro e w21 ⟨v806, rfl, ho0, hb⟩; refine ⟨_, rfl, ?_⟩; have n0_ := Aside0.mk (Kd.R_elder' (apAR HO803.out) (Kd.R_base ho0) hb); have n1_ := Aside0.mk (Kd.R_lower (Kd.R_new' ho0 (Kd.R_lt (apAR HO803.out))) (below_size ap1)); have n2_ := Aside0.mk (below_step ap1 hb); clear HO803; clear HB; have HO803 := n0_; have HO807 := n1_; have HB := n2_; clear n0_ n1_ n2_; (try clear hb); (try clear hb2); (try clear hk); (try clear hi); (try clear ho0)))
   go_ret
   exact ⟨by first | rfl | (simp [errW_none, errW_some, bne_nil8, beq_nil8]; done) | (simp [errW_none, errW_some] <;> rfl) | (simp [*, errW_none, errW_some] <;> rfl), by repeat (first | (with_reducible first | exact HB.out | apply below_alloc | apply pw_below_drewN | apply below_drew1) | exact HB.out)⟩
 ·
  rw [if_neg c5] at H
  have c5b0 : (t801 == 0) = false := beq_eq_false_iff_ne.mpr c5
  have c5b1 : (t801 != 0) = true := bne_iff_ne.mpr c5
  obtain rfl := Option.some.inj H
  go_enter Tryd.func24, Tryd.ntmps24
  go_wp2_with (first | ((with_reducible refine gate_callee (f := 45) rfl ?_); refine goesL_ (some 11) rfl rfl Tryd.func45 (by kernel_rfl) rfl #[.slice A0 l0.length c0] rfl ap3 ?_; (with_reducible refine (dn_Keys.calls k _ _ l0 t800 t801 _ ?side1 ?side2 ?side3 A3.out).mono ?_); (case side1 => repeat (first | exact HR0.out | (with_reducible refine Kd.C_alloc ?_ _) | (with_reducible refine Kd.C_drewN ?_ _) | (with_reducible refine Kd.C_drew ?_))); (case side2 => exact HC0.out); (case side3 => exact ap6); rintro e w22 ⟨v802, rfl, ho0, hb⟩; refine ⟨_, rfl, ?_⟩; have n0_ := Aside0.mk (Kd.R_lower ho0 (below_size ap1)); have n1_ := Aside0.mk (below_step ap1 hb); clear HB; have HO803 := n0_; have HB := n1_; clear n0_ n1_; (try clear hb); (try clear hb2); (try clear hk); (try clear hi); (try clear ho0)) | ((with_reducible refine gate_callee (f := 45) rfl ?_); refine goesL_ (some 16) rfl rfl Tryd.func45 (by kernel_rfl) rfl #[.slice A1 l1.length c1] rfl ap3 ?_; (with_reducible refine (dn_Keys.calls k _ _ l1 t804 t805 _ ?side1 ?side2 ?side3 A4.out).mono ?_); (case side1 => repeat (first | exact (Kd.C_below HR1.out HB.out) | (with_reducible refine Kd.C_alloc ?_ _) | (with_reducible refine Kd.C_drewN ?_ _) | (with_reducible refine Kd.C_drew ?_))); (case side2 => exact HC1.out); (case side3 => exact ap6); rintro e w23 ⟨v806, rfl, ho0, hb⟩; refine ⟨_, rfl, ?_⟩; have n0_ := Aside0.mk (Kd.R_elder' (apAR HO803.out) (Kd.R_base ho0) hb); have n1_ := Aside0.mk (Kd.R_lower (Kd.R_new' ho0 (Kd.R_lt (apAR HO803.out))) (below_size ap1)); have n2_ := Aside0.mk (below_step ap1 hb); clear HO803; clear HB; have HO803 := n0_; have HO807 := n1_; have HB := n2_; clear n0_ n1_ n2_; (try clear hb); (try clear hb2); (try clear hk); (try clear hi); (try clear ho0)))
  go_ret
  exact ⟨by first | rfl | (simp [errW_none, errW_some, bne_nil8, beq_nil8]; done) | (simp [errW_none, errW_some] <;> rfl) | (simp [*, errW_none, errW_some] <;> rfl), by repeat (first | (with_reducible first | exact HB.out | apply below_alloc | apply pw_below_drewN | apply below_drew1) | exact HB.out)⟩
def dn_Same.f (k : Nat) (l0 : List (List (S40))) (l1 : List (List (S40))) : Option (Bool) := if (l0.length : Int) = (l1.length : Int) then ((dn_Under.f k l0 l1).bind fun t813 => (some t813)) else (some false)
set_option maxHeartbeats 8000000 in
set_option maxRecDepth 100000 in
theorem dn_Same.calls (k : Nat) (A0 : Option Addr) (c0 : Nat) (l0 : List (List (S40))) (A1 : Option Addr) (c1 : Nat) (l1 : List (List (S40))) (r : Bool) (w : World) (hr0 : Kd.C (Kd.slice 40 k40) w A0 l0.length l0) (hc0 : l0.length ≤ c0) (hr1 : Kd.C (Kd.slice 40 k40) w A1 l1.length l1) (hc1 : l1.length ≤ c1) (hG : Gw w) (h : dn_Same.f k l0 l1 = some r) :
  Calls Tryd.prog 21 #[.slice A0 l0.length c0, .slice A1 l1.length c1] w fun e w' => e = .returned (.bool r) ∧ Below w.heap.size w w' := by
 have HR0 := Aside0.mk hr0
 have HC0 := Aside0.mk hc0
 clear hr0 hc0
 have HR1 := Aside0.mk hr1
 have HC1 := Aside0.mk hc1
 clear hr1 hc1
 have HB := Aside0.mk (Below.refl w.heap.size w)
 have HG := Aside0.mk hG
 clear hG
 have H : (if (l0.length : Int) = (l1.length : Int) then ((dn_Under.f k l0 l1).bind fun t813 => (some t813)) else (some false)) = some r := h
 clear h
 by_cases c3 : (l0.length : Int) = (l1.length : Int)
 ·
  rw [if_pos c3] at H
  have c3b0 : ((l0.length : Int) == (l1.length : Int)) = true := beq_iff_eq.mpr c3
  have c3b1 : ((l0.length : Int) != (l1.length : Int)) = false := bne_eq_false_iff_eq.mpr c3
  have c3b2 : (l0.length == l1.length) = true := by first | simpa using c3 | (simp at c3 ⊢; omega)
  clear c3
  replace H := Option.bind_eq_some_iff.mp H
  obtain ⟨t813, A40, H⟩ := H
  replace H : (some t813) = some r := H
  have A4 := Aside0.mk A40
  clear A40
  obtain rfl := Option.some.inj H
  go_enter Tryd.func21, Tryd.ntmps21
  go_wp2_with (first | (go_at_call 24; (with_reducible refine (dn_Under.calls k _ _ l0 _ _ l1 t813 _ ?side1 ?side2 ?side3 ?side4 ?side5 A4.out).mono ?_); (case side1 => repeat (first | exact HR0.out | (with_reducible refine Kd.C_alloc ?_ _) | (with_reducible refine Kd.C_drewN ?_ _) | (with_reducible refine Kd.C_drew ?_))); (case side2 => exact HC0.out); (case side3 => repeat (first | exact HR1.out | (with_reducible refine Kd.C_alloc ?_ _) | (with_reducible refine Kd.C_drewN ?_ _) | (with_reducible refine Kd.C_drew ?_))); (case side4 => exact HC1.out); (case side5 => exact ap6); rintro e w5 ⟨rfl, hb⟩; have n0_ := Aside0.mk (below_step ap1 hb); clear HB; have HB := n0_; clear n0_; (try clear hb); (try clear hb2); (try clear hk); (try clear hi)))
  go_ret
  exact ⟨by first | rfl | (simp [errW_none, errW_some, bne_nil8, beq_nil8]; done) | (simp [errW_none, errW_some] <;> rfl) | (simp [*, errW_none, errW_some] <;> rfl), by repeat (first | (with_reducible first | exact HB.out | apply below_alloc | apply pw_below_drewN | apply below_drew1) | exact HB.out)⟩
 ·
  rw [if_neg c3] at H
  have c3b0 : ((l0.length : Int) == (l1.length : Int)) = false := beq_eq_false_iff_ne.mpr c3
  have c3b1 : ((l0.length : Int) != (l1.length : Int)) = true := bne_iff_ne.mpr c3
  have c3b2 : (l0.length == l1.length) = false := by first | simpa using c3 | (simp at c3 ⊢; omega)
  obtain rfl := Option.some.inj H
  go_enter Tryd.func21, Tryd.ntmps21
  go_wp2
  go_ret
  exact ⟨by first | rfl | (simp [errW_none, errW_some, bne_nil8, beq_nil8]; done) | (simp [errW_none, errW_some] <;> rfl) | (simp [*, errW_none, errW_some] <;> rfl), by repeat (first | (with_reducible first | exact HB.out | apply below_alloc | apply pw_below_drewN | apply below_drew1) | exact HB.out)⟩
end Go.Proofs.YtkklacijhmoopaaDoor.Print
namespace Go.Proofs.YtkklacijhmoopaaDoor.Print
open Go.RowKit Go.Proofs.YtkklacijhmoopaaDoorW.PrintWords Go.Proofs.YtkklacijhmoopaaDoorW.PrintLast Go.Proofs.YtkklacijhmoopaaDoorW.PrintMore Go.Proofs.YtkklacijhmoopaaDoor.Pure
set_option linter.unusedVariables false
set_option linter.unusedSimpArgs false
def readyB (s : ByteArray) : ByteArray := match readyOf true s with
  | some t => ⟨t.toArray⟩
  | none => ⟨#[]⟩
def tupB (l : List ByteArray) : ByteArray × Int :=
  if 16 < l.length then (⟨#[]⟩, 1) else if l.any (fun p => decide (4096 < p.size)) = true then (⟨#[]⟩, 5) else if 4096 < (tupOf l).length then (⟨#[]⟩, 5) else (⟨(tupOf l).toArray⟩, 0)
theorem tup_f (l : List ByteArray) : field_Tuple.f l = some (tupB l) := by
  unfold field_Tuple.f tupB
  by_cases h1 : 16 < l.length
  · rw [if_pos h1, if_pos h1]
  rw [if_neg h1, if_neg h1]
  by_cases h2 : l.any (fun p => decide (4096 < p.size)) = true
  · rw [if_pos h2, if_pos h2]
  rw [if_neg h2, if_neg h2]
  by_cases h3 : 4096 < (tupOf l).length
  · rw [if_pos h3, if_pos h3]
  · rw [if_neg h3, if_neg h3]
theorem tupB_len (l : List ByteArray) : (tupB l).1.size ≤ 4096 := by
  unfold tupB
  by_cases h1 : 16 < l.length
  · rw [if_pos h1]; decide
  rw [if_neg h1]
  by_cases h2 : l.any (fun p => decide (4096 < p.size)) = true
  · rw [if_pos h2]; decide
  rw [if_neg h2]
  by_cases h3 : 4096 < (tupOf l).length
  · rw [if_pos h3]; decide
  · rw [if_neg h3]; show (mkB (tupOf l)).size ≤ _; rw [mkB_size]; omega
def tupV (a : AvaS) : ByteArray := (tupB [a.f0, readyB a.f1]).1
theorem joinB_none (xs : List ByteArray) : joinB xs (⟨#[]⟩ : ByteArray) = (xs.map bl).flatten := by
  show ([] : List UInt8).intercalate (xs.map bl) = _
  cases h : xs.map bl with
  | nil => rfl
  | cons w ws => rw [inter_cons, List.flatten_cons, List.flatMap_def]; simp
theorem flat_len (B : Nat) : ∀ (l : List (List UInt8)), (∀ x ∈ l, x.length ≤ B) → l.flatten.length ≤ l.length * B
  | [], _ => by simp
  | x :: l, h => by
    have ih := flat_len B l fun y hy => h y (by simp [hy])
    have := h x (by simp)
    rw [List.flatten_cons, List.length_append, List.length_cons, Nat.succ_mul]; omega
theorem sortL_mem (l : List (List UInt8)) : ∀ x, x ∈ sortL l ↔ x ∈ l := fun x => (List.mergeSort_perm l _).mem_iff
theorem sortB_size (xs : List ByteArray) (h : ∀ x ∈ xs, x.size ≤ 4096) : ∀ x ∈ (sortB xs).map bl, x.length ≤ 4096 := by
  intro x hx
  unfold sortB at hx
  rw [List.map_map] at hx
  obtain ⟨y, hy, rfl⟩ := List.mem_map.1 hx
  obtain ⟨z, hz, rfl⟩ := List.mem_map.1 ((sortL_mem _ _).1 hy)
  have := h z hz
  rw [← bl_length] at this
  simpa using this
def keyOf (l : List AvaS) : ByteArray := ⟨((sortB (l.map tupV)).map bl).flatten.toArray⟩
theorem key_join (l : List AvaS) (h : l.length ≤ 1000) : strings_Join.f (sortB (l.map tupV)) (⟨#[]⟩ : ByteArray) = some (keyOf l) := by
  have hlen : (sortB (l.map tupV)).length = l.length := by rw [sortB_len, List.length_map]
  have hB := flat_len 4096 ((sortB (l.map tupV)).map bl) (sortB_size _ fun x hx => by
    obtain ⟨a, _, rfl⟩ := List.mem_map.1 hx
    exact tupB_len _)
  rw [List.length_map, hlen] at hB
  have h2 : l.length * 4096 ≤ 1000 * 4096 := Nat.mul_le_mul_right _ h
  unfold strings_Join.f
  rw [if_pos (by omega), joinB_none, if_pos (by omega)]; rfl
theorem ready_ev' (s : ByteArray) (hs : s.size ≤ 100000) : ∃ e, Ev (fun k => prep_Ready.f k s true) (readyB s, e) := by
  have h := ready_ev s hs true
  unfold readyB
  cases hr : readyOf true s with
  | none => rw [hr] at h; exact ⟨_, h⟩
  | some t => rw [hr] at h; exact ⟨_, h⟩
theorem take_next {α : Type} {l : List α} {i : Nat} {x : α} {r : List α} (h : l.drop i = x :: r) : l.take (i + 1) = l.take i ++ [x] := by
  obtain ⟨g1, g0, _⟩ := getD_at (d := x) h
  rw [List.take_succ_eq_append_getElem g1]
  congr 2
  rw [Int.toNat_natCast, List.getD_eq_getElem?_getD, List.getElem?_eq_getElem g1] at g0
  simpa using g0
theorem key_loop (l : List AvaS) (hl : l.length ≤ 1000) (hs : ∀ a ∈ l, szA a) : ∀ (m i : Nat), l.length - i = m → i ≤ l.length → Ev (fun k => dn_key.l0 k ((l.take i).map tupV) l (l.length : Int) (i : Int)) (keyOf l) := by
  intro m
  induction m with
  | zero =>
    intro i hm hi
    rw [List.take_of_length_le (by omega)]
    refine Ev.step (fun k => by rw [dn_key.l0]) ?_
    exact Ev.neg (by omega) (Ev.bindc (key_join l hl) Ev.rfl')
  | succ m ih =>
    intro i hm hi
    cases hr : l.drop i with
    | nil => have := List.drop_eq_nil_iff.1 hr; omega
    | cons a r =>
      obtain ⟨g1, _, g3⟩ := getD_at (d := a) hr
      have g2 := rdA_at hr
      have hsz := hs a (by
        have : a ∈ l.drop i := by rw [hr]; simp
        exact List.mem_of_mem_drop this)
      have hi2 := ih (i + 1) (by omega) (by omega)
      rw [take_next hr, List.map_append] at hi2
      obtain ⟨e, he⟩ := ready_ev' a.f1 hsz.2
      refine Ev.step (fun k => by rw [dn_key.l0]) ?_
      rw [g2, wsucc (by omega)]
      refine Ev.pos (by omega) (Ev.pos (by omega) (Ev.pos (by omega) (Ev.bind he ?_)))
      refine Ev.bindc (tup_f _) ?_
      exact Ev.pos (by rw [List.length_map, List.length_take]; omega) hi2
theorem key_ev (l : List AvaS) (hl : l.length ≤ 1000) (hs : ∀ a ∈ l, szA a) : Ev (fun k => dn_key.f k l) (keyOf l) := by
  unfold dn_key.f
  exact key_loop l hl hs _ 0 rfl (Nat.zero_le _)
def keysOf (n : List (List AvaS)) : List ByteArray := n.reverse.map keyOf
theorem rdR_get {n : List (List AvaS)} {j : Nat} (h : j < n.length) : rdR n (j : Int) = n[j] := rdR_at (r := n.drop (j + 1)) (List.drop_eq_getElem_cons h)
theorem keys_loop (n : List (List AvaS)) (hn : n.length ≤ 1000) (hs : ∀ l ∈ n, l.length ≤ 1000 ∧ ∀ a ∈ l, szA a) : ∀ (m i : Nat), n.length - i = m → i ≤ n.length → Ev (fun k => dn_Keys.l0 k n ((n.reverse.take i).map keyOf) (n.length : Int) (i : Int)) (keysOf n, 0) := by
  intro m
  induction m with
  | zero =>
    intro i hm hi
    rw [List.take_of_length_le (by rw [List.length_reverse]; omega)]
    refine Ev.step (fun k => by rw [dn_Keys.l0]) ?_
    exact Ev.neg (by omega) Ev.rfl'
  | succ m ih =>
    intro i hm hi
    have hlt : i < n.length := by omega
    have hi2 := ih (i + 1) (by omega) (by omega)
    have hj : n.length - 1 - i < n.length := by omega
    have hx : wrap64 ((wrap64 ((n.length : Int) - 1)) - (i : Int)) = ((n.length - 1 - i : Nat) : Int) := by unfold wrap64; omega
    have hr : n.reverse.drop i = n[n.length - 1 - i] :: n.reverse.drop (i + 1) := by
      rw [List.drop_eq_getElem_cons (by rw [List.length_reverse]; exact hlt), List.getElem_reverse]
    rw [take_next hr, List.map_append] at hi2
    obtain ⟨z1, z2⟩ := hs n[n.length - 1 - i] (List.getElem_mem _)
    refine Ev.step (fun k => by rw [dn_Keys.l0]) ?_
    have hg : rd_L7 n ((n.length - 1 - i : Nat) : Int) = n[n.length - 1 - i] := rdR_get hj
    rw [hx, hg, wsucc (by omega)]
    refine Ev.pos (by omega) (Ev.pos (by omega) (Ev.pos (by omega) (Ev.bind (key_ev _ z1 z2) ?_)))
    exact Ev.pos (by rw [List.length_map, List.length_take]; omega) hi2
theorem nameOk_sz {n : List (List AvaS)} (h : nameOk n = true) : n.length ≤ 12 ∧ ∀ l ∈ n, l.length ≤ 4 := by
  unfold nameOk at h
  rw [Bool.and_eq_true] at h
  refine ⟨by simpa using h.1, fun l hl => ?_⟩
  have := List.all_eq_true.1 h.2 l hl
  unfold rdnOk at this
  rw [Bool.and_eq_true] at this
  have h1 := of_decide_eq_true this.1
  exact h1.2
theorem keys_ev (n : List (List AvaS)) (hl : n.length ≤ 1000000) (h : szN n) : Ev (fun k => dn_Keys.f k n) (if nameOk n = true then (keysOf n, 0) else ([], 4)) := by
  unfold dn_Keys.f
  refine Ev.bind (right_ev n hl h) ?_
  cases hn : nameOk n with
  | false => exact Ev.neg (by simp) (by simpa using Ev.rfl')
  | true =>
    rw [if_pos rfl]
    obtain ⟨h1, h2⟩ := nameOk_sz hn
    exact Ev.pos rfl (keys_loop n (by omega) (fun l hl => ⟨by have := h2 l hl; omega, (h l hl).2⟩) _ 0 rfl (Nat.zero_le _))
theorem rdB_at {L : List ByteArray} {i : Nat} {x : ByteArray} {r : List ByteArray} (h : L.drop i = x :: r) : rdOf ByteArray.empty L (i : Int) = x := (rdOf_at h).2.1
theorem ba_list {a b : ByteArray} : a.toList = b.toList ↔ a = b := by
  rw [Lib.toList_data, Lib.toList_data]
  exact ⟨fun h => ByteArray.ext (Array.toList_inj.1 h), fun h => by rw [h]⟩
theorem eqs_loop (L M : List ByteArray) (hL : L.length ≤ 1000000) (hM : M.length = L.length) : ∀ (m i : Nat), L.length - i = m → i ≤ L.length → Ev (fun k => slices_Equal_string_string.l0 k L M (L.length : Int) (i : Int)) (decide (L.drop i = M.drop i)) := by
  intro m
  induction m with
  | zero =>
    intro i hm hi
    rw [List.drop_eq_nil_of_le (by omega), List.drop_eq_nil_of_le (show M.length ≤ i by omega)]
    show Ev _ true
    exact Ev.step (fun k => by rw [slices_Equal_string_string.l0]) (Ev.neg (by omega) Ev.rfl')
  | succ m ih =>
    intro i hm hi
    cases hr : L.drop i with
    | nil => have := List.drop_eq_nil_iff.1 hr; omega
    | cons x r =>
      cases hq : M.drop i with
      | nil => have := List.drop_eq_nil_iff.1 hq; omega
      | cons y q =>
        obtain ⟨g1, _, g3⟩ := getD_at (d := x) hr
        obtain ⟨k1, _, k3⟩ := getD_at (d := x) hq
        have hi2 := ih (i + 1) (by omega) (by omega)
        rw [g3, k3] at hi2
        refine Ev.step (fun k => by rw [slices_Equal_string_string.l0]) ?_
        rw [rdB_at hr, rdB_at hq, wsucc (by omega)]
        refine Ev.pos (by omega) (Ev.pos (by omega) (Ev.pos (by omega) (Ev.pos (by omega) ?_)))
        by_cases e : x = y
        · subst e
          refine Ev.pos rfl ?_
          rw [show decide (x :: r = x :: q) = decide (r = q) by simp]
          exact hi2
        · rw [show decide (x :: r = y :: q) = false by simp [e]]
          exact Ev.neg (fun h => e (ba_list.1 h)) Ev.rfl'
theorem eqs_ev (L M : List ByteArray) (hL : L.length ≤ 1000000) : Ev (fun k => slices_Equal_string_string.f k L M) (decide (L = M)) := by
  unfold slices_Equal_string_string.f
  by_cases h : L.length = M.length
  · refine Ev.pos (by omega) ?_
    have := eqs_loop L M hL h.symm _ 0 rfl (Nat.zero_le _)
    rw [List.drop_zero, List.drop_zero] at this; exact this
  · rw [show decide (L = M) = false from decide_eq_false fun e => h (by rw [e])]
    exact Ev.neg (by omega) Ev.rfl'
def underB (n m : List (List AvaS)) : Bool := nameOk n && nameOk m && decide (m.length ≤ n.length) && decide ((keysOf n).take m.length = keysOf m)
theorem keysOf_len (n : List (List AvaS)) : (keysOf n).length = n.length := by unfold keysOf; simp
theorem under_ev (n m : List (List AvaS)) (hn : n.length ≤ 1000000) (hm : m.length ≤ 1000000) (zn : szN n) (zm : szN m) : Ev (fun k => dn_Under.f k n m) (underB n m) := by
  unfold dn_Under.f underB
  refine Ev.bind (keys_ev n hn zn) (Ev.bind (keys_ev m hm zm) ?_)
  cases h1 : nameOk n with
  | false => exact Ev.neg (show ¬ ((4 : Int) = 0) by decide) (by simpa using Ev.rfl')
  | true =>
    refine Ev.pos rfl ?_
    cases h2 : nameOk m with
    | false => exact Ev.neg (show ¬ ((4 : Int) = 0) by decide) (by simpa using Ev.rfl')
    | true =>
      refine Ev.pos rfl ?_
      simp only [if_true, keysOf_len, Bool.and_self, Bool.true_and]
      by_cases h3 : m.length ≤ n.length
      · rw [decide_eq_true h3, Bool.true_and]
        refine Ev.pos (by omega) (Ev.pos (by omega) ?_)
        rw [Int.toNat_natCast]
        exact Ev.bind (eqs_ev _ _ (by rw [List.length_take]; omega)) Ev.rfl'
      · rw [decide_eq_false h3, Bool.false_and]
        exact Ev.neg (by omega) Ev.rfl'
theorem same_ev (n m : List (List AvaS)) (hn : n.length ≤ 1000000) (hm : m.length ≤ 1000000) (zn : szN n) (zm : szN m) : Ev (fun k => dn_Same.f k n m) (decide (n.length = m.length) && underB n m) := by
  unfold dn_Same.f
  by_cases h : n.length = m.length
  · rw [decide_eq_true h, Bool.true_and]
    exact Ev.pos (by omega) (Ev.bind (under_ev n m hn hm zn zm) Ev.rfl')
  · rw [decide_eq_false h, Bool.false_and]
    exact Ev.neg (by omega) Ev.rfl'
end Go.Proofs.YtkklacijhmoopaaDoor.Print
namespace Go.Proofs.YtkklacijhmoopaaDoor.Print
open Go.RowKit Go.Proofs.YtkklacijhmoopaaDoorW.PrintWords Go.Proofs.YtkklacijhmoopaaDoorW.PrintLast Go.Proofs.YtkklacijhmoopaaDoorW.PrintMore Go.Proofs.YtkklacijhmoopaaDoor.Pure
theorem short_of {n : List (List AvaS)} (h : okLs n n) : shortP (ofN n) := by
  refine ⟨by unfold ofN; rw [List.length_map]; exact h.1, fun l hl => ?_⟩
  obtain ⟨x, hx, rfl⟩ := List.mem_map.1 hl
  obtain ⟨h1, h2⟩ := h.2 x hx
  refine ⟨by rw [List.length_map]; exact h1, fun a ha => ?_⟩
  obtain ⟨y, hy, rfl⟩ := List.mem_map.1 ha
  obtain ⟨k1, k2⟩ := h2 y hy
  exact ⟨by rw [show (ofA y).1 = bl y.f0 from rfl, bl_length]; exact k1, by rw [show (ofA y).2 = bl y.f1 from rfl, bl_length]; exact k2⟩
end Go.Proofs.YtkklacijhmoopaaDoor.Print
namespace Go.Proofs.YtkklacijhmoopaaDoor.Print
open Go.RowKit Go.Proofs.YtkklacijhmoopaaDoorW.PrintWords Go.Proofs.YtkklacijhmoopaaDoorW.PrintLast Go.Proofs.YtkklacijhmoopaaDoorW.PrintMore
attribute [local go_sem] max2_int min2_int max_two min_two max_three min_three max_four min_four
set_option linter.unusedVariables false
set_option linter.unusedSimpArgs false
mutual
def L15DnSame.l0 : Nat → List (List (S40)) → Bool → ByteArray → Int → Option (Bool)
 | 0, _, _, _, _ => none
 | k + 1, x0, x1, x7, x8 => if x8 < (x0.length : Int) then (L15DnSame.l1 k x0 x1 x7 x8 0) else ((dn_Parse.f k x7).bind fun bt839 => (if bt839.2 = 0 then ((dn_Same.f k x0 bt839.1).bind fun t843 => (if t843 = true then ((dn_Under.f k x0 bt839.1).bind fun t844 => (if t844 = true then ((dn_Under.f k bt839.1 x0).bind fun t845 => (if t845 = true then ((dn_Same.f k x0 x0).bind fun t846 => (some t846)) else (some false))) else (some false))) else (some false))) else (if bt839.2 = 5 then (some (decide ((x7.size : Int) > 1000))) else (some false))))
def L15DnSame.l1 : Nat → List (List (S40)) → Bool → ByteArray → Int → Int → Option (Bool)
 | 0, _, _, _, _, _ => none
 | k + 1, x0, x1, x7, x8, x9 => if 0 ≤ x8 then (if x8 < (x0.length : Int) then (if x9 < ((rd_L7 x0 x8).length : Int) then (if x1 = true then (L15DnSame.j2 k x0 x1 x7 x8 x9 (wrap64 ((wrap64 (((rd_L7 x0 x8).length : Int) - 1)) - x9))) else (L15DnSame.j2 k x0 x1 x7 x8 x9 x9)) else (L15DnSame.l0 k x0 x1 x7 (wrap64 (x8 + 1)))) else (none)) else (none)
def L15DnSame.j2 : Nat → List (List (S40)) → Bool → ByteArray → Int → Int → Int → Option (Bool)
 | 0, _, _, _, _, _, _ => none
 | k + 1, x0, x1, x7, x8, x9, x10 => if x9 > 0 then (if x7.size + 3 ≤ 9223372036854775807 then (if 0 ≤ x8 then (if x8 < (x0.length : Int) then (if 0 ≤ x10 then (if x10 < ((rd_L7 x0 x8).length : Int) then ((L15upper.f ((rd_T40 (rd_L7 x0 x8) x10).f0)).bind fun t823 => (if (x7 ++ (⟨#[32, 43, 32]⟩ : ByteArray)).size + t823.size ≤ 9223372036854775807 then (if ((x7 ++ (⟨#[32, 43, 32]⟩ : ByteArray)) ++ t823).size + 3 ≤ 9223372036854775807 then ((R15Text.f k ((rd_T40 (rd_L7 x0 x8) x10).f1)).bind fun t826 => (if (((x7 ++ (⟨#[32, 43, 32]⟩ : ByteArray)) ++ t823) ++ (⟨#[32, 61, 32]⟩ : ByteArray)).size + t826.size ≤ 9223372036854775807 then (L15DnSame.l1 k x0 x1 ((((x7 ++ (⟨#[32, 43, 32]⟩ : ByteArray)) ++ t823) ++ (⟨#[32, 61, 32]⟩ : ByteArray)) ++ t826) x8 (wrap64 (x9 + 1))) else (none))) else (none)) else (none))) else (none)) else (none)) else (none)) else (none)) else (none)) else (if x8 > 0 then (if x7.size + 3 ≤ 9223372036854775807 then (if 0 ≤ x8 then (if x8 < (x0.length : Int) then (if 0 ≤ x10 then (if x10 < ((rd_L7 x0 x8).length : Int) then ((L15upper.f ((rd_T40 (rd_L7 x0 x8) x10).f0)).bind fun t829 => (if (x7 ++ (⟨#[32, 59, 32]⟩ : ByteArray)).size + t829.size ≤ 9223372036854775807 then (if ((x7 ++ (⟨#[32, 59, 32]⟩ : ByteArray)) ++ t829).size + 3 ≤ 9223372036854775807 then ((R15Text.f k ((rd_T40 (rd_L7 x0 x8) x10).f1)).bind fun t832 => (if (((x7 ++ (⟨#[32, 59, 32]⟩ : ByteArray)) ++ t829) ++ (⟨#[32, 61, 32]⟩ : ByteArray)).size + t832.size ≤ 9223372036854775807 then (L15DnSame.l1 k x0 x1 ((((x7 ++ (⟨#[32, 59, 32]⟩ : ByteArray)) ++ t829) ++ (⟨#[32, 61, 32]⟩ : ByteArray)) ++ t832) x8 (wrap64 (x9 + 1))) else (none))) else (none)) else (none))) else (none)) else (none)) else (none)) else (none)) else (none)) else (if 0 ≤ x8 then (if x8 < (x0.length : Int) then (if 0 ≤ x10 then (if x10 < ((rd_L7 x0 x8).length : Int) then ((L15upper.f ((rd_T40 (rd_L7 x0 x8) x10).f0)).bind fun t835 => (if x7.size + t835.size ≤ 9223372036854775807 then (if (x7 ++ t835).size + 3 ≤ 9223372036854775807 then ((R15Text.f k ((rd_T40 (rd_L7 x0 x8) x10).f1)).bind fun t838 => (if ((x7 ++ t835) ++ (⟨#[32, 61, 32]⟩ : ByteArray)).size + t838.size ≤ 9223372036854775807 then (L15DnSame.l1 k x0 x1 (((x7 ++ t835) ++ (⟨#[32, 61, 32]⟩ : ByteArray)) ++ t838) x8 (wrap64 (x9 + 1))) else (none))) else (none)) else (none))) else (none)) else (none)) else (none)) else (none)))
end
def L15DnSame.f (k : Nat) (l0 : List (List (S40))) (a1 : Bool) : Option (Bool) := (L15awake.f k).bind fun t814 => (if t814 = true then ((L15Long.f k l0).bind fun t815 => (if t815 = true then (some true) else ((dn_Print.f k l0).bind fun bt816 => (if bt816.2 = 0 then (L15DnSame.l0 k l0 a1 (⟨#[]⟩ : ByteArray) 0) else ((dn_Same.f k l0 l0).bind fun t818 => (if t818 = true then (some (bt816.2 == 5)) else (some true))))))) else (some false))
def L15DnSame.T22 : Bool × List (List Nat × List Nat) := (true, [([], []), ([], []), ([], []), ([1, 2], [1, 2]), ([3], [3]), ([], []), ([4, 5], [4, 5]), ([6], [6]), ([7], [7]), ([8], [8]), ([0, 9], [0, 9]), ([10], [10]), ([], []), ([], []), ([12, 13], [12, 13]), ([14], [14]), ([], []), ([15, 16], [15, 16]), ([17], [17]), ([18], [18]), ([19, 9], [19]), ([11, 20], [11, 20]), ([21, 20, 0, 1, 2, 3, 4, 5, 6, 7, 8, 9, 10, 11, 12, 13, 14, 15, 16, 17, 18, 19, 20, 21], [0, 21])])
def L15DnSame.B22 : List Nat := [0, 0, 0, 6, 14, 0, 62, 126, 254, 510, 1023, 2047, 0, 0, 12288, 28672, 0, 126976, 258048, 520192, 1045502, 2097151, 4194303]
theorem L15DnSame.tab22 : rtab .any (opsOf Tryd.f6 22) = L15DnSame.T22 := by kernel_rfl
theorem L15DnSame.bits22 : waitsOk L15DnSame.T22.2 L15DnSame.B22 = true := by kernel_rfl
end Go.Proofs.YtkklacijhmoopaaDoor.Print
