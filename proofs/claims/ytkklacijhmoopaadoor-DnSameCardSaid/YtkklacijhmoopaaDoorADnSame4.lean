-- laid together by pack.py (a program of this session)
import Derived.Test.YtkklacijhmoopaaDoorADnSame3
namespace Go.Proofs.YtkklacijhmoopaaDoor.Print
open Go.RowKit Go.Proofs.YtkklacijhmoopaaDoorW.PrintWords Go.Proofs.YtkklacijhmoopaaDoorW.PrintLast Go.Proofs.YtkklacijhmoopaaDoorW.PrintMore
attribute [local go_sem] max2_int min2_int max_two min_two max_three min_three max_four min_four
set_option linter.unusedVariables false
set_option linter.unusedSimpArgs false
set_option maxHeartbeats 8000000 in
set_option maxRecDepth 100000 in
theorem L15DnSame.calls (k : Nat) (A0 : Option Addr) (c0 : Nat) (l0 : List (List (S40))) (a1 : Bool) (r : Bool) (w : World) (hr0 : Kd.C (Kd.slice 40 k40) w A0 l0.length l0) (hc0 : l0.length ≤ c0) (hG : Gw w) (h : L15DnSame.f k l0 a1 = some r) :
  Calls Tryd.prog 6 #[.slice A0 l0.length c0, .bool a1] w fun e w' => e = .returned (.bool r) ∧ Below w.heap.size w w' := by
 have HR0 := Aside0.mk hr0
 have HC0 := Aside0.mk hc0
 clear hr0 hc0
 have HB := Aside0.mk (Below.refl w.heap.size w)
 have HG := Aside0.mk hG
 clear hG
 have H : ((L15awake.f k).bind fun t814 => (if t814 = true then ((L15Long.f k l0).bind fun t815 => (if t815 = true then (some true) else ((dn_Print.f k l0).bind fun bt816 => (if bt816.2 = 0 then (L15DnSame.l0 k l0 a1 (⟨#[]⟩ : ByteArray) 0) else ((dn_Same.f k l0 l0).bind fun t818 => (if t818 = true then (some (bt816.2 == 5)) else (some true))))))) else (some false))) = some r := h
 clear h
 replace H := Option.bind_eq_some_iff.mp H
 obtain ⟨t814, A30, H⟩ := H
 replace H : (if t814 = true then ((L15Long.f k l0).bind fun t815 => (if t815 = true then (some true) else ((dn_Print.f k l0).bind fun bt816 => (if bt816.2 = 0 then (L15DnSame.l0 k l0 a1 (⟨#[]⟩ : ByteArray) 0) else ((dn_Same.f k l0 l0).bind fun t818 => (if t818 = true then (some (bt816.2 == 5)) else (some true))))))) else (some false)) = some r := H
 have A3 := Aside0.mk A30
 clear A30
 by_cases c4 : t814 = true
 ·
  subst c4
  rw [if_pos rfl] at H
  replace H := Option.bind_eq_some_iff.mp H
  obtain ⟨t815, A50, H⟩ := H
  replace H : (if t815 = true then (some true) else ((dn_Print.f k l0).bind fun bt816 => (if bt816.2 = 0 then (L15DnSame.l0 k l0 a1 (⟨#[]⟩ : ByteArray) 0) else ((dn_Same.f k l0 l0).bind fun t818 => (if t818 = true then (some (bt816.2 == 5)) else (some true)))))) = some r := H
  have A5 := Aside0.mk A50
  clear A50
  by_cases c6 : t815 = true
  ·
   subst c6
   rw [if_pos rfl] at H
   obtain rfl := Option.some.inj H
   go_enter Tryd.func6, Tryd.ntmps6
   go_wp2_with (first | ((with_reducible refine gate_callee (f := 11) rfl ?_); refine goesL_ (some 13) rfl rfl Tryd.func11 (by kernel_rfl) rfl #[] rfl ap3 ?_; (with_reducible refine (L15awake.calls k  true _ ?side1 A3.out).mono ?_); (case side1 => exact ap6); rintro e w7 ⟨rfl, hb⟩; refine ⟨_, rfl, ?_⟩; have n0_ := Aside0.mk (below_step ap1 hb); clear HB; have HB := n0_; clear n0_; (try clear hb); (try clear hb2); (try clear hk); (try clear hi)) | ((with_reducible refine gate_callee (f := 15) rfl ?_); refine goesL_ (some 16) rfl rfl Tryd.func15 (by kernel_rfl) rfl #[.slice A0 l0.length c0] rfl ap3 ?_; (with_reducible refine (L15Long.calls k _ _ l0 true _ ?side1 ?side2 A5.out).mono ?_); (case side1 => repeat (first | exact (Kd.C_below HR0.out HB.out) | (with_reducible refine Kd.C_alloc ?_ _) | (with_reducible refine Kd.C_drewN ?_ _) | (with_reducible refine Kd.C_drew ?_))); (case side2 => exact HC0.out); rintro e w' ⟨rfl, ⟨nd, rfl⟩⟩; refine ⟨_, rfl, ?_⟩))
   go_ret
   exact ⟨by first | rfl | (simp [errW_none, errW_some, bne_nil8, beq_nil8]; done) | (simp [errW_none, errW_some] <;> rfl) | (simp [*, errW_none, errW_some] <;> rfl), by repeat (first | (with_reducible first | exact HB.out | apply below_alloc | apply pw_below_drewN | apply below_drew1) | exact HB.out)⟩
  ·
   replace c6 := Bool.eq_false_iff.mpr c6
   subst c6
   rw [if_neg (show ¬ (false = true) by decide)] at H
   replace H := Option.bind_eq_some_iff.mp H
   obtain ⟨⟨t816, t817⟩, A80, H⟩ := H
   replace H : (if t817 = 0 then (L15DnSame.l0 k l0 a1 (⟨#[]⟩ : ByteArray) 0) else ((dn_Same.f k l0 l0).bind fun t818 => (if t818 = true then (some (t817 == 5)) else (some true)))) = some r := H
   have A8 := Aside0.mk A80
   clear A80
   by_cases c9 : t817 = 0
   ·
    rw [if_pos c9] at H
    have c9b0 : (t817 == 0) = true := beq_iff_eq.mpr c9
    have c9b1 : (t817 != 0) = false := bne_eq_false_iff_eq.mpr c9
    clear c9
    have H' := Aside0.mk H
    clear H
    go_enter Tryd.func6, Tryd.ntmps6
    go_wp2_with (first | ((with_reducible refine gate_callee (f := 11) rfl ?_); refine goesL_ (some 13) rfl rfl Tryd.func11 (by kernel_rfl) rfl #[] rfl ap3 ?_; (with_reducible refine (L15awake.calls k  true _ ?side1 A3.out).mono ?_); (case side1 => exact ap6); rintro e w10 ⟨rfl, hb⟩; refine ⟨_, rfl, ?_⟩; have n0_ := Aside0.mk (below_step ap1 hb); clear HB; have HB := n0_; clear n0_; (try clear hb); (try clear hb2); (try clear hk); (try clear hi)) | ((with_reducible refine gate_callee (f := 15) rfl ?_); refine goesL_ (some 16) rfl rfl Tryd.func15 (by kernel_rfl) rfl #[.slice A0 l0.length c0] rfl ap3 ?_; (with_reducible refine (L15Long.calls k _ _ l0 false _ ?side1 ?side2 A5.out).mono ?_); (case side1 => repeat (first | exact (Kd.C_below HR0.out HB.out) | (with_reducible refine Kd.C_alloc ?_ _) | (with_reducible refine Kd.C_drewN ?_ _) | (with_reducible refine Kd.C_drew ?_))); (case side2 => exact HC0.out); rintro e w' ⟨rfl, ⟨nd, rfl⟩⟩; refine ⟨_, rfl, ?_⟩) | ((with_reducible refine gate_callee (f := 16) rfl ?_); refine goesL_ (some 19) rfl rfl Tryd.func16 (by kernel_rfl) rfl #[.slice A0 l0.length c0] rfl ap3 ?_; (with_reducible refine (dn_Print.calls k _ _ l0 t816 t817 _ ?side1 ?side2 ?side3 A8.out).mono ?_); (case side1 => repeat (first | exact (Kd.C_below HR0.out ap1) | (with_reducible refine Kd.C_alloc ?_ _) | (with_reducible refine Kd.C_drewN ?_ _) | (with_reducible refine Kd.C_drew ?_))); (case side2 => exact HC0.out); (case side3 => exact ap6); rintro e w11 ⟨rfl, hb⟩; refine ⟨_, rfl, ?_⟩; have n0_ := Aside0.mk (below_step ap1 hb); clear HB; have HB := n0_; clear n0_; (try clear hb); (try clear hb2); (try clear hk); (try clear hi)))
    go_loopg [7, 8] k (fun kq v7 v8 w' => ∃ (x7_1 : ByteArray) (x8_1 : Int), v7 = .string x7_1 ∧ v8 = .int .i64 x8_1 ∧ Aside0 (L15DnSame.l0 kq l0 a1 x7_1 x8_1 = some r) ∧ Aside0 (kq ≤ k) ∧ Aside0 (Below w.heap.size w w'))
    case atStart => exact ⟨((⟨#[]⟩ : ByteArray)), (0), ap2, ap2, H', ⟨Nat.le_refl _⟩, ⟨by repeat (first | (with_reducible first | exact HB.out | apply below_alloc | apply pw_below_drewN | apply below_drew1) | exact HB.out)⟩⟩
    case round =>
     clear H'
     try clear c1
     try clear p2
     try clear c4
     try clear c6
     try clear c9
     try clear c9b0
     try clear c9b1
     try clear c11
     obtain ⟨x7_1, x8_1, rfl, rfl, HA, HK1, HB⟩ := hrel
     cases gk with
     | zero => exact absurd HA.out (by simp [L15DnSame.l0])
     | succ k1 =>
      have H := HA.out
      clear HA
      simp only [L15DnSame.l0] at H
      by_cases c12 : x8_1 < (l0.length : Int)
      ·
       rw [if_pos c12] at H
       have c12b0 := decide_eq_true c12
       clear c12
       have H' := Aside0.mk H
       clear H
       go_wp2
       go_loopg [7, 9] k1 (fun kq v7 v9 w' => ∃ (x7_2 : ByteArray) (x9_2 : Int), v7 = .string x7_2 ∧ v9 = .int .i64 x9_2 ∧ Aside0 (L15DnSame.l1 kq l0 a1 x7_2 x8_1 x9_2 = some r) ∧ Aside0 (kq ≤ k1) ∧ Aside0 (Below w.heap.size w w'))
       case atStart => exact ⟨(x7_1), (0), ap2, ap2, H', ⟨Nat.le_refl _⟩, ⟨by repeat (first | (with_reducible first | exact HB.out | apply below_alloc | apply pw_below_drewN | apply below_drew1) | exact HB.out)⟩⟩
       case round =>
        clear H'
        try clear c1
        try clear p2
        try clear c4
        try clear c6
        try clear c9
        try clear c9b0
        try clear c9b1
        try clear c11
        try clear c12
        try clear c12b0
        try clear p2
        obtain ⟨x7_2, x9_2, rfl, rfl, HA, HK2, HB⟩ := hrel
        cases gk with
        | zero => exact absurd HA.out (by simp [L15DnSame.l1])
        | succ k2 =>
         have H := HA.out
         clear HA
         simp only [L15DnSame.l1] at H
         by_cases c13 : 0 ≤ x8_1
         ·
          rw [if_pos c13] at H
          have c13b0 := decide_eq_true c13
          clear c13
          by_cases c14 : x8_1 < (l0.length : Int)
          ·
           rw [if_pos c14] at H
           have c14b0 := decide_eq_true c14
           clear c14
           by_cases c15 : x9_2 < ((rd_L7 l0 x8_1).length : Int)
           ·
            rw [if_pos c15] at H
            have c15b0 := decide_eq_true c15
            clear c15
            have HC16 := Aside0.mk H
            clear H
            have p819 : 0 ≤ (x8_1 : Int) := of_decide_eq_true ap0
            have q819 : x8_1 < (l0.length : Int) := of_decide_eq_true ap0
            obtain ⟨ad819, A819_0, c819_0, e819, hx819_0, hl819_0, hi819_0⟩ := at_L7 HR0.out x8_1 p819 q819
            cases e819
            replace hx819_0 := (HB.out.cell (World.block_lt_of_cell? w _ hx819_0)).trans hx819_0
            have HR819_0 := Aside0.mk hi819_0
            have HC819_0 := Aside0.mk hl819_0
            clear hi819_0 hl819_0
            replace p819 := eq_true p819
            replace q819 := eq_true q819
            go_upto_if 48 with (fail)
            go_cut [10] (fun v10 wc => ∃ (kq : Nat) (x10_15 : Int), v10 = .int .i64 x10_15 ∧ Aside0 (L15DnSame.j2 kq l0 a1 x7_2 x8_1 x9_2 x10_15 = some r) ∧ Aside0 (kq ≤ k2) ∧ Aside0 (Below w.heap.size w wc))
            case first =>
             have H := HC16.out
             clear HC16
             by_cases c17 : a1 = true
             ·
              subst c17
              rw [if_pos rfl] at H
              have H' := Aside0.mk H
              clear H
              have p820 : 0 ≤ (x8_1 : Int) := of_decide_eq_true ap0
              have q820 : x8_1 < (l0.length : Int) := of_decide_eq_true ap0
              obtain ⟨ad820, A820_0, c820_0, e820, hx820_0, hl820_0, hi820_0⟩ := at_L7 HR0.out x8_1 p820 q820
              obtain rfl : ad819 = ad820 := (by injection e820)
              replace hx820_0 := (HB.out.cell (World.block_lt_of_cell? w _ hx820_0)).trans hx820_0
              have HR820_0 := Aside0.mk hi820_0
              have HC820_0 := Aside0.mk hl820_0
              clear hi820_0 hl820_0
              replace p820 := eq_true p820
              replace q820 := eq_true q820
              go_wp2
              first | go_meet | (simp only [c9b0] at *; go_meet)
              case rel => exact ⟨_, (wrap64 ((wrap64 (((rd_L7 l0 x8_1).length : Int) - 1)) - x9_2)), ap2, H', ⟨by have := HK1.out; have := HK2.out; first | omega | exact Nat.le_refl _⟩, ⟨by repeat (first | (with_reducible first | exact HB.out | apply below_alloc | apply pw_below_drewN | apply below_drew1) | exact HB.out)⟩⟩
             ·
              replace c17 := Bool.eq_false_iff.mpr c17
              subst c17
              rw [if_neg (show ¬ (false = true) by decide)] at H
              have H' := Aside0.mk H
              clear H
              go_wp2
              first | go_meet | (simp only [c9b0] at *; go_meet)
              case rel => exact ⟨_, (x9_2), ap2, H', ⟨by have := HK1.out; have := HK2.out; first | omega | exact Nat.le_refl _⟩, ⟨by repeat (first | (with_reducible first | exact HB.out | apply below_alloc | apply pw_below_drewN | apply below_drew1) | exact HB.out)⟩⟩
            case rest =>
             clear HC16
             try clear c1
             try clear p2
             try clear c4
             try clear c6
             try clear p6
             try clear c8
             try clear p8
             try clear q8
             try clear hx8
             try clear c9
             try clear c9b0
             try clear c9b1
             try clear c11
             try clear c12
             try clear c12b0
             try clear c13
             try clear c13b0
             try clear c14
             try clear c14b0
             try clear c15
             try clear c15b0
             try clear c16
             try clear c17
             try clear hx819_0
             try clear hx820_0
             try clear p2
             try clear p819
             try clear p820
             try clear q819
             try clear q820
             obtain ⟨kq, x10_15, rfl, HA, HJ15, HB⟩ := hcut
             cases kq with
             | zero => exact absurd HA.out (by simp [L15DnSame.j2])
             | succ kj15 =>
              have H := HA.out
              clear HA
              simp only [L15DnSame.j2] at H
              by_cases c18 : x9_2 > 0
              ·
               rw [if_pos c18] at H
               have c18b0 := decide_eq_true c18
               clear c18
               by_cases c19 : x7_2.size + 3 ≤ 9223372036854775807
               ·
                rw [if_pos c19] at H
                have c19b0 := eq_true c19
                have c19b1 := decide_eq_true c19
                try have c19b2 : (9223372036854775807 < x7_2.size + 3) = False := eq_false (Nat.not_lt.2 c19)
                by_cases c20 : 0 ≤ x8_1
                ·
                 rw [if_pos c20] at H
                 have c20b0 := decide_eq_true c20
                 clear c20
                 by_cases c21 : x8_1 < (l0.length : Int)
                 ·
                  rw [if_pos c21] at H
                  have c21b0 := decide_eq_true c21
                  clear c21
                  by_cases c22 : 0 ≤ x10_15
                  ·
                   rw [if_pos c22] at H
                   have c22b0 := decide_eq_true c22
                   clear c22
                   by_cases c23 : x10_15 < ((rd_L7 l0 x8_1).length : Int)
                   ·
                    rw [if_pos c23] at H
                    have c23b0 := decide_eq_true c23
                    clear c23
                    replace H := Option.bind_eq_some_iff.mp H
                    obtain ⟨t823, A240, H⟩ := H
                    replace H : (if (x7_2 ++ (⟨#[32, 43, 32]⟩ : ByteArray)).size + t823.size ≤ 9223372036854775807 then (if ((x7_2 ++ (⟨#[32, 43, 32]⟩ : ByteArray)) ++ t823).size + 3 ≤ 9223372036854775807 then ((R15Text.f kj15 ((rd_T40 (rd_L7 l0 x8_1) x10_15).f1)).bind fun t826 => (if (((x7_2 ++ (⟨#[32, 43, 32]⟩ : ByteArray)) ++ t823) ++ (⟨#[32, 61, 32]⟩ : ByteArray)).size + t826.size ≤ 9223372036854775807 then (L15DnSame.l1 kj15 l0 a1 ((((x7_2 ++ (⟨#[32, 43, 32]⟩ : ByteArray)) ++ t823) ++ (⟨#[32, 61, 32]⟩ : ByteArray)) ++ t826) x8_1 (wrap64 (x9_2 + 1))) else (none))) else (none)) else (none)) = some r := H
                    have A24 := Aside0.mk A240
                    clear A240
                    by_cases c25 : (x7_2 ++ (⟨#[32, 43, 32]⟩ : ByteArray)).size + t823.size ≤ 9223372036854775807
                    ·
                     rw [if_pos c25] at H
                     have c25b0 := eq_true c25
                     have c25b1 := decide_eq_true c25
                     try have c25b2 : (9223372036854775807 < (x7_2 ++ (⟨#[32, 43, 32]⟩ : ByteArray)).size + t823.size) = False := eq_false (Nat.not_lt.2 c25)
                     try (have c25f := eq_false (Nat.not_lt.2 c25); simp only [ByteArray.size_append, sz_lit1, sz_lit2, sz_lit3] at c25f)
                     by_cases c26 : ((x7_2 ++ (⟨#[32, 43, 32]⟩ : ByteArray)) ++ t823).size + 3 ≤ 9223372036854775807
                     ·
                      rw [if_pos c26] at H
                      have c26b0 := eq_true c26
                      have c26b1 := decide_eq_true c26
                      try have c26b2 : (9223372036854775807 < ((x7_2 ++ (⟨#[32, 43, 32]⟩ : ByteArray)) ++ t823).size + 3) = False := eq_false (Nat.not_lt.2 c26)
                      try (have c26f := eq_false (Nat.not_lt.2 c26); simp only [ByteArray.size_append, sz_lit1, sz_lit2, sz_lit3] at c26f)
                      replace H := Option.bind_eq_some_iff.mp H
                      obtain ⟨t826, A270, H⟩ := H
                      replace H : (if (((x7_2 ++ (⟨#[32, 43, 32]⟩ : ByteArray)) ++ t823) ++ (⟨#[32, 61, 32]⟩ : ByteArray)).size + t826.size ≤ 9223372036854775807 then (L15DnSame.l1 kj15 l0 a1 ((((x7_2 ++ (⟨#[32, 43, 32]⟩ : ByteArray)) ++ t823) ++ (⟨#[32, 61, 32]⟩ : ByteArray)) ++ t826) x8_1 (wrap64 (x9_2 + 1))) else (none)) = some r := H
                      have A27 := Aside0.mk A270
                      clear A270
                      by_cases c28 : (((x7_2 ++ (⟨#[32, 43, 32]⟩ : ByteArray)) ++ t823) ++ (⟨#[32, 61, 32]⟩ : ByteArray)).size + t826.size ≤ 9223372036854775807
                      ·
                       rw [if_pos c28] at H
                       have c28b0 := eq_true c28
                       have c28b1 := decide_eq_true c28
                       try have c28b2 : (9223372036854775807 < (((x7_2 ++ (⟨#[32, 43, 32]⟩ : ByteArray)) ++ t823) ++ (⟨#[32, 61, 32]⟩ : ByteArray)).size + t826.size) = False := eq_false (Nat.not_lt.2 c28)
                       try (have c28f := eq_false (Nat.not_lt.2 c28); simp only [ByteArray.size_append, sz_lit1, sz_lit2, sz_lit3] at c28f)
                       have H' := Aside0.mk H
                       clear H
                       try go_wp2
                       have n0_ := Aside0.mk (below_drew1 HB.out)
                       clear HB
                       have HB := n0_
                       clear n0_
                       have p821 : 0 ≤ (x8_1 : Int) := of_decide_eq_true ap0
                       have q821 : x8_1 < (l0.length : Int) := of_decide_eq_true ap0
                       obtain ⟨ad821, A821_0, c821_0, e821, hx821_0, hl821_0, hi821_0⟩ := at_L7 HR0.out x8_1 p821 q821
                       have hw821_0 := hx821_0
                       obtain rfl : ad819 = ad821 := (by injection e821)
                       replace hx821_0 := (HB.out.cell (World.block_lt_of_cell? w _ hx821_0)).trans hx821_0
                       have HR821_0 := Aside0.mk hi821_0
                       have HC821_0 := Aside0.mk hl821_0
                       clear hi821_0 hl821_0
                       replace p821 := eq_true p821
                       replace q821 := eq_true q821
                       have p822 : 0 ≤ (x10_15 : Int) := of_decide_eq_true ap0
                       have q822 : x10_15 < ((rd_L7 l0 x8_1).length : Int) := of_decide_eq_true ap0
                       obtain ⟨ad822, e822, hx822_0, hx822_1⟩ := at_T40 HR821_0.out x10_15 p822 q822
                       have hw822_1 := hx822_1
                       have hw822_0 := hx822_0
                       cases e822
                       replace hx822_0 := (HB.out.cell (World.block_lt_of_cell? w _ hx822_0)).trans hx822_0
                       replace hx822_1 := (HB.out.cell (World.block_lt_of_cell? w _ hx822_1)).trans hx822_1
                       replace p822 := eq_true p822
                       replace q822 := eq_true q822
                       have p824 : 0 ≤ (x8_1 : Int) := of_decide_eq_true ap0
                       have q824 : x8_1 < (l0.length : Int) := of_decide_eq_true ap0
                       obtain ⟨ad824, A824_0, c824_0, e824, hx824_0, hl824_0, hi824_0⟩ := at_L7 HR0.out x8_1 p824 q824
                       have hw824_0 := hx824_0
                       obtain rfl : ad819 = ad824 := (by injection e824)
                       replace hx824_0 := (HB.out.cell (World.block_lt_of_cell? w _ hx824_0)).trans hx824_0
                       have HR824_0 := Aside0.mk hi824_0
                       have HC824_0 := Aside0.mk hl824_0
                       clear hi824_0 hl824_0
                       replace p824 := eq_true p824
                       replace q824 := eq_true q824
                       have ea_ := Option.some.inj (hx821_0.symm.trans hx824_0)
                       injection ea_ with ea_ en_ ec_
                       subst ea_
                       subst ec_
                       clear en_
                       have p825 : 0 ≤ (x10_15 : Int) := of_decide_eq_true ap0
                       have q825 : x10_15 < ((rd_L7 l0 x8_1).length : Int) := of_decide_eq_true ap0
                       obtain ⟨ad825, e825, hx825_0, hx825_1⟩ := at_T40 HR824_0.out x10_15 p825 q825
                       have hw825_1 := hx825_1
                       have hw825_0 := hx825_0
                       cases e825
                       replace hx825_0 := (HB.out.cell (World.block_lt_of_cell? w _ hx825_0)).trans hx825_0
                       replace hx825_1 := (HB.out.cell (World.block_lt_of_cell? w _ hx825_1)).trans hx825_1
                       replace p825 := eq_true p825
                       replace q825 := eq_true q825
                       refine start_ (n := 23) (S := fun w' => w'.cell? (ad819.add (x8_1).toNat) = some (.slice (some ad822) (rd_L7 l0 x8_1).length c821_0) ∧ w'.cell? (ad822.add ((x10_15).toNat * 2)) = some (.string ((rd_T40 (rd_L7 l0 x8_1) x10_15).f0)) ∧ w'.cell? ⟨(ad822.add ((x10_15).toNat * 2)).block, (ad822.add ((x10_15).toNat * 2)).off + 1, none⟩ = some (.string ((rd_T40 (rd_L7 l0 x8_1) x10_15).f1)) ∧ w'.cell? (ad819.add (x8_1).toNat) = some (.slice (some ad822) (rd_L7 l0 x8_1).length c821_0) ∧ w'.cell? (ad822.add ((x10_15).toNat * 2)) = some (.string ((rd_T40 (rd_L7 l0 x8_1) x10_15).f0)) ∧ w'.cell? ⟨(ad822.add ((x10_15).toNat * 2)).block, (ad822.add ((x10_15).toNat * 2)).off + 1, none⟩ = some (.string ((rd_T40 (rd_L7 l0 x8_1) x10_15).f1))) (ds := []) #[false, false, false, false, false, false, false, false, false, false, false, false, false, false, false, false, false, false, false, false, false, false, false] (by kernel_rfl) rfl rfl ⟨((HB.out.cell (World.block_lt_of_cell? w _ hw821_0)).trans hw821_0), ((HB.out.cell (World.block_lt_of_cell? w _ hw822_0)).trans hw822_0), ((HB.out.cell (World.block_lt_of_cell? w _ hw822_1)).trans hw822_1), ((HB.out.cell (World.block_lt_of_cell? w _ hw824_0)).trans hw824_0), ((HB.out.cell (World.block_lt_of_cell? w _ hw825_0)).trans hw825_0), ((HB.out.cell (World.block_lt_of_cell? w _ hw825_1)).trans hw825_1)⟩ (fun hHeld => ?_); refine with_tabW L15DnSame.tab22 L15DnSame.bits22 (fun HT_ HW_ => ?_)
                       generalize wc.drew = w29 at HB HR821_0 HR824_0 hx821_0 hx822_0 hx822_1 hx824_0 hx825_0 hx825_1 hHeld ⊢
                       refine pure_ (i := 0) (N := some 65) (v := ?_) (a' := ?_) #[true, false, false, false, false, false, false, false, false, false, false, false, false, false, false, false, false, false, false, false, false, false, false] rfl rfl (any_of HT_.out (by kernel_rfl)) (fun _ _ _ h => h) (Or.inl ⟨by rfl, ?_⟩) ?_ ?_
                       rotate_left
                       ·
                        intro w'
                        go_simp
                        with_reducible rfl
                       rotate_left
                       ·
                        simp only [Act.put, List.setIfInBounds_toArray, List.set_cons_zero, List.set_cons_succ, i64_w, i32_w]
                        rfl
                       refine pure_ (i := 1) (N := some 66) (v := ?_) (a' := ?_) #[true, true, false, false, false, false, false, false, false, false, false, false, false, false, false, false, false, false, false, false, false, false, false] rfl rfl (any_of HT_.out (by kernel_rfl)) (fun _ _ _ h => h) (Or.inl ⟨by rfl, ?_⟩) ?_ ?_
                       rotate_left
                       ·
                        intro w'
                        go_simp
                        with_reducible rfl
                       rotate_left
                       ·
                        simp only [Act.put, List.setIfInBounds_toArray, List.set_cons_zero, List.set_cons_succ, i64_w, i32_w]
                        rfl
                       refine pure_ (i := 2) (N := some 67) (v := ?_) (a' := ?_) #[true, true, true, false, false, false, false, false, false, false, false, false, false, false, false, false, false, false, false, false, false, false, false] rfl rfl (any_of HT_.out (by kernel_rfl)) (fun _ _ _ h => h) (Or.inl ⟨by rfl, ?_⟩) ?_ ?_
                       rotate_left
                       ·
                        intro w'
                        go_simp
                        with_reducible rfl
                       rotate_left
                       ·
                        simp only [Act.put, List.setIfInBounds_toArray, List.set_cons_zero, List.set_cons_succ, i64_w, i32_w]
                        rfl
                       refine pure_ (i := 3) (N := some 68) (v := ?_) (a' := ?_) #[true, true, true, true, false, false, false, false, false, false, false, false, false, false, false, false, false, false, false, false, false, false, false] rfl rfl (any_of HT_.out (by kernel_rfl)) (fun _ _ _ h => h) (Or.inl ⟨by rfl, ?_⟩) ?_ ?_
                       rotate_left
                       ·
                        intro w'
                        go_simp
                        with_reducible rfl
                       rotate_left
                       ·
                        simp only [Act.put, List.setIfInBounds_toArray, List.set_cons_zero, List.set_cons_succ, i64_w, i32_w]
                        rfl
                       refine pure_ (i := 5) (N := some 70) (v := ?_) (a' := ?_) #[true, true, true, true, false, true, false, false, false, false, false, false, false, false, false, false, false, false, false, false, false, false, false] rfl rfl (any_of HT_.out (by kernel_rfl)) (fun _ _ _ h => h) (Or.inl ⟨by rfl, ?_⟩) ?_ ?_
                       rotate_left
                       ·
                        intro w'
                        go_simp
                        with_reducible rfl
                       rotate_left
                       ·
                        simp only [Act.put, List.setIfInBounds_toArray, List.set_cons_zero, List.set_cons_succ, i64_w, i32_w]
                        rfl
                       refine pure_ (i := 12) (N := some 77) (v := ?_) (a' := ?_) #[true, true, true, true, false, true, false, false, false, false, false, false, true, false, false, false, false, false, false, false, false, false, false] rfl rfl (any_of HT_.out (by kernel_rfl)) (fun _ _ _ h => h) (Or.inl ⟨by rfl, ?_⟩) ?_ ?_
                       rotate_left
                       ·
                        intro w'
                        go_simp
                        with_reducible rfl
                       rotate_left
                       ·
                        simp only [Act.put, List.setIfInBounds_toArray, List.set_cons_zero, List.set_cons_succ, i64_w, i32_w]
                        rfl
                       refine pure_ (i := 13) (N := some 78) (v := ?_) (a' := ?_) #[true, true, true, true, false, true, false, false, false, false, false, false, true, true, false, false, false, false, false, false, false, false, false] rfl rfl (any_of HT_.out (by kernel_rfl)) (fun _ _ _ h => h) (Or.inl ⟨by rfl, ?_⟩) ?_ ?_
                       rotate_left
                       ·
                        intro w'
                        go_simp
                        with_reducible rfl
                       rotate_left
                       ·
                        simp only [Act.put, List.setIfInBounds_toArray, List.set_cons_zero, List.set_cons_succ, i64_w, i32_w]
                        rfl
                       refine pure_ (i := 14) (N := some 79) (v := ?_) (a' := ?_) #[true, true, true, true, false, true, false, false, false, false, false, false, true, true, true, false, false, false, false, false, false, false, false] rfl rfl (any_of HT_.out (by kernel_rfl)) (fun _ _ _ h => h) (Or.inl ⟨by rfl, ?_⟩) ?_ ?_
                       rotate_left
                       ·
                        intro w'
                        go_simp
                        with_reducible rfl
                       rotate_left
                       ·
                        simp only [Act.put, List.setIfInBounds_toArray, List.set_cons_zero, List.set_cons_succ, i64_w, i32_w]
                        rfl
                       refine pure_ (i := 16) (N := some 81) (v := ?_) (a' := ?_) #[true, true, true, true, false, true, false, false, false, false, false, false, true, true, true, false, true, false, false, false, false, false, false] rfl rfl (any_of HT_.out (by kernel_rfl)) (fun _ _ _ h => h) (Or.inl ⟨by rfl, ?_⟩) ?_ ?_
                       rotate_left
                       ·
                        intro w'
                        go_simp
                        with_reducible rfl
                       rotate_left
                       ·
                        simp only [Act.put, List.setIfInBounds_toArray, List.set_cons_zero, List.set_cons_succ, i64_w, i32_w]
                        rfl
                       refine take_ (i := 4) (N := some 69) (v := ?_) (a' := ?_) #[true, true, true, true, true, true, false, false, false, false, false, false, true, true, true, false, true, false, false, false, false, false, false] rfl rfl (take_ofW HT_.out HW_.out (by kernel_rfl)) (fun _ _ _ h => h) (Or.inl ⟨by rfl, ?_⟩) hHeld ?_ ?_
                       rotate_left
                       ·
                        rintro w' ⟨s0, s1, s2, s3, s4, s5⟩
                        go_simp
                        with_reducible rfl
                       rotate_left
                       ·
                        simp only [Act.put, List.setIfInBounds_toArray, List.set_cons_zero, List.set_cons_succ, i64_w, i32_w]
                        rfl
                       refine pure_ (i := 6) (N := some 71) (v := ?_) (a' := ?_) #[true, true, true, true, true, true, true, false, false, false, false, false, true, true, true, false, true, false, false, false, false, false, false] rfl rfl (any_of HT_.out (by kernel_rfl)) (fun _ _ _ h => h) (Or.inl ⟨by rfl, ?_⟩) ?_ ?_
                       rotate_left
                       ·
                        intro w'
                        go_simp
                        with_reducible rfl
                       rotate_left
                       ·
                        simp only [Act.put, List.setIfInBounds_toArray, List.set_cons_zero, List.set_cons_succ, i64_w, i32_w]
                        rfl
                       refine pure_ (i := 7) (N := some 72) (v := ?_) (a' := ?_) #[true, true, true, true, true, true, true, true, false, false, false, false, true, true, true, false, true, false, false, false, false, false, false] rfl rfl (any_of HT_.out (by kernel_rfl)) (fun _ _ _ h => h) (Or.inl ⟨by rfl, ?_⟩) ?_ ?_
                       rotate_left
                       ·
                        intro w'
                        go_simp
                        with_reducible rfl
                       rotate_left
                       ·
                        simp only [Act.put, List.setIfInBounds_toArray, List.set_cons_zero, List.set_cons_succ, i64_w, i32_w]
                        rfl
                       refine take_ (i := 8) (N := some 73) (v := ?_) (a' := ?_) #[true, true, true, true, true, true, true, true, true, false, false, false, true, true, true, false, true, false, false, false, false, false, false] rfl rfl (take_ofW HT_.out HW_.out (by kernel_rfl)) (fun _ _ _ h => h) (Or.inl ⟨by rfl, ?_⟩) hHeld ?_ ?_
                       rotate_left
                       ·
                        rintro w' ⟨s0, s1, s2, s3, s4, s5⟩
                        go_simp
                        with_reducible rfl
                       rotate_left
                       ·
                        simp only [Act.put, List.setIfInBounds_toArray, List.set_cons_zero, List.set_cons_succ, i64_w, i32_w]
                        rfl
                       refine take_ (i := 15) (N := some 80) (v := ?_) (a' := ?_) #[true, true, true, true, true, true, true, true, true, false, false, false, true, true, true, true, true, false, false, false, false, false, false] rfl rfl (take_ofW HT_.out HW_.out (by kernel_rfl)) (fun _ _ _ h => h) (Or.inl ⟨by rfl, ?_⟩) hHeld ?_ ?_
                       rotate_left
                       ·
                        rintro w' ⟨s0, s1, s2, s3, s4, s5⟩
                        go_simp
                        with_reducible rfl
                       rotate_left
                       ·
                        simp only [Act.put, List.setIfInBounds_toArray, List.set_cons_zero, List.set_cons_succ, i64_w, i32_w]
                        rfl
                       refine pure_ (i := 17) (N := some 82) (v := ?_) (a' := ?_) #[true, true, true, true, true, true, true, true, true, false, false, false, true, true, true, true, true, true, false, false, false, false, false] rfl rfl (any_of HT_.out (by kernel_rfl)) (fun _ _ _ h => h) (Or.inl ⟨by rfl, ?_⟩) ?_ ?_
                       rotate_left
                       ·
                        intro w'
                        go_simp
                        with_reducible rfl
                       rotate_left
                       ·
                        simp only [Act.put, List.setIfInBounds_toArray, List.set_cons_zero, List.set_cons_succ, i64_w, i32_w]
                        rfl
                       refine pure_ (i := 18) (N := some 83) (v := ?_) (a' := ?_) #[true, true, true, true, true, true, true, true, true, false, false, false, true, true, true, true, true, true, true, false, false, false, false] rfl rfl (any_of HT_.out (by kernel_rfl)) (fun _ _ _ h => h) (Or.inl ⟨by rfl, ?_⟩) ?_ ?_
                       rotate_left
                       ·
                        intro w'
                        go_simp
                        with_reducible rfl
                       rotate_left
                       ·
                        simp only [Act.put, List.setIfInBounds_toArray, List.set_cons_zero, List.set_cons_succ, i64_w, i32_w]
                        rfl
                       refine take_ (i := 19) (N := some 84) (v := ?_) (a' := ?_) #[true, true, true, true, true, true, true, true, true, false, false, false, true, true, true, true, true, true, true, true, false, false, false] rfl rfl (take_ofW HT_.out HW_.out (by kernel_rfl)) (fun _ _ _ h => h) (Or.inl ⟨by rfl, ?_⟩) hHeld ?_ ?_
                       rotate_left
                       ·
                        rintro w' ⟨s0, s1, s2, s3, s4, s5⟩
                        go_simp
                        with_reducible rfl
                       rotate_left
                       ·
                        simp only [Act.put, List.setIfInBounds_toArray, List.set_cons_zero, List.set_cons_succ, i64_w, i32_w]
                        rfl
                       refine one_ (i := 9) (N := some 74) #[true, true, true, true, true, true, true, true, true, true, false, false, true, true, true, true, true, true, true, true, false, false, false] rfl rfl (one_of HT_.out (by kernel_rfl)) (by decide) (fun K hK => ?_)
                       refine goes_ Tryd.func22 (by kernel_rfl) rfl #[.string ((rd_T40 (rd_L7 l0 x8_1) x10_15).f0)] (by rfl) rfl rfl ap3 ?_
                       with_reducible refine (L15upper.calls ((rd_T40 (rd_L7 l0 x8_1) x10_15).f0) t823 _ A24.out).mono ?_
                       rintro e w30 ⟨rfl, hb⟩
                       refine ⟨_, rfl, ?_⟩
                       have n0_ := Aside0.mk (below_step ap1 hb)
                       clear HB
                       have HB := n0_
                       clear n0_
                       (try clear hb)
                       (try clear hb2)
                       (try clear hk)
                       (try clear hi)
                       refine hK.out _ _ ⟨((HB.out.cell (World.block_lt_of_cell? w _ hw821_0)).trans hw821_0), ((HB.out.cell (World.block_lt_of_cell? w _ hw822_0)).trans hw822_0), ((HB.out.cell (World.block_lt_of_cell? w _ hw822_1)).trans hw822_1), ((HB.out.cell (World.block_lt_of_cell? w _ hw824_0)).trans hw824_0), ((HB.out.cell (World.block_lt_of_cell? w _ hw825_0)).trans hw825_0), ((HB.out.cell (World.block_lt_of_cell? w _ hw825_1)).trans hw825_1)⟩ (fun hHeld => ?_)
                       clear hK K
                       refine norm_ (a' := ?_) ?_ ?_
                       rotate_left
                       ·
                        show Act.put _ (some 74) _ = _
                        simp only [Act.put, List.setIfInBounds_toArray, List.set_cons_zero, List.set_cons_succ, i64_w, i32_w]
                        rfl
                       refine pure_ (i := 10) (N := some 75) (v := ?_) (a' := ?_) #[true, true, true, true, true, true, true, true, true, true, true, false, true, true, true, true, true, true, true, true, false, false, false] rfl rfl (any_of HT_.out (by kernel_rfl)) (fun _ _ _ h => h) (Or.inl ⟨by rfl, ?_⟩) ?_ ?_
                       rotate_left
                       ·
                        intro w'
                        go_simp
                        with_reducible rfl
                       rotate_left
                       ·
                        simp only [Act.put, List.setIfInBounds_toArray, List.set_cons_zero, List.set_cons_succ, i64_w, i32_w]
                        rfl
                       refine pure_ (i := 11) (N := some 76) (v := ?_) (a' := ?_) #[true, true, true, true, true, true, true, true, true, true, true, true, true, true, true, true, true, true, true, true, false, false, false] rfl rfl (any_of HT_.out (by kernel_rfl)) (fun _ _ _ h => h) (Or.inl ⟨by rfl, ?_⟩) ?_ ?_
                       rotate_left
                       ·
                        intro w'
                        go_simp
                        with_reducible rfl
                       rotate_left
                       ·
                        simp only [Act.put, List.setIfInBounds_toArray, List.set_cons_zero, List.set_cons_succ, i64_w, i32_w]
                        rfl
                       refine one_ (i := 20) (N := some 85) #[true, true, true, true, true, true, true, true, true, true, true, true, true, true, true, true, true, true, true, true, true, false, false] rfl rfl (one_of HT_.out (by kernel_rfl)) (by decide) (fun K hK => ?_)
                       refine goes_ Tryd.func23 (by kernel_rfl) rfl #[.string ((rd_T40 (rd_L7 l0 x8_1) x10_15).f1)] (by rfl) rfl rfl ap3 ?_
                       with_reducible refine (R15Text.calls kj15 ((rd_T40 (rd_L7 l0 x8_1) x10_15).f1) t826 _ A27.out).mono ?_
                       rintro e w31 ⟨rfl, hb⟩
                       refine ⟨_, rfl, ?_⟩
                       have n0_ := Aside0.mk (below_step ap1 hb)
                       clear HB
                       have HB := n0_
                       clear n0_
                       (try clear hb)
                       (try clear hb2)
                       (try clear hk)
                       (try clear hi)
                       refine hK.out _ _ ⟨((HB.out.cell (World.block_lt_of_cell? w _ hw821_0)).trans hw821_0), ((HB.out.cell (World.block_lt_of_cell? w _ hw822_0)).trans hw822_0), ((HB.out.cell (World.block_lt_of_cell? w _ hw822_1)).trans hw822_1), ((HB.out.cell (World.block_lt_of_cell? w _ hw824_0)).trans hw824_0), ((HB.out.cell (World.block_lt_of_cell? w _ hw825_0)).trans hw825_0), ((HB.out.cell (World.block_lt_of_cell? w _ hw825_1)).trans hw825_1)⟩ (fun hHeld => ?_)
                       clear hK K
                       refine norm_ (a' := ?_) ?_ ?_
                       rotate_left
                       ·
                        show Act.put _ (some 85) _ = _
                        simp only [Act.put, List.setIfInBounds_toArray, List.set_cons_zero, List.set_cons_succ, i64_w, i32_w]
                        rfl
                       refine pure_ (i := 21) (N := some 86) (v := ?_) (a' := ?_) #[true, true, true, true, true, true, true, true, true, true, true, true, true, true, true, true, true, true, true, true, true, true, false] rfl rfl (any_of HT_.out (by kernel_rfl)) (fun _ _ _ h => h) (Or.inl ⟨by rfl, ?_⟩) ?_ ?_
                       rotate_left
                       ·
                        intro w'
                        go_simp
                        with_reducible rfl
                       rotate_left
                       ·
                        simp only [Act.put, List.setIfInBounds_toArray, List.set_cons_zero, List.set_cons_succ, i64_w, i32_w]
                        rfl
                       refine pure_ (i := 22) (N := some 7) (v := ?_) (a' := ?_) #[true, true, true, true, true, true, true, true, true, true, true, true, true, true, true, true, true, true, true, true, true, true, true] rfl rfl (any_of HT_.out (by kernel_rfl)) (fun _ _ _ h => h) (Or.inl ⟨by rfl, ?_⟩) ?_ ?_
                       rotate_left
                       ·
                        intro w'
                        go_simp
                        with_reducible rfl
                       rotate_left
                       ·
                        simp only [Act.put, List.setIfInBounds_toArray, List.set_cons_zero, List.set_cons_succ, i64_w, i32_w]
                        rfl
                       refine done_ (done_of HT_.out (by kernel_rfl)) ?_
                       try go_wp2
                       go_roundg kj15
                       case measure => have := HK1.out; have := HK2.out; have := HJ15.out; omega
                       case rel => exact ⟨((((x7_2 ++ (⟨#[32, 43, 32]⟩ : ByteArray)) ++ t823) ++ (⟨#[32, 61, 32]⟩ : ByteArray)) ++ t826), (wrap64 (x9_2 + 1)), ap2, ap2, H', ⟨by have := HK1.out; have := HK2.out; have := HJ15.out; omega⟩, ⟨by repeat (first | (with_reducible first | exact HB.out | apply below_alloc | apply pw_below_drewN | apply below_drew1) | exact HB.out)⟩⟩
                      ·
                       rw [if_neg c28] at H
                       exact absurd H (by simp)
                     ·
                      rw [if_neg c26] at H
                      exact absurd H (by simp)
                    ·
                     rw [if_neg c25] at H
                     exact absurd H (by simp)
                   ·
                    rw [if_neg c23] at H
                    exact absurd H (by simp)
                  ·
                   rw [if_neg c22] at H
                   exact absurd H (by simp)
                 ·
                  rw [if_neg c21] at H
                  exact absurd H (by simp)
                ·
                 rw [if_neg c20] at H
                 exact absurd H (by simp)
               ·
                rw [if_neg c19] at H
                exact absurd H (by simp)
              ·
               rw [if_neg c18] at H
               have c18b0 := decide_eq_false c18
               clear c18
               by_cases c32 : x8_1 > 0
               ·
                rw [if_pos c32] at H
                have c32b0 := decide_eq_true c32
                clear c32
                by_cases c33 : x7_2.size + 3 ≤ 9223372036854775807
                ·
                 rw [if_pos c33] at H
                 have c33b0 := eq_true c33
                 have c33b1 := decide_eq_true c33
                 try have c33b2 : (9223372036854775807 < x7_2.size + 3) = False := eq_false (Nat.not_lt.2 c33)
                 by_cases c34 : 0 ≤ x8_1
                 ·
                  rw [if_pos c34] at H
                  have c34b0 := decide_eq_true c34
                  clear c34
                  by_cases c35 : x8_1 < (l0.length : Int)
                  ·
                   rw [if_pos c35] at H
                   have c35b0 := decide_eq_true c35
                   clear c35
                   by_cases c36 : 0 ≤ x10_15
                   ·
                    rw [if_pos c36] at H
                    have c36b0 := decide_eq_true c36
                    clear c36
                    by_cases c37 : x10_15 < ((rd_L7 l0 x8_1).length : Int)
                    ·
                     rw [if_pos c37] at H
                     have c37b0 := decide_eq_true c37
                     clear c37
                     replace H := Option.bind_eq_some_iff.mp H
                     obtain ⟨t829, A380, H⟩ := H
                     replace H : (if (x7_2 ++ (⟨#[32, 59, 32]⟩ : ByteArray)).size + t829.size ≤ 9223372036854775807 then (if ((x7_2 ++ (⟨#[32, 59, 32]⟩ : ByteArray)) ++ t829).size + 3 ≤ 9223372036854775807 then ((R15Text.f kj15 ((rd_T40 (rd_L7 l0 x8_1) x10_15).f1)).bind fun t832 => (if (((x7_2 ++ (⟨#[32, 59, 32]⟩ : ByteArray)) ++ t829) ++ (⟨#[32, 61, 32]⟩ : ByteArray)).size + t832.size ≤ 9223372036854775807 then (L15DnSame.l1 kj15 l0 a1 ((((x7_2 ++ (⟨#[32, 59, 32]⟩ : ByteArray)) ++ t829) ++ (⟨#[32, 61, 32]⟩ : ByteArray)) ++ t832) x8_1 (wrap64 (x9_2 + 1))) else (none))) else (none)) else (none)) = some r := H
                     have A38 := Aside0.mk A380
                     clear A380
                     by_cases c39 : (x7_2 ++ (⟨#[32, 59, 32]⟩ : ByteArray)).size + t829.size ≤ 9223372036854775807
                     ·
                      rw [if_pos c39] at H
                      have c39b0 := eq_true c39
                      have c39b1 := decide_eq_true c39
                      try have c39b2 : (9223372036854775807 < (x7_2 ++ (⟨#[32, 59, 32]⟩ : ByteArray)).size + t829.size) = False := eq_false (Nat.not_lt.2 c39)
                      try (have c39f := eq_false (Nat.not_lt.2 c39); simp only [ByteArray.size_append, sz_lit1, sz_lit2, sz_lit3] at c39f)
                      by_cases c40 : ((x7_2 ++ (⟨#[32, 59, 32]⟩ : ByteArray)) ++ t829).size + 3 ≤ 9223372036854775807
                      ·
                       rw [if_pos c40] at H
                       have c40b0 := eq_true c40
                       have c40b1 := decide_eq_true c40
                       try have c40b2 : (9223372036854775807 < ((x7_2 ++ (⟨#[32, 59, 32]⟩ : ByteArray)) ++ t829).size + 3) = False := eq_false (Nat.not_lt.2 c40)
                       try (have c40f := eq_false (Nat.not_lt.2 c40); simp only [ByteArray.size_append, sz_lit1, sz_lit2, sz_lit3] at c40f)
                       replace H := Option.bind_eq_some_iff.mp H
                       obtain ⟨t832, A410, H⟩ := H
                       replace H : (if (((x7_2 ++ (⟨#[32, 59, 32]⟩ : ByteArray)) ++ t829) ++ (⟨#[32, 61, 32]⟩ : ByteArray)).size + t832.size ≤ 9223372036854775807 then (L15DnSame.l1 kj15 l0 a1 ((((x7_2 ++ (⟨#[32, 59, 32]⟩ : ByteArray)) ++ t829) ++ (⟨#[32, 61, 32]⟩ : ByteArray)) ++ t832) x8_1 (wrap64 (x9_2 + 1))) else (none)) = some r := H
                       have A41 := Aside0.mk A410
                       clear A410
                       by_cases c42 : (((x7_2 ++ (⟨#[32, 59, 32]⟩ : ByteArray)) ++ t829) ++ (⟨#[32, 61, 32]⟩ : ByteArray)).size + t832.size ≤ 9223372036854775807
                       ·
                        rw [if_pos c42] at H
                        have c42b0 := eq_true c42
                        have c42b1 := decide_eq_true c42
                        try have c42b2 : (9223372036854775807 < (((x7_2 ++ (⟨#[32, 59, 32]⟩ : ByteArray)) ++ t829) ++ (⟨#[32, 61, 32]⟩ : ByteArray)).size + t832.size) = False := eq_false (Nat.not_lt.2 c42)
                        try (have c42f := eq_false (Nat.not_lt.2 c42); simp only [ByteArray.size_append, sz_lit1, sz_lit2, sz_lit3] at c42f)
                        have H' := Aside0.mk H
                        clear H
                        try go_wp2
                        have n0_ := Aside0.mk (below_drew1 HB.out)
                        clear HB
                        have HB := n0_
                        clear n0_
                        have p827 : 0 ≤ (x8_1 : Int) := of_decide_eq_true ap0
                        have q827 : x8_1 < (l0.length : Int) := of_decide_eq_true ap0
                        obtain ⟨ad827, A827_0, c827_0, e827, hx827_0, hl827_0, hi827_0⟩ := at_L7 HR0.out x8_1 p827 q827
                        have hw827_0 := hx827_0
                        obtain rfl : ad819 = ad827 := (by injection e827)
                        replace hx827_0 := (HB.out.cell (World.block_lt_of_cell? w _ hx827_0)).trans hx827_0
                        have HR827_0 := Aside0.mk hi827_0
                        have HC827_0 := Aside0.mk hl827_0
                        clear hi827_0 hl827_0
                        replace p827 := eq_true p827
                        replace q827 := eq_true q827
                        have p828 : 0 ≤ (x10_15 : Int) := of_decide_eq_true ap0
                        have q828 : x10_15 < ((rd_L7 l0 x8_1).length : Int) := of_decide_eq_true ap0
                        obtain ⟨ad828, e828, hx828_0, hx828_1⟩ := at_T40 HR827_0.out x10_15 p828 q828
                        have hw828_1 := hx828_1
                        have hw828_0 := hx828_0
                        cases e828
                        replace hx828_0 := (HB.out.cell (World.block_lt_of_cell? w _ hx828_0)).trans hx828_0
                        replace hx828_1 := (HB.out.cell (World.block_lt_of_cell? w _ hx828_1)).trans hx828_1
                        replace p828 := eq_true p828
                        replace q828 := eq_true q828
                        have p830 : 0 ≤ (x8_1 : Int) := of_decide_eq_true ap0
                        have q830 : x8_1 < (l0.length : Int) := of_decide_eq_true ap0
                        obtain ⟨ad830, A830_0, c830_0, e830, hx830_0, hl830_0, hi830_0⟩ := at_L7 HR0.out x8_1 p830 q830
                        have hw830_0 := hx830_0
                        obtain rfl : ad819 = ad830 := (by injection e830)
                        replace hx830_0 := (HB.out.cell (World.block_lt_of_cell? w _ hx830_0)).trans hx830_0
                        have HR830_0 := Aside0.mk hi830_0
                        have HC830_0 := Aside0.mk hl830_0
                        clear hi830_0 hl830_0
                        replace p830 := eq_true p830
                        replace q830 := eq_true q830
                        have ea_ := Option.some.inj (hx827_0.symm.trans hx830_0)
                        injection ea_ with ea_ en_ ec_
                        subst ea_
                        subst ec_
                        clear en_
                        have p831 : 0 ≤ (x10_15 : Int) := of_decide_eq_true ap0
                        have q831 : x10_15 < ((rd_L7 l0 x8_1).length : Int) := of_decide_eq_true ap0
                        obtain ⟨ad831, e831, hx831_0, hx831_1⟩ := at_T40 HR830_0.out x10_15 p831 q831
                        have hw831_1 := hx831_1
                        have hw831_0 := hx831_0
                        cases e831
                        replace hx831_0 := (HB.out.cell (World.block_lt_of_cell? w _ hx831_0)).trans hx831_0
                        replace hx831_1 := (HB.out.cell (World.block_lt_of_cell? w _ hx831_1)).trans hx831_1
                        replace p831 := eq_true p831
                        replace q831 := eq_true q831
                        refine start_ (n := 23) (S := fun w' => w'.cell? (ad819.add (x8_1).toNat) = some (.slice (some ad828) (rd_L7 l0 x8_1).length c827_0) ∧ w'.cell? (ad828.add ((x10_15).toNat * 2)) = some (.string ((rd_T40 (rd_L7 l0 x8_1) x10_15).f0)) ∧ w'.cell? ⟨(ad828.add ((x10_15).toNat * 2)).block, (ad828.add ((x10_15).toNat * 2)).off + 1, none⟩ = some (.string ((rd_T40 (rd_L7 l0 x8_1) x10_15).f1)) ∧ w'.cell? (ad819.add (x8_1).toNat) = some (.slice (some ad828) (rd_L7 l0 x8_1).length c827_0) ∧ w'.cell? (ad828.add ((x10_15).toNat * 2)) = some (.string ((rd_T40 (rd_L7 l0 x8_1) x10_15).f0)) ∧ w'.cell? ⟨(ad828.add ((x10_15).toNat * 2)).block, (ad828.add ((x10_15).toNat * 2)).off + 1, none⟩ = some (.string ((rd_T40 (rd_L7 l0 x8_1) x10_15).f1))) (ds := []) #[false, false, false, false, false, false, false, false, false, false, false, false, false, false, false, false, false, false, false, false, false, false, false] (by kernel_rfl) rfl rfl ⟨((HB.out.cell (World.block_lt_of_cell? w _ hw827_0)).trans hw827_0), ((HB.out.cell (World.block_lt_of_cell? w _ hw828_0)).trans hw828_0), ((HB.out.cell (World.block_lt_of_cell? w _ hw828_1)).trans hw828_1), ((HB.out.cell (World.block_lt_of_cell? w _ hw830_0)).trans hw830_0), ((HB.out.cell (World.block_lt_of_cell? w _ hw831_0)).trans hw831_0), ((HB.out.cell (World.block_lt_of_cell? w _ hw831_1)).trans hw831_1)⟩ (fun hHeld => ?_); refine with_tabW L15DnSame.tab22 L15DnSame.bits22 (fun HT_ HW_ => ?_)
                        generalize wc.drew = w43 at HB HR827_0 HR830_0 hx827_0 hx828_0 hx828_1 hx830_0 hx831_0 hx831_1 hHeld ⊢
                        refine pure_ (i := 0) (N := some 65) (v := ?_) (a' := ?_) #[true, false, false, false, false, false, false, false, false, false, false, false, false, false, false, false, false, false, false, false, false, false, false] rfl rfl (any_of HT_.out (by kernel_rfl)) (fun _ _ _ h => h) (Or.inl ⟨by rfl, ?_⟩) ?_ ?_
                        rotate_left
                        ·
                         intro w'
                         go_simp
                         with_reducible rfl
                        rotate_left
                        ·
                         simp only [Act.put, List.setIfInBounds_toArray, List.set_cons_zero, List.set_cons_succ, i64_w, i32_w]
                         rfl
                        refine pure_ (i := 1) (N := some 66) (v := ?_) (a' := ?_) #[true, true, false, false, false, false, false, false, false, false, false, false, false, false, false, false, false, false, false, false, false, false, false] rfl rfl (any_of HT_.out (by kernel_rfl)) (fun _ _ _ h => h) (Or.inl ⟨by rfl, ?_⟩) ?_ ?_
                        rotate_left
                        ·
                         intro w'
                         go_simp
                         with_reducible rfl
                        rotate_left
                        ·
                         simp only [Act.put, List.setIfInBounds_toArray, List.set_cons_zero, List.set_cons_succ, i64_w, i32_w]
                         rfl
                        refine pure_ (i := 2) (N := some 67) (v := ?_) (a' := ?_) #[true, true, true, false, false, false, false, false, false, false, false, false, false, false, false, false, false, false, false, false, false, false, false] rfl rfl (any_of HT_.out (by kernel_rfl)) (fun _ _ _ h => h) (Or.inl ⟨by rfl, ?_⟩) ?_ ?_
                        rotate_left
                        ·
                         intro w'
                         go_simp
                         with_reducible rfl
                        rotate_left
                        ·
                         simp only [Act.put, List.setIfInBounds_toArray, List.set_cons_zero, List.set_cons_succ, i64_w, i32_w]
                         rfl
                        refine pure_ (i := 3) (N := some 68) (v := ?_) (a' := ?_) #[true, true, true, true, false, false, false, false, false, false, false, false, false, false, false, false, false, false, false, false, false, false, false] rfl rfl (any_of HT_.out (by kernel_rfl)) (fun _ _ _ h => h) (Or.inl ⟨by rfl, ?_⟩) ?_ ?_
                        rotate_left
                        ·
                         intro w'
                         go_simp
                         with_reducible rfl
                        rotate_left
                        ·
                         simp only [Act.put, List.setIfInBounds_toArray, List.set_cons_zero, List.set_cons_succ, i64_w, i32_w]
                         rfl
                        refine pure_ (i := 5) (N := some 70) (v := ?_) (a' := ?_) #[true, true, true, true, false, true, false, false, false, false, false, false, false, false, false, false, false, false, false, false, false, false, false] rfl rfl (any_of HT_.out (by kernel_rfl)) (fun _ _ _ h => h) (Or.inl ⟨by rfl, ?_⟩) ?_ ?_
                        rotate_left
                        ·
                         intro w'
                         go_simp
                         with_reducible rfl
                        rotate_left
                        ·
                         simp only [Act.put, List.setIfInBounds_toArray, List.set_cons_zero, List.set_cons_succ, i64_w, i32_w]
                         rfl
                        refine pure_ (i := 12) (N := some 77) (v := ?_) (a' := ?_) #[true, true, true, true, false, true, false, false, false, false, false, false, true, false, false, false, false, false, false, false, false, false, false] rfl rfl (any_of HT_.out (by kernel_rfl)) (fun _ _ _ h => h) (Or.inl ⟨by rfl, ?_⟩) ?_ ?_
                        rotate_left
                        ·
                         intro w'
                         go_simp
                         with_reducible rfl
                        rotate_left
                        ·
                         simp only [Act.put, List.setIfInBounds_toArray, List.set_cons_zero, List.set_cons_succ, i64_w, i32_w]
                         rfl
                        refine pure_ (i := 13) (N := some 78) (v := ?_) (a' := ?_) #[true, true, true, true, false, true, false, false, false, false, false, false, true, true, false, false, false, false, false, false, false, false, false] rfl rfl (any_of HT_.out (by kernel_rfl)) (fun _ _ _ h => h) (Or.inl ⟨by rfl, ?_⟩) ?_ ?_
                        rotate_left
                        ·
                         intro w'
                         go_simp
                         with_reducible rfl
                        rotate_left
                        ·
                         simp only [Act.put, List.setIfInBounds_toArray, List.set_cons_zero, List.set_cons_succ, i64_w, i32_w]
                         rfl
                        refine pure_ (i := 14) (N := some 79) (v := ?_) (a' := ?_) #[true, true, true, true, false, true, false, false, false, false, false, false, true, true, true, false, false, false, false, false, false, false, false] rfl rfl (any_of HT_.out (by kernel_rfl)) (fun _ _ _ h => h) (Or.inl ⟨by rfl, ?_⟩) ?_ ?_
                        rotate_left
                        ·
                         intro w'
                         go_simp
                         with_reducible rfl
                        rotate_left
                        ·
                         simp only [Act.put, List.setIfInBounds_toArray, List.set_cons_zero, List.set_cons_succ, i64_w, i32_w]
                         rfl
                        refine pure_ (i := 16) (N := some 81) (v := ?_) (a' := ?_) #[true, true, true, true, false, true, false, false, false, false, false, false, true, true, true, false, true, false, false, false, false, false, false] rfl rfl (any_of HT_.out (by kernel_rfl)) (fun _ _ _ h => h) (Or.inl ⟨by rfl, ?_⟩) ?_ ?_
                        rotate_left
                        ·
                         intro w'
                         go_simp
                         with_reducible rfl
                        rotate_left
                        ·
                         simp only [Act.put, List.setIfInBounds_toArray, List.set_cons_zero, List.set_cons_succ, i64_w, i32_w]
                         rfl
                        refine take_ (i := 4) (N := some 69) (v := ?_) (a' := ?_) #[true, true, true, true, true, true, false, false, false, false, false, false, true, true, true, false, true, false, false, false, false, false, false] rfl rfl (take_ofW HT_.out HW_.out (by kernel_rfl)) (fun _ _ _ h => h) (Or.inl ⟨by rfl, ?_⟩) hHeld ?_ ?_
                        rotate_left
                        ·
                         rintro w' ⟨s0, s1, s2, s3, s4, s5⟩
                         go_simp
                         with_reducible rfl
                        rotate_left
                        ·
                         simp only [Act.put, List.setIfInBounds_toArray, List.set_cons_zero, List.set_cons_succ, i64_w, i32_w]
                         rfl
                        refine pure_ (i := 6) (N := some 71) (v := ?_) (a' := ?_) #[true, true, true, true, true, true, true, false, false, false, false, false, true, true, true, false, true, false, false, false, false, false, false] rfl rfl (any_of HT_.out (by kernel_rfl)) (fun _ _ _ h => h) (Or.inl ⟨by rfl, ?_⟩) ?_ ?_
                        rotate_left
                        ·
                         intro w'
                         go_simp
                         with_reducible rfl
                        rotate_left
                        ·
                         simp only [Act.put, List.setIfInBounds_toArray, List.set_cons_zero, List.set_cons_succ, i64_w, i32_w]
                         rfl
                        refine pure_ (i := 7) (N := some 72) (v := ?_) (a' := ?_) #[true, true, true, true, true, true, true, true, false, false, false, false, true, true, true, false, true, false, false, false, false, false, false] rfl rfl (any_of HT_.out (by kernel_rfl)) (fun _ _ _ h => h) (Or.inl ⟨by rfl, ?_⟩) ?_ ?_
                        rotate_left
                        ·
                         intro w'
                         go_simp
                         with_reducible rfl
                        rotate_left
                        ·
                         simp only [Act.put, List.setIfInBounds_toArray, List.set_cons_zero, List.set_cons_succ, i64_w, i32_w]
                         rfl
                        refine take_ (i := 8) (N := some 73) (v := ?_) (a' := ?_) #[true, true, true, true, true, true, true, true, true, false, false, false, true, true, true, false, true, false, false, false, false, false, false] rfl rfl (take_ofW HT_.out HW_.out (by kernel_rfl)) (fun _ _ _ h => h) (Or.inl ⟨by rfl, ?_⟩) hHeld ?_ ?_
                        rotate_left
                        ·
                         rintro w' ⟨s0, s1, s2, s3, s4, s5⟩
                         go_simp
                         with_reducible rfl
                        rotate_left
                        ·
                         simp only [Act.put, List.setIfInBounds_toArray, List.set_cons_zero, List.set_cons_succ, i64_w, i32_w]
                         rfl
                        refine take_ (i := 15) (N := some 80) (v := ?_) (a' := ?_) #[true, true, true, true, true, true, true, true, true, false, false, false, true, true, true, true, true, false, false, false, false, false, false] rfl rfl (take_ofW HT_.out HW_.out (by kernel_rfl)) (fun _ _ _ h => h) (Or.inl ⟨by rfl, ?_⟩) hHeld ?_ ?_
                        rotate_left
                        ·
                         rintro w' ⟨s0, s1, s2, s3, s4, s5⟩
                         go_simp
                         with_reducible rfl
                        rotate_left
                        ·
                         simp only [Act.put, List.setIfInBounds_toArray, List.set_cons_zero, List.set_cons_succ, i64_w, i32_w]
                         rfl
                        refine pure_ (i := 17) (N := some 82) (v := ?_) (a' := ?_) #[true, true, true, true, true, true, true, true, true, false, false, false, true, true, true, true, true, true, false, false, false, false, false] rfl rfl (any_of HT_.out (by kernel_rfl)) (fun _ _ _ h => h) (Or.inl ⟨by rfl, ?_⟩) ?_ ?_
                        rotate_left
                        ·
                         intro w'
                         go_simp
                         with_reducible rfl
                        rotate_left
                        ·
                         simp only [Act.put, List.setIfInBounds_toArray, List.set_cons_zero, List.set_cons_succ, i64_w, i32_w]
                         rfl
                        refine pure_ (i := 18) (N := some 83) (v := ?_) (a' := ?_) #[true, true, true, true, true, true, true, true, true, false, false, false, true, true, true, true, true, true, true, false, false, false, false] rfl rfl (any_of HT_.out (by kernel_rfl)) (fun _ _ _ h => h) (Or.inl ⟨by rfl, ?_⟩) ?_ ?_
                        rotate_left
                        ·
                         intro w'
                         go_simp
                         with_reducible rfl
                        rotate_left
                        ·
                         simp only [Act.put, List.setIfInBounds_toArray, List.set_cons_zero, List.set_cons_succ, i64_w, i32_w]
                         rfl
                        refine take_ (i := 19) (N := some 84) (v := ?_) (a' := ?_) #[true, true, true, true, true, true, true, true, true, false, false, false, true, true, true, true, true, true, true, true, false, false, false] rfl rfl (take_ofW HT_.out HW_.out (by kernel_rfl)) (fun _ _ _ h => h) (Or.inl ⟨by rfl, ?_⟩) hHeld ?_ ?_
                        rotate_left
                        ·
                         rintro w' ⟨s0, s1, s2, s3, s4, s5⟩
                         go_simp
                         with_reducible rfl
                        rotate_left
                        ·
                         simp only [Act.put, List.setIfInBounds_toArray, List.set_cons_zero, List.set_cons_succ, i64_w, i32_w]
                         rfl
                        refine one_ (i := 9) (N := some 74) #[true, true, true, true, true, true, true, true, true, true, false, false, true, true, true, true, true, true, true, true, false, false, false] rfl rfl (one_of HT_.out (by kernel_rfl)) (by decide) (fun K hK => ?_)
                        refine goes_ Tryd.func22 (by kernel_rfl) rfl #[.string ((rd_T40 (rd_L7 l0 x8_1) x10_15).f0)] (by rfl) rfl rfl ap3 ?_
                        with_reducible refine (L15upper.calls ((rd_T40 (rd_L7 l0 x8_1) x10_15).f0) t829 _ A38.out).mono ?_
                        rintro e w44 ⟨rfl, hb⟩
                        refine ⟨_, rfl, ?_⟩
                        have n0_ := Aside0.mk (below_step ap1 hb)
                        clear HB
                        have HB := n0_
                        clear n0_
                        (try clear hb)
                        (try clear hb2)
                        (try clear hk)
                        (try clear hi)
                        refine hK.out _ _ ⟨((HB.out.cell (World.block_lt_of_cell? w _ hw827_0)).trans hw827_0), ((HB.out.cell (World.block_lt_of_cell? w _ hw828_0)).trans hw828_0), ((HB.out.cell (World.block_lt_of_cell? w _ hw828_1)).trans hw828_1), ((HB.out.cell (World.block_lt_of_cell? w _ hw830_0)).trans hw830_0), ((HB.out.cell (World.block_lt_of_cell? w _ hw831_0)).trans hw831_0), ((HB.out.cell (World.block_lt_of_cell? w _ hw831_1)).trans hw831_1)⟩ (fun hHeld => ?_)
                        clear hK K
                        refine norm_ (a' := ?_) ?_ ?_
                        rotate_left
                        ·
                         show Act.put _ (some 74) _ = _
                         simp only [Act.put, List.setIfInBounds_toArray, List.set_cons_zero, List.set_cons_succ, i64_w, i32_w]
                         rfl
                        refine pure_ (i := 10) (N := some 75) (v := ?_) (a' := ?_) #[true, true, true, true, true, true, true, true, true, true, true, false, true, true, true, true, true, true, true, true, false, false, false] rfl rfl (any_of HT_.out (by kernel_rfl)) (fun _ _ _ h => h) (Or.inl ⟨by rfl, ?_⟩) ?_ ?_
                        rotate_left
                        ·
                         intro w'
                         go_simp
                         with_reducible rfl
                        rotate_left
                        ·
                         simp only [Act.put, List.setIfInBounds_toArray, List.set_cons_zero, List.set_cons_succ, i64_w, i32_w]
                         rfl
                        refine pure_ (i := 11) (N := some 76) (v := ?_) (a' := ?_) #[true, true, true, true, true, true, true, true, true, true, true, true, true, true, true, true, true, true, true, true, false, false, false] rfl rfl (any_of HT_.out (by kernel_rfl)) (fun _ _ _ h => h) (Or.inl ⟨by rfl, ?_⟩) ?_ ?_
                        rotate_left
                        ·
                         intro w'
                         go_simp
                         with_reducible rfl
                        rotate_left
                        ·
                         simp only [Act.put, List.setIfInBounds_toArray, List.set_cons_zero, List.set_cons_succ, i64_w, i32_w]
                         rfl
                        refine one_ (i := 20) (N := some 85) #[true, true, true, true, true, true, true, true, true, true, true, true, true, true, true, true, true, true, true, true, true, false, false] rfl rfl (one_of HT_.out (by kernel_rfl)) (by decide) (fun K hK => ?_)
                        refine goes_ Tryd.func23 (by kernel_rfl) rfl #[.string ((rd_T40 (rd_L7 l0 x8_1) x10_15).f1)] (by rfl) rfl rfl ap3 ?_
                        with_reducible refine (R15Text.calls kj15 ((rd_T40 (rd_L7 l0 x8_1) x10_15).f1) t832 _ A41.out).mono ?_
                        rintro e w45 ⟨rfl, hb⟩
                        refine ⟨_, rfl, ?_⟩
                        have n0_ := Aside0.mk (below_step ap1 hb)
                        clear HB
                        have HB := n0_
                        clear n0_
                        (try clear hb)
                        (try clear hb2)
                        (try clear hk)
                        (try clear hi)
                        refine hK.out _ _ ⟨((HB.out.cell (World.block_lt_of_cell? w _ hw827_0)).trans hw827_0), ((HB.out.cell (World.block_lt_of_cell? w _ hw828_0)).trans hw828_0), ((HB.out.cell (World.block_lt_of_cell? w _ hw828_1)).trans hw828_1), ((HB.out.cell (World.block_lt_of_cell? w _ hw830_0)).trans hw830_0), ((HB.out.cell (World.block_lt_of_cell? w _ hw831_0)).trans hw831_0), ((HB.out.cell (World.block_lt_of_cell? w _ hw831_1)).trans hw831_1)⟩ (fun hHeld => ?_)
                        clear hK K
                        refine norm_ (a' := ?_) ?_ ?_
                        rotate_left
                        ·
                         show Act.put _ (some 85) _ = _
                         simp only [Act.put, List.setIfInBounds_toArray, List.set_cons_zero, List.set_cons_succ, i64_w, i32_w]
                         rfl
                        refine pure_ (i := 21) (N := some 86) (v := ?_) (a' := ?_) #[true, true, true, true, true, true, true, true, true, true, true, true, true, true, true, true, true, true, true, true, true, true, false] rfl rfl (any_of HT_.out (by kernel_rfl)) (fun _ _ _ h => h) (Or.inl ⟨by rfl, ?_⟩) ?_ ?_
                        rotate_left
                        ·
                         intro w'
                         go_simp
                         with_reducible rfl
                        rotate_left
                        ·
                         simp only [Act.put, List.setIfInBounds_toArray, List.set_cons_zero, List.set_cons_succ, i64_w, i32_w]
                         rfl
                        refine pure_ (i := 22) (N := some 7) (v := ?_) (a' := ?_) #[true, true, true, true, true, true, true, true, true, true, true, true, true, true, true, true, true, true, true, true, true, true, true] rfl rfl (any_of HT_.out (by kernel_rfl)) (fun _ _ _ h => h) (Or.inl ⟨by rfl, ?_⟩) ?_ ?_
                        rotate_left
                        ·
                         intro w'
                         go_simp
                         with_reducible rfl
                        rotate_left
                        ·
                         simp only [Act.put, List.setIfInBounds_toArray, List.set_cons_zero, List.set_cons_succ, i64_w, i32_w]
                         rfl
                        refine done_ (done_of HT_.out (by kernel_rfl)) ?_
                        try go_wp2
                        go_roundg kj15
                        case measure => have := HK1.out; have := HK2.out; have := HJ15.out; omega
                        case rel => exact ⟨((((x7_2 ++ (⟨#[32, 59, 32]⟩ : ByteArray)) ++ t829) ++ (⟨#[32, 61, 32]⟩ : ByteArray)) ++ t832), (wrap64 (x9_2 + 1)), ap2, ap2, H', ⟨by have := HK1.out; have := HK2.out; have := HJ15.out; omega⟩, ⟨by repeat (first | (with_reducible first | exact HB.out | apply below_alloc | apply pw_below_drewN | apply below_drew1) | exact HB.out)⟩⟩
                       ·
                        rw [if_neg c42] at H
                        exact absurd H (by simp)
                      ·
                       rw [if_neg c40] at H
                       exact absurd H (by simp)
                     ·
                      rw [if_neg c39] at H
                      exact absurd H (by simp)
                    ·
                     rw [if_neg c37] at H
                     exact absurd H (by simp)
                   ·
                    rw [if_neg c36] at H
                    exact absurd H (by simp)
                  ·
                   rw [if_neg c35] at H
                   exact absurd H (by simp)
                 ·
                  rw [if_neg c34] at H
                  exact absurd H (by simp)
                ·
                 rw [if_neg c33] at H
                 exact absurd H (by simp)
               ·
                rw [if_neg c32] at H
                have c32b0 := decide_eq_false c32
                clear c32
                by_cases c46 : 0 ≤ x8_1
                ·
                 rw [if_pos c46] at H
                 have c46b0 := decide_eq_true c46
                 clear c46
                 by_cases c47 : x8_1 < (l0.length : Int)
                 ·
                  rw [if_pos c47] at H
                  have c47b0 := decide_eq_true c47
                  clear c47
                  by_cases c48 : 0 ≤ x10_15
                  ·
                   rw [if_pos c48] at H
                   have c48b0 := decide_eq_true c48
                   clear c48
                   by_cases c49 : x10_15 < ((rd_L7 l0 x8_1).length : Int)
                   ·
                    rw [if_pos c49] at H
                    have c49b0 := decide_eq_true c49
                    clear c49
                    replace H := Option.bind_eq_some_iff.mp H
                    obtain ⟨t835, A500, H⟩ := H
                    replace H : (if x7_2.size + t835.size ≤ 9223372036854775807 then (if (x7_2 ++ t835).size + 3 ≤ 9223372036854775807 then ((R15Text.f kj15 ((rd_T40 (rd_L7 l0 x8_1) x10_15).f1)).bind fun t838 => (if ((x7_2 ++ t835) ++ (⟨#[32, 61, 32]⟩ : ByteArray)).size + t838.size ≤ 9223372036854775807 then (L15DnSame.l1 kj15 l0 a1 (((x7_2 ++ t835) ++ (⟨#[32, 61, 32]⟩ : ByteArray)) ++ t838) x8_1 (wrap64 (x9_2 + 1))) else (none))) else (none)) else (none)) = some r := H
                    have A50 := Aside0.mk A500
                    clear A500
                    by_cases c51 : x7_2.size + t835.size ≤ 9223372036854775807
                    ·
                     rw [if_pos c51] at H
                     have c51b0 := eq_true c51
                     have c51b1 := decide_eq_true c51
                     try have c51b2 : (9223372036854775807 < x7_2.size + t835.size) = False := eq_false (Nat.not_lt.2 c51)
                     by_cases c52 : (x7_2 ++ t835).size + 3 ≤ 9223372036854775807
                     ·
                      rw [if_pos c52] at H
                      have c52b0 := eq_true c52
                      have c52b1 := decide_eq_true c52
                      try have c52b2 : (9223372036854775807 < (x7_2 ++ t835).size + 3) = False := eq_false (Nat.not_lt.2 c52)
                      try (have c52f := eq_false (Nat.not_lt.2 c52); simp only [ByteArray.size_append, sz_lit1, sz_lit2, sz_lit3] at c52f)
                      replace H := Option.bind_eq_some_iff.mp H
                      obtain ⟨t838, A530, H⟩ := H
                      replace H : (if ((x7_2 ++ t835) ++ (⟨#[32, 61, 32]⟩ : ByteArray)).size + t838.size ≤ 9223372036854775807 then (L15DnSame.l1 kj15 l0 a1 (((x7_2 ++ t835) ++ (⟨#[32, 61, 32]⟩ : ByteArray)) ++ t838) x8_1 (wrap64 (x9_2 + 1))) else (none)) = some r := H
                      have A53 := Aside0.mk A530
                      clear A530
                      by_cases c54 : ((x7_2 ++ t835) ++ (⟨#[32, 61, 32]⟩ : ByteArray)).size + t838.size ≤ 9223372036854775807
                      ·
                       rw [if_pos c54] at H
                       have c54b0 := eq_true c54
                       have c54b1 := decide_eq_true c54
                       try have c54b2 : (9223372036854775807 < ((x7_2 ++ t835) ++ (⟨#[32, 61, 32]⟩ : ByteArray)).size + t838.size) = False := eq_false (Nat.not_lt.2 c54)
                       try (have c54f := eq_false (Nat.not_lt.2 c54); simp only [ByteArray.size_append, sz_lit1, sz_lit2, sz_lit3] at c54f)
                       have H' := Aside0.mk H
                       clear H
                       try go_wp2
                       have n0_ := Aside0.mk (below_drew1 HB.out)
                       clear HB
                       have HB := n0_
                       clear n0_
                       have p833 : 0 ≤ (x8_1 : Int) := of_decide_eq_true ap0
                       have q833 : x8_1 < (l0.length : Int) := of_decide_eq_true ap0
                       obtain ⟨ad833, A833_0, c833_0, e833, hx833_0, hl833_0, hi833_0⟩ := at_L7 HR0.out x8_1 p833 q833
                       have hw833_0 := hx833_0
                       obtain rfl : ad819 = ad833 := (by injection e833)
                       replace hx833_0 := (HB.out.cell (World.block_lt_of_cell? w _ hx833_0)).trans hx833_0
                       have HR833_0 := Aside0.mk hi833_0
                       have HC833_0 := Aside0.mk hl833_0
                       clear hi833_0 hl833_0
                       replace p833 := eq_true p833
                       replace q833 := eq_true q833
                       have p834 : 0 ≤ (x10_15 : Int) := of_decide_eq_true ap0
                       have q834 : x10_15 < ((rd_L7 l0 x8_1).length : Int) := of_decide_eq_true ap0
                       obtain ⟨ad834, e834, hx834_0, hx834_1⟩ := at_T40 HR833_0.out x10_15 p834 q834
                       have hw834_1 := hx834_1
                       have hw834_0 := hx834_0
                       cases e834
                       replace hx834_0 := (HB.out.cell (World.block_lt_of_cell? w _ hx834_0)).trans hx834_0
                       replace hx834_1 := (HB.out.cell (World.block_lt_of_cell? w _ hx834_1)).trans hx834_1
                       replace p834 := eq_true p834
                       replace q834 := eq_true q834
                       have p836 : 0 ≤ (x8_1 : Int) := of_decide_eq_true ap0
                       have q836 : x8_1 < (l0.length : Int) := of_decide_eq_true ap0
                       obtain ⟨ad836, A836_0, c836_0, e836, hx836_0, hl836_0, hi836_0⟩ := at_L7 HR0.out x8_1 p836 q836
                       have hw836_0 := hx836_0
                       obtain rfl : ad819 = ad836 := (by injection e836)
                       replace hx836_0 := (HB.out.cell (World.block_lt_of_cell? w _ hx836_0)).trans hx836_0
                       have HR836_0 := Aside0.mk hi836_0
                       have HC836_0 := Aside0.mk hl836_0
                       clear hi836_0 hl836_0
                       replace p836 := eq_true p836
                       replace q836 := eq_true q836
                       have ea_ := Option.some.inj (hx833_0.symm.trans hx836_0)
                       injection ea_ with ea_ en_ ec_
                       subst ea_
                       subst ec_
                       clear en_
                       have p837 : 0 ≤ (x10_15 : Int) := of_decide_eq_true ap0
                       have q837 : x10_15 < ((rd_L7 l0 x8_1).length : Int) := of_decide_eq_true ap0
                       obtain ⟨ad837, e837, hx837_0, hx837_1⟩ := at_T40 HR836_0.out x10_15 p837 q837
                       have hw837_1 := hx837_1
                       have hw837_0 := hx837_0
                       cases e837
                       replace hx837_0 := (HB.out.cell (World.block_lt_of_cell? w _ hx837_0)).trans hx837_0
                       replace hx837_1 := (HB.out.cell (World.block_lt_of_cell? w _ hx837_1)).trans hx837_1
                       replace p837 := eq_true p837
                       replace q837 := eq_true q837
                       refine start_ (n := 23) (S := fun w' => w'.cell? (ad819.add (x8_1).toNat) = some (.slice (some ad834) (rd_L7 l0 x8_1).length c833_0) ∧ w'.cell? (ad834.add ((x10_15).toNat * 2)) = some (.string ((rd_T40 (rd_L7 l0 x8_1) x10_15).f0)) ∧ w'.cell? ⟨(ad834.add ((x10_15).toNat * 2)).block, (ad834.add ((x10_15).toNat * 2)).off + 1, none⟩ = some (.string ((rd_T40 (rd_L7 l0 x8_1) x10_15).f1)) ∧ w'.cell? (ad819.add (x8_1).toNat) = some (.slice (some ad834) (rd_L7 l0 x8_1).length c833_0) ∧ w'.cell? (ad834.add ((x10_15).toNat * 2)) = some (.string ((rd_T40 (rd_L7 l0 x8_1) x10_15).f0)) ∧ w'.cell? ⟨(ad834.add ((x10_15).toNat * 2)).block, (ad834.add ((x10_15).toNat * 2)).off + 1, none⟩ = some (.string ((rd_T40 (rd_L7 l0 x8_1) x10_15).f1))) (ds := []) #[false, false, false, false, false, false, false, false, false, false, false, false, false, false, false, false, false, false, false, false, false, false, false] (by kernel_rfl) rfl rfl ⟨((HB.out.cell (World.block_lt_of_cell? w _ hw833_0)).trans hw833_0), ((HB.out.cell (World.block_lt_of_cell? w _ hw834_0)).trans hw834_0), ((HB.out.cell (World.block_lt_of_cell? w _ hw834_1)).trans hw834_1), ((HB.out.cell (World.block_lt_of_cell? w _ hw836_0)).trans hw836_0), ((HB.out.cell (World.block_lt_of_cell? w _ hw837_0)).trans hw837_0), ((HB.out.cell (World.block_lt_of_cell? w _ hw837_1)).trans hw837_1)⟩ (fun hHeld => ?_); refine with_tabW L15DnSame.tab22 L15DnSame.bits22 (fun HT_ HW_ => ?_)
                       generalize wc.drew = w55 at HB HR833_0 HR836_0 hx833_0 hx834_0 hx834_1 hx836_0 hx837_0 hx837_1 hHeld ⊢
                       refine pure_ (i := 0) (N := some 65) (v := ?_) (a' := ?_) #[true, false, false, false, false, false, false, false, false, false, false, false, false, false, false, false, false, false, false, false, false, false, false] rfl rfl (any_of HT_.out (by kernel_rfl)) (fun _ _ _ h => h) (Or.inl ⟨by rfl, ?_⟩) ?_ ?_
                       rotate_left
                       ·
                        intro w'
                        go_simp
                        with_reducible rfl
                       rotate_left
                       ·
                        simp only [Act.put, List.setIfInBounds_toArray, List.set_cons_zero, List.set_cons_succ, i64_w, i32_w]
                        rfl
                       refine pure_ (i := 1) (N := some 66) (v := ?_) (a' := ?_) #[true, true, false, false, false, false, false, false, false, false, false, false, false, false, false, false, false, false, false, false, false, false, false] rfl rfl (any_of HT_.out (by kernel_rfl)) (fun _ _ _ h => h) (Or.inl ⟨by rfl, ?_⟩) ?_ ?_
                       rotate_left
                       ·
                        intro w'
                        go_simp
                        with_reducible rfl
                       rotate_left
                       ·
                        simp only [Act.put, List.setIfInBounds_toArray, List.set_cons_zero, List.set_cons_succ, i64_w, i32_w]
                        rfl
                       refine pure_ (i := 2) (N := some 67) (v := ?_) (a' := ?_) #[true, true, true, false, false, false, false, false, false, false, false, false, false, false, false, false, false, false, false, false, false, false, false] rfl rfl (any_of HT_.out (by kernel_rfl)) (fun _ _ _ h => h) (Or.inl ⟨by rfl, ?_⟩) ?_ ?_
                       rotate_left
                       ·
                        intro w'
                        go_simp
                        with_reducible rfl
                       rotate_left
                       ·
                        simp only [Act.put, List.setIfInBounds_toArray, List.set_cons_zero, List.set_cons_succ, i64_w, i32_w]
                        rfl
                       refine pure_ (i := 3) (N := some 68) (v := ?_) (a' := ?_) #[true, true, true, true, false, false, false, false, false, false, false, false, false, false, false, false, false, false, false, false, false, false, false] rfl rfl (any_of HT_.out (by kernel_rfl)) (fun _ _ _ h => h) (Or.inl ⟨by rfl, ?_⟩) ?_ ?_
                       rotate_left
                       ·
                        intro w'
                        go_simp
                        with_reducible rfl
                       rotate_left
                       ·
                        simp only [Act.put, List.setIfInBounds_toArray, List.set_cons_zero, List.set_cons_succ, i64_w, i32_w]
                        rfl
                       refine pure_ (i := 5) (N := some 70) (v := ?_) (a' := ?_) #[true, true, true, true, false, true, false, false, false, false, false, false, false, false, false, false, false, false, false, false, false, false, false] rfl rfl (any_of HT_.out (by kernel_rfl)) (fun _ _ _ h => h) (Or.inl ⟨by rfl, ?_⟩) ?_ ?_
                       rotate_left
                       ·
                        intro w'
                        go_simp
                        with_reducible rfl
                       rotate_left
                       ·
                        simp only [Act.put, List.setIfInBounds_toArray, List.set_cons_zero, List.set_cons_succ, i64_w, i32_w]
                        rfl
                       refine pure_ (i := 12) (N := some 77) (v := ?_) (a' := ?_) #[true, true, true, true, false, true, false, false, false, false, false, false, true, false, false, false, false, false, false, false, false, false, false] rfl rfl (any_of HT_.out (by kernel_rfl)) (fun _ _ _ h => h) (Or.inl ⟨by rfl, ?_⟩) ?_ ?_
                       rotate_left
                       ·
                        intro w'
                        go_simp
                        with_reducible rfl
                       rotate_left
                       ·
                        simp only [Act.put, List.setIfInBounds_toArray, List.set_cons_zero, List.set_cons_succ, i64_w, i32_w]
                        rfl
                       refine pure_ (i := 13) (N := some 78) (v := ?_) (a' := ?_) #[true, true, true, true, false, true, false, false, false, false, false, false, true, true, false, false, false, false, false, false, false, false, false] rfl rfl (any_of HT_.out (by kernel_rfl)) (fun _ _ _ h => h) (Or.inl ⟨by rfl, ?_⟩) ?_ ?_
                       rotate_left
                       ·
                        intro w'
                        go_simp
                        with_reducible rfl
                       rotate_left
                       ·
                        simp only [Act.put, List.setIfInBounds_toArray, List.set_cons_zero, List.set_cons_succ, i64_w, i32_w]
                        rfl
                       refine pure_ (i := 14) (N := some 79) (v := ?_) (a' := ?_) #[true, true, true, true, false, true, false, false, false, false, false, false, true, true, true, false, false, false, false, false, false, false, false] rfl rfl (any_of HT_.out (by kernel_rfl)) (fun _ _ _ h => h) (Or.inl ⟨by rfl, ?_⟩) ?_ ?_
                       rotate_left
                       ·
                        intro w'
                        go_simp
                        with_reducible rfl
                       rotate_left
                       ·
                        simp only [Act.put, List.setIfInBounds_toArray, List.set_cons_zero, List.set_cons_succ, i64_w, i32_w]
                        rfl
                       refine pure_ (i := 16) (N := some 81) (v := ?_) (a' := ?_) #[true, true, true, true, false, true, false, false, false, false, false, false, true, true, true, false, true, false, false, false, false, false, false] rfl rfl (any_of HT_.out (by kernel_rfl)) (fun _ _ _ h => h) (Or.inl ⟨by rfl, ?_⟩) ?_ ?_
                       rotate_left
                       ·
                        intro w'
                        go_simp
                        with_reducible rfl
                       rotate_left
                       ·
                        simp only [Act.put, List.setIfInBounds_toArray, List.set_cons_zero, List.set_cons_succ, i64_w, i32_w]
                        rfl
                       refine take_ (i := 4) (N := some 69) (v := ?_) (a' := ?_) #[true, true, true, true, true, true, false, false, false, false, false, false, true, true, true, false, true, false, false, false, false, false, false] rfl rfl (take_ofW HT_.out HW_.out (by kernel_rfl)) (fun _ _ _ h => h) (Or.inl ⟨by rfl, ?_⟩) hHeld ?_ ?_
                       rotate_left
                       ·
                        rintro w' ⟨s0, s1, s2, s3, s4, s5⟩
                        go_simp
                        with_reducible rfl
                       rotate_left
                       ·
                        simp only [Act.put, List.setIfInBounds_toArray, List.set_cons_zero, List.set_cons_succ, i64_w, i32_w]
                        rfl
                       refine pure_ (i := 6) (N := some 71) (v := ?_) (a' := ?_) #[true, true, true, true, true, true, true, false, false, false, false, false, true, true, true, false, true, false, false, false, false, false, false] rfl rfl (any_of HT_.out (by kernel_rfl)) (fun _ _ _ h => h) (Or.inl ⟨by rfl, ?_⟩) ?_ ?_
                       rotate_left
                       ·
                        intro w'
                        go_simp
                        with_reducible rfl
                       rotate_left
                       ·
                        simp only [Act.put, List.setIfInBounds_toArray, List.set_cons_zero, List.set_cons_succ, i64_w, i32_w]
                        rfl
                       refine pure_ (i := 7) (N := some 72) (v := ?_) (a' := ?_) #[true, true, true, true, true, true, true, true, false, false, false, false, true, true, true, false, true, false, false, false, false, false, false] rfl rfl (any_of HT_.out (by kernel_rfl)) (fun _ _ _ h => h) (Or.inl ⟨by rfl, ?_⟩) ?_ ?_
                       rotate_left
                       ·
                        intro w'
                        go_simp
                        with_reducible rfl
                       rotate_left
                       ·
                        simp only [Act.put, List.setIfInBounds_toArray, List.set_cons_zero, List.set_cons_succ, i64_w, i32_w]
                        rfl
                       refine take_ (i := 8) (N := some 73) (v := ?_) (a' := ?_) #[true, true, true, true, true, true, true, true, true, false, false, false, true, true, true, false, true, false, false, false, false, false, false] rfl rfl (take_ofW HT_.out HW_.out (by kernel_rfl)) (fun _ _ _ h => h) (Or.inl ⟨by rfl, ?_⟩) hHeld ?_ ?_
                       rotate_left
                       ·
                        rintro w' ⟨s0, s1, s2, s3, s4, s5⟩
                        go_simp
                        with_reducible rfl
                       rotate_left
                       ·
                        simp only [Act.put, List.setIfInBounds_toArray, List.set_cons_zero, List.set_cons_succ, i64_w, i32_w]
                        rfl
                       refine take_ (i := 15) (N := some 80) (v := ?_) (a' := ?_) #[true, true, true, true, true, true, true, true, true, false, false, false, true, true, true, true, true, false, false, false, false, false, false] rfl rfl (take_ofW HT_.out HW_.out (by kernel_rfl)) (fun _ _ _ h => h) (Or.inl ⟨by rfl, ?_⟩) hHeld ?_ ?_
                       rotate_left
                       ·
                        rintro w' ⟨s0, s1, s2, s3, s4, s5⟩
                        go_simp
                        with_reducible rfl
                       rotate_left
                       ·
                        simp only [Act.put, List.setIfInBounds_toArray, List.set_cons_zero, List.set_cons_succ, i64_w, i32_w]
                        rfl
                       refine pure_ (i := 17) (N := some 82) (v := ?_) (a' := ?_) #[true, true, true, true, true, true, true, true, true, false, false, false, true, true, true, true, true, true, false, false, false, false, false] rfl rfl (any_of HT_.out (by kernel_rfl)) (fun _ _ _ h => h) (Or.inl ⟨by rfl, ?_⟩) ?_ ?_
                       rotate_left
                       ·
                        intro w'
                        go_simp
                        with_reducible rfl
                       rotate_left
                       ·
                        simp only [Act.put, List.setIfInBounds_toArray, List.set_cons_zero, List.set_cons_succ, i64_w, i32_w]
                        rfl
                       refine pure_ (i := 18) (N := some 83) (v := ?_) (a' := ?_) #[true, true, true, true, true, true, true, true, true, false, false, false, true, true, true, true, true, true, true, false, false, false, false] rfl rfl (any_of HT_.out (by kernel_rfl)) (fun _ _ _ h => h) (Or.inl ⟨by rfl, ?_⟩) ?_ ?_
                       rotate_left
                       ·
                        intro w'
                        go_simp
                        with_reducible rfl
                       rotate_left
                       ·
                        simp only [Act.put, List.setIfInBounds_toArray, List.set_cons_zero, List.set_cons_succ, i64_w, i32_w]
                        rfl
                       refine take_ (i := 19) (N := some 84) (v := ?_) (a' := ?_) #[true, true, true, true, true, true, true, true, true, false, false, false, true, true, true, true, true, true, true, true, false, false, false] rfl rfl (take_ofW HT_.out HW_.out (by kernel_rfl)) (fun _ _ _ h => h) (Or.inl ⟨by rfl, ?_⟩) hHeld ?_ ?_
                       rotate_left
                       ·
                        rintro w' ⟨s0, s1, s2, s3, s4, s5⟩
                        go_simp
                        with_reducible rfl
                       rotate_left
                       ·
                        simp only [Act.put, List.setIfInBounds_toArray, List.set_cons_zero, List.set_cons_succ, i64_w, i32_w]
                        rfl
                       refine one_ (i := 9) (N := some 74) #[true, true, true, true, true, true, true, true, true, true, false, false, true, true, true, true, true, true, true, true, false, false, false] rfl rfl (one_of HT_.out (by kernel_rfl)) (by decide) (fun K hK => ?_)
                       refine goes_ Tryd.func22 (by kernel_rfl) rfl #[.string ((rd_T40 (rd_L7 l0 x8_1) x10_15).f0)] (by rfl) rfl rfl ap3 ?_
                       with_reducible refine (L15upper.calls ((rd_T40 (rd_L7 l0 x8_1) x10_15).f0) t835 _ A50.out).mono ?_
                       rintro e w56 ⟨rfl, hb⟩
                       refine ⟨_, rfl, ?_⟩
                       have n0_ := Aside0.mk (below_step ap1 hb)
                       clear HB
                       have HB := n0_
                       clear n0_
                       (try clear hb)
                       (try clear hb2)
                       (try clear hk)
                       (try clear hi)
                       refine hK.out _ _ ⟨((HB.out.cell (World.block_lt_of_cell? w _ hw833_0)).trans hw833_0), ((HB.out.cell (World.block_lt_of_cell? w _ hw834_0)).trans hw834_0), ((HB.out.cell (World.block_lt_of_cell? w _ hw834_1)).trans hw834_1), ((HB.out.cell (World.block_lt_of_cell? w _ hw836_0)).trans hw836_0), ((HB.out.cell (World.block_lt_of_cell? w _ hw837_0)).trans hw837_0), ((HB.out.cell (World.block_lt_of_cell? w _ hw837_1)).trans hw837_1)⟩ (fun hHeld => ?_)
                       clear hK K
                       refine norm_ (a' := ?_) ?_ ?_
                       rotate_left
                       ·
                        show Act.put _ (some 74) _ = _
                        simp only [Act.put, List.setIfInBounds_toArray, List.set_cons_zero, List.set_cons_succ, i64_w, i32_w]
                        rfl
                       refine pure_ (i := 10) (N := some 75) (v := ?_) (a' := ?_) #[true, true, true, true, true, true, true, true, true, true, true, false, true, true, true, true, true, true, true, true, false, false, false] rfl rfl (any_of HT_.out (by kernel_rfl)) (fun _ _ _ h => h) (Or.inl ⟨by rfl, ?_⟩) ?_ ?_
                       rotate_left
                       ·
                        intro w'
                        go_simp
                        with_reducible rfl
                       rotate_left
                       ·
                        simp only [Act.put, List.setIfInBounds_toArray, List.set_cons_zero, List.set_cons_succ, i64_w, i32_w]
                        rfl
                       refine pure_ (i := 11) (N := some 76) (v := ?_) (a' := ?_) #[true, true, true, true, true, true, true, true, true, true, true, true, true, true, true, true, true, true, true, true, false, false, false] rfl rfl (any_of HT_.out (by kernel_rfl)) (fun _ _ _ h => h) (Or.inl ⟨by rfl, ?_⟩) ?_ ?_
                       rotate_left
                       ·
                        intro w'
                        go_simp
                        with_reducible rfl
                       rotate_left
                       ·
                        simp only [Act.put, List.setIfInBounds_toArray, List.set_cons_zero, List.set_cons_succ, i64_w, i32_w]
                        rfl
                       refine one_ (i := 20) (N := some 85) #[true, true, true, true, true, true, true, true, true, true, true, true, true, true, true, true, true, true, true, true, true, false, false] rfl rfl (one_of HT_.out (by kernel_rfl)) (by decide) (fun K hK => ?_)
                       refine goes_ Tryd.func23 (by kernel_rfl) rfl #[.string ((rd_T40 (rd_L7 l0 x8_1) x10_15).f1)] (by rfl) rfl rfl ap3 ?_
                       with_reducible refine (R15Text.calls kj15 ((rd_T40 (rd_L7 l0 x8_1) x10_15).f1) t838 _ A53.out).mono ?_
                       rintro e w57 ⟨rfl, hb⟩
                       refine ⟨_, rfl, ?_⟩
                       have n0_ := Aside0.mk (below_step ap1 hb)
                       clear HB
                       have HB := n0_
                       clear n0_
                       (try clear hb)
                       (try clear hb2)
                       (try clear hk)
                       (try clear hi)
                       refine hK.out _ _ ⟨((HB.out.cell (World.block_lt_of_cell? w _ hw833_0)).trans hw833_0), ((HB.out.cell (World.block_lt_of_cell? w _ hw834_0)).trans hw834_0), ((HB.out.cell (World.block_lt_of_cell? w _ hw834_1)).trans hw834_1), ((HB.out.cell (World.block_lt_of_cell? w _ hw836_0)).trans hw836_0), ((HB.out.cell (World.block_lt_of_cell? w _ hw837_0)).trans hw837_0), ((HB.out.cell (World.block_lt_of_cell? w _ hw837_1)).trans hw837_1)⟩ (fun hHeld => ?_)
                       clear hK K
                       refine norm_ (a' := ?_) ?_ ?_
                       rotate_left
                       ·
                        show Act.put _ (some 85) _ = _
                        simp only [Act.put, List.setIfInBounds_toArray, List.set_cons_zero, List.set_cons_succ, i64_w, i32_w]
                        rfl
                       refine pure_ (i := 21) (N := some 86) (v := ?_) (a' := ?_) #[true, true, true, true, true, true, true, true, true, true, true, true, true, true, true, true, true, true, true, true, true, true, false] rfl rfl (any_of HT_.out (by kernel_rfl)) (fun _ _ _ h => h) (Or.inl ⟨by rfl, ?_⟩) ?_ ?_
                       rotate_left
                       ·
                        intro w'
                        go_simp
                        with_reducible rfl
                       rotate_left
                       ·
                        simp only [Act.put, List.setIfInBounds_toArray, List.set_cons_zero, List.set_cons_succ, i64_w, i32_w]
                        rfl
                       refine pure_ (i := 22) (N := some 7) (v := ?_) (a' := ?_) #[true, true, true, true, true, true, true, true, true, true, true, true, true, true, true, true, true, true, true, true, true, true, true] rfl rfl (any_of HT_.out (by kernel_rfl)) (fun _ _ _ h => h) (Or.inl ⟨by rfl, ?_⟩) ?_ ?_
                       rotate_left
                       ·
                        intro w'
                        go_simp
                        with_reducible rfl
                       rotate_left
                       ·
                        simp only [Act.put, List.setIfInBounds_toArray, List.set_cons_zero, List.set_cons_succ, i64_w, i32_w]
                        rfl
                       refine done_ (done_of HT_.out (by kernel_rfl)) ?_
                       try go_wp2
                       go_roundg kj15
                       case measure => have := HK1.out; have := HK2.out; have := HJ15.out; omega
                       case rel => exact ⟨(((x7_2 ++ t835) ++ (⟨#[32, 61, 32]⟩ : ByteArray)) ++ t838), (wrap64 (x9_2 + 1)), ap2, ap2, H', ⟨by have := HK1.out; have := HK2.out; have := HJ15.out; omega⟩, ⟨by repeat (first | (with_reducible first | exact HB.out | apply below_alloc | apply pw_below_drewN | apply below_drew1) | exact HB.out)⟩⟩
                      ·
                       rw [if_neg c54] at H
                       exact absurd H (by simp)
                     ·
                      rw [if_neg c52] at H
                      exact absurd H (by simp)
                    ·
                     rw [if_neg c51] at H
                     exact absurd H (by simp)
                   ·
                    rw [if_neg c49] at H
                    exact absurd H (by simp)
                  ·
                   rw [if_neg c48] at H
                   exact absurd H (by simp)
                 ·
                  rw [if_neg c47] at H
                  exact absurd H (by simp)
                ·
                 rw [if_neg c46] at H
                 exact absurd H (by simp)
           ·
            rw [if_neg c15] at H
            have c15b0 := decide_eq_false c15
            clear c15
            have H' := Aside0.mk H
            clear H
            have p819 : 0 ≤ (x8_1 : Int) := of_decide_eq_true ap0
            have q819 : x8_1 < (l0.length : Int) := of_decide_eq_true ap0
            obtain ⟨ad819, A819_0, c819_0, e819, hx819_0, hl819_0, hi819_0⟩ := at_L7 HR0.out x8_1 p819 q819
            cases e819
            replace hx819_0 := (HB.out.cell (World.block_lt_of_cell? w _ hx819_0)).trans hx819_0
            have HR819_0 := Aside0.mk hi819_0
            have HC819_0 := Aside0.mk hl819_0
            clear hi819_0 hl819_0
            replace p819 := eq_true p819
            replace q819 := eq_true q819
            go_wp2
            go_roundg k2
            case measure => have := HK1.out; have := HK2.out; omega
            case rel => exact ⟨(x7_2), (wrap64 (x8_1 + 1)), ap2, ap2, H', ⟨by have := HK1.out; have := HK2.out; omega⟩, ⟨by repeat (first | (with_reducible first | exact HB.out | apply below_alloc | apply pw_below_drewN | apply below_drew1) | exact HB.out)⟩⟩
          ·
           rw [if_neg c14] at H
           exact absurd H (by simp)
         ·
          rw [if_neg c13] at H
          exact absurd H (by simp)
      ·
       rw [if_neg c12] at H
       have c12b0 := decide_eq_false c12
       clear c12
       replace H := Option.bind_eq_some_iff.mp H
       obtain ⟨⟨t839, t840⟩, A580, H⟩ := H
       replace H : (if t840 = 0 then ((dn_Same.f k1 l0 t839).bind fun t843 => (if t843 = true then ((dn_Under.f k1 l0 t839).bind fun t844 => (if t844 = true then ((dn_Under.f k1 t839 l0).bind fun t845 => (if t845 = true then ((dn_Same.f k1 l0 l0).bind fun t846 => (some t846)) else (some false))) else (some false))) else (some false))) else (if t840 = 5 then (some (decide ((x7_1.size : Int) > 1000))) else (some false))) = some r := H
       have A58 := Aside0.mk A580
       clear A580
       by_cases c59 : t840 = 0
       ·
        rw [if_pos c59] at H
        have c59b0 : (t840 == 0) = true := beq_iff_eq.mpr c59
        have c59b1 : (t840 != 0) = false := bne_eq_false_iff_eq.mpr c59
        clear c59
        replace H := Option.bind_eq_some_iff.mp H
        obtain ⟨t843, A600, H⟩ := H
        replace H : (if t843 = true then ((dn_Under.f k1 l0 t839).bind fun t844 => (if t844 = true then ((dn_Under.f k1 t839 l0).bind fun t845 => (if t845 = true then ((dn_Same.f k1 l0 l0).bind fun t846 => (some t846)) else (some false))) else (some false))) else (some false)) = some r := H
        have A60 := Aside0.mk A600
        clear A600
        by_cases c61 : t843 = true
        ·
         subst c61
         rw [if_pos rfl] at H
         replace H := Option.bind_eq_some_iff.mp H
         obtain ⟨t844, A620, H⟩ := H
         replace H : (if t844 = true then ((dn_Under.f k1 t839 l0).bind fun t845 => (if t845 = true then ((dn_Same.f k1 l0 l0).bind fun t846 => (some t846)) else (some false))) else (some false)) = some r := H
         have A62 := Aside0.mk A620
         clear A620
         by_cases c63 : t844 = true
         ·
          subst c63
          rw [if_pos rfl] at H
          replace H := Option.bind_eq_some_iff.mp H
          obtain ⟨t845, A640, H⟩ := H
          replace H : (if t845 = true then ((dn_Same.f k1 l0 l0).bind fun t846 => (some t846)) else (some false)) = some r := H
          have A64 := Aside0.mk A640
          clear A640
          by_cases c65 : t845 = true
          ·
           subst c65
           rw [if_pos rfl] at H
           replace H := Option.bind_eq_some_iff.mp H
           obtain ⟨t846, A660, H⟩ := H
           replace H : (some t846) = some r := H
           have A66 := Aside0.mk A660
           clear A660
           obtain rfl := Option.some.inj H
           go_wp2_with (first | ((with_reducible refine gate_callee (f := 12) rfl ?_); refine goesL_ (some 89) rfl rfl Tryd.func12 (by kernel_rfl) rfl #[.string x7_1] rfl ap3 ?_; (with_reducible refine (dn_Parse.calls k1 x7_1 t839 t840 _ ?side1 A58.out).mono ?_); (case side1 => exact ap6); rintro e w67 ⟨v841, rfl, ho0, hb⟩; refine ⟨_, rfl, ?_⟩; have n0_ := Aside0.mk (Kd.S_lower ho0 (below_size ap1)); have n1_ := Aside0.mk (below_step ap1 hb); clear HB; have HO842 := n0_; have HB := n1_; clear n0_ n1_; (try clear hb); (try clear hb2); (try clear hk); (try clear hi); (try clear ho0); obtain ⟨Ao68, co68, eo68⟩ := Kd.S_slice HO842.out; subst eo68) | ((with_reducible refine gate_callee (f := 21) rfl ?_); refine goesL_ (some 103) rfl rfl Tryd.func21 (by kernel_rfl) rfl #[.slice A0 l0.length c0, .slice Ao68 t839.length co68] rfl ap3 ?_; (with_reducible refine (dn_Same.calls k1 _ _ l0 _ _ t839 true _ ?side1 ?side2 ?side3 ?side4 ?side5 A60.out).mono ?_); (case side1 => repeat (first | exact (Kd.C_below HR0.out HB.out) | (with_reducible refine Kd.C_alloc ?_ _) | (with_reducible refine Kd.C_drewN ?_ _) | (with_reducible refine Kd.C_drew ?_))); (case side2 => exact HC0.out); (case side3 => repeat (first | exact (Kd.S_reads' HO842.out).2.2 | (with_reducible refine Kd.C_alloc ?_ _) | (with_reducible refine Kd.C_drewN ?_ _) | (with_reducible refine Kd.C_drew ?_))); (case side4 => exact (Kd.S_reads' HO842.out).2.1); (case side5 => exact ap6); rintro e w69 ⟨rfl, hb⟩; refine ⟨_, rfl, ?_⟩; have n0_ := Aside0.mk (Kd.S_below (apAS HO842.out) hb); have n1_ := Aside0.mk (below_step ap1 hb); clear HO842; clear HB; have HO842 := n0_; have HB := n1_; clear n0_ n1_; (try clear hb); (try clear hb2); (try clear hk); (try clear hi)) | (go_at_call 24; (with_reducible refine (dn_Under.calls k1 _ _ l0 _ _ t839 true _ ?side1 ?side2 ?side3 ?side4 ?side5 A62.out).mono ?_); (case side1 => repeat (first | exact (Kd.C_below HR0.out HB.out) | (with_reducible refine Kd.C_alloc ?_ _) | (with_reducible refine Kd.C_drewN ?_ _) | (with_reducible refine Kd.C_drew ?_))); (case side2 => exact HC0.out); (case side3 => repeat (first | exact (Kd.S_reads' HO842.out).2.2 | (with_reducible refine Kd.C_alloc ?_ _) | (with_reducible refine Kd.C_drewN ?_ _) | (with_reducible refine Kd.C_drew ?_))); (case side4 => exact (Kd.S_reads' HO842.out).2.1); (case side5 => exact ap6); rintro e w70 ⟨rfl, hb⟩; have n0_ := Aside0.mk (Kd.S_below (apAS HO842.out) hb); have n1_ := Aside0.mk (below_step ap1 hb); clear HO842; clear HB; have HO842 := n0_; have HB := n1_; clear n0_ n1_; (try clear hb); (try clear hb2); (try clear hk); (try clear hi)) | (go_at_call 24; (with_reducible refine (dn_Under.calls k1 _ _ t839 _ _ l0 true _ ?side1 ?side2 ?side3 ?side4 ?side5 A64.out).mono ?_); (case side1 => repeat (first | exact (Kd.S_reads' HO842.out).2.2 | (with_reducible refine Kd.C_alloc ?_ _) | (with_reducible refine Kd.C_drewN ?_ _) | (with_reducible refine Kd.C_drew ?_))); (case side2 => exact (Kd.S_reads' HO842.out).2.1); (case side3 => repeat (first | exact (Kd.C_below HR0.out HB.out) | (with_reducible refine Kd.C_alloc ?_ _) | (with_reducible refine Kd.C_drewN ?_ _) | (with_reducible refine Kd.C_drew ?_))); (case side4 => exact HC0.out); (case side5 => exact ap6); rintro e w71 ⟨rfl, hb⟩; have n0_ := Aside0.mk (Kd.S_below (apAS HO842.out) hb); have n1_ := Aside0.mk (below_step ap1 hb); clear HO842; clear HB; have HO842 := n0_; have HB := n1_; clear n0_ n1_; (try clear hb); (try clear hb2); (try clear hk); (try clear hi)) | (go_at_call 21; (with_reducible refine (dn_Same.calls k1 _ _ l0 _ _ l0 t846 _ ?side1 ?side2 ?side3 ?side4 ?side5 A66.out).mono ?_); (case side1 => repeat (first | exact (Kd.C_below HR0.out HB.out) | (with_reducible refine Kd.C_alloc ?_ _) | (with_reducible refine Kd.C_drewN ?_ _) | (with_reducible refine Kd.C_drew ?_))); (case side2 => exact HC0.out); (case side3 => repeat (first | exact (Kd.C_below HR0.out HB.out) | (with_reducible refine Kd.C_alloc ?_ _) | (with_reducible refine Kd.C_drewN ?_ _) | (with_reducible refine Kd.C_drew ?_))); (case side4 => exact HC0.out); (case side5 => exact ap6); rintro e w72 ⟨rfl, hb⟩; have n0_ := Aside0.mk (Kd.S_below (apAS HO842.out) hb); have n1_ := Aside0.mk (below_step ap1 hb); clear HO842; clear HB; have HO842 := n0_; have HB := n1_; clear n0_ n1_; (try clear hb); (try clear hb2); (try clear hk); (try clear hi)))
           go_ret
           exact ⟨by first | rfl | (simp [errW_none, errW_some, bne_nil8, beq_nil8]; done) | (simp [errW_none, errW_some] <;> rfl) | (simp [*, errW_none, errW_some] <;> rfl), by repeat (first | (with_reducible first | exact HB.out | apply below_alloc | apply pw_below_drewN | apply below_drew1) | exact HB.out)⟩
          ·
           replace c65 := Bool.eq_false_iff.mpr c65
           subst c65
           rw [if_neg (show ¬ (false = true) by decide)] at H
           obtain rfl := Option.some.inj H
           go_wp2_with (first | ((with_reducible refine gate_callee (f := 12) rfl ?_); refine goesL_ (some 89) rfl rfl Tryd.func12 (by kernel_rfl) rfl #[.string x7_1] rfl ap3 ?_; (with_reducible refine (dn_Parse.calls k1 x7_1 t839 t840 _ ?side1 A58.out).mono ?_); (case side1 => exact ap6); rintro e w73 ⟨v841, rfl, ho0, hb⟩; refine ⟨_, rfl, ?_⟩; have n0_ := Aside0.mk (Kd.S_lower ho0 (below_size ap1)); have n1_ := Aside0.mk (below_step ap1 hb); clear HB; have HO842 := n0_; have HB := n1_; clear n0_ n1_; (try clear hb); (try clear hb2); (try clear hk); (try clear hi); (try clear ho0); obtain ⟨Ao74, co74, eo74⟩ := Kd.S_slice HO842.out; subst eo74) | ((with_reducible refine gate_callee (f := 21) rfl ?_); refine goesL_ (some 103) rfl rfl Tryd.func21 (by kernel_rfl) rfl #[.slice A0 l0.length c0, .slice Ao74 t839.length co74] rfl ap3 ?_; (with_reducible refine (dn_Same.calls k1 _ _ l0 _ _ t839 true _ ?side1 ?side2 ?side3 ?side4 ?side5 A60.out).mono ?_); (case side1 => repeat (first | exact (Kd.C_below HR0.out HB.out) | (with_reducible refine Kd.C_alloc ?_ _) | (with_reducible refine Kd.C_drewN ?_ _) | (with_reducible refine Kd.C_drew ?_))); (case side2 => exact HC0.out); (case side3 => repeat (first | exact (Kd.S_reads' HO842.out).2.2 | (with_reducible refine Kd.C_alloc ?_ _) | (with_reducible refine Kd.C_drewN ?_ _) | (with_reducible refine Kd.C_drew ?_))); (case side4 => exact (Kd.S_reads' HO842.out).2.1); (case side5 => exact ap6); rintro e w75 ⟨rfl, hb⟩; refine ⟨_, rfl, ?_⟩; have n0_ := Aside0.mk (Kd.S_below (apAS HO842.out) hb); have n1_ := Aside0.mk (below_step ap1 hb); clear HO842; clear HB; have HO842 := n0_; have HB := n1_; clear n0_ n1_; (try clear hb); (try clear hb2); (try clear hk); (try clear hi)) | (go_at_call 24; (with_reducible refine (dn_Under.calls k1 _ _ l0 _ _ t839 true _ ?side1 ?side2 ?side3 ?side4 ?side5 A62.out).mono ?_); (case side1 => repeat (first | exact (Kd.C_below HR0.out HB.out) | (with_reducible refine Kd.C_alloc ?_ _) | (with_reducible refine Kd.C_drewN ?_ _) | (with_reducible refine Kd.C_drew ?_))); (case side2 => exact HC0.out); (case side3 => repeat (first | exact (Kd.S_reads' HO842.out).2.2 | (with_reducible refine Kd.C_alloc ?_ _) | (with_reducible refine Kd.C_drewN ?_ _) | (with_reducible refine Kd.C_drew ?_))); (case side4 => exact (Kd.S_reads' HO842.out).2.1); (case side5 => exact ap6); rintro e w76 ⟨rfl, hb⟩; have n0_ := Aside0.mk (Kd.S_below (apAS HO842.out) hb); have n1_ := Aside0.mk (below_step ap1 hb); clear HO842; clear HB; have HO842 := n0_; have HB := n1_; clear n0_ n1_; (try clear hb); (try clear hb2); (try clear hk); (try clear hi)) | (go_at_call 24; (with_reducible refine (dn_Under.calls k1 _ _ t839 _ _ l0 false _ ?side1 ?side2 ?side3 ?side4 ?side5 A64.out).mono ?_); (case side1 => repeat (first | exact (Kd.S_reads' HO842.out).2.2 | (with_reducible refine Kd.C_alloc ?_ _) | (with_reducible refine Kd.C_drewN ?_ _) | (with_reducible refine Kd.C_drew ?_))); (case side2 => exact (Kd.S_reads' HO842.out).2.1); (case side3 => repeat (first | exact (Kd.C_below HR0.out HB.out) | (with_reducible refine Kd.C_alloc ?_ _) | (with_reducible refine Kd.C_drewN ?_ _) | (with_reducible refine Kd.C_drew ?_))); (case side4 => exact HC0.out); (case side5 => exact ap6); rintro e w77 ⟨rfl, hb⟩; have n0_ := Aside0.mk (Kd.S_below (apAS HO842.out) hb); have n1_ := Aside0.mk (below_step ap1 hb); clear HO842; clear HB; have HO842 := n0_; have HB := n1_; clear n0_ n1_; (try clear hb); (try clear hb2); (try clear hk); (try clear hi)))
           go_ret
           exact ⟨by first | rfl | (simp [errW_none, errW_some, bne_nil8, beq_nil8]; done) | (simp [errW_none, errW_some] <;> rfl) | (simp [*, errW_none, errW_some] <;> rfl), by repeat (first | (with_reducible first | exact HB.out | apply below_alloc | apply pw_below_drewN | apply below_drew1) | exact HB.out)⟩
         ·
          replace c63 := Bool.eq_false_iff.mpr c63
          subst c63
          rw [if_neg (show ¬ (false = true) by decide)] at H
          obtain rfl := Option.some.inj H
          go_wp2_with (first | ((with_reducible refine gate_callee (f := 12) rfl ?_); refine goesL_ (some 89) rfl rfl Tryd.func12 (by kernel_rfl) rfl #[.string x7_1] rfl ap3 ?_; (with_reducible refine (dn_Parse.calls k1 x7_1 t839 t840 _ ?side1 A58.out).mono ?_); (case side1 => exact ap6); rintro e w78 ⟨v841, rfl, ho0, hb⟩; refine ⟨_, rfl, ?_⟩; have n0_ := Aside0.mk (Kd.S_lower ho0 (below_size ap1)); have n1_ := Aside0.mk (below_step ap1 hb); clear HB; have HO842 := n0_; have HB := n1_; clear n0_ n1_; (try clear hb); (try clear hb2); (try clear hk); (try clear hi); (try clear ho0); obtain ⟨Ao79, co79, eo79⟩ := Kd.S_slice HO842.out; subst eo79) | ((with_reducible refine gate_callee (f := 21) rfl ?_); refine goesL_ (some 103) rfl rfl Tryd.func21 (by kernel_rfl) rfl #[.slice A0 l0.length c0, .slice Ao79 t839.length co79] rfl ap3 ?_; (with_reducible refine (dn_Same.calls k1 _ _ l0 _ _ t839 true _ ?side1 ?side2 ?side3 ?side4 ?side5 A60.out).mono ?_); (case side1 => repeat (first | exact (Kd.C_below HR0.out HB.out) | (with_reducible refine Kd.C_alloc ?_ _) | (with_reducible refine Kd.C_drewN ?_ _) | (with_reducible refine Kd.C_drew ?_))); (case side2 => exact HC0.out); (case side3 => repeat (first | exact (Kd.S_reads' HO842.out).2.2 | (with_reducible refine Kd.C_alloc ?_ _) | (with_reducible refine Kd.C_drewN ?_ _) | (with_reducible refine Kd.C_drew ?_))); (case side4 => exact (Kd.S_reads' HO842.out).2.1); (case side5 => exact ap6); rintro e w80 ⟨rfl, hb⟩; refine ⟨_, rfl, ?_⟩; have n0_ := Aside0.mk (Kd.S_below (apAS HO842.out) hb); have n1_ := Aside0.mk (below_step ap1 hb); clear HO842; clear HB; have HO842 := n0_; have HB := n1_; clear n0_ n1_; (try clear hb); (try clear hb2); (try clear hk); (try clear hi)) | (go_at_call 24; (with_reducible refine (dn_Under.calls k1 _ _ l0 _ _ t839 false _ ?side1 ?side2 ?side3 ?side4 ?side5 A62.out).mono ?_); (case side1 => repeat (first | exact (Kd.C_below HR0.out HB.out) | (with_reducible refine Kd.C_alloc ?_ _) | (with_reducible refine Kd.C_drewN ?_ _) | (with_reducible refine Kd.C_drew ?_))); (case side2 => exact HC0.out); (case side3 => repeat (first | exact (Kd.S_reads' HO842.out).2.2 | (with_reducible refine Kd.C_alloc ?_ _) | (with_reducible refine Kd.C_drewN ?_ _) | (with_reducible refine Kd.C_drew ?_))); (case side4 => exact (Kd.S_reads' HO842.out).2.1); (case side5 => exact ap6); rintro e w81 ⟨rfl, hb⟩; have n0_ := Aside0.mk (Kd.S_below (apAS HO842.out) hb); have n1_ := Aside0.mk (below_step ap1 hb); clear HO842; clear HB; have HO842 := n0_; have HB := n1_; clear n0_ n1_; (try clear hb); (try clear hb2); (try clear hk); (try clear hi)))
          go_ret
          exact ⟨by first | rfl | (simp [errW_none, errW_some, bne_nil8, beq_nil8]; done) | (simp [errW_none, errW_some] <;> rfl) | (simp [*, errW_none, errW_some] <;> rfl), by repeat (first | (with_reducible first | exact HB.out | apply below_alloc | apply pw_below_drewN | apply below_drew1) | exact HB.out)⟩
        ·
         replace c61 := Bool.eq_false_iff.mpr c61
         subst c61
         rw [if_neg (show ¬ (false = true) by decide)] at H
         obtain rfl := Option.some.inj H
         go_wp2_with (first | ((with_reducible refine gate_callee (f := 12) rfl ?_); refine goesL_ (some 89) rfl rfl Tryd.func12 (by kernel_rfl) rfl #[.string x7_1] rfl ap3 ?_; (with_reducible refine (dn_Parse.calls k1 x7_1 t839 t840 _ ?side1 A58.out).mono ?_); (case side1 => exact ap6); rintro e w82 ⟨v841, rfl, ho0, hb⟩; refine ⟨_, rfl, ?_⟩; have n0_ := Aside0.mk (Kd.S_lower ho0 (below_size ap1)); have n1_ := Aside0.mk (below_step ap1 hb); clear HB; have HO842 := n0_; have HB := n1_; clear n0_ n1_; (try clear hb); (try clear hb2); (try clear hk); (try clear hi); (try clear ho0); obtain ⟨Ao83, co83, eo83⟩ := Kd.S_slice HO842.out; subst eo83) | ((with_reducible refine gate_callee (f := 21) rfl ?_); refine goesL_ (some 103) rfl rfl Tryd.func21 (by kernel_rfl) rfl #[.slice A0 l0.length c0, .slice Ao83 t839.length co83] rfl ap3 ?_; (with_reducible refine (dn_Same.calls k1 _ _ l0 _ _ t839 false _ ?side1 ?side2 ?side3 ?side4 ?side5 A60.out).mono ?_); (case side1 => repeat (first | exact (Kd.C_below HR0.out HB.out) | (with_reducible refine Kd.C_alloc ?_ _) | (with_reducible refine Kd.C_drewN ?_ _) | (with_reducible refine Kd.C_drew ?_))); (case side2 => exact HC0.out); (case side3 => repeat (first | exact (Kd.S_reads' HO842.out).2.2 | (with_reducible refine Kd.C_alloc ?_ _) | (with_reducible refine Kd.C_drewN ?_ _) | (with_reducible refine Kd.C_drew ?_))); (case side4 => exact (Kd.S_reads' HO842.out).2.1); (case side5 => exact ap6); rintro e w84 ⟨rfl, hb⟩; refine ⟨_, rfl, ?_⟩; have n0_ := Aside0.mk (Kd.S_below (apAS HO842.out) hb); have n1_ := Aside0.mk (below_step ap1 hb); clear HO842; clear HB; have HO842 := n0_; have HB := n1_; clear n0_ n1_; (try clear hb); (try clear hb2); (try clear hk); (try clear hi)))
         go_ret
         exact ⟨by first | rfl | (simp [errW_none, errW_some, bne_nil8, beq_nil8]; done) | (simp [errW_none, errW_some] <;> rfl) | (simp [*, errW_none, errW_some] <;> rfl), by repeat (first | (with_reducible first | exact HB.out | apply below_alloc | apply pw_below_drewN | apply below_drew1) | exact HB.out)⟩
       ·
        rw [if_neg c59] at H
        have c59b0 : (t840 == 0) = false := beq_eq_false_iff_ne.mpr c59
        have c59b1 : (t840 != 0) = true := bne_iff_ne.mpr c59
        by_cases c85 : t840 = 5
        ·
         rw [if_pos c85] at H
         have c85b0 : (t840 == 5) = true := beq_iff_eq.mpr c85
         have c85b1 : (t840 != 5) = false := bne_eq_false_iff_eq.mpr c85
         clear c85
         obtain rfl := Option.some.inj H
         go_wp2_with (first | ((with_reducible refine gate_callee (f := 12) rfl ?_); refine goesL_ (some 89) rfl rfl Tryd.func12 (by kernel_rfl) rfl #[.string x7_1] rfl ap3 ?_; (with_reducible refine (dn_Parse.calls k1 x7_1 t839 t840 _ ?side1 A58.out).mono ?_); (case side1 => exact ap6); rintro e w86 ⟨v841, rfl, ho0, hb⟩; refine ⟨_, rfl, ?_⟩; have n0_ := Aside0.mk (Kd.S_lower ho0 (below_size ap1)); have n1_ := Aside0.mk (below_step ap1 hb); clear HB; have HO842 := n0_; have HB := n1_; clear n0_ n1_; (try clear hb); (try clear hb2); (try clear hk); (try clear hi); (try clear ho0)))
         go_ret
         exact ⟨by first | rfl | (simp [errW_none, errW_some, bne_nil8, beq_nil8]; done) | (simp [errW_none, errW_some] <;> rfl) | (simp [*, errW_none, errW_some] <;> rfl), by repeat (first | (with_reducible first | exact HB.out | apply below_alloc | apply pw_below_drewN | apply below_drew1) | exact HB.out)⟩
        ·
         rw [if_neg c85] at H
         have c85b0 : (t840 == 5) = false := beq_eq_false_iff_ne.mpr c85
         have c85b1 : (t840 != 5) = true := bne_iff_ne.mpr c85
         obtain rfl := Option.some.inj H
         go_wp2_with (first | ((with_reducible refine gate_callee (f := 12) rfl ?_); refine goesL_ (some 89) rfl rfl Tryd.func12 (by kernel_rfl) rfl #[.string x7_1] rfl ap3 ?_; (with_reducible refine (dn_Parse.calls k1 x7_1 t839 t840 _ ?side1 A58.out).mono ?_); (case side1 => exact ap6); rintro e w87 ⟨v841, rfl, ho0, hb⟩; refine ⟨_, rfl, ?_⟩; have n0_ := Aside0.mk (Kd.S_lower ho0 (below_size ap1)); have n1_ := Aside0.mk (below_step ap1 hb); clear HB; have HO842 := n0_; have HB := n1_; clear n0_ n1_; (try clear hb); (try clear hb2); (try clear hk); (try clear hi); (try clear ho0)))
         go_ret
         exact ⟨by first | rfl | (simp [errW_none, errW_some, bne_nil8, beq_nil8]; done) | (simp [errW_none, errW_some] <;> rfl) | (simp [*, errW_none, errW_some] <;> rfl), by repeat (first | (with_reducible first | exact HB.out | apply below_alloc | apply pw_below_drewN | apply below_drew1) | exact HB.out)⟩
   ·
    rw [if_neg c9] at H
    have c9b0 : (t817 == 0) = false := beq_eq_false_iff_ne.mpr c9
    have c9b1 : (t817 != 0) = true := bne_iff_ne.mpr c9
    replace H := Option.bind_eq_some_iff.mp H
    obtain ⟨t818, A880, H⟩ := H
    replace H : (if t818 = true then (some (t817 == 5)) else (some true)) = some r := H
    have A88 := Aside0.mk A880
    clear A880
    by_cases c89 : t818 = true
    ·
     subst c89
     rw [if_pos rfl] at H
     obtain rfl := Option.some.inj H
     go_enter Tryd.func6, Tryd.ntmps6
     go_wp2_with (first | ((with_reducible refine gate_callee (f := 11) rfl ?_); refine goesL_ (some 13) rfl rfl Tryd.func11 (by kernel_rfl) rfl #[] rfl ap3 ?_; (with_reducible refine (L15awake.calls k  true _ ?side1 A3.out).mono ?_); (case side1 => exact ap6); rintro e w90 ⟨rfl, hb⟩; refine ⟨_, rfl, ?_⟩; have n0_ := Aside0.mk (below_step ap1 hb); clear HB; have HB := n0_; clear n0_; (try clear hb); (try clear hb2); (try clear hk); (try clear hi)) | ((with_reducible refine gate_callee (f := 15) rfl ?_); refine goesL_ (some 16) rfl rfl Tryd.func15 (by kernel_rfl) rfl #[.slice A0 l0.length c0] rfl ap3 ?_; (with_reducible refine (L15Long.calls k _ _ l0 false _ ?side1 ?side2 A5.out).mono ?_); (case side1 => repeat (first | exact (Kd.C_below HR0.out HB.out) | (with_reducible refine Kd.C_alloc ?_ _) | (with_reducible refine Kd.C_drewN ?_ _) | (with_reducible refine Kd.C_drew ?_))); (case side2 => exact HC0.out); rintro e w' ⟨rfl, ⟨nd, rfl⟩⟩; refine ⟨_, rfl, ?_⟩) | ((with_reducible refine gate_callee (f := 16) rfl ?_); refine goesL_ (some 19) rfl rfl Tryd.func16 (by kernel_rfl) rfl #[.slice A0 l0.length c0] rfl ap3 ?_; (with_reducible refine (dn_Print.calls k _ _ l0 t816 t817 _ ?side1 ?side2 ?side3 A8.out).mono ?_); (case side1 => repeat (first | exact (Kd.C_below HR0.out ap1) | (with_reducible refine Kd.C_alloc ?_ _) | (with_reducible refine Kd.C_drewN ?_ _) | (with_reducible refine Kd.C_drew ?_))); (case side2 => exact HC0.out); (case side3 => exact ap6); rintro e w91 ⟨rfl, hb⟩; refine ⟨_, rfl, ?_⟩; have n0_ := Aside0.mk (below_step ap1 hb); clear HB; have HB := n0_; clear n0_; (try clear hb); (try clear hb2); (try clear hk); (try clear hi)) | ((with_reducible refine gate_callee (f := 21) rfl ?_); refine goesL_ (some 26) rfl rfl Tryd.func21 (by kernel_rfl) rfl #[.slice A0 l0.length c0, .slice A0 l0.length c0] rfl ap3 ?_; (with_reducible refine (dn_Same.calls k _ _ l0 _ _ l0 true _ ?side1 ?side2 ?side3 ?side4 ?side5 A88.out).mono ?_); (case side1 => repeat (first | exact (Kd.C_below HR0.out HB.out) | (with_reducible refine Kd.C_alloc ?_ _) | (with_reducible refine Kd.C_drewN ?_ _) | (with_reducible refine Kd.C_drew ?_))); (case side2 => exact HC0.out); (case side3 => repeat (first | exact (Kd.C_below HR0.out HB.out) | (with_reducible refine Kd.C_alloc ?_ _) | (with_reducible refine Kd.C_drewN ?_ _) | (with_reducible refine Kd.C_drew ?_))); (case side4 => exact HC0.out); (case side5 => exact ap6); rintro e w92 ⟨rfl, hb⟩; refine ⟨_, rfl, ?_⟩; have n0_ := Aside0.mk (below_step ap1 hb); clear HB; have HB := n0_; clear n0_; (try clear hb); (try clear hb2); (try clear hk); (try clear hi)))
     go_ret
     exact ⟨by first | rfl | (simp [errW_none, errW_some, bne_nil8, beq_nil8]; done) | (simp [errW_none, errW_some] <;> rfl) | (simp [*, errW_none, errW_some] <;> rfl), by repeat (first | (with_reducible first | exact HB.out | apply below_alloc | apply pw_below_drewN | apply below_drew1) | exact HB.out)⟩
    ·
     replace c89 := Bool.eq_false_iff.mpr c89
     subst c89
     rw [if_neg (show ¬ (false = true) by decide)] at H
     obtain rfl := Option.some.inj H
     go_enter Tryd.func6, Tryd.ntmps6
     go_wp2_with (first | ((with_reducible refine gate_callee (f := 11) rfl ?_); refine goesL_ (some 13) rfl rfl Tryd.func11 (by kernel_rfl) rfl #[] rfl ap3 ?_; (with_reducible refine (L15awake.calls k  true _ ?side1 A3.out).mono ?_); (case side1 => exact ap6); rintro e w93 ⟨rfl, hb⟩; refine ⟨_, rfl, ?_⟩; have n0_ := Aside0.mk (below_step ap1 hb); clear HB; have HB := n0_; clear n0_; (try clear hb); (try clear hb2); (try clear hk); (try clear hi)) | ((with_reducible refine gate_callee (f := 15) rfl ?_); refine goesL_ (some 16) rfl rfl Tryd.func15 (by kernel_rfl) rfl #[.slice A0 l0.length c0] rfl ap3 ?_; (with_reducible refine (L15Long.calls k _ _ l0 false _ ?side1 ?side2 A5.out).mono ?_); (case side1 => repeat (first | exact (Kd.C_below HR0.out HB.out) | (with_reducible refine Kd.C_alloc ?_ _) | (with_reducible refine Kd.C_drewN ?_ _) | (with_reducible refine Kd.C_drew ?_))); (case side2 => exact HC0.out); rintro e w' ⟨rfl, ⟨nd, rfl⟩⟩; refine ⟨_, rfl, ?_⟩) | ((with_reducible refine gate_callee (f := 16) rfl ?_); refine goesL_ (some 19) rfl rfl Tryd.func16 (by kernel_rfl) rfl #[.slice A0 l0.length c0] rfl ap3 ?_; (with_reducible refine (dn_Print.calls k _ _ l0 t816 t817 _ ?side1 ?side2 ?side3 A8.out).mono ?_); (case side1 => repeat (first | exact (Kd.C_below HR0.out ap1) | (with_reducible refine Kd.C_alloc ?_ _) | (with_reducible refine Kd.C_drewN ?_ _) | (with_reducible refine Kd.C_drew ?_))); (case side2 => exact HC0.out); (case side3 => exact ap6); rintro e w94 ⟨rfl, hb⟩; refine ⟨_, rfl, ?_⟩; have n0_ := Aside0.mk (below_step ap1 hb); clear HB; have HB := n0_; clear n0_; (try clear hb); (try clear hb2); (try clear hk); (try clear hi)) | ((with_reducible refine gate_callee (f := 21) rfl ?_); refine goesL_ (some 26) rfl rfl Tryd.func21 (by kernel_rfl) rfl #[.slice A0 l0.length c0, .slice A0 l0.length c0] rfl ap3 ?_; (with_reducible refine (dn_Same.calls k _ _ l0 _ _ l0 false _ ?side1 ?side2 ?side3 ?side4 ?side5 A88.out).mono ?_); (case side1 => repeat (first | exact (Kd.C_below HR0.out HB.out) | (with_reducible refine Kd.C_alloc ?_ _) | (with_reducible refine Kd.C_drewN ?_ _) | (with_reducible refine Kd.C_drew ?_))); (case side2 => exact HC0.out); (case side3 => repeat (first | exact (Kd.C_below HR0.out HB.out) | (with_reducible refine Kd.C_alloc ?_ _) | (with_reducible refine Kd.C_drewN ?_ _) | (with_reducible refine Kd.C_drew ?_))); (case side4 => exact HC0.out); (case side5 => exact ap6); rintro e w95 ⟨rfl, hb⟩; refine ⟨_, rfl, ?_⟩; have n0_ := Aside0.mk (below_step ap1 hb); clear HB; have HB := n0_; clear n0_; (try clear hb); (try clear hb2); (try clear hk); (try clear hi)))
     go_ret
     exact ⟨by first | rfl | (simp [errW_none, errW_some, bne_nil8, beq_nil8]; done) | (simp [errW_none, errW_some] <;> rfl) | (simp [*, errW_none, errW_some] <;> rfl), by repeat (first | (with_reducible first | exact HB.out | apply below_alloc | apply pw_below_drewN | apply below_drew1) | exact HB.out)⟩
 ·
  replace c4 := Bool.eq_false_iff.mpr c4
  subst c4
  rw [if_neg (show ¬ (false = true) by decide)] at H
  obtain rfl := Option.some.inj H
  go_enter Tryd.func6, Tryd.ntmps6
  go_wp2_with (first | ((with_reducible refine gate_callee (f := 11) rfl ?_); refine goesL_ (some 13) rfl rfl Tryd.func11 (by kernel_rfl) rfl #[] rfl ap3 ?_; (with_reducible refine (L15awake.calls k  false _ ?side1 A3.out).mono ?_); (case side1 => exact ap6); rintro e w96 ⟨rfl, hb⟩; refine ⟨_, rfl, ?_⟩; have n0_ := Aside0.mk (below_step ap1 hb); clear HB; have HB := n0_; clear n0_; (try clear hb); (try clear hb2); (try clear hk); (try clear hi)))
  go_ret
  exact ⟨by first | rfl | (simp [errW_none, errW_some, bne_nil8, beq_nil8]; done) | (simp [errW_none, errW_some] <;> rfl) | (simp [*, errW_none, errW_some] <;> rfl), by repeat (first | (with_reducible first | exact HB.out | apply below_alloc | apply pw_below_drewN | apply below_drew1) | exact HB.out)⟩
end Go.Proofs.YtkklacijhmoopaaDoor.Print
namespace Go.Proofs.YtkklacijhmoopaaDoor.Print
open Go.RowKit Go.Proofs.YtkklacijhmoopaaDoorW.PrintWords Go.Proofs.YtkklacijhmoopaaDoorW.PrintLast Go.Proofs.YtkklacijhmoopaaDoorW.PrintMore Go.Proofs.YtkklacijhmoopaaDoor.Pure
set_option linter.unusedVariables false
set_option linter.unusedSimpArgs false
theorem sortL_perm {a b : List (List UInt8)} (h : a.Perm b) : sortL a = sortL b := by
  unfold sortL
  have tr : ∀ x y z : List UInt8, decide (x ≤ y) = true → decide (y ≤ z) = true → decide (x ≤ z) = true := by
    intro x y z h1 h2
    exact decide_eq_true (List.le_trans (of_decide_eq_true h1) (of_decide_eq_true h2))
  have tot : ∀ x y : List UInt8, (decide (x ≤ y) || decide (y ≤ x)) = true := by
    intro x y
    rcases List.le_total x y with h | h
    · rw [decide_eq_true h]; rfl
    · rw [decide_eq_true h, Bool.or_true]
  refine List.Perm.eq_of_pairwise (le := fun x y => decide (x ≤ y) = true) ?_ (List.pairwise_mergeSort tr tot a) (List.pairwise_mergeSort tr tot b) (((List.mergeSort_perm a _).trans h).trans (List.mergeSort_perm b _).symm)
  intro x y _ _ h1 h2
  exact List.le_antisymm (of_decide_eq_true h1) (of_decide_eq_true h2)
theorem keyOf_perm {a b : List AvaS} (h : a.Perm b) : keyOf a = keyOf b := by
  unfold keyOf sortB
  rw [sortL_perm ((h.map tupV).map (·.data.toList))]
theorem sameType_symm (a b : AvaS) : sameType a b = sameType b a := by unfold sameType; exact Bool.eq_iff_iff.2 (by simp only [beq_iff_eq]; exact ⟨Eq.symm, Eq.symm⟩)
theorem rdnIn_iff : ∀ (l pre : List AvaS), rdnIn pre l = true ↔ (∀ a ∈ l, typeOk (bl a.f0) = true ∧ valueOk a.f1 = true ∧ ∀ b ∈ pre, sameType a b = false) ∧ l.Pairwise (fun b a => sameType a b = false)
  | [], pre => by simp [rdnIn]
  | a :: l, pre => by
    rw [rdnIn, Bool.and_eq_true, rdnIn_iff l (pre ++ [a]), List.pairwise_cons]
    simp only [Bool.and_eq_true, Bool.not_eq_true', List.any_eq_false, List.mem_append, List.mem_cons, List.not_mem_nil, or_false]
    constructor
    · rintro ⟨⟨⟨h1, h2⟩, h3⟩, h4, h5⟩
      refine ⟨?_, fun b hb => (h4 b hb).2.2 a (.inr rfl), h5⟩
      rintro b (rfl | hb)
      · exact ⟨h1, h2, fun c hc => by simpa using h3 c hc⟩
      · exact ⟨(h4 b hb).1, (h4 b hb).2.1, fun c hc => (h4 b hb).2.2 c (.inl hc)⟩
    · rintro ⟨h1, h2, h3⟩
      obtain ⟨k1, k2, k3⟩ := h1 a (.inl rfl)
      refine ⟨⟨⟨k1, k2⟩, fun c hc => by simp [k3 c hc]⟩, fun b hb => ?_, h3⟩
      obtain ⟨m1, m2, m3⟩ := h1 b (.inr hb)
      refine ⟨m1, m2, ?_⟩
      rintro c (hc | rfl)
      · exact m3 c hc
      · exact h2 b hb
theorem rdnOk_rev (l : List AvaS) : rdnOk l.reverse = rdnOk l := by
  unfold rdnOk
  rw [List.length_reverse]
  congr 1
  apply Bool.eq_iff_iff.2
  rw [rdnIn_iff, rdnIn_iff, List.pairwise_reverse]
  constructor
  · rintro ⟨h1, h2⟩
    exact ⟨fun a ha => h1 a (List.mem_reverse.2 ha), h2.imp fun {x y} h => by rw [sameType_symm]; exact h⟩
  · rintro ⟨h1, h2⟩
    exact ⟨fun a ha => h1 a (List.mem_reverse.1 ha), h2.imp fun {x y} h => by rw [sameType_symm]; exact h⟩
def turnR (t : Bool) (l : List Pr) : List Pr := if t = true then l.reverse else l
def turnN (t : Bool) (P : List (List Pr)) : List (List Pr) := P.map (turnR t)
theorem mkR_turn (t : Bool) (l : List Pr) : (mkR (turnR t l)).Perm (mkR l) := by
  unfold turnR
  by_cases h : t = true
  · rw [if_pos h]; unfold mkR; rw [List.map_reverse]; exact List.reverse_perm _
  · rw [if_neg h]
theorem rdnOk_turn (t : Bool) (l : List Pr) : rdnOk (mkR (turnR t l)) = rdnOk (mkR l) := by
  unfold turnR
  by_cases h : t = true
  · rw [if_pos h]; unfold mkR; rw [List.map_reverse]; exact rdnOk_rev _
  · rw [if_neg h]
theorem nameOk_turn (t : Bool) (P : List (List Pr)) : nameOk (mkN (turnN t P)) = nameOk (mkN P) := by
  unfold nameOk turnN mkN
  rw [List.length_map, List.length_map, List.length_map, List.map_map, List.all_map, List.all_map]
  congr 1
  congr 1
  exact funext fun l => rdnOk_turn t l
theorem keysOf_turn (t : Bool) (P : List (List Pr)) : keysOf (mkN (turnN t P)) = keysOf (mkN P) := by
  unfold keysOf turnN mkN
  rw [List.map_map, ← List.map_reverse, ← List.map_reverse, List.map_map, List.map_map]
  exact List.map_congr_left fun l _ => keyOf_perm (mkR_turn t l)
theorem turnN_len (t : Bool) (P : List (List Pr)) : (turnN t P).length = P.length := by unfold turnN; rw [List.length_map]
theorem turnR_len (t : Bool) (l : List Pr) : (turnR t l).length = l.length := by unfold turnR; split <;> simp
theorem turnR_mem (t : Bool) (l : List Pr) (a : Pr) : a ∈ turnR t l ↔ a ∈ l := by unfold turnR; split <;> simp
theorem short_turn (t : Bool) {P : List (List Pr)} (h : shortP P) : shortP (turnN t P) := by
  refine ⟨by rw [turnN_len]; exact h.1, fun l hl => ?_⟩
  obtain ⟨x, hx, rfl⟩ := List.mem_map.1 hl
  obtain ⟨h1, h2⟩ := h.2 x hx
  exact ⟨by rw [turnR_len]; exact h1, fun a ha => h2 a ((turnR_mem t x a).1 ha)⟩
theorem under_turn (t : Bool) {P : List (List Pr)} (hn : nameOk (mkN P) = true) : underB (mkN P) (mkN (turnN t P)) = true ∧ underB (mkN (turnN t P)) (mkN P) = true ∧ underB (mkN P) (mkN P) = true := by
  have hl : (mkN (turnN t P)).length = (mkN P).length := by rw [mkN_len, mkN_len, turnN_len]
  have e : ∀ x : List ByteArray, x.length = (mkN P).length → x.take (mkN P).length = x := fun x hx => List.take_of_length_le (by omega)
  unfold underB
  rw [nameOk_turn, keysOf_turn, hl, hn, e _ (keysOf_len _)]
  simp
theorem nameOk_val {P : List (List Pr)} (h : nameOk (mkN P) = true) : ∀ l ∈ P, ∀ a ∈ l, a.2.length ≤ 255 := by
  unfold nameOk at h
  rw [Bool.and_eq_true, List.all_eq_true] at h
  intro l hl a ha
  have h2 := h.2 (mkR l) (List.mem_map_of_mem hl)
  unfold rdnOk at h2
  rw [Bool.and_eq_true, rdnIn_iff] at h2
  have h3 := (h2.2.1 (mkA a) (List.mem_map_of_mem ha)).2.1
  have e : (mkA a).f1 = mkB a.2 := rfl
  rw [e] at h3
  unfold valueOk at h3
  cases hr : readyOf true (mkB a.2) with
  | none => rw [hr] at h3; cases h3
  | some t =>
    rw [hr] at h3
    simp only [Bool.and_eq_true, decide_eq_true_eq] at h3
    rw [mkB_size] at h3
    exact h3.1
def glue (i j : Nat) : List UInt8 := if 0 < j then [32, 43, 32] else if 0 < i then [32, 59, 32] else []
theorem up_f (t : List UInt8) (h : t.length ≤ 1000000) : L15upper.f (mkB t) = some (mkB (t.map upB)) := by
  unfold L15upper.f
  rw [if_pos (by rw [mkB_size]; exact h)]
theorem dnText_len (v : List UInt8) : (dnText v).length ≤ 3 * v.length := by rw [dnText_is]; exact textN_len _ _ _
theorem q_join (T g u v : List UInt8) : (((mkB T ++ mkB g) ++ mkB u) ++ (⟨#[32, 61, 32]⟩ : ByteArray)) ++ mkB v = mkB (T ++ g ++ (u ++ 32 :: 61 :: 32 :: v)) := by
  rw [show (⟨#[32, 61, 32]⟩ : ByteArray) = mkB [32, 61, 32] from rfl, ba_app, ba_app, ba_app, ba_app]
  simp
theorem same_j2 (P : List (List Pr)) (hP : P.length ≤ 1000) (tn : Bool) (i j : Nat) (x : Int) (l : List Pr) (a : Pr) (T : List UInt8) (hT : T.length ≤ 1000000) (ha : a.1.length ≤ 600 ∧ a.2.length ≤ 600) (h0 : 0 ≤ x) (h1 : x < (l.length : Int)) (hi : i < P.length) (hj : j ≤ 1000)
    (hrl : rd_L7 (mkN P) (i : Int) = mkR l) (hx : rd_T40 (mkR l) x = mkA a) {o : Bool}
    (hnext : Ev (fun k => L15DnSame.l1 k (mkN P) tn (mkB (T ++ glue i j ++ qText a)) (i : Int) ((j + 1 : Nat) : Int)) o) :
    Ev (fun k => L15DnSame.j2 k (mkN P) tn (mkB T) (i : Int) (j : Int) x) o := by
  have hlen : ((mkN P).length : Int) = (P.length : Int) := by rw [mkN_len]
  have hll : ((mkR l).length : Int) = (l.length : Int) := by rw [mkR_len]
  have hu := up_f a.1 (by omega)
  have htx := refText_ev (mkB a.2) (by rw [mkB_size]; omega)
  have hdl := dnText_len a.2
  have hus : (a.1.map upB).length = a.1.length := List.length_map _
  have hqt : qText a = a.1.map upB ++ 32 :: 61 :: 32 :: dnText a.2 := rfl
  refine Ev.step (fun k => by rw [L15DnSame.j2]) ?_
  rw [hrl, hx, hlen, hll, wsucc (by omega)]
  have s3 : ∀ z : List UInt8, (mkB z).size = z.length := mkB_size
  by_cases c1 : 0 < j
  · have hg : glue i j = [32, 43, 32] := if_pos c1
    rw [hg, hqt, ← q_join] at hnext
    refine Ev.pos (by omega) (Ev.pos (by rw [s3]; omega) (Ev.pos (by omega) (Ev.pos (by omega) (Ev.pos h0 (Ev.pos h1 ?_)))))
    refine Ev.bindc hu ?_
    rw [show (⟨#[32, 43, 32]⟩ : ByteArray) = mkB [32, 43, 32] from rfl]
    refine Ev.pos (by rw [ba_app, s3, s3, List.length_append]; simp only [List.length_cons, List.length_nil]; omega) (Ev.pos (by rw [ba_app, ba_app, s3, List.length_append, List.length_append]; simp only [List.length_cons, List.length_nil]; omega) ?_)
    refine Ev.bind htx ?_
    refine Ev.pos ?_ hnext
    rw [show (⟨#[32, 61, 32]⟩ : ByteArray) = mkB [32, 61, 32] from rfl, ba_app, ba_app, ba_app, s3, s3, List.length_append, List.length_append, List.length_append]
    simp only [List.length_cons, List.length_nil]
    rw [show bl (mkB a.2) = a.2 from rfl]
    omega
  · refine Ev.neg (by omega) ?_
    by_cases c2 : 0 < i
    · have hg : glue i j = [32, 59, 32] := by unfold glue; rw [if_neg c1, if_pos c2]
      rw [hg, hqt, ← q_join] at hnext
      refine Ev.pos (by omega) (Ev.pos (by rw [s3]; omega) (Ev.pos (by omega) (Ev.pos (by omega) (Ev.pos h0 (Ev.pos h1 ?_)))))
      refine Ev.bindc hu ?_
      rw [show (⟨#[32, 59, 32]⟩ : ByteArray) = mkB [32, 59, 32] from rfl]
      refine Ev.pos (by rw [ba_app, s3, s3, List.length_append]; simp only [List.length_cons, List.length_nil]; omega) (Ev.pos (by rw [ba_app, ba_app, s3, List.length_append, List.length_append]; simp only [List.length_cons, List.length_nil]; omega) ?_)
      refine Ev.bind htx ?_
      refine Ev.pos ?_ hnext
      rw [show (⟨#[32, 61, 32]⟩ : ByteArray) = mkB [32, 61, 32] from rfl, ba_app, ba_app, ba_app, s3, s3, List.length_append, List.length_append, List.length_append]
      simp only [List.length_cons, List.length_nil]
      rw [show bl (mkB a.2) = a.2 from rfl]
      omega
    · have hg : glue i j = [] := by unfold glue; rw [if_neg c1, if_neg c2]
      have hq := q_join T [] (a.1.map upB) (dnText a.2)
      rw [show mkB T ++ mkB [] = mkB T by rw [ba_app, List.append_nil]] at hq
      rw [hg, hqt, ← hq] at hnext
      refine Ev.neg (by omega) (Ev.pos (by omega) (Ev.pos (by omega) (Ev.pos h0 (Ev.pos h1 ?_))))
      refine Ev.bindc hu ?_
      refine Ev.pos (by rw [s3, s3]; omega) (Ev.pos (by rw [ba_app, s3, List.length_append]; omega) ?_)
      refine Ev.bind htx ?_
      refine Ev.pos ?_ hnext
      rw [show (⟨#[32, 61, 32]⟩ : ByteArray) = mkB [32, 61, 32] from rfl, ba_app, ba_app, s3, s3, List.length_append, List.length_append]
      simp only [List.length_cons, List.length_nil]
      rw [show bl (mkB a.2) = a.2 from rfl]
      omega
theorem qText_len {a : Pr} (ha : a.1.length ≤ 600 ∧ a.2.length ≤ 255) : (qText a).length ≤ 1368 := by
  have := dnText_len a.2
  unfold qText
  rw [List.length_append, List.length_map]
  simp only [List.length_cons]; omega
theorem rdA_get {l : List Pr} {j : Nat} (h : j < l.length) : rd_T40 (mkR l) (j : Int) = mkA l[j] :=
  rdA_at (r := mkR (l.drop (j + 1))) (drop_map' mkA (List.drop_eq_getElem_cons h))
theorem take_at {α : Type} {l : List α} {i : Nat} {x : α} {r : List α} (h : l.drop i = x :: r) : l.take (i + 1) = l.take i ++ [x] := take_next h
theorem same_l1 (P : List (List Pr)) (hP : P.length ≤ 12) (tn : Bool) (i : Nat) (l : List Pr) (r : List (List Pr)) (hr : P.drop i = l :: r) (hne : l ≠ []) (hty : ∀ a ∈ l, typeOk a.1 = true) (hsz : l.length ≤ 4 ∧ ∀ a ∈ l, a.1.length ≤ 600 ∧ a.2.length ≤ 255) {o : Bool}
    (hnext : ∀ T, RD T (turnN tn (P.take (i + 1))) → T.length ≤ 5600 * (i + 1) → Ev (fun k => L15DnSame.l0 k (mkN P) tn (mkB T) ((i + 1 : Nat) : Int)) o) :
    ∀ (m j : Nat) (T : List UInt8), l.length - j = m → j ≤ l.length → RD T (turnN tn (P.take i) ++ (if j = 0 then [] else [(turnR tn l).take j])) → T.length ≤ 5600 * i + 1400 * j →
    Ev (fun k => L15DnSame.l1 k (mkN P) tn (mkB T) (i : Int) (j : Int)) o := by
  obtain ⟨g1, _, g3⟩ := getD_at (d := l) hr
  have hrl : rd_L7 (mkN P) (i : Int) = mkR l := rdR_at (drop_map' mkR hr)
  have hlen : ((mkN P).length : Int) = (P.length : Int) := by rw [mkN_len]
  have hll : ((mkR l).length : Int) = (l.length : Int) := by rw [mkR_len]
  intro m
  induction m with
  | zero =>
    intro j T hm hj hR hT
    have hj0 : j = l.length := by omega
    have hl0 : 0 < l.length := List.length_pos_iff.2 hne
    rw [if_neg (by omega), show (turnR tn l).take j = turnR tn l from List.take_of_length_le (by rw [turnR_len]; omega)] at hR
    have e : turnN tn (P.take (i + 1)) = turnN tn (P.take i) ++ [turnR tn l] := by
      rw [take_at hr]; unfold turnN; rw [List.map_append]; rfl
    rw [← e] at hR
    have hn := hnext T hR (by have := hsz.1; omega)
    refine Ev.step (fun k => by rw [L15DnSame.l1]) ?_
    rw [hrl, hlen, hll, wsucc (by omega)]
    exact Ev.pos (by omega) (Ev.pos (by omega) (Ev.neg (by omega) hn))
  | succ m ih =>
    intro j T hm hj hR hT
    have hlt : j < l.length := by omega
    have hlt' : j < (turnR tn l).length := by rw [turnR_len]; exact hlt
    have h4 := hsz.1
    let a := (turnR tn l)[j]
    have ha : a ∈ l := (turnR_mem tn l a).1 (List.getElem_mem _)
    have hT2 : (T ++ glue i j ++ qText a).length ≤ 5600 * i + 1400 * (j + 1) := by
      have h1 := qText_len (hsz.2 a ha)
      have h2 : (glue i j).length ≤ 3 := by unfold glue; split; decide; split <;> decide
      rw [List.length_append, List.length_append]; omega
    have htk : (turnR tn l).take (j + 1) = (turnR tn l).take j ++ [a] := List.take_succ_eq_append_getElem hlt'
    have hR2 : RD (T ++ glue i j ++ qText a) (turnN tn (P.take i) ++ (if j + 1 = 0 then [] else [(turnR tn l).take (j + 1)])) := by
      rw [if_neg (by omega), htk]
      by_cases c1 : 0 < j
      · rw [if_neg (by omega)] at hR
        have hg : glue i j = [32, 43, 32] := if_pos c1
        rw [hg]
        refine rd_plus hR ?_ (hty a ha)
        intro h0
        have := congrArg List.length h0
        rw [List.length_take, List.length_nil] at this
        omega
      · have hj0 : j = 0 := by omega
        subst hj0
        rw [if_pos rfl, List.append_nil] at hR
        rw [List.take_zero, List.nil_append]
        by_cases c2 : 0 < i
        · have hg : glue i 0 = [32, 59, 32] := by unfold glue; rw [if_neg c1, if_pos c2]
          rw [hg]
          refine rd_semi hR ?_ (hty a ha)
          intro h0
          have := congrArg List.length h0
          rw [turnN_len, List.length_take, List.length_nil] at this
          omega
        · have hi0 : i = 0 := by omega
          subst hi0
          have hg : glue 0 0 = [] := rfl
          rw [hg, List.append_nil]
          rcases hR with ⟨_, h⟩ | ⟨N0, rdn, b, h, _⟩
          · subst h
            exact rd_first (hty a ha)
          · rw [List.take_zero] at h
            exact absurd h (by unfold turnN; simp)
    have hi2 := ih (j + 1) _ (by omega) (by omega) hR2 hT2
    refine Ev.step (fun k => by rw [L15DnSame.l1]) ?_
    rw [hrl, hlen, hll, wsucc (by omega)]
    refine Ev.pos (by omega) (Ev.pos (by omega) (Ev.pos (by omega) ?_))
    cases tn with
    | true =>
      refine Ev.pos rfl ?_
      have hx : wrap64 ((wrap64 ((l.length : Int) - 1)) - (j : Int)) = ((l.length - 1 - j : Nat) : Int) := by unfold wrap64; omega
      rw [hx]
      have hg : l.length - 1 - j < l.length := by omega
      have haj : a = l[l.length - 1 - j] := by
        show (turnR true l)[j] = _
        simp only [turnR, if_true, List.getElem_reverse]
      exact same_j2 P (by omega) true i j _ l a T (by omega) ⟨(hsz.2 a ha).1, by have := (hsz.2 a ha).2; omega⟩ (by omega) (by omega) g1 (by omega) hrl (by rw [haj]; exact rdA_get hg) hi2
    | false =>
      refine Ev.neg (by simp) ?_
      have haj : a = l[j] := rfl
      exact same_j2 P (by omega) false i j _ l a T (by omega) ⟨(hsz.2 a ha).1, by have := (hsz.2 a ha).2; omega⟩ (by omega) (by omega) g1 (by omega) hrl (by rw [haj]; exact rdA_get hlt) hi2
theorem same_l0 (P : List (List Pr)) (hP : shortP P) (hn : nameOk (mkN P) = true) (tn : Bool) : ∀ (m i : Nat) (T : List UInt8), P.length - i = m → i ≤ P.length → RD T (turnN tn (P.take i)) → T.length ≤ 5600 * i →
    Ev (fun k => L15DnSame.l0 k (mkN P) tn (mkB T) (i : Int)) true := by
  have hok := nameOk_ne hn
  obtain ⟨h12, h4⟩ := nameOk_sz hn
  rw [mkN_len] at h12
  have hlen : ((mkN P).length : Int) = (P.length : Int) := by rw [mkN_len]
  intro m
  induction m with
  | zero =>
    intro i T hm hi hR hT
    rw [List.take_of_length_le (by omega)] at hR
    refine Ev.step (fun k => by rw [L15DnSame.l0]) ?_
    rw [hlen]
    refine Ev.neg (by omega) ?_
    obtain ⟨p1, p2, p3, p4⟩ := parse_ev (mkB T) (by rw [mkB_size]; omega)
    by_cases hl : T.length > 1000
    · refine Ev.bind (p1 (by rw [mkB_size]; exact hl)) (Ev.neg (show ¬ ((5 : Int) = 0) by decide) (Ev.pos rfl ?_))
      rw [show decide (((mkB T).size : Int) > 1000) = true from decide_eq_true (by rw [mkB_size]; omega)]
      exact Ev.rfl'
    · have hP2 := short_turn tn hP
      obtain ⟨z1, z2, z3⟩ := sz_short hP
      obtain ⟨y1, y2, y3⟩ := sz_short hP2
      have hread : Ev (fun k => dn_Parse.f k (mkB T)) (mkN (turnN tn P), 0) := by
        by_cases hne : turnN tn P = []
        · rw [hne] at hR ⊢
          rcases hR with ⟨_, h⟩ | ⟨N0, rdn, b, h, _⟩
          · subst h
            exact p2 (by rw [mkB_size]; omega) rfl
          · exact absurd h (by simp)
        · have hrd := rd_read hR hne
          have hfr : (bl (mkB T)).dropWhile (· == 32) ≠ [] := by
            intro h0
            have := signs_none_blank T h0
            rw [hrd] at this; cases this
          have := p4 (by rw [mkB_size]; omega) hfr _ _ hrd (right_ev _ y1 y2)
          rw [nameOk_turn, hn] at this
          exact this
      obtain ⟨u1, u2, u3⟩ := under_turn tn hn
      have hll : (mkN P).length = (mkN (turnN tn P)).length := by rw [mkN_len, mkN_len, turnN_len]
      have s1 := same_ev _ _ z1 y1 z2 y2
      have s2 := under_ev _ _ z1 y1 z2 y2
      have s3 := under_ev _ _ y1 z1 y2 z2
      have s4 := same_ev _ _ z1 z1 z2 z2
      rw [u1, decide_eq_true hll] at s1
      rw [u1] at s2
      rw [u2] at s3
      rw [u3, decide_eq_true rfl] at s4
      exact Ev.bind hread (Ev.pos rfl (Ev.bind s1 (Ev.pos rfl (Ev.bind s2 (Ev.pos rfl (Ev.bind s3 (Ev.pos rfl (Ev.bind s4 Ev.rfl'))))))))
  | succ m ih =>
    intro i T hm hi hR hT
    cases hr : P.drop i with
    | nil => have := List.drop_eq_nil_iff.1 hr; omega
    | cons l r =>
      have hmem : l ∈ P := by
        have : l ∈ P.drop i := by rw [hr]; simp
        exact List.mem_of_mem_drop this
      obtain ⟨k1, k2⟩ := hok l hmem
      have h4' := h4 (mkR l) (List.mem_map_of_mem hmem)
      rw [mkR_len] at h4'
      have := same_l1 P h12 tn i l r hr k1 k2 ⟨h4', fun a ha => ⟨((hP.2 l hmem).2 a ha).1, nameOk_val hn l hmem a ha⟩⟩ (o := true) (fun T' hR' hT' => ih (i + 1) T' (by omega) (by omega) hR' hT') _ 0 T rfl (Nat.zero_le _) (by rw [if_pos rfl, List.append_nil]; exact hR) (by omega)
      refine Ev.step (fun k => by rw [L15DnSame.l0]) ?_
      rw [hlen]
      exact Ev.pos (by omega) this
theorem DnSame_main (n : List (List AvaS)) (tn : Bool) : ∃ k, L15DnSame.f k n tn = some true := by
  refine Ev.some' ?_
  unfold L15DnSame.f
  refine Ev.bind awake15_ev (Ev.pos rfl ?_)
  obtain ⟨b, hb, hb2⟩ := long_ev n
  refine Ev.bind hb ?_
  cases b with
  | true => exact Ev.pos rfl Ev.rfl'
  | false =>
    refine Ev.neg (by simp) ?_
    have hP := short_of (hb2 rfl)
    have hm := mk_of n
    have h1 := print_ev _ hP
    obtain ⟨z1, z2, z3⟩ := sz_short hP
    have h5 := same_ev _ _ z1 z1 z2 z2
    have h6 := same_l0 (ofN n) hP
    rw [hm] at h1 h5 h6
    refine Ev.bind h1 ?_
    cases hn : nameOk n with
    | false =>
      rw [if_neg (by simp)]
      refine Ev.neg (show ¬ ((4 : Int) = 0) by decide) (Ev.bind h5 ?_)
      unfold underB
      rw [hn]
      exact Ev.neg (by simp) Ev.rfl'
    | true =>
      rw [if_pos rfl]
      unfold fin
      by_cases hl : (nameText (ofN n)).length > 1000
      · rw [if_pos hl]
        refine Ev.neg (show ¬ ((5 : Int) = 0) by decide) (Ev.bind h5 ?_)
        have hu := (under_turn false (P := ofN n) (by rw [hm]; exact hn)).2.2
        rw [hm] at hu
        rw [hu, decide_eq_true rfl]
        exact Ev.pos rfl Ev.rfl'
      · rw [if_neg hl]
        exact Ev.pos rfl (h6 hn tn _ 0 [] rfl (Nat.zero_le _) (.inl ⟨by rw [List.take_zero]; rfl, rfl⟩) (by simp))
end Go.Proofs.YtkklacijhmoopaaDoor.Print
namespace Go
variable {H : Type} {enc : TypeId × Value → H}
theorem handed_laid {a : Assume} {C : Checked} {os : Os} {f : FuncId} {fn : Func} {s : ChangeSpec} {conds : List PathCond} {apart fresh handsOn again : Bool} {X : World → Array Value → Prop}
    (hX : ∀ (w w' : World) (args : Array Value), w.heap = w'.heap → X w args → X w' args)
    (own : ownKnob C.prog.godebug = none) (started : os.Started) (noInit : C.prog.inits.idxOf? f = none) (hfn : C.prog.funcs[f]? = some fn)
    (witness : ∃ (w : World) (tape : Tape) (i : Input), w.os = os ∧ (w.forCall tape i).Shaped C.prog ∧ i.vars = [] ∧ Input.okWide C.prog (w.forCall tape i) .any w.heap.size f i ∧
      ((s.pre enc C.prog fn conds apart (w.forCall tape i).memory i.args ∧ X (w.forCall tape i).memory i.args) ∧ sizedMet enc C.prog fn (OpenSpec.ofChange s) apart (w.forCall tape i).memory i.args) ∧ a.holds C.prog (lone (Frame.enter C.prog f i.args .normal) [] (w.forCall tape i)))
    (contract : ∀ (W : World) (base : Nat) (args : Array Value) (ds gs : List (DataW H)) (before : List MemPlace),
      (∀ (j : Nat) t v, fn.params[j]? = some t → args[j]? = some v → Value.okWide C.prog W .any base t v) →
      DataW.Whole enc C.prog fn.params.toList s.vars apart W args.toList ds gs before →
      conds.all (PathCond.test C.prog ⟨fn.params.toList, ds, s.plain.varTypes C.prog, gs⟩) = true →
      (DataW.weightsEach C.prog (fn.params.toList ++ s.plain.varTypes C.prog) (ds ++ gs)).all (· ≤ reachBytes) = true → X W args →
      W.ShapedOpen C.prog →
      a.holds C.prog (lone (Frame.enter C.prog f args .normal) [] W) →
      Calls C.prog f args W fun e W' => ∃ v, e = .returned v ∧ s.post enc C.prog fn apart fresh handsOn again W args v W') :
    ReturnsInHanded a C os f .any (fun w args => (s.pre enc C.prog fn conds apart w args ∧ X w args) ∧ sizedMet enc C.prog fn (OpenSpec.ofChange s) apart w args) (s.post enc C.prog fn apart fresh handsOn again) := by
  refine returnsInHanded_of_calls own started noInit witness ?_
  intro w tape i _ hsh _ hok hpre hholds
  obtain ⟨_, _, _, fn', hfn', _, _, _, _, hval⟩ := hok
  have e : fn' = fn := Option.some.inj (hfn'.symm.trans hfn)
  subst e
  obtain ⟨⟨⟨ds, gs, before, hw, hc⟩, hx⟩, hz⟩ := hpre
  have hw' := DataW.Whole.of_heap (w' := w.forCall tape i) (by rfl) hw
  refine (contract (w.forCall tape i) w.heap.size i.args ds gs before hval hw' hc (hz.weights hw) (hX _ _ _ (by rfl) hx) hsh hholds).mono fun e W' ⟨v, he, hp⟩ => ?_
  subst he
  exact ChangeSpec.post_blind hp
end Go
namespace Go.Proofs.YtkklacijhmoopaaDoor
open Go.ChangeShapes Go.WideShapes Go.ChangeAt Go.RowKit
open Go.ChangeMaps (open_string shut_string)
set_option maxRecDepth 100000
theorem own : ownKnob Tryd.prog.godebug = none := by kernel_rfl
def laid2 : List (String × DataW Unit) := [("unicode/utf8.acceptRanges", Rows.laid_unicode_utf8_acceptRanges), ("unicode/utf8.first", Rows.laid_unicode_utf8_first)]
theorem first_is : (Rows.laid_unicode_utf8_first : DataW Unit) = Lib.firstData := by kernel_rfl
theorem accept_is : (Rows.laid_unicode_utf8_acceptRanges : DataW Unit) = Lib.acceptData := by kernel_rfl
def ren : Go.Shelf.Ren := ⟨fun n => n, fun | 5 => 5 | 119 => 158 | 138 => 160 | 139 => 161 | n => n, fun | 3 => 1 | 4 => 2 | n => n⟩
theorem u8types : U8Types Tryd.prog ren := { t5 := Tryd.underlying5, t119 := Tryd.underlying158, t138 := Tryd.underlying160, t139 := Tryd.underlying161 }
theorem u8extra : U8Extra Tryd.prog ren := { n3 := by kernel_rfl, n4 := by kernel_rfl, y3 := by kernel_rfl, y4 := by kernel_rfl, c5 := by kernel_rfl, c119 := by kernel_rfl, c138 := by kernel_rfl }
theorem gw_of {W : World} (hsh : W.ShapedOpen Tryd.prog) (hL : laidMetH Tryd.prog laid2 W) : Print.Gw W := by
  rw [MakeChecks.laidMetH_plain _ _ _ (by kernel_rfl)] at hL
  refine ⟨cell_of_shapedOpen_int (zero := #[.int .i64 0]) (t := 3) hsh (of_decide_eq_true (by kernel_rfl)) (by kernel_rfl) rfl (by kernel_rfl) (by kernel_rfl) Tryd.underlying3, ?_⟩
  refine utf8Tabs_of_readsT u8types u8extra ?_ ?_
  · rw [← first_is]; exact Lib.laidMet.reads hL (by simp [laid2])
  · rw [← accept_is]; exact Lib.laidMet.reads hL (by simp [laid2])
end Go.Proofs.YtkklacijhmoopaaDoor
namespace Go.Proofs.YtkklacijhmoopaaDoor.Opens
open Go.RowKit Go.Proofs.YtkklacijhmoopaaDoorW.PrintWords
set_option linter.unusedVariables false
def Opens (P : Program) {α : Type} (t : TypeId) (d : Kd α) : Prop :=
  ∀ {H : Type} (enc : TypeId × Value → H) (w : World) (base : Nat) (spare : Nat → Bool) (held : Bool) (fuel : Nat) (cs : List Value) (x : DataW H × List MemPlace), DataW.trod enc P w base spare held fuel t cs = some x → ∃ a, d.K w a cs
theorem opens_string {P : Program} {t : TypeId} (h : P.underlying t = some .string) : Opens P t Kd.string := by
  intro H enc w base spare held fuel cs x hx
  obtain ⟨s, rfl, _⟩ := DataW.trod_string h hx
  exact ⟨s, rfl⟩
theorem opens_iso {P : Program} {α β : Type} {t : TypeId} {d : Kd α} (f : β → α) (g : α → β) (hg : ∀ a, f (g a) = a) (h : Opens P t d) : Opens P t (Kd.iso d f) := by
  intro H enc w base spare held fuel cs x hx
  obtain ⟨a, ha⟩ := h enc w base spare held fuel cs x hx
  exact ⟨g a, by show d.K w (f (g a)) cs; rw [hg]; exact ha⟩
theorem opens_two {P : Program} {α β : Type} {t : TypeId} {f0 f1 : Field} {d0 : Kd α} {d1 : Kd β} (h : P.underlying t = some (.struct #[f0, f1])) (o0 : f0.offset = 0) (o1 : f1.offset = P.cellsOf f0.type) (hc : P.cellsOf t = P.cellsOf f0.type + P.cellsOf f1.type)
    (h0 : Opens P f0.type d0) (h1 : Opens P f1.type d1) : Opens P t (Kd.pair d0 d1) := by
  intro H enc w base spare held fuel cs x hx
  obtain ⟨xs, n, _, _, hl, hn, hf⟩ := DataW.trod_struct h hx
  have k0 := hf 0 f0 rfl
  have k1 := hf 1 f1 rfl
  have hn2 : xs.length = 2 := hn
  rw [List.getElem?_eq_getElem (by omega)] at k0 k1
  rw [o0, List.drop_zero] at k0
  rw [o1] at k1
  obtain ⟨a, ha⟩ := h0 enc w base spare held n _ _ k0
  obtain ⟨b, hb⟩ := h1 enc w base spare held n _ _ k1
  refine ⟨(a, b), _, _, ?_, ha, hb⟩
  conv => lhs; rw [← List.take_append_drop (P.cellsOf f0.type) cs]
  congr 1
  rw [List.take_of_length_le]
  rw [List.length_drop]; omega
theorem cells_at {w : World} {base : Nat} {a : Addr} {n : Nat} {cs : List Value} (h : w.cells? base a n = some cs) : cs.length = n ∧ ∀ i u, cs[i]? = some u → w.cell? (a.add i) = some u := by
  obtain ⟨_, hl, hc⟩ := World.cells?_some h
  exact ⟨hl, fun i u hu => by rw [hc i (by rw [← hl]; exact (List.getElem?_eq_some_iff.1 hu).1)]; exact hu⟩
theorem choose_list {α : Type} {p : Nat → α → Prop} : ∀ n : Nat, (∀ i, i < n → ∃ a, p i a) → ∃ l : List α, l.length = n ∧ ∀ i a, l[i]? = some a → p i a
  | 0, _ => ⟨[], rfl, fun i a h => by simp at h⟩
  | n + 1, h => by
    obtain ⟨l, hl, hp⟩ := choose_list n fun i hi => h i (by omega)
    obtain ⟨a, ha⟩ := h n (by omega)
    refine ⟨l ++ [a], by simp [hl], fun i b hb => ?_⟩
    by_cases hi : i < l.length
    · rw [List.getElem?_append_left hi] at hb; exact hp i b hb
    · rw [List.getElem?_append_right (by omega)] at hb
      have : i = n := by
        have := (List.getElem?_eq_some_iff.1 hb).1
        simp at this; omega
      subst this
      rw [hl, Nat.sub_self] at hb
      simp at hb; subst hb; exact ha
theorem opens_slice {P : Program} {α : Type} {t e : TypeId} {d : Kd α} (h : P.underlying t = some (.slice e)) (hc : P.cellsOf e = d.sz) (hd : Opens P e d) : Opens P t (Kd.slice e d) := by
  intro H enc w base spare held fuel cs x hx
  rcases DataW.trod_slice h hx with ⟨rfl, _⟩ | ⟨a, len, cap, elems, rest, n, _, rfl, _, _, hl, hm, hlen, hel, _, _⟩
  · exact ⟨[], none, 0, rfl, Nat.le_refl _, rfl, by simp, fun h => absurd h (by simp)⟩
  · obtain ⟨xs, hxl, hxs⟩ := choose_list (p := fun i y => ∃ c, c.length = d.sz ∧ d.K w y c ∧ ∀ j u, c[j]? = some u → w.cell? (a.add (i * d.sz + j)) = some u) len (fun i hi => by
      have := hel i hi
      rw [List.getElem?_eq_getElem (by omega)] at this
      obtain ⟨c, h1, h2⟩ := Option.bind_eq_some_iff.1 this
      obtain ⟨y, hy⟩ := hd enc w base spare held n _ _ h2
      obtain ⟨hcl, hcc⟩ := cells_at h1
      refine ⟨y, c, by omega, hy, fun j u hj => ?_⟩
      have := hcc j u hj
      rw [← this, hc, ← Go.Deep.add_add])
    refine ⟨xs, some a, cap, by rw [hxl], by omega, rfl, by have : maxLen = 9223372036854775807 := rfl; omega, fun _ => ⟨a, rfl, hxs⟩⟩
end Go.Proofs.YtkklacijhmoopaaDoor.Opens
