-- laid together by pack.py (a program of this session)
import Derived.Test.YtpklcnpmppaaoaaGreatDoorAAttrFinds3
namespace Go.Proofs.YtpklcnpmppaaoaaGreatDoor.Print
open Go.RowKit Go.Proofs.YtpklcnpmppaaoaaGreatDoorW.PrintWords Go.Proofs.YtpklcnpmppaaoaaGreatDoorW.PrintLast Go.Proofs.YtpklcnpmppaaoaaGreatDoorW.PrintMore
attribute [local go_sem] max2_int min2_int max_two min_two max_three min_three max_four min_four
set_option linter.unusedVariables false
set_option linter.unusedSimpArgs false
set_option maxHeartbeats 8000000 in
set_option maxRecDepth 100000 in
theorem R16Syntax.calls (k : Nat) (a0 : ByteArray) (r : Int) (w : World) (h : R16Syntax.f k a0 = some r) :
  Calls Tryz.prog 49 #[.string a0] w fun e w' => e = .returned (.int .i64 r) ∧ Drawn0 w w' := by
 have H : (if a0.toList = ([111, 98, 106, 101, 99, 116, 99, 108, 97, 115, 115] : List UInt8) then (R16Syntax.j0 k a0 (a0.toList == ([111, 98, 106, 101, 99, 116, 99, 108, 97, 115, 115] : List UInt8))) else (if a0.toList = ([99, 110] : List UInt8) then (R16Syntax.j0 k a0 (a0.toList == ([99, 110] : List UInt8))) else (if a0.toList = ([115, 110] : List UInt8) then (R16Syntax.j0 k a0 (a0.toList == ([115, 110] : List UInt8))) else (if a0.toList = ([111, 117] : List UInt8) then (R16Syntax.j0 k a0 (a0.toList == ([111, 117] : List UInt8))) else (if a0.toList = ([111] : List UInt8) then (R16Syntax.j0 k a0 (a0.toList == ([111] : List UInt8))) else (if a0.toList = ([100, 99] : List UInt8) then (R16Syntax.j0 k a0 (a0.toList == ([100, 99] : List UInt8))) else (if a0.toList = ([117, 105, 100] : List UInt8) then (R16Syntax.j0 k a0 (a0.toList == ([117, 105, 100] : List UInt8))) else (if a0.toList = ([109, 97, 105, 108] : List UInt8) then (R16Syntax.j0 k a0 (a0.toList == ([109, 97, 105, 108] : List UInt8))) else (if a0.toList = ([100, 101, 115, 99, 114, 105, 112, 116, 105, 111, 110] : List UInt8) then (R16Syntax.j0 k a0 (a0.toList == ([100, 101, 115, 99, 114, 105, 112, 116, 105, 111, 110] : List UInt8))) else (if a0.toList = ([116, 105, 116, 108, 101] : List UInt8) then (R16Syntax.j0 k a0 (a0.toList == ([116, 105, 116, 108, 101] : List UInt8))) else (R16Syntax.j0 k a0 (a0.toList == ([108] : List UInt8))))))))))))) = some r := h
 clear h
 have HC2 := Aside0.mk H
 clear H
 go_enter Tryz.func49, Tryz.ntmps49
 go_upto_if 4 with (fail)
 go_cut [4] (fun v4 wc => ∃ (kq : Nat) (x4_1 : Bool), v4 = .bool x4_1 ∧ Aside0 (R16Syntax.j0 kq a0 x4_1 = some r) ∧ Aside0 (kq ≤ k) ∧ Drawn0 w wc)
 case first =>
  have H := HC2.out
  clear HC2
  by_cases c3 : a0.toList = ([111, 98, 106, 101, 99, 116, 99, 108, 97, 115, 115] : List UInt8)
  ·
   rw [if_pos c3] at H
   have c3b0 : (a0.toList == ([111, 98, 106, 101, 99, 116, 99, 108, 97, 115, 115] : List UInt8)) = true := beq_iff_eq.mpr c3
   have c3b1 : (a0.toList != ([111, 98, 106, 101, 99, 116, 99, 108, 97, 115, 115] : List UInt8)) = false := bne_eq_false_iff_eq.mpr c3
   clear c3
   (first | rw [c3b0] | (simp only [i64_w, i32_w]; rw [c3b0]) | skip)
   have H' := Aside0.mk H
   clear H
   go_wp2
   first | go_meet | (simp only [c3b0] at *; go_meet)
   case rel => exact ⟨_, ((a0.toList == ([111, 98, 106, 101, 99, 116, 99, 108, 97, 115, 115] : List UInt8))), ap2, H', ⟨by first | omega | exact Nat.le_refl _⟩, by repeat (first | exact Drawn0.refl _ | apply Drawn0.step)⟩
  ·
   rw [if_neg c3] at H
   have c3b0 : (a0.toList == ([111, 98, 106, 101, 99, 116, 99, 108, 97, 115, 115] : List UInt8)) = false := beq_eq_false_iff_ne.mpr c3
   have c3b1 : (a0.toList != ([111, 98, 106, 101, 99, 116, 99, 108, 97, 115, 115] : List UInt8)) = true := bne_iff_ne.mpr c3
   (first | rw [c3b0] | (simp only [i64_w, i32_w]; rw [c3b0]) | skip)
   by_cases c4 : a0.toList = ([99, 110] : List UInt8)
   ·
    rw [if_pos c4] at H
    have c4b0 : (a0.toList == ([99, 110] : List UInt8)) = true := beq_iff_eq.mpr c4
    have c4b1 : (a0.toList != ([99, 110] : List UInt8)) = false := bne_eq_false_iff_eq.mpr c4
    clear c4
    have H' := Aside0.mk H
    clear H
    go_wp2
    first | go_meet | (simp only [c4b0] at *; go_meet) | (simp only [c3b0] at *; go_meet) | (simp only [c3b0] at *; go_meet)
    case rel => exact ⟨_, ((a0.toList == ([99, 110] : List UInt8))), ap2, H', ⟨by first | omega | exact Nat.le_refl _⟩, by repeat (first | exact Drawn0.refl _ | apply Drawn0.step)⟩
   ·
    rw [if_neg c4] at H
    have c4b0 : (a0.toList == ([99, 110] : List UInt8)) = false := beq_eq_false_iff_ne.mpr c4
    have c4b1 : (a0.toList != ([99, 110] : List UInt8)) = true := bne_iff_ne.mpr c4
    by_cases c5 : a0.toList = ([115, 110] : List UInt8)
    ·
     rw [if_pos c5] at H
     have c5b0 : (a0.toList == ([115, 110] : List UInt8)) = true := beq_iff_eq.mpr c5
     have c5b1 : (a0.toList != ([115, 110] : List UInt8)) = false := bne_eq_false_iff_eq.mpr c5
     clear c5
     have H' := Aside0.mk H
     clear H
     go_wp2
     first | go_meet | (simp only [c5b0] at *; go_meet) | (simp only [c4b0] at *; go_meet) | (simp only [c4b0] at *; go_meet)
     case rel => exact ⟨_, ((a0.toList == ([115, 110] : List UInt8))), ap2, H', ⟨by first | omega | exact Nat.le_refl _⟩, by repeat (first | exact Drawn0.refl _ | apply Drawn0.step)⟩
    ·
     rw [if_neg c5] at H
     have c5b0 : (a0.toList == ([115, 110] : List UInt8)) = false := beq_eq_false_iff_ne.mpr c5
     have c5b1 : (a0.toList != ([115, 110] : List UInt8)) = true := bne_iff_ne.mpr c5
     by_cases c6 : a0.toList = ([111, 117] : List UInt8)
     ·
      rw [if_pos c6] at H
      have c6b0 : (a0.toList == ([111, 117] : List UInt8)) = true := beq_iff_eq.mpr c6
      have c6b1 : (a0.toList != ([111, 117] : List UInt8)) = false := bne_eq_false_iff_eq.mpr c6
      clear c6
      have H' := Aside0.mk H
      clear H
      go_wp2
      first | go_meet | (simp only [c6b0] at *; go_meet) | (simp only [c5b0] at *; go_meet) | (simp only [c5b0] at *; go_meet)
      case rel => exact ⟨_, ((a0.toList == ([111, 117] : List UInt8))), ap2, H', ⟨by first | omega | exact Nat.le_refl _⟩, by repeat (first | exact Drawn0.refl _ | apply Drawn0.step)⟩
     ·
      rw [if_neg c6] at H
      have c6b0 : (a0.toList == ([111, 117] : List UInt8)) = false := beq_eq_false_iff_ne.mpr c6
      have c6b1 : (a0.toList != ([111, 117] : List UInt8)) = true := bne_iff_ne.mpr c6
      by_cases c7 : a0.toList = ([111] : List UInt8)
      ·
       rw [if_pos c7] at H
       have c7b0 : (a0.toList == ([111] : List UInt8)) = true := beq_iff_eq.mpr c7
       have c7b1 : (a0.toList != ([111] : List UInt8)) = false := bne_eq_false_iff_eq.mpr c7
       clear c7
       have H' := Aside0.mk H
       clear H
       go_wp2
       first | go_meet | (simp only [c7b0] at *; go_meet) | (simp only [c6b0] at *; go_meet) | (simp only [c6b0] at *; go_meet)
       case rel => exact ⟨_, ((a0.toList == ([111] : List UInt8))), ap2, H', ⟨by first | omega | exact Nat.le_refl _⟩, by repeat (first | exact Drawn0.refl _ | apply Drawn0.step)⟩
      ·
       rw [if_neg c7] at H
       have c7b0 : (a0.toList == ([111] : List UInt8)) = false := beq_eq_false_iff_ne.mpr c7
       have c7b1 : (a0.toList != ([111] : List UInt8)) = true := bne_iff_ne.mpr c7
       by_cases c8 : a0.toList = ([100, 99] : List UInt8)
       ·
        rw [if_pos c8] at H
        have c8b0 : (a0.toList == ([100, 99] : List UInt8)) = true := beq_iff_eq.mpr c8
        have c8b1 : (a0.toList != ([100, 99] : List UInt8)) = false := bne_eq_false_iff_eq.mpr c8
        clear c8
        have H' := Aside0.mk H
        clear H
        go_wp2
        first | go_meet | (simp only [c8b0] at *; go_meet) | (simp only [c7b0] at *; go_meet) | (simp only [c7b0] at *; go_meet)
        case rel => exact ⟨_, ((a0.toList == ([100, 99] : List UInt8))), ap2, H', ⟨by first | omega | exact Nat.le_refl _⟩, by repeat (first | exact Drawn0.refl _ | apply Drawn0.step)⟩
       ·
        rw [if_neg c8] at H
        have c8b0 : (a0.toList == ([100, 99] : List UInt8)) = false := beq_eq_false_iff_ne.mpr c8
        have c8b1 : (a0.toList != ([100, 99] : List UInt8)) = true := bne_iff_ne.mpr c8
        by_cases c9 : a0.toList = ([117, 105, 100] : List UInt8)
        ·
         rw [if_pos c9] at H
         have c9b0 : (a0.toList == ([117, 105, 100] : List UInt8)) = true := beq_iff_eq.mpr c9
         have c9b1 : (a0.toList != ([117, 105, 100] : List UInt8)) = false := bne_eq_false_iff_eq.mpr c9
         clear c9
         have H' := Aside0.mk H
         clear H
         go_wp2
         first | go_meet | (simp only [c9b0] at *; go_meet) | (simp only [c8b0] at *; go_meet) | (simp only [c8b0] at *; go_meet)
         case rel => exact ⟨_, ((a0.toList == ([117, 105, 100] : List UInt8))), ap2, H', ⟨by first | omega | exact Nat.le_refl _⟩, by repeat (first | exact Drawn0.refl _ | apply Drawn0.step)⟩
        ·
         rw [if_neg c9] at H
         have c9b0 : (a0.toList == ([117, 105, 100] : List UInt8)) = false := beq_eq_false_iff_ne.mpr c9
         have c9b1 : (a0.toList != ([117, 105, 100] : List UInt8)) = true := bne_iff_ne.mpr c9
         by_cases c10 : a0.toList = ([109, 97, 105, 108] : List UInt8)
         ·
          rw [if_pos c10] at H
          have c10b0 : (a0.toList == ([109, 97, 105, 108] : List UInt8)) = true := beq_iff_eq.mpr c10
          have c10b1 : (a0.toList != ([109, 97, 105, 108] : List UInt8)) = false := bne_eq_false_iff_eq.mpr c10
          clear c10
          have H' := Aside0.mk H
          clear H
          go_wp2
          first | go_meet | (simp only [c10b0] at *; go_meet) | (simp only [c9b0] at *; go_meet) | (simp only [c9b0] at *; go_meet)
          case rel => exact ⟨_, ((a0.toList == ([109, 97, 105, 108] : List UInt8))), ap2, H', ⟨by first | omega | exact Nat.le_refl _⟩, by repeat (first | exact Drawn0.refl _ | apply Drawn0.step)⟩
         ·
          rw [if_neg c10] at H
          have c10b0 : (a0.toList == ([109, 97, 105, 108] : List UInt8)) = false := beq_eq_false_iff_ne.mpr c10
          have c10b1 : (a0.toList != ([109, 97, 105, 108] : List UInt8)) = true := bne_iff_ne.mpr c10
          by_cases c11 : a0.toList = ([100, 101, 115, 99, 114, 105, 112, 116, 105, 111, 110] : List UInt8)
          ·
           rw [if_pos c11] at H
           have c11b0 : (a0.toList == ([100, 101, 115, 99, 114, 105, 112, 116, 105, 111, 110] : List UInt8)) = true := beq_iff_eq.mpr c11
           have c11b1 : (a0.toList != ([100, 101, 115, 99, 114, 105, 112, 116, 105, 111, 110] : List UInt8)) = false := bne_eq_false_iff_eq.mpr c11
           clear c11
           have H' := Aside0.mk H
           clear H
           go_wp2
           first | go_meet | (simp only [c11b0] at *; go_meet) | (simp only [c10b0] at *; go_meet) | (simp only [c10b0] at *; go_meet)
           case rel => exact ⟨_, ((a0.toList == ([100, 101, 115, 99, 114, 105, 112, 116, 105, 111, 110] : List UInt8))), ap2, H', ⟨by first | omega | exact Nat.le_refl _⟩, by repeat (first | exact Drawn0.refl _ | apply Drawn0.step)⟩
          ·
           rw [if_neg c11] at H
           have c11b0 : (a0.toList == ([100, 101, 115, 99, 114, 105, 112, 116, 105, 111, 110] : List UInt8)) = false := beq_eq_false_iff_ne.mpr c11
           have c11b1 : (a0.toList != ([100, 101, 115, 99, 114, 105, 112, 116, 105, 111, 110] : List UInt8)) = true := bne_iff_ne.mpr c11
           by_cases c12 : a0.toList = ([116, 105, 116, 108, 101] : List UInt8)
           ·
            rw [if_pos c12] at H
            have c12b0 : (a0.toList == ([116, 105, 116, 108, 101] : List UInt8)) = true := beq_iff_eq.mpr c12
            have c12b1 : (a0.toList != ([116, 105, 116, 108, 101] : List UInt8)) = false := bne_eq_false_iff_eq.mpr c12
            clear c12
            have H' := Aside0.mk H
            clear H
            go_wp2
            first | go_meet | (simp only [c12b0] at *; go_meet) | (simp only [c11b0] at *; go_meet) | (simp only [c11b0] at *; go_meet)
            case rel => exact ⟨_, ((a0.toList == ([116, 105, 116, 108, 101] : List UInt8))), ap2, H', ⟨by first | omega | exact Nat.le_refl _⟩, by repeat (first | exact Drawn0.refl _ | apply Drawn0.step)⟩
           ·
            rw [if_neg c12] at H
            have c12b0 : (a0.toList == ([116, 105, 116, 108, 101] : List UInt8)) = false := beq_eq_false_iff_ne.mpr c12
            have c12b1 : (a0.toList != ([116, 105, 116, 108, 101] : List UInt8)) = true := bne_iff_ne.mpr c12
            have H' := Aside0.mk H
            clear H
            go_wp2
            first | go_meet | (simp only [c12b0] at *; go_meet) | (simp only [c12b0] at *; go_meet) | (simp only [c11b0] at *; go_meet)
            case rel => exact ⟨_, ((a0.toList == ([108] : List UInt8))), ap2, H', ⟨by first | omega | exact Nat.le_refl _⟩, by repeat (first | exact Drawn0.refl _ | apply Drawn0.step)⟩
 case rest =>
  clear HC2
  try clear c1
  try clear p2
  try clear c3
  try clear c3b0
  try clear c3b1
  try clear c4
  try clear c4b0
  try clear c4b1
  try clear c5
  try clear c5b0
  try clear c5b1
  try clear c6
  try clear c6b0
  try clear c6b1
  try clear c7
  try clear c7b0
  try clear c7b1
  try clear c8
  try clear c8b0
  try clear c8b1
  try clear c9
  try clear c9b0
  try clear c9b1
  try clear c10
  try clear c10b0
  try clear c10b1
  try clear c11
  try clear c11b0
  try clear c11b1
  try clear c12
  try clear c12b0
  try clear c12b1
  obtain ⟨kq, x4_1, rfl, HA, HJ1, ⟨mc1, rfl⟩⟩ := hcut
  cases kq with
  | zero => exact absurd HA.out (by simp [R16Syntax.j0])
  | succ kj1 =>
   have H := HA.out
   clear HA
   simp only [R16Syntax.j0] at H
   by_cases c13 : x4_1 = true
   ·
    subst c13
    rw [if_pos rfl] at H
    obtain rfl := Option.some.inj H
    go_wp2
    go_ret
    exact ⟨ap2, ap7⟩
   ·
    replace c13 := Bool.eq_false_iff.mpr c13
    subst c13
    rw [if_neg (show ¬ (false = true) by decide)] at H
    by_cases c14 : a0.toList = ([115, 101, 114, 105, 97, 108, 110, 117, 109, 98, 101, 114] : List UInt8)
    ·
     rw [if_pos c14] at H
     have c14b0 : (a0.toList == ([115, 101, 114, 105, 97, 108, 110, 117, 109, 98, 101, 114] : List UInt8)) = true := beq_iff_eq.mpr c14
     have c14b1 : (a0.toList != ([115, 101, 114, 105, 97, 108, 110, 117, 109, 98, 101, 114] : List UInt8)) = false := bne_eq_false_iff_eq.mpr c14
     clear c14
     obtain rfl := Option.some.inj H
     go_wp2
     go_ret
     exact ⟨ap2, ap7⟩
    ·
     rw [if_neg c14] at H
     have c14b0 : (a0.toList == ([115, 101, 114, 105, 97, 108, 110, 117, 109, 98, 101, 114] : List UInt8)) = false := beq_eq_false_iff_ne.mpr c14
     have c14b1 : (a0.toList != ([115, 101, 114, 105, 97, 108, 110, 117, 109, 98, 101, 114] : List UInt8)) = true := bne_iff_ne.mpr c14
     have HC15 := Aside0.mk H
     clear H
     go_upto_if 18 with (fail)
     go_cut [18] (fun v18 wc => ∃ (kq : Nat) (x18_14 : Bool), v18 = .bool x18_14 ∧ Aside0 (R16Syntax.j1 kq a0 x18_14 = some r) ∧ Aside0 (kq ≤ kj1) ∧ Drawn0 w wc)
     case first =>
      have H := HC15.out
      clear HC15
      by_cases c16 : a0.toList = ([117, 115, 101, 114, 112, 97, 115, 115, 119, 111, 114, 100] : List UInt8)
      ·
       rw [if_pos c16] at H
       have c16b0 : (a0.toList == ([117, 115, 101, 114, 112, 97, 115, 115, 119, 111, 114, 100] : List UInt8)) = true := beq_iff_eq.mpr c16
       have c16b1 : (a0.toList != ([117, 115, 101, 114, 112, 97, 115, 115, 119, 111, 114, 100] : List UInt8)) = false := bne_eq_false_iff_eq.mpr c16
       clear c16
       (first | rw [c16b0] | (simp only [i64_w, i32_w]; rw [c16b0]) | skip)
       have H' := Aside0.mk H
       clear H
       go_wp2
       first | go_meet | (simp only [c16b0] at *; go_meet) | (simp only [c14b0] at *; go_meet) | (simp only [c14b0] at *; go_meet)
       case rel => exact ⟨_, ((a0.toList == ([117, 115, 101, 114, 112, 97, 115, 115, 119, 111, 114, 100] : List UInt8))), ap2, H', ⟨by have := HJ1.out; first | omega | exact Nat.le_refl _⟩, by repeat (first | exact Drawn0.refl _ | apply Drawn0.step)⟩
      ·
       rw [if_neg c16] at H
       have c16b0 : (a0.toList == ([117, 115, 101, 114, 112, 97, 115, 115, 119, 111, 114, 100] : List UInt8)) = false := beq_eq_false_iff_ne.mpr c16
       have c16b1 : (a0.toList != ([117, 115, 101, 114, 112, 97, 115, 115, 119, 111, 114, 100] : List UInt8)) = true := bne_iff_ne.mpr c16
       (first | rw [c16b0] | (simp only [i64_w, i32_w]; rw [c16b0]) | skip)
       have H' := Aside0.mk H
       clear H
       go_wp2
       first | go_meet | (simp only [c16b0] at *; go_meet) | (simp only [c16b0] at *; go_meet) | (simp only [c14b0] at *; go_meet)
       case rel => exact ⟨_, ((a0.toList == ([112, 104, 111, 116, 111] : List UInt8))), ap2, H', ⟨by have := HJ1.out; first | omega | exact Nat.le_refl _⟩, by repeat (first | exact Drawn0.refl _ | apply Drawn0.step)⟩
     case rest =>
      clear HC15
      try clear c1
      try clear p2
      try clear c3
      try clear c3b0
      try clear c3b1
      try clear c4
      try clear c4b0
      try clear c4b1
      try clear c5
      try clear c5b0
      try clear c5b1
      try clear c6
      try clear c6b0
      try clear c6b1
      try clear c7
      try clear c7b0
      try clear c7b1
      try clear c8
      try clear c8b0
      try clear c8b1
      try clear c9
      try clear c9b0
      try clear c9b1
      try clear c10
      try clear c10b0
      try clear c10b1
      try clear c11
      try clear c11b0
      try clear c11b1
      try clear c12
      try clear c12b0
      try clear c12b1
      try clear c13
      try clear c14
      try clear c14b0
      try clear c14b1
      try clear c16
      try clear c16b0
      try clear c16b1
      try clear p2
      obtain ⟨kq, x18_14, rfl, HA, HJ14, ⟨mc14, rfl⟩⟩ := hcut
      cases kq with
      | zero => exact absurd HA.out (by simp [R16Syntax.j1])
      | succ kj14 =>
       have H := HA.out
       clear HA
       simp only [R16Syntax.j1] at H
       by_cases c17 : x18_14 = true
       ·
        subst c17
        rw [if_pos rfl] at H
        obtain rfl := Option.some.inj H
        go_wp2
        go_ret
        exact ⟨ap2, ap7⟩
       ·
        replace c17 := Bool.eq_false_iff.mpr c17
        subst c17
        rw [if_neg (show ¬ (false = true) by decide)] at H
        have HC18 := Aside0.mk H
        clear H
        go_upto_if 21 with (fail)
        go_cut [21] (fun v21 wc => ∃ (kq : Nat) (x21_17 : Bool), v21 = .bool x21_17 ∧ Aside0 (R16Syntax.j2 kq a0 x21_17 = some r) ∧ Aside0 (kq ≤ kj14) ∧ Drawn0 w wc)
        case first =>
         have H := HC18.out
         clear HC18
         by_cases c19 : a0.toList = ([117, 105, 100, 110, 117, 109, 98, 101, 114] : List UInt8)
         ·
          rw [if_pos c19] at H
          have c19b0 : (a0.toList == ([117, 105, 100, 110, 117, 109, 98, 101, 114] : List UInt8)) = true := beq_iff_eq.mpr c19
          have c19b1 : (a0.toList != ([117, 105, 100, 110, 117, 109, 98, 101, 114] : List UInt8)) = false := bne_eq_false_iff_eq.mpr c19
          clear c19
          (first | rw [c19b0] | (simp only [i64_w, i32_w]; rw [c19b0]) | skip)
          have H' := Aside0.mk H
          clear H
          go_wp2
          first | go_meet | (simp only [c19b0] at *; go_meet) | (simp only [c16b0] at *; go_meet) | (simp only [c16b0] at *; go_meet)
          case rel => exact ⟨_, ((a0.toList == ([117, 105, 100, 110, 117, 109, 98, 101, 114] : List UInt8))), ap2, H', ⟨by have := HJ1.out; have := HJ14.out; first | omega | exact Nat.le_refl _⟩, by repeat (first | exact Drawn0.refl _ | apply Drawn0.step)⟩
         ·
          rw [if_neg c19] at H
          have c19b0 : (a0.toList == ([117, 105, 100, 110, 117, 109, 98, 101, 114] : List UInt8)) = false := beq_eq_false_iff_ne.mpr c19
          have c19b1 : (a0.toList != ([117, 105, 100, 110, 117, 109, 98, 101, 114] : List UInt8)) = true := bne_iff_ne.mpr c19
          (first | rw [c19b0] | (simp only [i64_w, i32_w]; rw [c19b0]) | skip)
          have H' := Aside0.mk H
          clear H
          go_wp2
          first | go_meet | (simp only [c19b0] at *; go_meet) | (simp only [c19b0] at *; go_meet) | (simp only [c16b0] at *; go_meet)
          case rel => exact ⟨_, ((a0.toList == ([108, 105, 109, 105, 116] : List UInt8))), ap2, H', ⟨by have := HJ1.out; have := HJ14.out; first | omega | exact Nat.le_refl _⟩, by repeat (first | exact Drawn0.refl _ | apply Drawn0.step)⟩
        case rest =>
         clear HC18
         try clear c1
         try clear p2
         try clear c3
         try clear c3b0
         try clear c3b1
         try clear c4
         try clear c4b0
         try clear c4b1
         try clear c5
         try clear c5b0
         try clear c5b1
         try clear c6
         try clear c6b0
         try clear c6b1
         try clear c7
         try clear c7b0
         try clear c7b1
         try clear c8
         try clear c8b0
         try clear c8b1
         try clear c9
         try clear c9b0
         try clear c9b1
         try clear c10
         try clear c10b0
         try clear c10b1
         try clear c11
         try clear c11b0
         try clear c11b1
         try clear c12
         try clear c12b0
         try clear c12b1
         try clear c13
         try clear c14
         try clear c14b0
         try clear c14b1
         try clear c16
         try clear c16b0
         try clear c16b1
         try clear c17
         try clear c19
         try clear c19b0
         try clear c19b1
         try clear p2
         obtain ⟨kq, x21_17, rfl, HA, HJ17, ⟨mc17, rfl⟩⟩ := hcut
         cases kq with
         | zero => exact absurd HA.out (by simp [R16Syntax.j2])
         | succ kj17 =>
          have H := HA.out
          clear HA
          simp only [R16Syntax.j2] at H
          by_cases c20 : x21_17 = true
          ·
           subst c20
           rw [if_pos rfl] at H
           obtain rfl := Option.some.inj H
           go_wp2
           go_ret
           exact ⟨ap2, ap7⟩
          ·
           replace c20 := Bool.eq_false_iff.mpr c20
           subst c20
           rw [if_neg (show ¬ (false = true) by decide)] at H
           by_cases c21 : a0.toList = ([101, 110, 97, 98, 108, 101, 100] : List UInt8)
           ·
            rw [if_pos c21] at H
            have c21b0 : (a0.toList == ([101, 110, 97, 98, 108, 101, 100] : List UInt8)) = true := beq_iff_eq.mpr c21
            have c21b1 : (a0.toList != ([101, 110, 97, 98, 108, 101, 100] : List UInt8)) = false := bne_eq_false_iff_eq.mpr c21
            clear c21
            obtain rfl := Option.some.inj H
            go_wp2
            go_ret
            exact ⟨ap2, ap7⟩
           ·
            rw [if_neg c21] at H
            have c21b0 : (a0.toList == ([101, 110, 97, 98, 108, 101, 100] : List UInt8)) = false := beq_eq_false_iff_ne.mpr c21
            have c21b1 : (a0.toList != ([101, 110, 97, 98, 108, 101, 100] : List UInt8)) = true := bne_iff_ne.mpr c21
            have HC22 := Aside0.mk H
            clear H
            go_upto_if 26 with (fail)
            go_cut [26] (fun v26 wc => ∃ (kq : Nat) (x26_21 : Bool), v26 = .bool x26_21 ∧ Aside0 (R16Syntax.j3 kq a0 x26_21 = some r) ∧ Aside0 (kq ≤ kj17) ∧ Drawn0 w wc)
            case first =>
             have H := HC22.out
             clear HC22
             by_cases c23 : a0.toList = ([109, 101, 109, 98, 101, 114] : List UInt8)
             ·
              rw [if_pos c23] at H
              have c23b0 : (a0.toList == ([109, 101, 109, 98, 101, 114] : List UInt8)) = true := beq_iff_eq.mpr c23
              have c23b1 : (a0.toList != ([109, 101, 109, 98, 101, 114] : List UInt8)) = false := bne_eq_false_iff_eq.mpr c23
              clear c23
              (first | rw [c23b0] | (simp only [i64_w, i32_w]; rw [c23b0]) | skip)
              have H' := Aside0.mk H
              clear H
              go_wp2
              first | go_meet | (simp only [c23b0] at *; go_meet) | (simp only [c21b0] at *; go_meet) | (simp only [c21b0] at *; go_meet)
              case rel => exact ⟨_, ((a0.toList == ([109, 101, 109, 98, 101, 114] : List UInt8))), ap2, H', ⟨by have := HJ1.out; have := HJ14.out; have := HJ17.out; first | omega | exact Nat.le_refl _⟩, by repeat (first | exact Drawn0.refl _ | apply Drawn0.step)⟩
             ·
              rw [if_neg c23] at H
              have c23b0 : (a0.toList == ([109, 101, 109, 98, 101, 114] : List UInt8)) = false := beq_eq_false_iff_ne.mpr c23
              have c23b1 : (a0.toList != ([109, 101, 109, 98, 101, 114] : List UInt8)) = true := bne_iff_ne.mpr c23
              (first | rw [c23b0] | (simp only [i64_w, i32_w]; rw [c23b0]) | skip)
              have H' := Aside0.mk H
              clear H
              go_wp2
              first | go_meet | (simp only [c23b0] at *; go_meet) | (simp only [c23b0] at *; go_meet) | (simp only [c21b0] at *; go_meet)
              case rel => exact ⟨_, ((a0.toList == ([115, 101, 101, 97, 108, 115, 111] : List UInt8))), ap2, H', ⟨by have := HJ1.out; have := HJ14.out; have := HJ17.out; first | omega | exact Nat.le_refl _⟩, by repeat (first | exact Drawn0.refl _ | apply Drawn0.step)⟩
            case rest =>
             clear HC22
             try clear c1
             try clear c2
             try clear p2
             try clear c3
             try clear c3b0
             try clear c3b1
             try clear c4
             try clear c4b0
             try clear c4b1
             try clear c5
             try clear c5b0
             try clear c5b1
             try clear c6
             try clear c6b0
             try clear c6b1
             try clear c7
             try clear c7b0
             try clear c7b1
             try clear c8
             try clear c8b0
             try clear c8b1
             try clear c9
             try clear c9b0
             try clear c9b1
             try clear c10
             try clear c10b0
             try clear c10b1
             try clear c11
             try clear c11b0
             try clear c11b1
             try clear c12
             try clear c12b0
             try clear c12b1
             try clear c13
             try clear c14
             try clear c14b0
             try clear c14b1
             try clear c16
             try clear c16b0
             try clear c16b1
             try clear c17
             try clear c19
             try clear c19b0
             try clear c19b1
             try clear c20
             try clear c21
             try clear c21b0
             try clear c21b1
             try clear c23
             try clear c23b0
             try clear c23b1
             try clear p2
             obtain ⟨kq, x26_21, rfl, HA, HJ21, ⟨mc21, rfl⟩⟩ := hcut
             cases kq with
             | zero => exact absurd HA.out (by simp [R16Syntax.j3])
             | succ kj21 =>
              have H := HA.out
              clear HA
              simp only [R16Syntax.j3] at H
              by_cases c24 : x26_21 = true
              ·
               subst c24
               rw [if_pos rfl] at H
               obtain rfl := Option.some.inj H
               go_wp2
               go_ret
               exact ⟨ap2, ap7⟩
              ·
               replace c24 := Bool.eq_false_iff.mpr c24
               subst c24
               rw [if_neg (show ¬ (false = true) by decide)] at H
               by_cases c25 : a0.toList = ([116, 101, 108, 101, 112, 104, 111, 110, 101, 110, 117, 109, 98, 101, 114] : List UInt8)
               ·
                rw [if_pos c25] at H
                have c25b0 : (a0.toList == ([116, 101, 108, 101, 112, 104, 111, 110, 101, 110, 117, 109, 98, 101, 114] : List UInt8)) = true := beq_iff_eq.mpr c25
                have c25b1 : (a0.toList != ([116, 101, 108, 101, 112, 104, 111, 110, 101, 110, 117, 109, 98, 101, 114] : List UInt8)) = false := bne_eq_false_iff_eq.mpr c25
                clear c25
                obtain rfl := Option.some.inj H
                go_wp2
                go_ret
                exact ⟨ap2, ap7⟩
               ·
                rw [if_neg c25] at H
                have c25b0 : (a0.toList == ([116, 101, 108, 101, 112, 104, 111, 110, 101, 110, 117, 109, 98, 101, 114] : List UInt8)) = false := beq_eq_false_iff_ne.mpr c25
                have c25b1 : (a0.toList != ([116, 101, 108, 101, 112, 104, 111, 110, 101, 110, 117, 109, 98, 101, 114] : List UInt8)) = true := bne_iff_ne.mpr c25
                obtain rfl := Option.some.inj H
                go_wp2
                go_ret
                exact ⟨ap2, ap7⟩
def R16Find.f (k : Nat) (a0 : ByteArray) : Option (ByteArray × Int × Bool × Bool) := (R16Small.f k a0).bind fun t918 => ((R16Syntax.f k t918).bind fun t919 => (if t919 = 0 then (some ((⟨#[]⟩ : ByteArray), 0, false, false)) else (if t918.toList = ([117, 105, 100, 110, 117, 109, 98, 101, 114] : List UInt8) then (some (t918, t919, true, true)) else (some (t918, t919, (t918.toList == ([101, 110, 97, 98, 108, 101, 100] : List UInt8)), true)))))
theorem R16Find.mono : ∀ a0 k, LeO (R16Find.f k a0) (R16Find.f (k + 1) a0) := by
 intro a0 k
 unfold R16Find.f
 repeat' first
   | (with_reducible exact R16Small.mono _ _)
   | (with_reducible exact R16Syntax.mono _ _)
   | (with_reducible exact LeO.refl _)
   | (with_reducible exact LeO.none _)
   | (with_reducible refine LeO.ite ?_ ?_)
   | (with_reducible refine LeO.bind ?_ (fun _ => ?_))
set_option maxHeartbeats 8000000 in
set_option maxRecDepth 100000 in
theorem R16Find.calls (k : Nat) (a0 : ByteArray) (r1 : ByteArray) (r2 : Int) (r3 : Bool) (r4 : Bool) (w : World) (h : R16Find.f k a0 = some (r1, r2, r3, r4)) :
  Calls Tryz.prog 22 #[.string a0] w fun e w' => e = .returned (.tuple #[.agg #[.string r1, .int .i64 r2, .bool r3], .bool r4]) ∧ Below w.heap.size w w' := by
 have hu23 := Tryz.underlying23
 have HB := Aside0.mk (Below.refl w.heap.size w)
 have H : ((R16Small.f k a0).bind fun t918 => ((R16Syntax.f k t918).bind fun t919 => (if t919 = 0 then (some ((⟨#[]⟩ : ByteArray), 0, false, false)) else (if t918.toList = ([117, 105, 100, 110, 117, 109, 98, 101, 114] : List UInt8) then (some (t918, t919, true, true)) else (some (t918, t919, (t918.toList == ([101, 110, 97, 98, 108, 101, 100] : List UInt8)), true)))))) = some (r1, r2, r3, r4) := h
 clear h
 replace H := Option.bind_eq_some_iff.mp H
 obtain ⟨t918, A20, H⟩ := H
 replace H : ((R16Syntax.f k t918).bind fun t919 => (if t919 = 0 then (some ((⟨#[]⟩ : ByteArray), 0, false, false)) else (if t918.toList = ([117, 105, 100, 110, 117, 109, 98, 101, 114] : List UInt8) then (some (t918, t919, true, true)) else (some (t918, t919, (t918.toList == ([101, 110, 97, 98, 108, 101, 100] : List UInt8)), true))))) = some (r1, r2, r3, r4) := H
 have A2 := Aside0.mk A20
 clear A20
 replace H := Option.bind_eq_some_iff.mp H
 obtain ⟨t919, A30, H⟩ := H
 replace H : (if t919 = 0 then (some ((⟨#[]⟩ : ByteArray), 0, false, false)) else (if t918.toList = ([117, 105, 100, 110, 117, 109, 98, 101, 114] : List UInt8) then (some (t918, t919, true, true)) else (some (t918, t919, (t918.toList == ([101, 110, 97, 98, 108, 101, 100] : List UInt8)), true)))) = some (r1, r2, r3, r4) := H
 have A3 := Aside0.mk A30
 clear A30
 by_cases c4 : t919 = 0
 ·
  rw [if_pos c4] at H
  have c4b0 : (t919 == 0) = true := beq_iff_eq.mpr c4
  have c4b1 : (t919 != 0) = false := bne_eq_false_iff_eq.mpr c4
  clear c4
  simp only [Option.some.injEq, Prod.mk.injEq] at H
  obtain ⟨rfl, rfl, rfl, rfl⟩ := H
  go_enter Tryz.func22, Tryz.ntmps22
  go_wp2_with (first | ((with_reducible refine gate_dst (N := 2) rfl ?_); refine box_event ?hg (N := 2) ?hd (cs := #[.string (⟨#[]⟩ : ByteArray), .int .i64 0, .bool false]) (t := 23) ?hr ?_; (case hd => rfl); (case hg => rfl); (case hr => first | (go_simp; done) | (go_simp; rfl)); intro gb917 hg w5 hbox hb; have n0_ := Aside0.mk (below_step ap1 hb); have n1_ := Aside0.mk (hbox); have n2_ := Aside0.mk ((by rw [hg]; exact (below_size ap1) : w.heap.size ≤ gb917)); have n3_ := Aside0.mk ((by rw [hg]; exact (below_size ap1) : w.heap.size ≤ gb917)); clear HB; have HB := n0_; have BK917 := n1_; have GW917 := n2_; have GE917 := n3_; clear n0_ n1_ n2_ n3_; clear hb hbox hg) | ((with_reducible refine gate_callee (f := 48) rfl ?_); refine goesL_ (some 7) rfl rfl Tryz.func48 (by kernel_rfl) rfl #[.string a0] rfl ap3 ?_; (with_reducible refine (R16Small.calls k a0 t918 _ A2.out).mono ?_); rintro e w6 ⟨rfl, hb⟩; refine ⟨_, rfl, ?_⟩; have n0_ := Aside0.mk (blk_below (g := gb917) (o := .cells #[.string (⟨#[]⟩ : ByteArray), .int .i64 0, .bool false] 23 (0, 0)) (apB BK917.out) hb); have n1_ := Aside0.mk (below_step (apG GE917.out) hb); clear BK917; clear HB; have BK917 := n0_; have HB := n1_; clear n0_ n1_; (try clear hb); (try clear hb2); (try clear hk); (try clear hi)) | ((with_reducible refine gate_callee (f := 49) rfl ?_); refine goesL_ (some 9) rfl rfl Tryz.func49 (by kernel_rfl) rfl #[.string t918] rfl ap3 ?_; (with_reducible refine (R16Syntax.calls k t918 t919 _ A3.out).mono ?_); rintro e w' ⟨rfl, ⟨nd, rfl⟩⟩; refine ⟨_, rfl, ?_⟩; (try (rw [drewN_self w6]; generalize hq_ : World.drewN w6 _ = w6; have n0_ : Aside0 (w6.heap[gb917]? = some (.cells #[.string (⟨#[]⟩ : ByteArray), .int .i64 0, .bool false] 23 (0, 0))) := ⟨by rw [← hq_]; exact (apB BK917.out)⟩; have n1_ : Aside0 (Below w.heap.size w w6) := ⟨by rw [← hq_]; exact (apG GE917.out)⟩; clear BK917 HB hq_; have BK917 := n0_; have HB := n1_; clear n0_ n1_)); have hcz7_0 : w6.cell? ⟨gb917, 0, none⟩ = some (.string (⟨#[]⟩ : ByteArray)) := (blk_cell BK917.out 0).trans rfl; have hcz7_1 : w6.cell? ⟨gb917, 1, none⟩ = some (.int .i64 0) := (blk_cell BK917.out 1).trans rfl; have hcz7_2 : w6.cell? ⟨gb917, 2, none⟩ = some (.bool false) := (blk_cell BK917.out 2).trans rfl; have hfz7_0 := blk_frozen BK917.out 0; have hfz7_1 := blk_frozen BK917.out 1; have hfz7_2 := blk_frozen BK917.out 2))
  refine bodyPost_ret (results_ct rfl _ _ gb917 23 #[.string (⟨#[]⟩ : ByteArray), .int .i64 0, .bool false] (0, 0) _ rfl (by (with_reducible repeat (first | refine blk_drewN ?_ _ | refine blk_drew ?_ | refine blk_alloc ?_ _)); refine blk_put (cs := #[.string (⟨#[]⟩ : ByteArray), .int .i64 0, .bool false]) ?_ 2 _ rfl; (with_reducible repeat (first | refine blk_drewN ?_ _ | refine blk_drew ?_ | refine blk_alloc ?_ _)); refine blk_put (cs := #[.string (⟨#[]⟩ : ByteArray), .int .i64 0, .bool false]) ?_ 1 _ rfl; (with_reducible repeat (first | refine blk_drewN ?_ _ | refine blk_drew ?_ | refine blk_alloc ?_ _)); refine blk_put (cs := #[.string (⟨#[]⟩ : ByteArray), .int .i64 0, .bool false]) ?_ 0 _ rfl; (with_reducible repeat (first | refine blk_drewN ?_ _ | refine blk_drew ?_ | refine blk_alloc ?_ _)); exact BK917.out) Tryz.underlying23 rfl (by kernel_rfl)) rfl ?_
  exact ⟨by first | rfl | (simp [errW_none, errW_some, bne_nil8, beq_nil8]; done) | (simp [errW_none, errW_some] <;> rfl) | (simp [*, errW_none, errW_some] <;> rfl), by repeat (first | (with_reducible first | exact HB.out | apply below_alloc | apply pw_below_drewN | apply below_drew1 | refine below_set ?_ GE917.out) | exact HB.out)⟩
 ·
  rw [if_neg c4] at H
  have c4b0 : (t919 == 0) = false := beq_eq_false_iff_ne.mpr c4
  have c4b1 : (t919 != 0) = true := bne_iff_ne.mpr c4
  by_cases c8 : t918.toList = ([117, 105, 100, 110, 117, 109, 98, 101, 114] : List UInt8)
  ·
   rw [if_pos c8] at H
   have c8b0 : (t918.toList == ([117, 105, 100, 110, 117, 109, 98, 101, 114] : List UInt8)) = true := beq_iff_eq.mpr c8
   have c8b1 : (t918.toList != ([117, 105, 100, 110, 117, 109, 98, 101, 114] : List UInt8)) = false := bne_eq_false_iff_eq.mpr c8
   clear c8
   simp only [Option.some.injEq, Prod.mk.injEq] at H
   obtain ⟨rfl, rfl, rfl, rfl⟩ := H
   go_enter Tryz.func22, Tryz.ntmps22
   go_wp2_with (first | ((with_reducible refine gate_dst (N := 2) rfl ?_); refine box_event ?hg (N := 2) ?hd (cs := #[.string (⟨#[]⟩ : ByteArray), .int .i64 0, .bool false]) (t := 23) ?hr ?_; (case hd => rfl); (case hg => rfl); (case hr => first | (go_simp; done) | (go_simp; rfl)); intro gb917 hg w9 hbox hb; have n0_ := Aside0.mk (below_step ap1 hb); have n1_ := Aside0.mk (hbox); have n2_ := Aside0.mk ((by rw [hg]; exact (below_size ap1) : w.heap.size ≤ gb917)); have n3_ := Aside0.mk ((by rw [hg]; exact (below_size ap1) : w.heap.size ≤ gb917)); clear HB; have HB := n0_; have BK917 := n1_; have GW917 := n2_; have GE917 := n3_; clear n0_ n1_ n2_ n3_; clear hb hbox hg) | ((with_reducible refine gate_callee (f := 48) rfl ?_); refine goesL_ (some 7) rfl rfl Tryz.func48 (by kernel_rfl) rfl #[.string a0] rfl ap3 ?_; (with_reducible refine (R16Small.calls k a0 t918 _ A2.out).mono ?_); rintro e w10 ⟨rfl, hb⟩; refine ⟨_, rfl, ?_⟩; have n0_ := Aside0.mk (blk_below (g := gb917) (o := .cells #[.string (⟨#[]⟩ : ByteArray), .int .i64 0, .bool false] 23 (0, 0)) (apB BK917.out) hb); have n1_ := Aside0.mk (below_step (apG GE917.out) hb); clear BK917; clear HB; have BK917 := n0_; have HB := n1_; clear n0_ n1_; (try clear hb); (try clear hb2); (try clear hk); (try clear hi)) | ((with_reducible refine gate_callee (f := 49) rfl ?_); refine goesL_ (some 9) rfl rfl Tryz.func49 (by kernel_rfl) rfl #[.string t918] rfl ap3 ?_; (with_reducible refine (R16Syntax.calls k t918 t919 _ A3.out).mono ?_); rintro e w' ⟨rfl, ⟨nd, rfl⟩⟩; refine ⟨_, rfl, ?_⟩; (try (rw [drewN_self w10]; generalize hq_ : World.drewN w10 _ = w10; have n0_ : Aside0 (w10.heap[gb917]? = some (.cells #[.string (⟨#[]⟩ : ByteArray), .int .i64 0, .bool false] 23 (0, 0))) := ⟨by rw [← hq_]; exact (apB BK917.out)⟩; have n1_ : Aside0 (Below w.heap.size w w10) := ⟨by rw [← hq_]; exact (apG GE917.out)⟩; clear BK917 HB hq_; have BK917 := n0_; have HB := n1_; clear n0_ n1_)); have hcz11_0 : w10.cell? ⟨gb917, 0, none⟩ = some (.string (⟨#[]⟩ : ByteArray)) := (blk_cell BK917.out 0).trans rfl; have hcz11_1 : w10.cell? ⟨gb917, 1, none⟩ = some (.int .i64 0) := (blk_cell BK917.out 1).trans rfl; have hcz11_2 : w10.cell? ⟨gb917, 2, none⟩ = some (.bool false) := (blk_cell BK917.out 2).trans rfl; have hfz11_0 := blk_frozen BK917.out 0; have hfz11_1 := blk_frozen BK917.out 1; have hfz11_2 := blk_frozen BK917.out 2))
   refine bodyPost_ret (results_ct rfl _ _ gb917 23 #[.string t918, .int .i64 t919, .bool true] (0, 0) _ rfl (by (with_reducible repeat (first | refine blk_drewN ?_ _ | refine blk_drew ?_ | refine blk_alloc ?_ _)); refine blk_put (cs := #[.string t918, .int .i64 t919, .bool false]) ?_ 2 _ rfl; (with_reducible repeat (first | refine blk_drewN ?_ _ | refine blk_drew ?_ | refine blk_alloc ?_ _)); refine blk_put (cs := #[.string t918, .int .i64 0, .bool false]) ?_ 1 _ rfl; (with_reducible repeat (first | refine blk_drewN ?_ _ | refine blk_drew ?_ | refine blk_alloc ?_ _)); refine blk_put (cs := #[.string (⟨#[]⟩ : ByteArray), .int .i64 0, .bool false]) ?_ 0 _ rfl; (with_reducible repeat (first | refine blk_drewN ?_ _ | refine blk_drew ?_ | refine blk_alloc ?_ _)); exact BK917.out) Tryz.underlying23 rfl (by kernel_rfl)) rfl ?_
   exact ⟨by first | rfl | (simp [errW_none, errW_some, bne_nil8, beq_nil8]; done) | (simp [errW_none, errW_some] <;> rfl) | (simp [*, errW_none, errW_some] <;> rfl), by repeat (first | (with_reducible first | exact HB.out | apply below_alloc | apply pw_below_drewN | apply below_drew1 | refine below_set ?_ GE917.out) | exact HB.out)⟩
  ·
   rw [if_neg c8] at H
   have c8b0 : (t918.toList == ([117, 105, 100, 110, 117, 109, 98, 101, 114] : List UInt8)) = false := beq_eq_false_iff_ne.mpr c8
   have c8b1 : (t918.toList != ([117, 105, 100, 110, 117, 109, 98, 101, 114] : List UInt8)) = true := bne_iff_ne.mpr c8
   simp only [Option.some.injEq, Prod.mk.injEq] at H
   obtain ⟨rfl, rfl, rfl, rfl⟩ := H
   go_enter Tryz.func22, Tryz.ntmps22
   go_wp2_with (first | ((with_reducible refine gate_dst (N := 2) rfl ?_); refine box_event ?hg (N := 2) ?hd (cs := #[.string (⟨#[]⟩ : ByteArray), .int .i64 0, .bool false]) (t := 23) ?hr ?_; (case hd => rfl); (case hg => rfl); (case hr => first | (go_simp; done) | (go_simp; rfl)); intro gb917 hg w12 hbox hb; have n0_ := Aside0.mk (below_step ap1 hb); have n1_ := Aside0.mk (hbox); have n2_ := Aside0.mk ((by rw [hg]; exact (below_size ap1) : w.heap.size ≤ gb917)); have n3_ := Aside0.mk ((by rw [hg]; exact (below_size ap1) : w.heap.size ≤ gb917)); clear HB; have HB := n0_; have BK917 := n1_; have GW917 := n2_; have GE917 := n3_; clear n0_ n1_ n2_ n3_; clear hb hbox hg) | ((with_reducible refine gate_callee (f := 48) rfl ?_); refine goesL_ (some 7) rfl rfl Tryz.func48 (by kernel_rfl) rfl #[.string a0] rfl ap3 ?_; (with_reducible refine (R16Small.calls k a0 t918 _ A2.out).mono ?_); rintro e w13 ⟨rfl, hb⟩; refine ⟨_, rfl, ?_⟩; have n0_ := Aside0.mk (blk_below (g := gb917) (o := .cells #[.string (⟨#[]⟩ : ByteArray), .int .i64 0, .bool false] 23 (0, 0)) (apB BK917.out) hb); have n1_ := Aside0.mk (below_step (apG GE917.out) hb); clear BK917; clear HB; have BK917 := n0_; have HB := n1_; clear n0_ n1_; (try clear hb); (try clear hb2); (try clear hk); (try clear hi)) | ((with_reducible refine gate_callee (f := 49) rfl ?_); refine goesL_ (some 9) rfl rfl Tryz.func49 (by kernel_rfl) rfl #[.string t918] rfl ap3 ?_; (with_reducible refine (R16Syntax.calls k t918 t919 _ A3.out).mono ?_); rintro e w' ⟨rfl, ⟨nd, rfl⟩⟩; refine ⟨_, rfl, ?_⟩; (try (rw [drewN_self w13]; generalize hq_ : World.drewN w13 _ = w13; have n0_ : Aside0 (w13.heap[gb917]? = some (.cells #[.string (⟨#[]⟩ : ByteArray), .int .i64 0, .bool false] 23 (0, 0))) := ⟨by rw [← hq_]; exact (apB BK917.out)⟩; have n1_ : Aside0 (Below w.heap.size w w13) := ⟨by rw [← hq_]; exact (apG GE917.out)⟩; clear BK917 HB hq_; have BK917 := n0_; have HB := n1_; clear n0_ n1_)); have hcz14_0 : w13.cell? ⟨gb917, 0, none⟩ = some (.string (⟨#[]⟩ : ByteArray)) := (blk_cell BK917.out 0).trans rfl; have hcz14_1 : w13.cell? ⟨gb917, 1, none⟩ = some (.int .i64 0) := (blk_cell BK917.out 1).trans rfl; have hcz14_2 : w13.cell? ⟨gb917, 2, none⟩ = some (.bool false) := (blk_cell BK917.out 2).trans rfl; have hfz14_0 := blk_frozen BK917.out 0; have hfz14_1 := blk_frozen BK917.out 1; have hfz14_2 := blk_frozen BK917.out 2))
   refine bodyPost_ret (results_ct rfl _ _ gb917 23 #[.string t918, .int .i64 t919, .bool (t918.toList == ([101, 110, 97, 98, 108, 101, 100] : List UInt8))] (0, 0) _ rfl (by (with_reducible repeat (first | refine blk_drewN ?_ _ | refine blk_drew ?_ | refine blk_alloc ?_ _)); refine blk_put (cs := #[.string t918, .int .i64 t919, .bool false]) ?_ 2 _ rfl; (with_reducible repeat (first | refine blk_drewN ?_ _ | refine blk_drew ?_ | refine blk_alloc ?_ _)); refine blk_put (cs := #[.string t918, .int .i64 0, .bool false]) ?_ 1 _ rfl; (with_reducible repeat (first | refine blk_drewN ?_ _ | refine blk_drew ?_ | refine blk_alloc ?_ _)); refine blk_put (cs := #[.string (⟨#[]⟩ : ByteArray), .int .i64 0, .bool false]) ?_ 0 _ rfl; (with_reducible repeat (first | refine blk_drewN ?_ _ | refine blk_drew ?_ | refine blk_alloc ?_ _)); exact BK917.out) Tryz.underlying23 rfl (by kernel_rfl)) rfl ?_
   exact ⟨by first | rfl | (simp [errW_none, errW_some, bne_nil8, beq_nil8]; done) | (simp [errW_none, errW_some] <;> rfl) | (simp [*, errW_none, errW_some] <;> rfl), by repeat (first | (with_reducible first | exact HB.out | apply below_alloc | apply pw_below_drewN | apply below_drew1 | refine below_set ?_ GE917.out) | exact HB.out)⟩
end Go.Proofs.YtpklcnpmppaaoaaGreatDoor.Print
namespace Go.Proofs.YtpklcnpmppaaoaaGreatDoor.Print
open Go.RowKit Go.Proofs.YtpklcnpmppaaoaaGreatDoorW.PrintWords Go.Proofs.YtpklcnpmppaaoaaGreatDoorW.PrintLast Go.Proofs.YtpklcnpmppaaoaaGreatDoorW.PrintMore
set_option linter.unusedVariables false
set_option linter.unusedSimpArgs false
def attr_Names.f : Option (List ByteArray) := some (attrTab.map (·.1))
theorem names_at (k : Nat) (hk : k < 20) : (attrTab.take (k + 1)).map (·.1) = (attrTab.take k).map (·.1) ++ [(attrAt k).1] := by
  have e : attrAt k = attrTab[k]'(by rw [attrTab_len]; exact hk) := by
    unfold attrAt
    rw [List.getD_eq_getElem?_getD, List.getElem?_eq_getElem (by rw [attrTab_len]; exact hk)]; rfl
  rw [List.take_succ_eq_append_getElem (by rw [attrTab_len]; exact hk), List.map_append, e]; rfl
set_option maxHeartbeats 4000000 in
set_option maxRecDepth 1000000 in
theorem attr_Names.calls (r : List ByteArray) (w : World) (hG : Gw w) (h : attr_Names.f = some r) :
    Calls Tryz.prog 23 #[] w fun e w' => ∃ v0_ : Value, e = .returned v0_ ∧ Kd.R Kd.string 9 w' w.heap.size (fun _ => True) v0_ r ∧ Below w.heap.size w w' := by
  obtain ⟨cs, hcs⟩ : ∃ cs, cs = attrCells := ⟨_, rfl⟩
  have HC := Aside0.mk hcs
  have HN := Aside0.mk (Option.some.inj h)
  have HG := Aside0.mk hG
  have hu23 := Tryz.underlying23
  obtain ⟨t_, fr_, ht_⟩ := hG.types
  have kl := Aside0.mk (attr_load w cs hcs t_ fr_ ht_)
  clear h hG hcs ht_
  have hI : ∀ (k : Nat) (hk : k < 20) (x : ByteArray × Int × Bool) (hx : attrAt k = x) (W : World), (Instr.index 63 (.agg cs) (.int .i64 (k : Int))).run Tryz.prog W = .ok (.agg #[.string x.1, .int .i64 x.2.1, .bool x.2.2]) W := fun k hk x hx W => attr_index k hk cs HC.out x hx W
  have HI := Aside0.mk hI
  clear hI
  go_enter Tryz.func23, Tryz.ntmps23
  go_wp2_with ((with_reducible refine gate_dst (N := 4) rfl ?_); refine Kd.event_run rfl (attr_load_run rfl kl.out) ?_)
  go_loopw [1, 5] (fun v i wr => ∃ (k : Nat) (xs : List ByteArray), k ≤ 20 ∧ i = .int .i64 k ∧ Aside0 (xs = (attrTab.take k).map (·.1)) ∧ Aside0 (xs.length = k) ∧ Aside0 (Kd.R Kd.string 9 wr w.heap.size (fun _ => True) v xs) ∧ Aside0 (Below w.heap.size w wr)) (fun v i wr => 20 - (intOf i).toNat)
  case atStart => exact ⟨0, [], by omega, rfl, ⟨rfl⟩, ⟨rfl⟩, ⟨Kd.R_nil _ _ _ _ _⟩, ⟨Below.refl _ _⟩⟩
  case round =>
    obtain ⟨k, xs, hk, rfl, HX, HL, HO, HB⟩ := hrel
    by_cases hlt : k < 20
    · have hfi := names_at k hlt
      have hI := HI.out k hlt _ rfl
      generalize attrAt k = x at *
      obtain ⟨ys, hys⟩ : ∃ ys, ys = xs ++ [x.1] := ⟨_, rfl⟩
      have HX2 := Aside0.mk (show ys = (attrTab.take (k + 1)).map (·.1) by rw [hfi, ← HX.out]; exact hys)
      have HL2 := Aside0.mk (show ys.length = k + 1 by rw [hys, List.length_append, HL.out]; rfl)
      have HY := Aside0.mk hys
      clear hfi hys
      go_wp2_with ((with_reducible refine gate_builtin (b := .append) (xs := #[.tmp 8, .tmp 11]) rfl ?_); at_builtin; refine Kd.R_append Kd.string (w0 := w) w.heap.size rfl (.tmp 8) (.tmp 11) 31 9 (.string ⟨#[]⟩) 16 rfl Tryz.underlying31 info9 rfl (by decide) (by omega) u1 xs x.1 [.string x.1] (fun _ => True) (fun _ => False) rfl (by first | (go_simp; done) | (go_simp; rfl)) ?aP (fun _ hk => hk.elim) ?aF ?aO ?aB ?aS ?aL ?_; (case aP => exact rfl); (case aB => exact (by repeat (first | (with_reducible first | exact HB.out | apply below_alloc | apply pw_below_drewN | apply below_drew1) | refine below_set ?_ (below_size HB.out) | exact HB.out))); (case aF => exact (fun _ _ => trivial)); (case aO => exact (by (with_reducible repeat (first | apply Kd.R_alloc | apply Kd.R_drewN | apply Kd.R_drew)); exact HO.out)); (case aS => exact (below_size (by repeat (first | (with_reducible first | exact HB.out | apply below_alloc | apply pw_below_drewN | apply below_drew1) | refine below_set ?_ (below_size HB.out) | exact HB.out)))); (case aL => have := HL.out; omega); intro v350 w12 ho hb hg hat; rw [← HY.out] at ho; replace hb := Aside0.mk hb; replace ho := Aside0.mk ho; clear hg hat)
      go_roundw
      case rel => exact ⟨k + 1, ys, by omega, by go_num, HX2, HL2, ⟨by (with_reducible repeat (first | apply Kd.R_alloc | apply Kd.R_drewN | apply Kd.R_drew)); exact ho.out⟩, ⟨hb.out⟩⟩
      case measure => simp [intOf]; omega
    · obtain rfl : k = 20 := by omega
      have hE := HX.out
      rw [show attrTab.take 20 = attrTab from rfl, HN.out] at hE
      subst hE
      go_wp2
      go_ret
      exact ⟨_, rfl, HO.out, HB.out⟩
end Go.Proofs.YtpklcnpmppaaoaaGreatDoor.Print
namespace Go.Proofs.YtpklcnpmppaaoaaGreatDoor.Print
open Go.RowKit Go.Proofs.YtpklcnpmppaaoaaGreatDoorW.PrintWords Go.Proofs.YtpklcnpmppaaoaaGreatDoorW.PrintLast Go.Proofs.YtpklcnpmppaaoaaGreatDoorW.PrintMore
attribute [local go_sem] max2_int min2_int max_two min_two max_three min_three max_four min_four
set_option linter.unusedVariables false
set_option linter.unusedSimpArgs false
theorem eqA23 (d : Nat) (w : World) (x0 y0 : ByteArray) (x1 y1 : Int) (x2 y2 : Bool) :
  (Op.equalIn (d + 2) 23 (.agg #[.string x0, .int .i64 x1, .bool x2]) (.agg #[.string y0, .int .i64 y1, .bool y2])).run Tryz.prog w = .ok (x0.toList == y0.toList && (x1 == y1 && (x2 == y2))) w := by
 refine eqA_of Tryz.underlying23 (by kernel_rfl) ?_
 refine eqf_cons (by rfl) (by go_simp; rfl) (by go_simp; rfl) (by go_simp) ?_
 refine eqf_cons (by rfl) (by go_simp; rfl) (by go_simp; rfl) (by go_simp) ?_
 exact eqf_last (by rfl) (by go_simp; rfl) (by go_simp; rfl) (by go_simp)
end Go.Proofs.YtpklcnpmppaaoaaGreatDoor.Print
namespace Go.Proofs.YtpklcnpmppaaoaaGreatDoor.Print
open Go.RowKit Go.Proofs.YtpklcnpmppaaoaaGreatDoorW.PrintWords Go.Proofs.YtpklcnpmppaaoaaGreatDoorW.PrintLast Go.Proofs.YtpklcnpmppaaoaaGreatDoorW.PrintMore
attribute [local go_sem] max2_int min2_int max_two min_two max_three min_three max_four min_four
set_option linter.unusedVariables false
set_option linter.unusedSimpArgs false
attribute [local go_sem high] eqA23
mutual
def L16AttrFinds.j0 : Nat → Bool → Bool → ByteArray → Int → Bool → Option (Bool)
 | 0, _, _, _, _, _ => none
 | k + 1, x4, x34, x926000, x926001, x926002 => if x34 = true then (some false) else ((attr_Names.f).bind fun t931 => (L16AttrFinds.l0 k x4 t931 false 0 x926000 x926001 x926002))
def L16AttrFinds.l0 : Nat → Bool → List ByteArray → Bool → Int → ByteArray → Int → Bool → Option (Bool)
 | 0, _, _, _, _, _, _, _ => none
 | k + 1, x4, x7, x8, x9, x926000, x926001, x926002 => if x9 < (x7.length : Int) then (if 0 ≤ x9 then ((R16Find.f k (rdOf ByteArray.empty x7 x9)).bind fun bt935 => (if bt935.2.2.2 = true then (if x9 > 0 then (if 0 ≤ (wrap64 (x9 - 1)) then (if (wrap64 (x9 - 1)) < (x7.length : Int) then ((R01Less.f k (rdOf ByteArray.empty x7 (wrap64 (x9 - 1))) (rdOf ByteArray.empty x7 x9)).bind fun t942 => (if t942 ≥ 0 then (some false) else (if x8 = true then (L16AttrFinds.l0 k x4 x7 true (wrap64 (x9 + 1)) x926000 x926001 x926002) else (L16AttrFinds.l0 k x4 x7 ((rdOf ByteArray.empty x7 x9).toList == x926000.toList) (wrap64 (x9 + 1)) x926000 x926001 x926002)))) else (none)) else (none)) else (if x8 = true then (L16AttrFinds.l0 k x4 x7 true (wrap64 (x9 + 1)) x926000 x926001 x926002) else (L16AttrFinds.l0 k x4 x7 ((rdOf ByteArray.empty x7 x9).toList == x926000.toList) (wrap64 (x9 + 1)) x926000 x926001 x926002))) else (some false))) else (none)) else (if (x7.length : Int) = 20 then (some (x8 == x4)) else (some false))
end
def L16AttrFinds.f (k : Nat) (a0 : ByteArray) : Option (Bool) := (L16awake.f k).bind fun t920 => (if t920 = true then (if (a0.size : Int) > 2000 then (some true) else ((attr_Find.f a0).bind fun bt921 => ((R16Find.f k a0).bind fun bt926 => (if (!(bt921.1.toList == bt926.1.toList) || (!(bt921.2.1 == bt926.2.1) || (!(bt921.2.2.1 == bt926.2.2.1)))) = true then (L16AttrFinds.j0 k bt921.2.2.2 true bt921.1 bt921.2.1 bt921.2.2.1) else (L16AttrFinds.j0 k bt921.2.2.2 (bt921.2.2.2 != bt926.2.2.2) bt921.1 bt921.2.1 bt921.2.2.1))))) else (some false))
set_option maxHeartbeats 8000000 in
set_option maxRecDepth 100000 in
theorem L16AttrFinds.calls (k : Nat) (a0 : ByteArray) (r : Bool) (w : World) (hG : Gw w) (h : L16AttrFinds.f k a0 = some r) :
  Calls Tryz.prog 8 #[.string a0] w fun e w' => e = .returned (.bool r) ∧ Below w.heap.size w w' := by
 have hu23 := Tryz.underlying23
 have HB := Aside0.mk (Below.refl w.heap.size w)
 have HG := Aside0.mk hG
 clear hG
 have H : ((L16awake.f k).bind fun t920 => (if t920 = true then (if (a0.size : Int) > 2000 then (some true) else ((attr_Find.f a0).bind fun bt921 => ((R16Find.f k a0).bind fun bt926 => (if (!(bt921.1.toList == bt926.1.toList) || (!(bt921.2.1 == bt926.2.1) || (!(bt921.2.2.1 == bt926.2.2.1)))) = true then (L16AttrFinds.j0 k bt921.2.2.2 true bt921.1 bt921.2.1 bt921.2.2.1) else (L16AttrFinds.j0 k bt921.2.2.2 (bt921.2.2.2 != bt926.2.2.2) bt921.1 bt921.2.1 bt921.2.2.1))))) else (some false))) = some r := h
 clear h
 replace H := Option.bind_eq_some_iff.mp H
 obtain ⟨t920, A20, H⟩ := H
 replace H : (if t920 = true then (if (a0.size : Int) > 2000 then (some true) else ((attr_Find.f a0).bind fun bt921 => ((R16Find.f k a0).bind fun bt926 => (if (!(bt921.1.toList == bt926.1.toList) || (!(bt921.2.1 == bt926.2.1) || (!(bt921.2.2.1 == bt926.2.2.1)))) = true then (L16AttrFinds.j0 k bt921.2.2.2 true bt921.1 bt921.2.1 bt921.2.2.1) else (L16AttrFinds.j0 k bt921.2.2.2 (bt921.2.2.2 != bt926.2.2.2) bt921.1 bt921.2.1 bt921.2.2.1))))) else (some false)) = some r := H
 have A2 := Aside0.mk A20
 clear A20
 by_cases c3 : t920 = true
 ·
  subst c3
  rw [if_pos rfl] at H
  by_cases c4 : (a0.size : Int) > 2000
  ·
   rw [if_pos c4] at H
   have c4b0 := decide_eq_true c4
   have c4b1 : decide (2000 < a0.size) = true := decide_eq_true (by omega)
   clear c4
   obtain rfl := Option.some.inj H
   go_enter Tryz.func8, Tryz.ntmps8
   go_wp2_with (first | (go_at_call 9; (with_reducible refine (L16awake.calls k  true _ ?side1 A2.out).mono ?_); (case side1 => exact ap6); rintro e w5 ⟨rfl, hb⟩; have n0_ := Aside0.mk (below_step ap1 hb); clear HB; have HB := n0_; clear n0_; (try clear hb); (try clear hb2); (try clear hk); (try clear hi)))
   repeat (go_quiet (first | (go_at_call 9; (with_reducible refine (L16awake.calls k  true _ ?side1 A2.out).mono ?_); (case side1 => exact ap6); rintro e w5 ⟨rfl, hb⟩; have n0_ := Aside0.mk (below_step ap1 hb); clear HB; have HB := n0_; clear n0_; (try clear hb); (try clear hb2); (try clear hk); (try clear hi))); try go_wp2_with (first | (go_at_call 9; (with_reducible refine (L16awake.calls k  true _ ?side1 A2.out).mono ?_); (case side1 => exact ap6); rintro e w5 ⟨rfl, hb⟩; have n0_ := Aside0.mk (below_step ap1 hb); clear HB; have HB := n0_; clear n0_; (try clear hb); (try clear hb2); (try clear hk); (try clear hi))))
   go_ret
   exact ⟨by first | rfl | (simp [errW_none, errW_some, bne_nil8, beq_nil8]; done) | (simp [errW_none, errW_some] <;> rfl) | (simp [*, errW_none, errW_some] <;> rfl), by repeat (first | (with_reducible first | exact HB.out | apply below_alloc | apply pw_below_drewN | apply below_drew1) | exact HB.out)⟩
  ·
   rw [if_neg c4] at H
   have c4b0 := decide_eq_false c4
   have c4b1 : decide (2000 < a0.size) = false := decide_eq_false (by omega)
   clear c4
   replace H := Option.bind_eq_some_iff.mp H
   obtain ⟨⟨t921, t922, t923, t924⟩, A60, H⟩ := H
   replace H : ((R16Find.f k a0).bind fun bt926 => (if (!(t921.toList == bt926.1.toList) || (!(t922 == bt926.2.1) || (!(t923 == bt926.2.2.1)))) = true then (L16AttrFinds.j0 k t924 true t921 t922 t923) else (L16AttrFinds.j0 k t924 (t924 != bt926.2.2.2) t921 t922 t923))) = some r := H
   have A6 := Aside0.mk A60
   clear A60
   replace H := Option.bind_eq_some_iff.mp H
   obtain ⟨⟨t926, t927, t928, t929⟩, A70, H⟩ := H
   replace H : (if (!(t921.toList == t926.toList) || (!(t922 == t927) || (!(t923 == t928)))) = true then (L16AttrFinds.j0 k t924 true t921 t922 t923) else (L16AttrFinds.j0 k t924 (t924 != t929) t921 t922 t923)) = some r := H
   have A7 := Aside0.mk A70
   clear A70
   have HC8 := Aside0.mk H
   clear H
   go_enter Tryz.func8, Tryz.ntmps8
   go_upto_region 7 with (first | (go_at_call 9; (with_reducible refine (L16awake.calls k  true _ ?side1 A2.out).mono ?_); (case side1 => exact ap6); rintro e w9 ⟨rfl, hb⟩; have n0_ := Aside0.mk (below_step ap1 hb); clear HB; have HB := n0_; clear n0_; (try clear hb); (try clear hb2); (try clear hk); (try clear hi)) | (go_at_call 16; (with_reducible refine (attr_Find.calls a0 t921 t922 t923 t924 _ ?side1 A6.out).mono ?_); (case side1 => exact ap6); rintro e w10 ⟨rfl, hb⟩; have n0_ := Aside0.mk (below_step ap1 hb); clear HB; have HB := n0_; clear n0_; (try clear hb); (try clear hb2); (try clear hk); (try clear hi)) | ((with_reducible refine gate_dst (N := 3) rfl ?_); refine box_event ?hg (N := 3) ?hd (cs := #[.string (⟨#[]⟩ : ByteArray), .int .i64 0, .bool false]) (t := 23) ?hr ?_; (case hd => rfl); (case hg => rfl); (case hr => first | (go_simp; done) | (go_simp; rfl)); intro gb925 hg w11 hbox hb; have n0_ := Aside0.mk (below_step ap1 hb); have n1_ := Aside0.mk (hbox); have n2_ := Aside0.mk ((by rw [hg]; exact (below_size ap1) : w.heap.size ≤ gb925)); have n3_ := Aside0.mk ((by rw [hg]; exact (below_size ap1) : w.heap.size ≤ gb925)); clear HB; have HB := n0_; have BK925 := n1_; have GW925 := n2_; have GE925 := n3_; clear n0_ n1_ n2_ n3_; clear hb hbox hg; have hcz12_0 : w11.cell? ⟨gb925, 0, none⟩ = some (.string (⟨#[]⟩ : ByteArray)) := (blk_cell BK925.out 0).trans rfl; have hcz12_1 : w11.cell? ⟨gb925, 1, none⟩ = some (.int .i64 0) := (blk_cell BK925.out 1).trans rfl; have hcz12_2 : w11.cell? ⟨gb925, 2, none⟩ = some (.bool false) := (blk_cell BK925.out 2).trans rfl; have hfz12_0 := blk_frozen BK925.out 0; have hfz12_1 := blk_frozen BK925.out 1; have hfz12_2 := blk_frozen BK925.out 2) | (go_at_call 22; (with_reducible refine (R16Find.calls k a0 t926 t927 t928 t929 _ A7.out).mono ?_); rintro e w13 ⟨rfl, hb⟩; have n0_ := Aside0.mk (blk_below (g := gb925) (o := .cells #[.string t921, .int .i64 t922, .bool t923] 23 (0, 0)) (by (with_reducible repeat (first | refine blk_drewN ?_ _ | refine blk_drew ?_ | refine blk_alloc ?_ _)); refine blk_put (cs := #[.string t921, .int .i64 t922, .bool false]) ?_ 2 _ rfl; (with_reducible repeat (first | refine blk_drewN ?_ _ | refine blk_drew ?_ | refine blk_alloc ?_ _)); refine blk_put (cs := #[.string t921, .int .i64 0, .bool false]) ?_ 1 _ rfl; (with_reducible repeat (first | refine blk_drewN ?_ _ | refine blk_drew ?_ | refine blk_alloc ?_ _)); refine blk_put (cs := #[.string (⟨#[]⟩ : ByteArray), .int .i64 0, .bool false]) ?_ 0 _ rfl; (with_reducible repeat (first | refine blk_drewN ?_ _ | refine blk_drew ?_ | refine blk_alloc ?_ _)); exact BK925.out) hb); have n1_ := Aside0.mk (below_step (apG GE925.out) hb); clear BK925; clear HB; have BK925 := n0_; have HB := n1_; clear n0_ n1_; (try clear hb); (try clear hb2); (try clear hk); (try clear hi)) | ((with_reducible refine gate_dst (N := 5) rfl ?_); refine box_event ?hg (N := 5) ?hd (cs := #[.string (⟨#[]⟩ : ByteArray), .int .i64 0, .bool false]) (t := 23) ?hr ?_; (case hd => rfl); (case hg => rfl); (case hr => first | (go_simp; done) | (go_simp; rfl)); intro gb930 hg w14 hbox hb; have n0_ := Aside0.mk (blk_below (g := gb925) (o := .cells #[.string t921, .int .i64 t922, .bool t923] 23 (0, 0)) (apB BK925.out) hb); have n1_ := Aside0.mk (below_step (apG GE925.out) hb); have n2_ := Aside0.mk (hbox); have n3_ := Aside0.mk ((by rw [hg]; exact (below_size (apG GE925.out)) : w.heap.size ≤ gb930)); have n4_ := Aside0.mk ((by rw [hg]; exact (below_size (apG GE925.out)) : w.heap.size ≤ gb930)); have n5_ := Aside0.mk ((by rw [hg]; exact Nat.ne_of_lt (blk_lt (g := gb925) (o := .cells #[.string t921, .int .i64 t922, .bool t923] 23 (0, 0)) (apB BK925.out)) : gb925 ≠ gb930)); have n6_ := Aside0.mk ((by rw [hg]; exact Nat.ne_of_gt (blk_lt (g := gb925) (o := .cells #[.string t921, .int .i64 t922, .bool t923] 23 (0, 0)) (apB BK925.out)) : gb930 ≠ gb925)); clear BK925; clear HB; have BK925 := n0_; have HB := n1_; have BK930 := n2_; have GW930 := n3_; have GE930 := n4_; have NB925_930 := n5_; have NB930_925 := n6_; clear n0_ n1_ n2_ n3_ n4_ n5_ n6_; clear hb hbox hg; have hnb15 := NB930_925.out; have hnc15 := NB925_930.out; have hcz16_0 : w14.cell? ⟨gb930, 0, none⟩ = some (.string (⟨#[]⟩ : ByteArray)) := (blk_cell BK930.out 0).trans rfl; have hcz16_1 : w14.cell? ⟨gb930, 1, none⟩ = some (.int .i64 0) := (blk_cell BK930.out 1).trans rfl; have hcz16_2 : w14.cell? ⟨gb930, 2, none⟩ = some (.bool false) := (blk_cell BK930.out 2).trans rfl; have hfz16_0 := blk_frozen BK930.out 0; have hfz16_1 := blk_frozen BK930.out 1; have hfz16_2 := blk_frozen BK930.out 2))
   repeat (go_quiet (first | (go_at_call 9; (with_reducible refine (L16awake.calls k  true _ ?side1 A2.out).mono ?_); (case side1 => exact ap6); rintro e w9 ⟨rfl, hb⟩; have n0_ := Aside0.mk (below_step ap1 hb); clear HB; have HB := n0_; clear n0_; (try clear hb); (try clear hb2); (try clear hk); (try clear hi)) | (go_at_call 16; (with_reducible refine (attr_Find.calls a0 t921 t922 t923 t924 _ ?side1 A6.out).mono ?_); (case side1 => exact ap6); rintro e w10 ⟨rfl, hb⟩; have n0_ := Aside0.mk (below_step ap1 hb); clear HB; have HB := n0_; clear n0_; (try clear hb); (try clear hb2); (try clear hk); (try clear hi)) | ((with_reducible refine gate_dst (N := 3) rfl ?_); refine box_event ?hg (N := 3) ?hd (cs := #[.string (⟨#[]⟩ : ByteArray), .int .i64 0, .bool false]) (t := 23) ?hr ?_; (case hd => rfl); (case hg => rfl); (case hr => first | (go_simp; done) | (go_simp; rfl)); intro gb925 hg w11 hbox hb; have n0_ := Aside0.mk (below_step ap1 hb); have n1_ := Aside0.mk (hbox); have n2_ := Aside0.mk ((by rw [hg]; exact (below_size ap1) : w.heap.size ≤ gb925)); have n3_ := Aside0.mk ((by rw [hg]; exact (below_size ap1) : w.heap.size ≤ gb925)); clear HB; have HB := n0_; have BK925 := n1_; have GW925 := n2_; have GE925 := n3_; clear n0_ n1_ n2_ n3_; clear hb hbox hg; have hcz12_0 : w11.cell? ⟨gb925, 0, none⟩ = some (.string (⟨#[]⟩ : ByteArray)) := (blk_cell BK925.out 0).trans rfl; have hcz12_1 : w11.cell? ⟨gb925, 1, none⟩ = some (.int .i64 0) := (blk_cell BK925.out 1).trans rfl; have hcz12_2 : w11.cell? ⟨gb925, 2, none⟩ = some (.bool false) := (blk_cell BK925.out 2).trans rfl; have hfz12_0 := blk_frozen BK925.out 0; have hfz12_1 := blk_frozen BK925.out 1; have hfz12_2 := blk_frozen BK925.out 2) | (go_at_call 22; (with_reducible refine (R16Find.calls k a0 t926 t927 t928 t929 _ A7.out).mono ?_); rintro e w13 ⟨rfl, hb⟩; have n0_ := Aside0.mk (blk_below (g := gb925) (o := .cells #[.string t921, .int .i64 t922, .bool t923] 23 (0, 0)) (by (with_reducible repeat (first | refine blk_drewN ?_ _ | refine blk_drew ?_ | refine blk_alloc ?_ _)); refine blk_put (cs := #[.string t921, .int .i64 t922, .bool false]) ?_ 2 _ rfl; (with_reducible repeat (first | refine blk_drewN ?_ _ | refine blk_drew ?_ | refine blk_alloc ?_ _)); refine blk_put (cs := #[.string t921, .int .i64 0, .bool false]) ?_ 1 _ rfl; (with_reducible repeat (first | refine blk_drewN ?_ _ | refine blk_drew ?_ | refine blk_alloc ?_ _)); refine blk_put (cs := #[.string (⟨#[]⟩ : ByteArray), .int .i64 0, .bool false]) ?_ 0 _ rfl; (with_reducible repeat (first | refine blk_drewN ?_ _ | refine blk_drew ?_ | refine blk_alloc ?_ _)); exact BK925.out) hb); have n1_ := Aside0.mk (below_step (apG GE925.out) hb); clear BK925; clear HB; have BK925 := n0_; have HB := n1_; clear n0_ n1_; (try clear hb); (try clear hb2); (try clear hk); (try clear hi)) | ((with_reducible refine gate_dst (N := 5) rfl ?_); refine box_event ?hg (N := 5) ?hd (cs := #[.string (⟨#[]⟩ : ByteArray), .int .i64 0, .bool false]) (t := 23) ?hr ?_; (case hd => rfl); (case hg => rfl); (case hr => first | (go_simp; done) | (go_simp; rfl)); intro gb930 hg w14 hbox hb; have n0_ := Aside0.mk (blk_below (g := gb925) (o := .cells #[.string t921, .int .i64 t922, .bool t923] 23 (0, 0)) (apB BK925.out) hb); have n1_ := Aside0.mk (below_step (apG GE925.out) hb); have n2_ := Aside0.mk (hbox); have n3_ := Aside0.mk ((by rw [hg]; exact (below_size (apG GE925.out)) : w.heap.size ≤ gb930)); have n4_ := Aside0.mk ((by rw [hg]; exact (below_size (apG GE925.out)) : w.heap.size ≤ gb930)); have n5_ := Aside0.mk ((by rw [hg]; exact Nat.ne_of_lt (blk_lt (g := gb925) (o := .cells #[.string t921, .int .i64 t922, .bool t923] 23 (0, 0)) (apB BK925.out)) : gb925 ≠ gb930)); have n6_ := Aside0.mk ((by rw [hg]; exact Nat.ne_of_gt (blk_lt (g := gb925) (o := .cells #[.string t921, .int .i64 t922, .bool t923] 23 (0, 0)) (apB BK925.out)) : gb930 ≠ gb925)); clear BK925; clear HB; have BK925 := n0_; have HB := n1_; have BK930 := n2_; have GW930 := n3_; have GE930 := n4_; have NB925_930 := n5_; have NB930_925 := n6_; clear n0_ n1_ n2_ n3_ n4_ n5_ n6_; clear hb hbox hg; have hnb15 := NB930_925.out; have hnc15 := NB925_930.out; have hcz16_0 : w14.cell? ⟨gb930, 0, none⟩ = some (.string (⟨#[]⟩ : ByteArray)) := (blk_cell BK930.out 0).trans rfl; have hcz16_1 : w14.cell? ⟨gb930, 1, none⟩ = some (.int .i64 0) := (blk_cell BK930.out 1).trans rfl; have hcz16_2 : w14.cell? ⟨gb930, 2, none⟩ = some (.bool false) := (blk_cell BK930.out 2).trans rfl; have hfz16_0 := blk_frozen BK930.out 0; have hfz16_1 := blk_frozen BK930.out 1; have hfz16_2 := blk_frozen BK930.out 2)); go_upto_region 7 with (first | (go_at_call 9; (with_reducible refine (L16awake.calls k  true _ ?side1 A2.out).mono ?_); (case side1 => exact ap6); rintro e w9 ⟨rfl, hb⟩; have n0_ := Aside0.mk (below_step ap1 hb); clear HB; have HB := n0_; clear n0_; (try clear hb); (try clear hb2); (try clear hk); (try clear hi)) | (go_at_call 16; (with_reducible refine (attr_Find.calls a0 t921 t922 t923 t924 _ ?side1 A6.out).mono ?_); (case side1 => exact ap6); rintro e w10 ⟨rfl, hb⟩; have n0_ := Aside0.mk (below_step ap1 hb); clear HB; have HB := n0_; clear n0_; (try clear hb); (try clear hb2); (try clear hk); (try clear hi)) | ((with_reducible refine gate_dst (N := 3) rfl ?_); refine box_event ?hg (N := 3) ?hd (cs := #[.string (⟨#[]⟩ : ByteArray), .int .i64 0, .bool false]) (t := 23) ?hr ?_; (case hd => rfl); (case hg => rfl); (case hr => first | (go_simp; done) | (go_simp; rfl)); intro gb925 hg w11 hbox hb; have n0_ := Aside0.mk (below_step ap1 hb); have n1_ := Aside0.mk (hbox); have n2_ := Aside0.mk ((by rw [hg]; exact (below_size ap1) : w.heap.size ≤ gb925)); have n3_ := Aside0.mk ((by rw [hg]; exact (below_size ap1) : w.heap.size ≤ gb925)); clear HB; have HB := n0_; have BK925 := n1_; have GW925 := n2_; have GE925 := n3_; clear n0_ n1_ n2_ n3_; clear hb hbox hg; have hcz12_0 : w11.cell? ⟨gb925, 0, none⟩ = some (.string (⟨#[]⟩ : ByteArray)) := (blk_cell BK925.out 0).trans rfl; have hcz12_1 : w11.cell? ⟨gb925, 1, none⟩ = some (.int .i64 0) := (blk_cell BK925.out 1).trans rfl; have hcz12_2 : w11.cell? ⟨gb925, 2, none⟩ = some (.bool false) := (blk_cell BK925.out 2).trans rfl; have hfz12_0 := blk_frozen BK925.out 0; have hfz12_1 := blk_frozen BK925.out 1; have hfz12_2 := blk_frozen BK925.out 2) | (go_at_call 22; (with_reducible refine (R16Find.calls k a0 t926 t927 t928 t929 _ A7.out).mono ?_); rintro e w13 ⟨rfl, hb⟩; have n0_ := Aside0.mk (blk_below (g := gb925) (o := .cells #[.string t921, .int .i64 t922, .bool t923] 23 (0, 0)) (by (with_reducible repeat (first | refine blk_drewN ?_ _ | refine blk_drew ?_ | refine blk_alloc ?_ _)); refine blk_put (cs := #[.string t921, .int .i64 t922, .bool false]) ?_ 2 _ rfl; (with_reducible repeat (first | refine blk_drewN ?_ _ | refine blk_drew ?_ | refine blk_alloc ?_ _)); refine blk_put (cs := #[.string t921, .int .i64 0, .bool false]) ?_ 1 _ rfl; (with_reducible repeat (first | refine blk_drewN ?_ _ | refine blk_drew ?_ | refine blk_alloc ?_ _)); refine blk_put (cs := #[.string (⟨#[]⟩ : ByteArray), .int .i64 0, .bool false]) ?_ 0 _ rfl; (with_reducible repeat (first | refine blk_drewN ?_ _ | refine blk_drew ?_ | refine blk_alloc ?_ _)); exact BK925.out) hb); have n1_ := Aside0.mk (below_step (apG GE925.out) hb); clear BK925; clear HB; have BK925 := n0_; have HB := n1_; clear n0_ n1_; (try clear hb); (try clear hb2); (try clear hk); (try clear hi)) | ((with_reducible refine gate_dst (N := 5) rfl ?_); refine box_event ?hg (N := 5) ?hd (cs := #[.string (⟨#[]⟩ : ByteArray), .int .i64 0, .bool false]) (t := 23) ?hr ?_; (case hd => rfl); (case hg => rfl); (case hr => first | (go_simp; done) | (go_simp; rfl)); intro gb930 hg w14 hbox hb; have n0_ := Aside0.mk (blk_below (g := gb925) (o := .cells #[.string t921, .int .i64 t922, .bool t923] 23 (0, 0)) (apB BK925.out) hb); have n1_ := Aside0.mk (below_step (apG GE925.out) hb); have n2_ := Aside0.mk (hbox); have n3_ := Aside0.mk ((by rw [hg]; exact (below_size (apG GE925.out)) : w.heap.size ≤ gb930)); have n4_ := Aside0.mk ((by rw [hg]; exact (below_size (apG GE925.out)) : w.heap.size ≤ gb930)); have n5_ := Aside0.mk ((by rw [hg]; exact Nat.ne_of_lt (blk_lt (g := gb925) (o := .cells #[.string t921, .int .i64 t922, .bool t923] 23 (0, 0)) (apB BK925.out)) : gb925 ≠ gb930)); have n6_ := Aside0.mk ((by rw [hg]; exact Nat.ne_of_gt (blk_lt (g := gb925) (o := .cells #[.string t921, .int .i64 t922, .bool t923] 23 (0, 0)) (apB BK925.out)) : gb930 ≠ gb925)); clear BK925; clear HB; have BK925 := n0_; have HB := n1_; have BK930 := n2_; have GW930 := n3_; have GE930 := n4_; have NB925_930 := n5_; have NB930_925 := n6_; clear n0_ n1_ n2_ n3_ n4_ n5_ n6_; clear hb hbox hg; have hnb15 := NB930_925.out; have hnc15 := NB925_930.out; have hcz16_0 : w14.cell? ⟨gb930, 0, none⟩ = some (.string (⟨#[]⟩ : ByteArray)) := (blk_cell BK930.out 0).trans rfl; have hcz16_1 : w14.cell? ⟨gb930, 1, none⟩ = some (.int .i64 0) := (blk_cell BK930.out 1).trans rfl; have hcz16_2 : w14.cell? ⟨gb930, 2, none⟩ = some (.bool false) := (blk_cell BK930.out 2).trans rfl; have hfz16_0 := blk_frozen BK930.out 0; have hfz16_1 := blk_frozen BK930.out 1; have hfz16_2 := blk_frozen BK930.out 2)))
   (try simp only [Act.put, List.setIfInBounds_toArray, List.set_cons_zero, List.set_cons_succ])
   go_cut [34] (fun v34 wc => ∃ (kq : Nat) (x34_7 : Bool), v34 = .bool x34_7 ∧ Aside0 (L16AttrFinds.j0 kq t924 x34_7 t921 t922 t923 = some r) ∧ Aside0 (kq ≤ k) ∧ Aside0 (wc.heap[gb925]? = some (.cells #[.string t921, .int .i64 t922, .bool t923] 23 (0, 0))) ∧ Aside0 (wc.heap[gb930]? = some (.cells #[.string t926, .int .i64 t927, .bool t928] 23 (0, 0))) ∧ Aside0 (Below w.heap.size w wc))
   case first =>
    have H := HC8.out
    clear HC8
    by_cases c17 : (!(t921.toList == t926.toList) || (!(t922 == t927) || (!(t923 == t928)))) = true
    ·
     rw [if_pos c17] at H
     have c17b0 : (!(t921.toList == t926.toList) || (!(t922 == t927) || (!(t923 == t928)))) = true := c17
     clear c17
     (first | rw [c17b0] | (simp only [i64_w, i32_w]; rw [c17b0]) | skip)
     have H' := Aside0.mk H
     clear H
     have hnb18 := NB925_930.out
     have hnc18 := NB930_925.out
     have hcz19_0 : w14.cell? ⟨gb925, 0, none⟩ = some (.string t921) := (blk_cell BK925.out 0).trans rfl
     have hcz19_1 : w14.cell? ⟨gb925, 1, none⟩ = some (.int .i64 t922) := (blk_cell BK925.out 1).trans rfl
     have hcz19_2 : w14.cell? ⟨gb925, 2, none⟩ = some (.bool t923) := (blk_cell BK925.out 2).trans rfl
     have hfz19_0 := blk_frozen BK925.out 0
     have hfz19_1 := blk_frozen BK925.out 1
     have hfz19_2 := blk_frozen BK925.out 2
     have hcz20_0 : w14.cell? ⟨gb930, 0, none⟩ = some (.string (⟨#[]⟩ : ByteArray)) := (blk_cell BK930.out 0).trans rfl
     have hcz20_1 : w14.cell? ⟨gb930, 1, none⟩ = some (.int .i64 0) := (blk_cell BK930.out 1).trans rfl
     have hcz20_2 : w14.cell? ⟨gb930, 2, none⟩ = some (.bool false) := (blk_cell BK930.out 2).trans rfl
     have hfz20_0 := blk_frozen BK930.out 0
     have hfz20_1 := blk_frozen BK930.out 1
     have hfz20_2 := blk_frozen BK930.out 2
     go_wp2
     repeat (go_quiet (fail); try go_wp2)
     first | go_meet | (simp only [c17b0] at *; go_meet)
     case rel => exact ⟨_, (true), ap2, H', ⟨by first | omega | exact Nat.le_refl _⟩, ⟨by (with_reducible repeat (first | refine blk_drewN ?_ _ | refine blk_drew ?_ | refine blk_alloc ?_ _)); refine blk_far ?_ NB925_930.out _; (with_reducible repeat (first | refine blk_drewN ?_ _ | refine blk_drew ?_ | refine blk_alloc ?_ _)); refine blk_far ?_ NB925_930.out _; (with_reducible repeat (first | refine blk_drewN ?_ _ | refine blk_drew ?_ | refine blk_alloc ?_ _)); refine blk_far ?_ NB925_930.out _; (with_reducible repeat (first | refine blk_drewN ?_ _ | refine blk_drew ?_ | refine blk_alloc ?_ _)); exact BK925.out⟩, ⟨by (with_reducible repeat (first | refine blk_drewN ?_ _ | refine blk_drew ?_ | refine blk_alloc ?_ _)); refine blk_put (cs := #[.string t926, .int .i64 t927, .bool false]) ?_ 2 _ rfl; (with_reducible repeat (first | refine blk_drewN ?_ _ | refine blk_drew ?_ | refine blk_alloc ?_ _)); refine blk_put (cs := #[.string t926, .int .i64 0, .bool false]) ?_ 1 _ rfl; (with_reducible repeat (first | refine blk_drewN ?_ _ | refine blk_drew ?_ | refine blk_alloc ?_ _)); refine blk_put (cs := #[.string (⟨#[]⟩ : ByteArray), .int .i64 0, .bool false]) ?_ 0 _ rfl; (with_reducible repeat (first | refine blk_drewN ?_ _ | refine blk_drew ?_ | refine blk_alloc ?_ _)); exact BK930.out⟩, ⟨by repeat (first | (with_reducible first | exact HB.out | apply below_alloc | apply pw_below_drewN | apply below_drew1 | refine below_set ?_ GE925.out | refine below_set ?_ GE930.out) | exact HB.out)⟩⟩
    ·
     rw [if_neg c17] at H
     have c17b0 : (!(t921.toList == t926.toList) || (!(t922 == t927) || (!(t923 == t928)))) = false := by simpa using c17
     clear c17
     (first | rw [c17b0] | (simp only [i64_w, i32_w]; rw [c17b0]) | skip)
     have H' := Aside0.mk H
     clear H
     have hnb21 := NB925_930.out
     have hnc21 := NB930_925.out
     have hcz22_0 : w14.cell? ⟨gb925, 0, none⟩ = some (.string t921) := (blk_cell BK925.out 0).trans rfl
     have hcz22_1 : w14.cell? ⟨gb925, 1, none⟩ = some (.int .i64 t922) := (blk_cell BK925.out 1).trans rfl
     have hcz22_2 : w14.cell? ⟨gb925, 2, none⟩ = some (.bool t923) := (blk_cell BK925.out 2).trans rfl
     have hfz22_0 := blk_frozen BK925.out 0
     have hfz22_1 := blk_frozen BK925.out 1
     have hfz22_2 := blk_frozen BK925.out 2
     have hcz23_0 : w14.cell? ⟨gb930, 0, none⟩ = some (.string (⟨#[]⟩ : ByteArray)) := (blk_cell BK930.out 0).trans rfl
     have hcz23_1 : w14.cell? ⟨gb930, 1, none⟩ = some (.int .i64 0) := (blk_cell BK930.out 1).trans rfl
     have hcz23_2 : w14.cell? ⟨gb930, 2, none⟩ = some (.bool false) := (blk_cell BK930.out 2).trans rfl
     have hfz23_0 := blk_frozen BK930.out 0
     have hfz23_1 := blk_frozen BK930.out 1
     have hfz23_2 := blk_frozen BK930.out 2
     go_wp2
     repeat (go_quiet (fail); try go_wp2)
     first | go_meet | (simp only [c17b0] at *; go_meet) | (simp only [c17b0] at *; go_meet)
     case rel => exact ⟨_, ((t924 != t929)), ap2, H', ⟨by first | omega | exact Nat.le_refl _⟩, ⟨by (with_reducible repeat (first | refine blk_drewN ?_ _ | refine blk_drew ?_ | refine blk_alloc ?_ _)); refine blk_far ?_ NB925_930.out _; (with_reducible repeat (first | refine blk_drewN ?_ _ | refine blk_drew ?_ | refine blk_alloc ?_ _)); refine blk_far ?_ NB925_930.out _; (with_reducible repeat (first | refine blk_drewN ?_ _ | refine blk_drew ?_ | refine blk_alloc ?_ _)); refine blk_far ?_ NB925_930.out _; (with_reducible repeat (first | refine blk_drewN ?_ _ | refine blk_drew ?_ | refine blk_alloc ?_ _)); exact BK925.out⟩, ⟨by (with_reducible repeat (first | refine blk_drewN ?_ _ | refine blk_drew ?_ | refine blk_alloc ?_ _)); refine blk_put (cs := #[.string t926, .int .i64 t927, .bool false]) ?_ 2 _ rfl; (with_reducible repeat (first | refine blk_drewN ?_ _ | refine blk_drew ?_ | refine blk_alloc ?_ _)); refine blk_put (cs := #[.string t926, .int .i64 0, .bool false]) ?_ 1 _ rfl; (with_reducible repeat (first | refine blk_drewN ?_ _ | refine blk_drew ?_ | refine blk_alloc ?_ _)); refine blk_put (cs := #[.string (⟨#[]⟩ : ByteArray), .int .i64 0, .bool false]) ?_ 0 _ rfl; (with_reducible repeat (first | refine blk_drewN ?_ _ | refine blk_drew ?_ | refine blk_alloc ?_ _)); exact BK930.out⟩, ⟨by repeat (first | (with_reducible first | exact HB.out | apply below_alloc | apply pw_below_drewN | apply below_drew1 | refine below_set ?_ GE925.out | refine below_set ?_ GE930.out) | exact HB.out)⟩⟩
   case rest =>
    clear HC8
    try clear c1
    try clear c2
    try clear p2
    try clear c3
    try clear c4
    try clear c4b0
    try clear c4b1
    try clear c8
    try clear c15
    try clear c17
    try clear c17b0
    try clear c18
    try clear c21
    try clear hcz12_0
    try clear hcz12_1
    try clear hcz12_2
    try clear hcz16_0
    try clear hcz16_1
    try clear hcz16_2
    try clear hcz19_0
    try clear hcz19_1
    try clear hcz19_2
    try clear hcz20_0
    try clear hcz20_1
    try clear hcz20_2
    try clear hcz22_0
    try clear hcz22_1
    try clear hcz22_2
    try clear hcz23_0
    try clear hcz23_1
    try clear hcz23_2
    try clear hfz12_0
    try clear hfz12_1
    try clear hfz12_2
    try clear hfz16_0
    try clear hfz16_1
    try clear hfz16_2
    try clear hfz19_0
    try clear hfz19_1
    try clear hfz19_2
    try clear hfz20_0
    try clear hfz20_1
    try clear hfz20_2
    try clear hfz22_0
    try clear hfz22_1
    try clear hfz22_2
    try clear hfz23_0
    try clear hfz23_1
    try clear hfz23_2
    obtain ⟨kq, x34_7, rfl, HA, HJ7, BK925, BK930, HB⟩ := hcut
    cases kq with
    | zero => exact absurd HA.out (by simp [L16AttrFinds.j0])
    | succ kj7 =>
     have H := HA.out
     clear HA
     simp only [L16AttrFinds.j0] at H
     by_cases c24 : x34_7 = true
     ·
      subst c24
      rw [if_pos rfl] at H
      obtain rfl := Option.some.inj H
      go_wp2
      repeat (go_quiet (fail); try go_wp2)
      go_ret
      exact ⟨by first | rfl | (simp [errW_none, errW_some, bne_nil8, beq_nil8]; done) | (simp [errW_none, errW_some] <;> rfl) | (simp [*, errW_none, errW_some] <;> rfl), by repeat (first | (with_reducible first | exact HB.out | apply below_alloc | apply pw_below_drewN | apply below_drew1 | refine below_set ?_ GE925.out | refine below_set ?_ GE930.out) | exact HB.out)⟩
     ·
      replace c24 := Bool.eq_false_iff.mpr c24
      subst c24
      rw [if_neg (show ¬ (false = true) by decide)] at H
      replace H := Option.bind_eq_some_iff.mp H
      obtain ⟨t931, A250, H⟩ := H
      replace H : (L16AttrFinds.l0 kj7 t924 t931 false 0 t921 t922 t923) = some r := H
      have A25 := Aside0.mk A250
      clear A250
      have H' := Aside0.mk H
      clear H
      go_wp2_with (first | (go_at_call 23; (with_reducible refine (attr_Names.calls  t931 _ ?side1 A25.out).mono ?_); (case side1 => first | exact HG.out | (refine Gw.below HG.out ?_; repeat (first | (with_reducible first | exact HB.out | apply below_alloc | apply pw_below_drewN | apply below_drew1 | refine below_set ?_ GE925.out | refine below_set ?_ GE930.out) | exact HB.out))); rintro e w26 ⟨v932, rfl, ho0, hb⟩; have n0_ := Aside0.mk (Kd.R_lower ho0 (below_size (by repeat (first | (with_reducible first | exact HB.out | apply below_alloc | apply pw_below_drewN | apply below_drew1 | refine below_set ?_ GE925.out | refine below_set ?_ GE930.out) | exact HB.out)))); have n1_ := Aside0.mk (blk_below (g := gb925) (o := .cells #[.string t921, .int .i64 t922, .bool t923] 23 (0, 0)) (apB BK925.out) hb); have n2_ := Aside0.mk (blk_below (g := gb930) (o := .cells #[.string t926, .int .i64 t927, .bool t928] 23 (0, 0)) (apB BK930.out) hb); have n3_ := Aside0.mk (below_step (by repeat (first | (with_reducible first | exact HB.out | apply below_alloc | apply pw_below_drewN | apply below_drew1 | refine below_set ?_ GE925.out | refine below_set ?_ GE930.out) | exact HB.out)) hb); clear BK925; clear BK930; clear HB; have HO933 := n0_; have BK925 := n1_; have BK930 := n2_; have HB := n3_; clear n0_ n1_ n2_ n3_; (try clear hb); (try clear hb2); (try clear hk); (try clear hi); (try clear ho0)))
      repeat (go_quiet (first | (go_at_call 23; (with_reducible refine (attr_Names.calls  t931 _ ?side1 A25.out).mono ?_); (case side1 => first | exact HG.out | (refine Gw.below HG.out ?_; repeat (first | (with_reducible first | exact HB.out | apply below_alloc | apply pw_below_drewN | apply below_drew1 | refine below_set ?_ GE925.out | refine below_set ?_ GE930.out) | exact HB.out))); rintro e w26 ⟨v932, rfl, ho0, hb⟩; have n0_ := Aside0.mk (Kd.R_lower ho0 (below_size (by repeat (first | (with_reducible first | exact HB.out | apply below_alloc | apply pw_below_drewN | apply below_drew1 | refine below_set ?_ GE925.out | refine below_set ?_ GE930.out) | exact HB.out)))); have n1_ := Aside0.mk (blk_below (g := gb925) (o := .cells #[.string t921, .int .i64 t922, .bool t923] 23 (0, 0)) (apB BK925.out) hb); have n2_ := Aside0.mk (blk_below (g := gb930) (o := .cells #[.string t926, .int .i64 t927, .bool t928] 23 (0, 0)) (apB BK930.out) hb); have n3_ := Aside0.mk (below_step (by repeat (first | (with_reducible first | exact HB.out | apply below_alloc | apply pw_below_drewN | apply below_drew1 | refine below_set ?_ GE925.out | refine below_set ?_ GE930.out) | exact HB.out)) hb); clear BK925; clear BK930; clear HB; have HO933 := n0_; have BK925 := n1_; have BK930 := n2_; have HB := n3_; clear n0_ n1_ n2_ n3_; (try clear hb); (try clear hb2); (try clear hk); (try clear hi); (try clear ho0))); try go_wp2_with (first | (go_at_call 23; (with_reducible refine (attr_Names.calls  t931 _ ?side1 A25.out).mono ?_); (case side1 => first | exact HG.out | (refine Gw.below HG.out ?_; repeat (first | (with_reducible first | exact HB.out | apply below_alloc | apply pw_below_drewN | apply below_drew1 | refine below_set ?_ GE925.out | refine below_set ?_ GE930.out) | exact HB.out))); rintro e w26 ⟨v932, rfl, ho0, hb⟩; have n0_ := Aside0.mk (Kd.R_lower ho0 (below_size (by repeat (first | (with_reducible first | exact HB.out | apply below_alloc | apply pw_below_drewN | apply below_drew1 | refine below_set ?_ GE925.out | refine below_set ?_ GE930.out) | exact HB.out)))); have n1_ := Aside0.mk (blk_below (g := gb925) (o := .cells #[.string t921, .int .i64 t922, .bool t923] 23 (0, 0)) (apB BK925.out) hb); have n2_ := Aside0.mk (blk_below (g := gb930) (o := .cells #[.string t926, .int .i64 t927, .bool t928] 23 (0, 0)) (apB BK930.out) hb); have n3_ := Aside0.mk (below_step (by repeat (first | (with_reducible first | exact HB.out | apply below_alloc | apply pw_below_drewN | apply below_drew1 | refine below_set ?_ GE925.out | refine below_set ?_ GE930.out) | exact HB.out)) hb); clear BK925; clear BK930; clear HB; have HO933 := n0_; have BK925 := n1_; have BK930 := n2_; have HB := n3_; clear n0_ n1_ n2_ n3_; (try clear hb); (try clear hb2); (try clear hk); (try clear hi); (try clear ho0))))
      go_loopg [8, 9] kj7 (fun kq v8 v9 w' => ∃ (x8_2 : Bool) (x9_2 : Int), v8 = .bool x8_2 ∧ v9 = .int .i64 x9_2 ∧ Aside0 (L16AttrFinds.l0 kq t924 t931 x8_2 x9_2 t921 t922 t923 = some r) ∧ Aside0 (kq ≤ kj7) ∧ Aside0 (Kd.R Kd.string 9 w' w.heap.size (fun _ => True) v932 t931) ∧ Aside0 (w'.heap[gb925]? = some (.cells #[.string t921, .int .i64 t922, .bool t923] 23 (0, 0))) ∧ Aside0 (w'.heap[gb930]? = some (.cells #[.string t926, .int .i64 t927, .bool t928] 23 (0, 0))) ∧ Aside0 (Below w.heap.size w w'))
      case atStart => exact ⟨(false), (0), ap2, ap2, H', ⟨Nat.le_refl _⟩, ⟨by (with_reducible repeat (first | apply Kd.R_alloc | apply Kd.R_drewN | apply Kd.R_drew)); exact HO933.out⟩, ⟨by (with_reducible repeat (first | refine blk_drewN ?_ _ | refine blk_drew ?_ | refine blk_alloc ?_ _)); exact BK925.out⟩, ⟨by (with_reducible repeat (first | refine blk_drewN ?_ _ | refine blk_drew ?_ | refine blk_alloc ?_ _)); exact BK930.out⟩, ⟨by repeat (first | (with_reducible first | exact HB.out | apply below_alloc | apply pw_below_drewN | apply below_drew1 | refine below_set ?_ GE925.out | refine below_set ?_ GE930.out) | exact HB.out)⟩⟩
      case round =>
       clear H'
       try clear c1
       try clear c2
       try clear p2
       try clear c3
       try clear c4
       try clear c4b0
       try clear c4b1
       try clear c8
       try clear c15
       try clear c17
       try clear c17b0
       try clear c18
       try clear c21
       try clear c24
       try clear hcz12_0
       try clear hcz12_1
       try clear hcz12_2
       try clear hcz16_0
       try clear hcz16_1
       try clear hcz16_2
       try clear hcz19_0
       try clear hcz19_1
       try clear hcz19_2
       try clear hcz20_0
       try clear hcz20_1
       try clear hcz20_2
       try clear hcz22_0
       try clear hcz22_1
       try clear hcz22_2
       try clear hcz23_0
       try clear hcz23_1
       try clear hcz23_2
       try clear hfz12_0
       try clear hfz12_1
       try clear hfz12_2
       try clear hfz16_0
       try clear hfz16_1
       try clear hfz16_2
       try clear hfz19_0
       try clear hfz19_1
       try clear hfz19_2
       try clear hfz20_0
       try clear hfz20_1
       try clear hfz20_2
       try clear hfz22_0
       try clear hfz22_1
       try clear hfz22_2
       try clear hfz23_0
       try clear hfz23_1
       try clear hfz23_2
       try clear p2
       obtain ⟨x8_2, x9_2, rfl, rfl, HA, HK2, HO_7, BK925, BK930, HB⟩ := hrel
       cases gk with
       | zero => exact absurd HA.out (by simp [L16AttrFinds.l0])
       | succ k2 =>
        have H := HA.out
        clear HA
        simp only [L16AttrFinds.l0] at H
        by_cases c27 : x9_2 < (t931.length : Int)
        ·
         rw [if_pos c27] at H
         have c27b0 := decide_eq_true c27
         clear c27
         by_cases c28 : 0 ≤ x9_2
         ·
          rw [if_pos c28] at H
          have c28b0 := decide_eq_true c28
          clear c28
          replace H := Option.bind_eq_some_iff.mp H
          obtain ⟨⟨t935, t936, t937, t938⟩, A290, H⟩ := H
          replace H : (if t938 = true then (if x9_2 > 0 then (if 0 ≤ (wrap64 (x9_2 - 1)) then (if (wrap64 (x9_2 - 1)) < (t931.length : Int) then ((R01Less.f k2 (rdOf ByteArray.empty t931 (wrap64 (x9_2 - 1))) (rdOf ByteArray.empty t931 x9_2)).bind fun t942 => (if t942 ≥ 0 then (some false) else (if x8_2 = true then (L16AttrFinds.l0 k2 t924 t931 true (wrap64 (x9_2 + 1)) t921 t922 t923) else (L16AttrFinds.l0 k2 t924 t931 ((rdOf ByteArray.empty t931 x9_2).toList == t921.toList) (wrap64 (x9_2 + 1)) t921 t922 t923)))) else (none)) else (none)) else (if x8_2 = true then (L16AttrFinds.l0 k2 t924 t931 true (wrap64 (x9_2 + 1)) t921 t922 t923) else (L16AttrFinds.l0 k2 t924 t931 ((rdOf ByteArray.empty t931 x9_2).toList == t921.toList) (wrap64 (x9_2 + 1)) t921 t922 t923))) else (some false)) = some r := H
          have A29 := Aside0.mk A290
          clear A290
          by_cases c30 : t938 = true
          ·
           subst c30
           rw [if_pos rfl] at H
           by_cases c31 : x9_2 > 0
           ·
            rw [if_pos c31] at H
            have c31b0 := decide_eq_true c31
            clear c31
            obtain ⟨ji32, hji32⟩ : ∃ j_ : Int, (wrap64 (x9_2 - 1)) = j_ := ⟨_, rfl⟩
            replace H : (if 0 ≤ (ji32) then (if (ji32) < (t931.length : Int) then ((R01Less.f k2 (rdOf ByteArray.empty t931 (ji32)) (rdOf ByteArray.empty t931 x9_2)).bind fun t942 => (if t942 ≥ 0 then (some false) else (if x8_2 = true then (L16AttrFinds.l0 k2 t924 t931 true (wrap64 (x9_2 + 1)) t921 t922 t923) else (L16AttrFinds.l0 k2 t924 t931 ((rdOf ByteArray.empty t931 x9_2).toList == t921.toList) (wrap64 (x9_2 + 1)) t921 t922 t923)))) else (none)) else (none)) = some r := by first | (rw [hji32] at H; exact H) | (simp only [hji32] at H ⊢; exact H)
            (try rw [hji32] at A29)
            have hji32w : (IntKind.i64.wrap (x9_2 - 1)) = ji32 := (i64_w _).trans hji32
            by_cases c33 : 0 ≤ (ji32)
            ·
             rw [if_pos c33] at H
             have c33b0 := decide_eq_true c33
             clear c33
             by_cases c34 : (ji32) < (t931.length : Int)
             ·
              rw [if_pos c34] at H
              have c34b0 := decide_eq_true c34
              clear c34
              replace H := Option.bind_eq_some_iff.mp H
              obtain ⟨t942, A350, H⟩ := H
              replace H : (if t942 ≥ 0 then (some false) else (if x8_2 = true then (L16AttrFinds.l0 k2 t924 t931 true (wrap64 (x9_2 + 1)) t921 t922 t923) else (L16AttrFinds.l0 k2 t924 t931 ((rdOf ByteArray.empty t931 x9_2).toList == t921.toList) (wrap64 (x9_2 + 1)) t921 t922 t923))) = some r := H
              have A35 := Aside0.mk A350
              clear A350
              by_cases c36 : t942 ≥ 0
              ·
               rw [if_pos c36] at H
               have c36b0 := decide_eq_true c36
               clear c36
               obtain rfl := Option.some.inj H
               obtain ⟨Ao37, co37, eo37⟩ := Kd.R_slice HO_7.out
               subst eo37
               have p934 : 0 ≤ (x9_2 : Int) := of_decide_eq_true ap0
               have q934 : x9_2 < (t931.length : Int) := of_decide_eq_true ap0
               obtain ⟨ad934, e934, hx934_0⟩ := Kd.at_string (Kd.R_reads' HO_7.out).2.2 x9_2 p934 q934
               cases e934
               replace p934 := eq_true p934
               replace q934 := eq_true q934
               go_wp2_with (first | (go_at_call 22; (with_reducible refine (R16Find.calls k2 (rdOf ByteArray.empty t931 x9_2) t935 t936 t937 true _ A29.out).mono ?_); rintro e w38 ⟨rfl, hb⟩; have n0_ := Aside0.mk (Kd.R_below (apAR HO_7.out) hb); have n1_ := Aside0.mk (blk_below (g := gb925) (o := .cells #[.string t921, .int .i64 t922, .bool t923] 23 (0, 0)) (apB BK925.out) hb); have n2_ := Aside0.mk (blk_below (g := gb930) (o := .cells #[.string t926, .int .i64 t927, .bool t928] 23 (0, 0)) (apB BK930.out) hb); have n3_ := Aside0.mk (below_step (by repeat (first | (with_reducible first | exact HB.out | apply below_alloc | apply pw_below_drewN | apply below_drew1 | refine below_set ?_ GE925.out | refine below_set ?_ GE930.out) | exact HB.out)) hb); clear HO_7; clear BK925; clear BK930; clear HB; have HO_7 := n0_; have BK925 := n1_; have BK930 := n2_; have HB := n3_; clear n0_ n1_ n2_ n3_; (try clear hb); (try clear hb2); (try clear hk); (try clear hi)) | ((with_reducible refine gate_dst (N := 10) rfl ?_); refine box_event ?hg (N := 10) ?hd (cs := #[.string (⟨#[]⟩ : ByteArray), .int .i64 0, .bool false]) (t := 23) ?hr ?_; (case hd => rfl); (case hg => rfl); (case hr => first | (go_simp; done) | (go_simp; rfl)); intro gb939 hg w39 hbox hb; have n0_ := Aside0.mk (Kd.R_below (apAR HO_7.out) hb); have n1_ := Aside0.mk (blk_below (g := gb925) (o := .cells #[.string t921, .int .i64 t922, .bool t923] 23 (0, 0)) (apB BK925.out) hb); have n2_ := Aside0.mk (blk_below (g := gb930) (o := .cells #[.string t926, .int .i64 t927, .bool t928] 23 (0, 0)) (apB BK930.out) hb); have n3_ := Aside0.mk (below_step (by repeat (first | (with_reducible first | exact HB.out | apply below_alloc | apply pw_below_drewN | apply below_drew1 | refine below_set ?_ GE925.out | refine below_set ?_ GE930.out) | exact HB.out)) hb); have n4_ := Aside0.mk (hbox); have n5_ := Aside0.mk ((by rw [hg]; exact (below_size (by repeat (first | (with_reducible first | exact HB.out | apply below_alloc | apply pw_below_drewN | apply below_drew1 | refine below_set ?_ GE925.out | refine below_set ?_ GE930.out) | exact HB.out))) : w.heap.size ≤ gb939)); have n6_ := Aside0.mk ((by rw [hg]; exact (below_size (by repeat (first | (with_reducible first | exact HB.out | apply below_alloc | apply pw_below_drewN | apply below_drew1 | refine below_set ?_ GE925.out | refine below_set ?_ GE930.out) | exact HB.out))) : w.heap.size ≤ gb939)); have n7_ := Aside0.mk ((by rw [hg]; exact Nat.ne_of_lt (blk_lt (g := gb925) (o := .cells #[.string t921, .int .i64 t922, .bool t923] 23 (0, 0)) (apB BK925.out)) : gb925 ≠ gb939)); have n8_ := Aside0.mk ((by rw [hg]; exact Nat.ne_of_gt (blk_lt (g := gb925) (o := .cells #[.string t921, .int .i64 t922, .bool t923] 23 (0, 0)) (apB BK925.out)) : gb939 ≠ gb925)); have n9_ := Aside0.mk ((by rw [hg]; exact Nat.ne_of_lt (blk_lt (g := gb930) (o := .cells #[.string t926, .int .i64 t927, .bool t928] 23 (0, 0)) (apB BK930.out)) : gb930 ≠ gb939)); have n10_ := Aside0.mk ((by rw [hg]; exact Nat.ne_of_gt (blk_lt (g := gb930) (o := .cells #[.string t926, .int .i64 t927, .bool t928] 23 (0, 0)) (apB BK930.out)) : gb939 ≠ gb930)); clear HO_7; clear BK925; clear BK930; clear HB; have HO_7 := n0_; have BK925 := n1_; have BK930 := n2_; have HB := n3_; have BK939 := n4_; have GW939 := n5_; have GE939 := n6_; have NB925_939 := n7_; have NB939_925 := n8_; have NB930_939 := n9_; have NB939_930 := n10_; clear n0_ n1_ n2_ n3_ n4_ n5_ n6_ n7_ n8_ n9_ n10_; clear hb hbox hg; have hnb40 := NB939_925.out; have hnc40 := NB925_939.out; have hnb41 := NB939_930.out; have hnc41 := NB930_939.out; have hcz42_0 : w39.cell? ⟨gb939, 0, none⟩ = some (.string (⟨#[]⟩ : ByteArray)) := (blk_cell BK939.out 0).trans rfl; have hcz42_1 : w39.cell? ⟨gb939, 1, none⟩ = some (.int .i64 0) := (blk_cell BK939.out 1).trans rfl; have hcz42_2 : w39.cell? ⟨gb939, 2, none⟩ = some (.bool false) := (blk_cell BK939.out 2).trans rfl; have hfz42_0 := blk_frozen BK939.out 0; have hfz42_1 := blk_frozen BK939.out 1; have hfz42_2 := blk_frozen BK939.out 2; have p940 : 0 ≤ ((ji32) : Int) := of_decide_eq_true ap0; have q940 : (ji32) < (t931.length : Int) := of_decide_eq_true ap0; obtain ⟨ad940, e940, hx940_0⟩ := Kd.at_string (Kd.R_reads' HO_7.out).2.2 (ji32) p940 q940; obtain rfl : ad934 = ad940 := (by injection e940); have hn940_0 : ad934.block ≠ gb939 := Kd.own_blk (Kd.R_ne HO_7.out BK939.out (by decide)); have hn940_1 : ad934.block ≠ gb939 := Kd.own_blk (Kd.R_ne HO_7.out BK939.out (by decide)); have hn940_2 : ad934.block ≠ gb939 := Kd.own_blk (Kd.R_ne HO_7.out BK939.out (by decide)); replace hx940_0 := (cell_far (p := ⟨gb939, 0, none⟩) (by first | (rw [add_block]; exact hn940_0) | (show (Addr.add _ _).block ≠ _; rw [add_block]; exact hn940_0) | exact hn940_0) (.string t935)).trans hx940_0; replace hx940_0 := (cell_far (p := ⟨gb939, 1, none⟩) (by first | (rw [add_block]; exact hn940_1) | (show (Addr.add _ _).block ≠ _; rw [add_block]; exact hn940_1) | exact hn940_1) (.int .i64 t936)).trans hx940_0; replace hx940_0 := (cell_far (p := ⟨gb939, 2, none⟩) (by first | (rw [add_block]; exact hn940_2) | (show (Addr.add _ _).block ≠ _; rw [add_block]; exact hn940_2) | exact hn940_2) (.bool t937)).trans hx940_0; (try have hy940_0 := fun (n_ : Nat) => (show (((((w39.drewN n_).setCell ⟨gb939, 0, none⟩ (.string t935)).setCell ⟨gb939, 1, none⟩ (.int .i64 t936)).setCell ⟨gb939, 2, none⟩ (.bool t937))).cell? _ = some _ from hx940_0)); clear hn940_0; clear hn940_1; clear hn940_2; replace p940 := eq_true p940; replace q940 := eq_true q940; have p941 : 0 ≤ (x9_2 : Int) := of_decide_eq_true ap0; have q941 : x9_2 < (t931.length : Int) := of_decide_eq_true ap0; obtain ⟨ad941, e941, hx941_0⟩ := Kd.at_string (Kd.R_reads' HO_7.out).2.2 x9_2 p941 q941; obtain rfl : ad934 = ad941 := (by injection e941); have hn941_0 : ad934.block ≠ gb939 := Kd.own_blk (Kd.R_ne HO_7.out BK939.out (by decide)); have hn941_1 : ad934.block ≠ gb939 := Kd.own_blk (Kd.R_ne HO_7.out BK939.out (by decide)); have hn941_2 : ad934.block ≠ gb939 := Kd.own_blk (Kd.R_ne HO_7.out BK939.out (by decide)); replace hx941_0 := (cell_far (p := ⟨gb939, 0, none⟩) (by first | (rw [add_block]; exact hn941_0) | (show (Addr.add _ _).block ≠ _; rw [add_block]; exact hn941_0) | exact hn941_0) (.string t935)).trans hx941_0; replace hx941_0 := (cell_far (p := ⟨gb939, 1, none⟩) (by first | (rw [add_block]; exact hn941_1) | (show (Addr.add _ _).block ≠ _; rw [add_block]; exact hn941_1) | exact hn941_1) (.int .i64 t936)).trans hx941_0; replace hx941_0 := (cell_far (p := ⟨gb939, 2, none⟩) (by first | (rw [add_block]; exact hn941_2) | (show (Addr.add _ _).block ≠ _; rw [add_block]; exact hn941_2) | exact hn941_2) (.bool t937)).trans hx941_0; (try have hy941_0 := fun (n_ : Nat) => (show (((((w39.drewN n_).setCell ⟨gb939, 0, none⟩ (.string t935)).setCell ⟨gb939, 1, none⟩ (.int .i64 t936)).setCell ⟨gb939, 2, none⟩ (.bool t937))).cell? _ = some _ from hx941_0)); clear hn941_0; clear hn941_1; clear hn941_2; replace p941 := eq_true p941; replace q941 := eq_true q941) | (go_at_call 24; (with_reducible refine (R01Less.calls k2 (rdOf ByteArray.empty t931 (ji32)) (rdOf ByteArray.empty t931 x9_2) t942 _ A35.out).mono ?_); rintro e w' ⟨rfl, ⟨nd, rfl⟩⟩; (try exact ap4)))
               repeat (go_quiet (first | (go_at_call 22; (with_reducible refine (R16Find.calls k2 (rdOf ByteArray.empty t931 x9_2) t935 t936 t937 true _ A29.out).mono ?_); rintro e w38 ⟨rfl, hb⟩; have n0_ := Aside0.mk (Kd.R_below (apAR HO_7.out) hb); have n1_ := Aside0.mk (blk_below (g := gb925) (o := .cells #[.string t921, .int .i64 t922, .bool t923] 23 (0, 0)) (apB BK925.out) hb); have n2_ := Aside0.mk (blk_below (g := gb930) (o := .cells #[.string t926, .int .i64 t927, .bool t928] 23 (0, 0)) (apB BK930.out) hb); have n3_ := Aside0.mk (below_step (by repeat (first | (with_reducible first | exact HB.out | apply below_alloc | apply pw_below_drewN | apply below_drew1 | refine below_set ?_ GE925.out | refine below_set ?_ GE930.out) | exact HB.out)) hb); clear HO_7; clear BK925; clear BK930; clear HB; have HO_7 := n0_; have BK925 := n1_; have BK930 := n2_; have HB := n3_; clear n0_ n1_ n2_ n3_; (try clear hb); (try clear hb2); (try clear hk); (try clear hi)) | ((with_reducible refine gate_dst (N := 10) rfl ?_); refine box_event ?hg (N := 10) ?hd (cs := #[.string (⟨#[]⟩ : ByteArray), .int .i64 0, .bool false]) (t := 23) ?hr ?_; (case hd => rfl); (case hg => rfl); (case hr => first | (go_simp; done) | (go_simp; rfl)); intro gb939 hg w39 hbox hb; have n0_ := Aside0.mk (Kd.R_below (apAR HO_7.out) hb); have n1_ := Aside0.mk (blk_below (g := gb925) (o := .cells #[.string t921, .int .i64 t922, .bool t923] 23 (0, 0)) (apB BK925.out) hb); have n2_ := Aside0.mk (blk_below (g := gb930) (o := .cells #[.string t926, .int .i64 t927, .bool t928] 23 (0, 0)) (apB BK930.out) hb); have n3_ := Aside0.mk (below_step (by repeat (first | (with_reducible first | exact HB.out | apply below_alloc | apply pw_below_drewN | apply below_drew1 | refine below_set ?_ GE925.out | refine below_set ?_ GE930.out) | exact HB.out)) hb); have n4_ := Aside0.mk (hbox); have n5_ := Aside0.mk ((by rw [hg]; exact (below_size (by repeat (first | (with_reducible first | exact HB.out | apply below_alloc | apply pw_below_drewN | apply below_drew1 | refine below_set ?_ GE925.out | refine below_set ?_ GE930.out) | exact HB.out))) : w.heap.size ≤ gb939)); have n6_ := Aside0.mk ((by rw [hg]; exact (below_size (by repeat (first | (with_reducible first | exact HB.out | apply below_alloc | apply pw_below_drewN | apply below_drew1 | refine below_set ?_ GE925.out | refine below_set ?_ GE930.out) | exact HB.out))) : w.heap.size ≤ gb939)); have n7_ := Aside0.mk ((by rw [hg]; exact Nat.ne_of_lt (blk_lt (g := gb925) (o := .cells #[.string t921, .int .i64 t922, .bool t923] 23 (0, 0)) (apB BK925.out)) : gb925 ≠ gb939)); have n8_ := Aside0.mk ((by rw [hg]; exact Nat.ne_of_gt (blk_lt (g := gb925) (o := .cells #[.string t921, .int .i64 t922, .bool t923] 23 (0, 0)) (apB BK925.out)) : gb939 ≠ gb925)); have n9_ := Aside0.mk ((by rw [hg]; exact Nat.ne_of_lt (blk_lt (g := gb930) (o := .cells #[.string t926, .int .i64 t927, .bool t928] 23 (0, 0)) (apB BK930.out)) : gb930 ≠ gb939)); have n10_ := Aside0.mk ((by rw [hg]; exact Nat.ne_of_gt (blk_lt (g := gb930) (o := .cells #[.string t926, .int .i64 t927, .bool t928] 23 (0, 0)) (apB BK930.out)) : gb939 ≠ gb930)); clear HO_7; clear BK925; clear BK930; clear HB; have HO_7 := n0_; have BK925 := n1_; have BK930 := n2_; have HB := n3_; have BK939 := n4_; have GW939 := n5_; have GE939 := n6_; have NB925_939 := n7_; have NB939_925 := n8_; have NB930_939 := n9_; have NB939_930 := n10_; clear n0_ n1_ n2_ n3_ n4_ n5_ n6_ n7_ n8_ n9_ n10_; clear hb hbox hg; have hnb40 := NB939_925.out; have hnc40 := NB925_939.out; have hnb41 := NB939_930.out; have hnc41 := NB930_939.out; have hcz42_0 : w39.cell? ⟨gb939, 0, none⟩ = some (.string (⟨#[]⟩ : ByteArray)) := (blk_cell BK939.out 0).trans rfl; have hcz42_1 : w39.cell? ⟨gb939, 1, none⟩ = some (.int .i64 0) := (blk_cell BK939.out 1).trans rfl; have hcz42_2 : w39.cell? ⟨gb939, 2, none⟩ = some (.bool false) := (blk_cell BK939.out 2).trans rfl; have hfz42_0 := blk_frozen BK939.out 0; have hfz42_1 := blk_frozen BK939.out 1; have hfz42_2 := blk_frozen BK939.out 2; have p940 : 0 ≤ ((ji32) : Int) := of_decide_eq_true ap0; have q940 : (ji32) < (t931.length : Int) := of_decide_eq_true ap0; obtain ⟨ad940, e940, hx940_0⟩ := Kd.at_string (Kd.R_reads' HO_7.out).2.2 (ji32) p940 q940; obtain rfl : ad934 = ad940 := (by injection e940); have hn940_0 : ad934.block ≠ gb939 := Kd.own_blk (Kd.R_ne HO_7.out BK939.out (by decide)); have hn940_1 : ad934.block ≠ gb939 := Kd.own_blk (Kd.R_ne HO_7.out BK939.out (by decide)); have hn940_2 : ad934.block ≠ gb939 := Kd.own_blk (Kd.R_ne HO_7.out BK939.out (by decide)); replace hx940_0 := (cell_far (p := ⟨gb939, 0, none⟩) (by first | (rw [add_block]; exact hn940_0) | (show (Addr.add _ _).block ≠ _; rw [add_block]; exact hn940_0) | exact hn940_0) (.string t935)).trans hx940_0; replace hx940_0 := (cell_far (p := ⟨gb939, 1, none⟩) (by first | (rw [add_block]; exact hn940_1) | (show (Addr.add _ _).block ≠ _; rw [add_block]; exact hn940_1) | exact hn940_1) (.int .i64 t936)).trans hx940_0; replace hx940_0 := (cell_far (p := ⟨gb939, 2, none⟩) (by first | (rw [add_block]; exact hn940_2) | (show (Addr.add _ _).block ≠ _; rw [add_block]; exact hn940_2) | exact hn940_2) (.bool t937)).trans hx940_0; (try have hy940_0 := fun (n_ : Nat) => (show (((((w39.drewN n_).setCell ⟨gb939, 0, none⟩ (.string t935)).setCell ⟨gb939, 1, none⟩ (.int .i64 t936)).setCell ⟨gb939, 2, none⟩ (.bool t937))).cell? _ = some _ from hx940_0)); clear hn940_0; clear hn940_1; clear hn940_2; replace p940 := eq_true p940; replace q940 := eq_true q940; have p941 : 0 ≤ (x9_2 : Int) := of_decide_eq_true ap0; have q941 : x9_2 < (t931.length : Int) := of_decide_eq_true ap0; obtain ⟨ad941, e941, hx941_0⟩ := Kd.at_string (Kd.R_reads' HO_7.out).2.2 x9_2 p941 q941; obtain rfl : ad934 = ad941 := (by injection e941); have hn941_0 : ad934.block ≠ gb939 := Kd.own_blk (Kd.R_ne HO_7.out BK939.out (by decide)); have hn941_1 : ad934.block ≠ gb939 := Kd.own_blk (Kd.R_ne HO_7.out BK939.out (by decide)); have hn941_2 : ad934.block ≠ gb939 := Kd.own_blk (Kd.R_ne HO_7.out BK939.out (by decide)); replace hx941_0 := (cell_far (p := ⟨gb939, 0, none⟩) (by first | (rw [add_block]; exact hn941_0) | (show (Addr.add _ _).block ≠ _; rw [add_block]; exact hn941_0) | exact hn941_0) (.string t935)).trans hx941_0; replace hx941_0 := (cell_far (p := ⟨gb939, 1, none⟩) (by first | (rw [add_block]; exact hn941_1) | (show (Addr.add _ _).block ≠ _; rw [add_block]; exact hn941_1) | exact hn941_1) (.int .i64 t936)).trans hx941_0; replace hx941_0 := (cell_far (p := ⟨gb939, 2, none⟩) (by first | (rw [add_block]; exact hn941_2) | (show (Addr.add _ _).block ≠ _; rw [add_block]; exact hn941_2) | exact hn941_2) (.bool t937)).trans hx941_0; (try have hy941_0 := fun (n_ : Nat) => (show (((((w39.drewN n_).setCell ⟨gb939, 0, none⟩ (.string t935)).setCell ⟨gb939, 1, none⟩ (.int .i64 t936)).setCell ⟨gb939, 2, none⟩ (.bool t937))).cell? _ = some _ from hx941_0)); clear hn941_0; clear hn941_1; clear hn941_2; replace p941 := eq_true p941; replace q941 := eq_true q941) | (go_at_call 24; (with_reducible refine (R01Less.calls k2 (rdOf ByteArray.empty t931 (ji32)) (rdOf ByteArray.empty t931 x9_2) t942 _ A35.out).mono ?_); rintro e w' ⟨rfl, ⟨nd, rfl⟩⟩; (try exact ap4))); try go_wp2_with (first | (go_at_call 22; (with_reducible refine (R16Find.calls k2 (rdOf ByteArray.empty t931 x9_2) t935 t936 t937 true _ A29.out).mono ?_); rintro e w38 ⟨rfl, hb⟩; have n0_ := Aside0.mk (Kd.R_below (apAR HO_7.out) hb); have n1_ := Aside0.mk (blk_below (g := gb925) (o := .cells #[.string t921, .int .i64 t922, .bool t923] 23 (0, 0)) (apB BK925.out) hb); have n2_ := Aside0.mk (blk_below (g := gb930) (o := .cells #[.string t926, .int .i64 t927, .bool t928] 23 (0, 0)) (apB BK930.out) hb); have n3_ := Aside0.mk (below_step (by repeat (first | (with_reducible first | exact HB.out | apply below_alloc | apply pw_below_drewN | apply below_drew1 | refine below_set ?_ GE925.out | refine below_set ?_ GE930.out) | exact HB.out)) hb); clear HO_7; clear BK925; clear BK930; clear HB; have HO_7 := n0_; have BK925 := n1_; have BK930 := n2_; have HB := n3_; clear n0_ n1_ n2_ n3_; (try clear hb); (try clear hb2); (try clear hk); (try clear hi)) | ((with_reducible refine gate_dst (N := 10) rfl ?_); refine box_event ?hg (N := 10) ?hd (cs := #[.string (⟨#[]⟩ : ByteArray), .int .i64 0, .bool false]) (t := 23) ?hr ?_; (case hd => rfl); (case hg => rfl); (case hr => first | (go_simp; done) | (go_simp; rfl)); intro gb939 hg w39 hbox hb; have n0_ := Aside0.mk (Kd.R_below (apAR HO_7.out) hb); have n1_ := Aside0.mk (blk_below (g := gb925) (o := .cells #[.string t921, .int .i64 t922, .bool t923] 23 (0, 0)) (apB BK925.out) hb); have n2_ := Aside0.mk (blk_below (g := gb930) (o := .cells #[.string t926, .int .i64 t927, .bool t928] 23 (0, 0)) (apB BK930.out) hb); have n3_ := Aside0.mk (below_step (by repeat (first | (with_reducible first | exact HB.out | apply below_alloc | apply pw_below_drewN | apply below_drew1 | refine below_set ?_ GE925.out | refine below_set ?_ GE930.out) | exact HB.out)) hb); have n4_ := Aside0.mk (hbox); have n5_ := Aside0.mk ((by rw [hg]; exact (below_size (by repeat (first | (with_reducible first | exact HB.out | apply below_alloc | apply pw_below_drewN | apply below_drew1 | refine below_set ?_ GE925.out | refine below_set ?_ GE930.out) | exact HB.out))) : w.heap.size ≤ gb939)); have n6_ := Aside0.mk ((by rw [hg]; exact (below_size (by repeat (first | (with_reducible first | exact HB.out | apply below_alloc | apply pw_below_drewN | apply below_drew1 | refine below_set ?_ GE925.out | refine below_set ?_ GE930.out) | exact HB.out))) : w.heap.size ≤ gb939)); have n7_ := Aside0.mk ((by rw [hg]; exact Nat.ne_of_lt (blk_lt (g := gb925) (o := .cells #[.string t921, .int .i64 t922, .bool t923] 23 (0, 0)) (apB BK925.out)) : gb925 ≠ gb939)); have n8_ := Aside0.mk ((by rw [hg]; exact Nat.ne_of_gt (blk_lt (g := gb925) (o := .cells #[.string t921, .int .i64 t922, .bool t923] 23 (0, 0)) (apB BK925.out)) : gb939 ≠ gb925)); have n9_ := Aside0.mk ((by rw [hg]; exact Nat.ne_of_lt (blk_lt (g := gb930) (o := .cells #[.string t926, .int .i64 t927, .bool t928] 23 (0, 0)) (apB BK930.out)) : gb930 ≠ gb939)); have n10_ := Aside0.mk ((by rw [hg]; exact Nat.ne_of_gt (blk_lt (g := gb930) (o := .cells #[.string t926, .int .i64 t927, .bool t928] 23 (0, 0)) (apB BK930.out)) : gb939 ≠ gb930)); clear HO_7; clear BK925; clear BK930; clear HB; have HO_7 := n0_; have BK925 := n1_; have BK930 := n2_; have HB := n3_; have BK939 := n4_; have GW939 := n5_; have GE939 := n6_; have NB925_939 := n7_; have NB939_925 := n8_; have NB930_939 := n9_; have NB939_930 := n10_; clear n0_ n1_ n2_ n3_ n4_ n5_ n6_ n7_ n8_ n9_ n10_; clear hb hbox hg; have hnb40 := NB939_925.out; have hnc40 := NB925_939.out; have hnb41 := NB939_930.out; have hnc41 := NB930_939.out; have hcz42_0 : w39.cell? ⟨gb939, 0, none⟩ = some (.string (⟨#[]⟩ : ByteArray)) := (blk_cell BK939.out 0).trans rfl; have hcz42_1 : w39.cell? ⟨gb939, 1, none⟩ = some (.int .i64 0) := (blk_cell BK939.out 1).trans rfl; have hcz42_2 : w39.cell? ⟨gb939, 2, none⟩ = some (.bool false) := (blk_cell BK939.out 2).trans rfl; have hfz42_0 := blk_frozen BK939.out 0; have hfz42_1 := blk_frozen BK939.out 1; have hfz42_2 := blk_frozen BK939.out 2; have p940 : 0 ≤ ((ji32) : Int) := of_decide_eq_true ap0; have q940 : (ji32) < (t931.length : Int) := of_decide_eq_true ap0; obtain ⟨ad940, e940, hx940_0⟩ := Kd.at_string (Kd.R_reads' HO_7.out).2.2 (ji32) p940 q940; obtain rfl : ad934 = ad940 := (by injection e940); have hn940_0 : ad934.block ≠ gb939 := Kd.own_blk (Kd.R_ne HO_7.out BK939.out (by decide)); have hn940_1 : ad934.block ≠ gb939 := Kd.own_blk (Kd.R_ne HO_7.out BK939.out (by decide)); have hn940_2 : ad934.block ≠ gb939 := Kd.own_blk (Kd.R_ne HO_7.out BK939.out (by decide)); replace hx940_0 := (cell_far (p := ⟨gb939, 0, none⟩) (by first | (rw [add_block]; exact hn940_0) | (show (Addr.add _ _).block ≠ _; rw [add_block]; exact hn940_0) | exact hn940_0) (.string t935)).trans hx940_0; replace hx940_0 := (cell_far (p := ⟨gb939, 1, none⟩) (by first | (rw [add_block]; exact hn940_1) | (show (Addr.add _ _).block ≠ _; rw [add_block]; exact hn940_1) | exact hn940_1) (.int .i64 t936)).trans hx940_0; replace hx940_0 := (cell_far (p := ⟨gb939, 2, none⟩) (by first | (rw [add_block]; exact hn940_2) | (show (Addr.add _ _).block ≠ _; rw [add_block]; exact hn940_2) | exact hn940_2) (.bool t937)).trans hx940_0; (try have hy940_0 := fun (n_ : Nat) => (show (((((w39.drewN n_).setCell ⟨gb939, 0, none⟩ (.string t935)).setCell ⟨gb939, 1, none⟩ (.int .i64 t936)).setCell ⟨gb939, 2, none⟩ (.bool t937))).cell? _ = some _ from hx940_0)); clear hn940_0; clear hn940_1; clear hn940_2; replace p940 := eq_true p940; replace q940 := eq_true q940; have p941 : 0 ≤ (x9_2 : Int) := of_decide_eq_true ap0; have q941 : x9_2 < (t931.length : Int) := of_decide_eq_true ap0; obtain ⟨ad941, e941, hx941_0⟩ := Kd.at_string (Kd.R_reads' HO_7.out).2.2 x9_2 p941 q941; obtain rfl : ad934 = ad941 := (by injection e941); have hn941_0 : ad934.block ≠ gb939 := Kd.own_blk (Kd.R_ne HO_7.out BK939.out (by decide)); have hn941_1 : ad934.block ≠ gb939 := Kd.own_blk (Kd.R_ne HO_7.out BK939.out (by decide)); have hn941_2 : ad934.block ≠ gb939 := Kd.own_blk (Kd.R_ne HO_7.out BK939.out (by decide)); replace hx941_0 := (cell_far (p := ⟨gb939, 0, none⟩) (by first | (rw [add_block]; exact hn941_0) | (show (Addr.add _ _).block ≠ _; rw [add_block]; exact hn941_0) | exact hn941_0) (.string t935)).trans hx941_0; replace hx941_0 := (cell_far (p := ⟨gb939, 1, none⟩) (by first | (rw [add_block]; exact hn941_1) | (show (Addr.add _ _).block ≠ _; rw [add_block]; exact hn941_1) | exact hn941_1) (.int .i64 t936)).trans hx941_0; replace hx941_0 := (cell_far (p := ⟨gb939, 2, none⟩) (by first | (rw [add_block]; exact hn941_2) | (show (Addr.add _ _).block ≠ _; rw [add_block]; exact hn941_2) | exact hn941_2) (.bool t937)).trans hx941_0; (try have hy941_0 := fun (n_ : Nat) => (show (((((w39.drewN n_).setCell ⟨gb939, 0, none⟩ (.string t935)).setCell ⟨gb939, 1, none⟩ (.int .i64 t936)).setCell ⟨gb939, 2, none⟩ (.bool t937))).cell? _ = some _ from hx941_0)); clear hn941_0; clear hn941_1; clear hn941_2; replace p941 := eq_true p941; replace q941 := eq_true q941) | (go_at_call 24; (with_reducible refine (R01Less.calls k2 (rdOf ByteArray.empty t931 (ji32)) (rdOf ByteArray.empty t931 x9_2) t942 _ A35.out).mono ?_); rintro e w' ⟨rfl, ⟨nd, rfl⟩⟩; (try exact ap4))))
               go_ret
               exact ⟨by first | rfl | (simp [errW_none, errW_some, bne_nil8, beq_nil8]; done) | (simp [errW_none, errW_some] <;> rfl) | (simp only [← hji32]; first | rfl | (simp [errW_none, errW_some] <;> rfl)) | (simp [*, errW_none, errW_some] <;> rfl), by repeat (first | (with_reducible first | exact HB.out | apply below_alloc | apply pw_below_drewN | apply below_drew1 | refine below_set ?_ GE925.out | refine below_set ?_ GE930.out | refine below_set ?_ GE939.out) | exact HB.out)⟩
              ·
               rw [if_neg c36] at H
               have c36b0 := decide_eq_false c36
               clear c36
               by_cases c43 : x8_2 = true
               ·
                subst c43
                rw [if_pos rfl] at H
                have H' := Aside0.mk H
                clear H
                obtain ⟨Ao44, co44, eo44⟩ := Kd.R_slice HO_7.out
                subst eo44
                have p934 : 0 ≤ (x9_2 : Int) := of_decide_eq_true ap0
                have q934 : x9_2 < (t931.length : Int) := of_decide_eq_true ap0
                obtain ⟨ad934, e934, hx934_0⟩ := Kd.at_string (Kd.R_reads' HO_7.out).2.2 x9_2 p934 q934
                cases e934
                replace p934 := eq_true p934
                replace q934 := eq_true q934
                go_wp2_with (first | (go_at_call 22; (with_reducible refine (R16Find.calls k2 (rdOf ByteArray.empty t931 x9_2) t935 t936 t937 true _ A29.out).mono ?_); rintro e w45 ⟨rfl, hb⟩; have n0_ := Aside0.mk (Kd.R_below (apAR HO_7.out) hb); have n1_ := Aside0.mk (blk_below (g := gb925) (o := .cells #[.string t921, .int .i64 t922, .bool t923] 23 (0, 0)) (apB BK925.out) hb); have n2_ := Aside0.mk (blk_below (g := gb930) (o := .cells #[.string t926, .int .i64 t927, .bool t928] 23 (0, 0)) (apB BK930.out) hb); have n3_ := Aside0.mk (below_step (by repeat (first | (with_reducible first | exact HB.out | apply below_alloc | apply pw_below_drewN | apply below_drew1 | refine below_set ?_ GE925.out | refine below_set ?_ GE930.out) | exact HB.out)) hb); clear HO_7; clear BK925; clear BK930; clear HB; have HO_7 := n0_; have BK925 := n1_; have BK930 := n2_; have HB := n3_; clear n0_ n1_ n2_ n3_; (try clear hb); (try clear hb2); (try clear hk); (try clear hi)) | ((with_reducible refine gate_dst (N := 10) rfl ?_); refine box_event ?hg (N := 10) ?hd (cs := #[.string (⟨#[]⟩ : ByteArray), .int .i64 0, .bool false]) (t := 23) ?hr ?_; (case hd => rfl); (case hg => rfl); (case hr => first | (go_simp; done) | (go_simp; rfl)); intro gb939 hg w46 hbox hb; have n0_ := Aside0.mk (Kd.R_below (apAR HO_7.out) hb); have n1_ := Aside0.mk (blk_below (g := gb925) (o := .cells #[.string t921, .int .i64 t922, .bool t923] 23 (0, 0)) (apB BK925.out) hb); have n2_ := Aside0.mk (blk_below (g := gb930) (o := .cells #[.string t926, .int .i64 t927, .bool t928] 23 (0, 0)) (apB BK930.out) hb); have n3_ := Aside0.mk (below_step (by repeat (first | (with_reducible first | exact HB.out | apply below_alloc | apply pw_below_drewN | apply below_drew1 | refine below_set ?_ GE925.out | refine below_set ?_ GE930.out) | exact HB.out)) hb); have n4_ := Aside0.mk (hbox); have n5_ := Aside0.mk ((by rw [hg]; exact (below_size (by repeat (first | (with_reducible first | exact HB.out | apply below_alloc | apply pw_below_drewN | apply below_drew1 | refine below_set ?_ GE925.out | refine below_set ?_ GE930.out) | exact HB.out))) : w.heap.size ≤ gb939)); have n6_ := Aside0.mk ((by rw [hg]; exact (below_size (by repeat (first | (with_reducible first | exact HB.out | apply below_alloc | apply pw_below_drewN | apply below_drew1 | refine below_set ?_ GE925.out | refine below_set ?_ GE930.out) | exact HB.out))) : w.heap.size ≤ gb939)); have n7_ := Aside0.mk ((by rw [hg]; exact Nat.ne_of_lt (blk_lt (g := gb925) (o := .cells #[.string t921, .int .i64 t922, .bool t923] 23 (0, 0)) (apB BK925.out)) : gb925 ≠ gb939)); have n8_ := Aside0.mk ((by rw [hg]; exact Nat.ne_of_gt (blk_lt (g := gb925) (o := .cells #[.string t921, .int .i64 t922, .bool t923] 23 (0, 0)) (apB BK925.out)) : gb939 ≠ gb925)); have n9_ := Aside0.mk ((by rw [hg]; exact Nat.ne_of_lt (blk_lt (g := gb930) (o := .cells #[.string t926, .int .i64 t927, .bool t928] 23 (0, 0)) (apB BK930.out)) : gb930 ≠ gb939)); have n10_ := Aside0.mk ((by rw [hg]; exact Nat.ne_of_gt (blk_lt (g := gb930) (o := .cells #[.string t926, .int .i64 t927, .bool t928] 23 (0, 0)) (apB BK930.out)) : gb939 ≠ gb930)); clear HO_7; clear BK925; clear BK930; clear HB; have HO_7 := n0_; have BK925 := n1_; have BK930 := n2_; have HB := n3_; have BK939 := n4_; have GW939 := n5_; have GE939 := n6_; have NB925_939 := n7_; have NB939_925 := n8_; have NB930_939 := n9_; have NB939_930 := n10_; clear n0_ n1_ n2_ n3_ n4_ n5_ n6_ n7_ n8_ n9_ n10_; clear hb hbox hg; have hnb47 := NB939_925.out; have hnc47 := NB925_939.out; have hnb48 := NB939_930.out; have hnc48 := NB930_939.out; have hcz49_0 : w46.cell? ⟨gb939, 0, none⟩ = some (.string (⟨#[]⟩ : ByteArray)) := (blk_cell BK939.out 0).trans rfl; have hcz49_1 : w46.cell? ⟨gb939, 1, none⟩ = some (.int .i64 0) := (blk_cell BK939.out 1).trans rfl; have hcz49_2 : w46.cell? ⟨gb939, 2, none⟩ = some (.bool false) := (blk_cell BK939.out 2).trans rfl; have hfz49_0 := blk_frozen BK939.out 0; have hfz49_1 := blk_frozen BK939.out 1; have hfz49_2 := blk_frozen BK939.out 2; have p940 : 0 ≤ ((ji32) : Int) := of_decide_eq_true ap0; have q940 : (ji32) < (t931.length : Int) := of_decide_eq_true ap0; obtain ⟨ad940, e940, hx940_0⟩ := Kd.at_string (Kd.R_reads' HO_7.out).2.2 (ji32) p940 q940; obtain rfl : ad934 = ad940 := (by injection e940); have hn940_0 : ad934.block ≠ gb939 := Kd.own_blk (Kd.R_ne HO_7.out BK939.out (by decide)); have hn940_1 : ad934.block ≠ gb939 := Kd.own_blk (Kd.R_ne HO_7.out BK939.out (by decide)); have hn940_2 : ad934.block ≠ gb939 := Kd.own_blk (Kd.R_ne HO_7.out BK939.out (by decide)); replace hx940_0 := (cell_far (p := ⟨gb939, 0, none⟩) (by first | (rw [add_block]; exact hn940_0) | (show (Addr.add _ _).block ≠ _; rw [add_block]; exact hn940_0) | exact hn940_0) (.string t935)).trans hx940_0; replace hx940_0 := (cell_far (p := ⟨gb939, 1, none⟩) (by first | (rw [add_block]; exact hn940_1) | (show (Addr.add _ _).block ≠ _; rw [add_block]; exact hn940_1) | exact hn940_1) (.int .i64 t936)).trans hx940_0; replace hx940_0 := (cell_far (p := ⟨gb939, 2, none⟩) (by first | (rw [add_block]; exact hn940_2) | (show (Addr.add _ _).block ≠ _; rw [add_block]; exact hn940_2) | exact hn940_2) (.bool t937)).trans hx940_0; (try have hy940_0 := fun (n_ : Nat) => (show (((((w46.drewN n_).setCell ⟨gb939, 0, none⟩ (.string t935)).setCell ⟨gb939, 1, none⟩ (.int .i64 t936)).setCell ⟨gb939, 2, none⟩ (.bool t937))).cell? _ = some _ from hx940_0)); clear hn940_0; clear hn940_1; clear hn940_2; replace p940 := eq_true p940; replace q940 := eq_true q940; have p941 : 0 ≤ (x9_2 : Int) := of_decide_eq_true ap0; have q941 : x9_2 < (t931.length : Int) := of_decide_eq_true ap0; obtain ⟨ad941, e941, hx941_0⟩ := Kd.at_string (Kd.R_reads' HO_7.out).2.2 x9_2 p941 q941; obtain rfl : ad934 = ad941 := (by injection e941); have hn941_0 : ad934.block ≠ gb939 := Kd.own_blk (Kd.R_ne HO_7.out BK939.out (by decide)); have hn941_1 : ad934.block ≠ gb939 := Kd.own_blk (Kd.R_ne HO_7.out BK939.out (by decide)); have hn941_2 : ad934.block ≠ gb939 := Kd.own_blk (Kd.R_ne HO_7.out BK939.out (by decide)); replace hx941_0 := (cell_far (p := ⟨gb939, 0, none⟩) (by first | (rw [add_block]; exact hn941_0) | (show (Addr.add _ _).block ≠ _; rw [add_block]; exact hn941_0) | exact hn941_0) (.string t935)).trans hx941_0; replace hx941_0 := (cell_far (p := ⟨gb939, 1, none⟩) (by first | (rw [add_block]; exact hn941_1) | (show (Addr.add _ _).block ≠ _; rw [add_block]; exact hn941_1) | exact hn941_1) (.int .i64 t936)).trans hx941_0; replace hx941_0 := (cell_far (p := ⟨gb939, 2, none⟩) (by first | (rw [add_block]; exact hn941_2) | (show (Addr.add _ _).block ≠ _; rw [add_block]; exact hn941_2) | exact hn941_2) (.bool t937)).trans hx941_0; (try have hy941_0 := fun (n_ : Nat) => (show (((((w46.drewN n_).setCell ⟨gb939, 0, none⟩ (.string t935)).setCell ⟨gb939, 1, none⟩ (.int .i64 t936)).setCell ⟨gb939, 2, none⟩ (.bool t937))).cell? _ = some _ from hx941_0)); clear hn941_0; clear hn941_1; clear hn941_2; replace p941 := eq_true p941; replace q941 := eq_true q941) | (go_at_call 24; (with_reducible refine (R01Less.calls k2 (rdOf ByteArray.empty t931 (ji32)) (rdOf ByteArray.empty t931 x9_2) t942 _ A35.out).mono ?_); rintro e w' ⟨rfl, ⟨nd, rfl⟩⟩; (try exact ap4)))
                repeat (go_quiet (first | (go_at_call 22; (with_reducible refine (R16Find.calls k2 (rdOf ByteArray.empty t931 x9_2) t935 t936 t937 true _ A29.out).mono ?_); rintro e w45 ⟨rfl, hb⟩; have n0_ := Aside0.mk (Kd.R_below (apAR HO_7.out) hb); have n1_ := Aside0.mk (blk_below (g := gb925) (o := .cells #[.string t921, .int .i64 t922, .bool t923] 23 (0, 0)) (apB BK925.out) hb); have n2_ := Aside0.mk (blk_below (g := gb930) (o := .cells #[.string t926, .int .i64 t927, .bool t928] 23 (0, 0)) (apB BK930.out) hb); have n3_ := Aside0.mk (below_step (by repeat (first | (with_reducible first | exact HB.out | apply below_alloc | apply pw_below_drewN | apply below_drew1 | refine below_set ?_ GE925.out | refine below_set ?_ GE930.out) | exact HB.out)) hb); clear HO_7; clear BK925; clear BK930; clear HB; have HO_7 := n0_; have BK925 := n1_; have BK930 := n2_; have HB := n3_; clear n0_ n1_ n2_ n3_; (try clear hb); (try clear hb2); (try clear hk); (try clear hi)) | ((with_reducible refine gate_dst (N := 10) rfl ?_); refine box_event ?hg (N := 10) ?hd (cs := #[.string (⟨#[]⟩ : ByteArray), .int .i64 0, .bool false]) (t := 23) ?hr ?_; (case hd => rfl); (case hg => rfl); (case hr => first | (go_simp; done) | (go_simp; rfl)); intro gb939 hg w46 hbox hb; have n0_ := Aside0.mk (Kd.R_below (apAR HO_7.out) hb); have n1_ := Aside0.mk (blk_below (g := gb925) (o := .cells #[.string t921, .int .i64 t922, .bool t923] 23 (0, 0)) (apB BK925.out) hb); have n2_ := Aside0.mk (blk_below (g := gb930) (o := .cells #[.string t926, .int .i64 t927, .bool t928] 23 (0, 0)) (apB BK930.out) hb); have n3_ := Aside0.mk (below_step (by repeat (first | (with_reducible first | exact HB.out | apply below_alloc | apply pw_below_drewN | apply below_drew1 | refine below_set ?_ GE925.out | refine below_set ?_ GE930.out) | exact HB.out)) hb); have n4_ := Aside0.mk (hbox); have n5_ := Aside0.mk ((by rw [hg]; exact (below_size (by repeat (first | (with_reducible first | exact HB.out | apply below_alloc | apply pw_below_drewN | apply below_drew1 | refine below_set ?_ GE925.out | refine below_set ?_ GE930.out) | exact HB.out))) : w.heap.size ≤ gb939)); have n6_ := Aside0.mk ((by rw [hg]; exact (below_size (by repeat (first | (with_reducible first | exact HB.out | apply below_alloc | apply pw_below_drewN | apply below_drew1 | refine below_set ?_ GE925.out | refine below_set ?_ GE930.out) | exact HB.out))) : w.heap.size ≤ gb939)); have n7_ := Aside0.mk ((by rw [hg]; exact Nat.ne_of_lt (blk_lt (g := gb925) (o := .cells #[.string t921, .int .i64 t922, .bool t923] 23 (0, 0)) (apB BK925.out)) : gb925 ≠ gb939)); have n8_ := Aside0.mk ((by rw [hg]; exact Nat.ne_of_gt (blk_lt (g := gb925) (o := .cells #[.string t921, .int .i64 t922, .bool t923] 23 (0, 0)) (apB BK925.out)) : gb939 ≠ gb925)); have n9_ := Aside0.mk ((by rw [hg]; exact Nat.ne_of_lt (blk_lt (g := gb930) (o := .cells #[.string t926, .int .i64 t927, .bool t928] 23 (0, 0)) (apB BK930.out)) : gb930 ≠ gb939)); have n10_ := Aside0.mk ((by rw [hg]; exact Nat.ne_of_gt (blk_lt (g := gb930) (o := .cells #[.string t926, .int .i64 t927, .bool t928] 23 (0, 0)) (apB BK930.out)) : gb939 ≠ gb930)); clear HO_7; clear BK925; clear BK930; clear HB; have HO_7 := n0_; have BK925 := n1_; have BK930 := n2_; have HB := n3_; have BK939 := n4_; have GW939 := n5_; have GE939 := n6_; have NB925_939 := n7_; have NB939_925 := n8_; have NB930_939 := n9_; have NB939_930 := n10_; clear n0_ n1_ n2_ n3_ n4_ n5_ n6_ n7_ n8_ n9_ n10_; clear hb hbox hg; have hnb47 := NB939_925.out; have hnc47 := NB925_939.out; have hnb48 := NB939_930.out; have hnc48 := NB930_939.out; have hcz49_0 : w46.cell? ⟨gb939, 0, none⟩ = some (.string (⟨#[]⟩ : ByteArray)) := (blk_cell BK939.out 0).trans rfl; have hcz49_1 : w46.cell? ⟨gb939, 1, none⟩ = some (.int .i64 0) := (blk_cell BK939.out 1).trans rfl; have hcz49_2 : w46.cell? ⟨gb939, 2, none⟩ = some (.bool false) := (blk_cell BK939.out 2).trans rfl; have hfz49_0 := blk_frozen BK939.out 0; have hfz49_1 := blk_frozen BK939.out 1; have hfz49_2 := blk_frozen BK939.out 2; have p940 : 0 ≤ ((ji32) : Int) := of_decide_eq_true ap0; have q940 : (ji32) < (t931.length : Int) := of_decide_eq_true ap0; obtain ⟨ad940, e940, hx940_0⟩ := Kd.at_string (Kd.R_reads' HO_7.out).2.2 (ji32) p940 q940; obtain rfl : ad934 = ad940 := (by injection e940); have hn940_0 : ad934.block ≠ gb939 := Kd.own_blk (Kd.R_ne HO_7.out BK939.out (by decide)); have hn940_1 : ad934.block ≠ gb939 := Kd.own_blk (Kd.R_ne HO_7.out BK939.out (by decide)); have hn940_2 : ad934.block ≠ gb939 := Kd.own_blk (Kd.R_ne HO_7.out BK939.out (by decide)); replace hx940_0 := (cell_far (p := ⟨gb939, 0, none⟩) (by first | (rw [add_block]; exact hn940_0) | (show (Addr.add _ _).block ≠ _; rw [add_block]; exact hn940_0) | exact hn940_0) (.string t935)).trans hx940_0; replace hx940_0 := (cell_far (p := ⟨gb939, 1, none⟩) (by first | (rw [add_block]; exact hn940_1) | (show (Addr.add _ _).block ≠ _; rw [add_block]; exact hn940_1) | exact hn940_1) (.int .i64 t936)).trans hx940_0; replace hx940_0 := (cell_far (p := ⟨gb939, 2, none⟩) (by first | (rw [add_block]; exact hn940_2) | (show (Addr.add _ _).block ≠ _; rw [add_block]; exact hn940_2) | exact hn940_2) (.bool t937)).trans hx940_0; (try have hy940_0 := fun (n_ : Nat) => (show (((((w46.drewN n_).setCell ⟨gb939, 0, none⟩ (.string t935)).setCell ⟨gb939, 1, none⟩ (.int .i64 t936)).setCell ⟨gb939, 2, none⟩ (.bool t937))).cell? _ = some _ from hx940_0)); clear hn940_0; clear hn940_1; clear hn940_2; replace p940 := eq_true p940; replace q940 := eq_true q940; have p941 : 0 ≤ (x9_2 : Int) := of_decide_eq_true ap0; have q941 : x9_2 < (t931.length : Int) := of_decide_eq_true ap0; obtain ⟨ad941, e941, hx941_0⟩ := Kd.at_string (Kd.R_reads' HO_7.out).2.2 x9_2 p941 q941; obtain rfl : ad934 = ad941 := (by injection e941); have hn941_0 : ad934.block ≠ gb939 := Kd.own_blk (Kd.R_ne HO_7.out BK939.out (by decide)); have hn941_1 : ad934.block ≠ gb939 := Kd.own_blk (Kd.R_ne HO_7.out BK939.out (by decide)); have hn941_2 : ad934.block ≠ gb939 := Kd.own_blk (Kd.R_ne HO_7.out BK939.out (by decide)); replace hx941_0 := (cell_far (p := ⟨gb939, 0, none⟩) (by first | (rw [add_block]; exact hn941_0) | (show (Addr.add _ _).block ≠ _; rw [add_block]; exact hn941_0) | exact hn941_0) (.string t935)).trans hx941_0; replace hx941_0 := (cell_far (p := ⟨gb939, 1, none⟩) (by first | (rw [add_block]; exact hn941_1) | (show (Addr.add _ _).block ≠ _; rw [add_block]; exact hn941_1) | exact hn941_1) (.int .i64 t936)).trans hx941_0; replace hx941_0 := (cell_far (p := ⟨gb939, 2, none⟩) (by first | (rw [add_block]; exact hn941_2) | (show (Addr.add _ _).block ≠ _; rw [add_block]; exact hn941_2) | exact hn941_2) (.bool t937)).trans hx941_0; (try have hy941_0 := fun (n_ : Nat) => (show (((((w46.drewN n_).setCell ⟨gb939, 0, none⟩ (.string t935)).setCell ⟨gb939, 1, none⟩ (.int .i64 t936)).setCell ⟨gb939, 2, none⟩ (.bool t937))).cell? _ = some _ from hx941_0)); clear hn941_0; clear hn941_1; clear hn941_2; replace p941 := eq_true p941; replace q941 := eq_true q941) | (go_at_call 24; (with_reducible refine (R01Less.calls k2 (rdOf ByteArray.empty t931 (ji32)) (rdOf ByteArray.empty t931 x9_2) t942 _ A35.out).mono ?_); rintro e w' ⟨rfl, ⟨nd, rfl⟩⟩; (try exact ap4))); try go_wp2_with (first | (go_at_call 22; (with_reducible refine (R16Find.calls k2 (rdOf ByteArray.empty t931 x9_2) t935 t936 t937 true _ A29.out).mono ?_); rintro e w45 ⟨rfl, hb⟩; have n0_ := Aside0.mk (Kd.R_below (apAR HO_7.out) hb); have n1_ := Aside0.mk (blk_below (g := gb925) (o := .cells #[.string t921, .int .i64 t922, .bool t923] 23 (0, 0)) (apB BK925.out) hb); have n2_ := Aside0.mk (blk_below (g := gb930) (o := .cells #[.string t926, .int .i64 t927, .bool t928] 23 (0, 0)) (apB BK930.out) hb); have n3_ := Aside0.mk (below_step (by repeat (first | (with_reducible first | exact HB.out | apply below_alloc | apply pw_below_drewN | apply below_drew1 | refine below_set ?_ GE925.out | refine below_set ?_ GE930.out) | exact HB.out)) hb); clear HO_7; clear BK925; clear BK930; clear HB; have HO_7 := n0_; have BK925 := n1_; have BK930 := n2_; have HB := n3_; clear n0_ n1_ n2_ n3_; (try clear hb); (try clear hb2); (try clear hk); (try clear hi)) | ((with_reducible refine gate_dst (N := 10) rfl ?_); refine box_event ?hg (N := 10) ?hd (cs := #[.string (⟨#[]⟩ : ByteArray), .int .i64 0, .bool false]) (t := 23) ?hr ?_; (case hd => rfl); (case hg => rfl); (case hr => first | (go_simp; done) | (go_simp; rfl)); intro gb939 hg w46 hbox hb; have n0_ := Aside0.mk (Kd.R_below (apAR HO_7.out) hb); have n1_ := Aside0.mk (blk_below (g := gb925) (o := .cells #[.string t921, .int .i64 t922, .bool t923] 23 (0, 0)) (apB BK925.out) hb); have n2_ := Aside0.mk (blk_below (g := gb930) (o := .cells #[.string t926, .int .i64 t927, .bool t928] 23 (0, 0)) (apB BK930.out) hb); have n3_ := Aside0.mk (below_step (by repeat (first | (with_reducible first | exact HB.out | apply below_alloc | apply pw_below_drewN | apply below_drew1 | refine below_set ?_ GE925.out | refine below_set ?_ GE930.out) | exact HB.out)) hb); have n4_ := Aside0.mk (hbox); have n5_ := Aside0.mk ((by rw [hg]; exact (below_size (by repeat (first | (with_reducible first | exact HB.out | apply below_alloc | apply pw_below_drewN | apply below_drew1 | refine below_set ?_ GE925.out | refine below_set ?_ GE930.out) | exact HB.out))) : w.heap.size ≤ gb939)); have n6_ := Aside0.mk ((by rw [hg]; exact (below_size (by repeat (first | (with_reducible first | exact HB.out | apply below_alloc | apply pw_below_drewN | apply below_drew1 | refine below_set ?_ GE925.out | refine below_set ?_ GE930.out) | exact HB.out))) : w.heap.size ≤ gb939)); have n7_ := Aside0.mk ((by rw [hg]; exact Nat.ne_of_lt (blk_lt (g := gb925) (o := .cells #[.string t921, .int .i64 t922, .bool t923] 23 (0, 0)) (apB BK925.out)) : gb925 ≠ gb939)); have n8_ := Aside0.mk ((by rw [hg]; exact Nat.ne_of_gt (blk_lt (g := gb925) (o := .cells #[.string t921, .int .i64 t922, .bool t923] 23 (0, 0)) (apB BK925.out)) : gb939 ≠ gb925)); have n9_ := Aside0.mk ((by rw [hg]; exact Nat.ne_of_lt (blk_lt (g := gb930) (o := .cells #[.string t926, .int .i64 t927, .bool t928] 23 (0, 0)) (apB BK930.out)) : gb930 ≠ gb939)); have n10_ := Aside0.mk ((by rw [hg]; exact Nat.ne_of_gt (blk_lt (g := gb930) (o := .cells #[.string t926, .int .i64 t927, .bool t928] 23 (0, 0)) (apB BK930.out)) : gb939 ≠ gb930)); clear HO_7; clear BK925; clear BK930; clear HB; have HO_7 := n0_; have BK925 := n1_; have BK930 := n2_; have HB := n3_; have BK939 := n4_; have GW939 := n5_; have GE939 := n6_; have NB925_939 := n7_; have NB939_925 := n8_; have NB930_939 := n9_; have NB939_930 := n10_; clear n0_ n1_ n2_ n3_ n4_ n5_ n6_ n7_ n8_ n9_ n10_; clear hb hbox hg; have hnb47 := NB939_925.out; have hnc47 := NB925_939.out; have hnb48 := NB939_930.out; have hnc48 := NB930_939.out; have hcz49_0 : w46.cell? ⟨gb939, 0, none⟩ = some (.string (⟨#[]⟩ : ByteArray)) := (blk_cell BK939.out 0).trans rfl; have hcz49_1 : w46.cell? ⟨gb939, 1, none⟩ = some (.int .i64 0) := (blk_cell BK939.out 1).trans rfl; have hcz49_2 : w46.cell? ⟨gb939, 2, none⟩ = some (.bool false) := (blk_cell BK939.out 2).trans rfl; have hfz49_0 := blk_frozen BK939.out 0; have hfz49_1 := blk_frozen BK939.out 1; have hfz49_2 := blk_frozen BK939.out 2; have p940 : 0 ≤ ((ji32) : Int) := of_decide_eq_true ap0; have q940 : (ji32) < (t931.length : Int) := of_decide_eq_true ap0; obtain ⟨ad940, e940, hx940_0⟩ := Kd.at_string (Kd.R_reads' HO_7.out).2.2 (ji32) p940 q940; obtain rfl : ad934 = ad940 := (by injection e940); have hn940_0 : ad934.block ≠ gb939 := Kd.own_blk (Kd.R_ne HO_7.out BK939.out (by decide)); have hn940_1 : ad934.block ≠ gb939 := Kd.own_blk (Kd.R_ne HO_7.out BK939.out (by decide)); have hn940_2 : ad934.block ≠ gb939 := Kd.own_blk (Kd.R_ne HO_7.out BK939.out (by decide)); replace hx940_0 := (cell_far (p := ⟨gb939, 0, none⟩) (by first | (rw [add_block]; exact hn940_0) | (show (Addr.add _ _).block ≠ _; rw [add_block]; exact hn940_0) | exact hn940_0) (.string t935)).trans hx940_0; replace hx940_0 := (cell_far (p := ⟨gb939, 1, none⟩) (by first | (rw [add_block]; exact hn940_1) | (show (Addr.add _ _).block ≠ _; rw [add_block]; exact hn940_1) | exact hn940_1) (.int .i64 t936)).trans hx940_0; replace hx940_0 := (cell_far (p := ⟨gb939, 2, none⟩) (by first | (rw [add_block]; exact hn940_2) | (show (Addr.add _ _).block ≠ _; rw [add_block]; exact hn940_2) | exact hn940_2) (.bool t937)).trans hx940_0; (try have hy940_0 := fun (n_ : Nat) => (show (((((w46.drewN n_).setCell ⟨gb939, 0, none⟩ (.string t935)).setCell ⟨gb939, 1, none⟩ (.int .i64 t936)).setCell ⟨gb939, 2, none⟩ (.bool t937))).cell? _ = some _ from hx940_0)); clear hn940_0; clear hn940_1; clear hn940_2; replace p940 := eq_true p940; replace q940 := eq_true q940; have p941 : 0 ≤ (x9_2 : Int) := of_decide_eq_true ap0; have q941 : x9_2 < (t931.length : Int) := of_decide_eq_true ap0; obtain ⟨ad941, e941, hx941_0⟩ := Kd.at_string (Kd.R_reads' HO_7.out).2.2 x9_2 p941 q941; obtain rfl : ad934 = ad941 := (by injection e941); have hn941_0 : ad934.block ≠ gb939 := Kd.own_blk (Kd.R_ne HO_7.out BK939.out (by decide)); have hn941_1 : ad934.block ≠ gb939 := Kd.own_blk (Kd.R_ne HO_7.out BK939.out (by decide)); have hn941_2 : ad934.block ≠ gb939 := Kd.own_blk (Kd.R_ne HO_7.out BK939.out (by decide)); replace hx941_0 := (cell_far (p := ⟨gb939, 0, none⟩) (by first | (rw [add_block]; exact hn941_0) | (show (Addr.add _ _).block ≠ _; rw [add_block]; exact hn941_0) | exact hn941_0) (.string t935)).trans hx941_0; replace hx941_0 := (cell_far (p := ⟨gb939, 1, none⟩) (by first | (rw [add_block]; exact hn941_1) | (show (Addr.add _ _).block ≠ _; rw [add_block]; exact hn941_1) | exact hn941_1) (.int .i64 t936)).trans hx941_0; replace hx941_0 := (cell_far (p := ⟨gb939, 2, none⟩) (by first | (rw [add_block]; exact hn941_2) | (show (Addr.add _ _).block ≠ _; rw [add_block]; exact hn941_2) | exact hn941_2) (.bool t937)).trans hx941_0; (try have hy941_0 := fun (n_ : Nat) => (show (((((w46.drewN n_).setCell ⟨gb939, 0, none⟩ (.string t935)).setCell ⟨gb939, 1, none⟩ (.int .i64 t936)).setCell ⟨gb939, 2, none⟩ (.bool t937))).cell? _ = some _ from hx941_0)); clear hn941_0; clear hn941_1; clear hn941_2; replace p941 := eq_true p941; replace q941 := eq_true q941) | (go_at_call 24; (with_reducible refine (R01Less.calls k2 (rdOf ByteArray.empty t931 (ji32)) (rdOf ByteArray.empty t931 x9_2) t942 _ A35.out).mono ?_); rintro e w' ⟨rfl, ⟨nd, rfl⟩⟩; (try exact ap4))))
                go_roundg k2
                case measure => have := HJ7.out; have := HK2.out; omega
                case rel => exact ⟨(true), (wrap64 (x9_2 + 1)), ap2, ap2, H', ⟨by have := HJ7.out; have := HK2.out; omega⟩, ⟨by (with_reducible repeat (first | apply Kd.R_alloc | apply Kd.R_drewN | apply Kd.R_drew)); exact Kd.R_mono (Kd.R_far (p := ⟨gb939, 2, none⟩) (Kd.R_far (p := ⟨gb939, 1, none⟩) (Kd.R_far (p := ⟨gb939, 0, none⟩) (Kd.R_types HO_7.out BK939.out (by decide)) (fun _ hk => hk.2) (.string t935)) (fun _ hk => hk.2) (.int .i64 t936)) (fun _ hk => hk.2) (.bool t937)) (fun _ hk => trivial)⟩, ⟨by (with_reducible repeat (first | refine blk_drewN ?_ _ | refine blk_drew ?_ | refine blk_alloc ?_ _)); refine blk_far ?_ NB925_939.out _; (with_reducible repeat (first | refine blk_drewN ?_ _ | refine blk_drew ?_ | refine blk_alloc ?_ _)); refine blk_far ?_ NB925_939.out _; (with_reducible repeat (first | refine blk_drewN ?_ _ | refine blk_drew ?_ | refine blk_alloc ?_ _)); refine blk_far ?_ NB925_939.out _; (with_reducible repeat (first | refine blk_drewN ?_ _ | refine blk_drew ?_ | refine blk_alloc ?_ _)); exact BK925.out⟩, ⟨by (with_reducible repeat (first | refine blk_drewN ?_ _ | refine blk_drew ?_ | refine blk_alloc ?_ _)); refine blk_far ?_ NB930_939.out _; (with_reducible repeat (first | refine blk_drewN ?_ _ | refine blk_drew ?_ | refine blk_alloc ?_ _)); refine blk_far ?_ NB930_939.out _; (with_reducible repeat (first | refine blk_drewN ?_ _ | refine blk_drew ?_ | refine blk_alloc ?_ _)); refine blk_far ?_ NB930_939.out _; (with_reducible repeat (first | refine blk_drewN ?_ _ | refine blk_drew ?_ | refine blk_alloc ?_ _)); exact BK930.out⟩, ⟨by repeat (first | (with_reducible first | exact HB.out | apply below_alloc | apply pw_below_drewN | apply below_drew1 | refine below_set ?_ GE925.out | refine below_set ?_ GE930.out | refine below_set ?_ GE939.out) | exact HB.out)⟩⟩
               ·
                replace c43 := Bool.eq_false_iff.mpr c43
                subst c43
                rw [if_neg (show ¬ (false = true) by decide)] at H
                have H' := Aside0.mk H
                clear H
                obtain ⟨Ao50, co50, eo50⟩ := Kd.R_slice HO_7.out
                subst eo50
                have p934 : 0 ≤ (x9_2 : Int) := of_decide_eq_true ap0
                have q934 : x9_2 < (t931.length : Int) := of_decide_eq_true ap0
                obtain ⟨ad934, e934, hx934_0⟩ := Kd.at_string (Kd.R_reads' HO_7.out).2.2 x9_2 p934 q934
                cases e934
                replace p934 := eq_true p934
                replace q934 := eq_true q934
                go_wp2_with (first | (go_at_call 22; (with_reducible refine (R16Find.calls k2 (rdOf ByteArray.empty t931 x9_2) t935 t936 t937 true _ A29.out).mono ?_); rintro e w51 ⟨rfl, hb⟩; have n0_ := Aside0.mk (Kd.R_below (apAR HO_7.out) hb); have n1_ := Aside0.mk (blk_below (g := gb925) (o := .cells #[.string t921, .int .i64 t922, .bool t923] 23 (0, 0)) (apB BK925.out) hb); have n2_ := Aside0.mk (blk_below (g := gb930) (o := .cells #[.string t926, .int .i64 t927, .bool t928] 23 (0, 0)) (apB BK930.out) hb); have n3_ := Aside0.mk (below_step (by repeat (first | (with_reducible first | exact HB.out | apply below_alloc | apply pw_below_drewN | apply below_drew1 | refine below_set ?_ GE925.out | refine below_set ?_ GE930.out) | exact HB.out)) hb); clear HO_7; clear BK925; clear BK930; clear HB; have HO_7 := n0_; have BK925 := n1_; have BK930 := n2_; have HB := n3_; clear n0_ n1_ n2_ n3_; (try clear hb); (try clear hb2); (try clear hk); (try clear hi)) | ((with_reducible refine gate_dst (N := 10) rfl ?_); refine box_event ?hg (N := 10) ?hd (cs := #[.string (⟨#[]⟩ : ByteArray), .int .i64 0, .bool false]) (t := 23) ?hr ?_; (case hd => rfl); (case hg => rfl); (case hr => first | (go_simp; done) | (go_simp; rfl)); intro gb939 hg w52 hbox hb; have n0_ := Aside0.mk (Kd.R_below (apAR HO_7.out) hb); have n1_ := Aside0.mk (blk_below (g := gb925) (o := .cells #[.string t921, .int .i64 t922, .bool t923] 23 (0, 0)) (apB BK925.out) hb); have n2_ := Aside0.mk (blk_below (g := gb930) (o := .cells #[.string t926, .int .i64 t927, .bool t928] 23 (0, 0)) (apB BK930.out) hb); have n3_ := Aside0.mk (below_step (by repeat (first | (with_reducible first | exact HB.out | apply below_alloc | apply pw_below_drewN | apply below_drew1 | refine below_set ?_ GE925.out | refine below_set ?_ GE930.out) | exact HB.out)) hb); have n4_ := Aside0.mk (hbox); have n5_ := Aside0.mk ((by rw [hg]; exact (below_size (by repeat (first | (with_reducible first | exact HB.out | apply below_alloc | apply pw_below_drewN | apply below_drew1 | refine below_set ?_ GE925.out | refine below_set ?_ GE930.out) | exact HB.out))) : w.heap.size ≤ gb939)); have n6_ := Aside0.mk ((by rw [hg]; exact (below_size (by repeat (first | (with_reducible first | exact HB.out | apply below_alloc | apply pw_below_drewN | apply below_drew1 | refine below_set ?_ GE925.out | refine below_set ?_ GE930.out) | exact HB.out))) : w.heap.size ≤ gb939)); have n7_ := Aside0.mk ((by rw [hg]; exact Nat.ne_of_lt (blk_lt (g := gb925) (o := .cells #[.string t921, .int .i64 t922, .bool t923] 23 (0, 0)) (apB BK925.out)) : gb925 ≠ gb939)); have n8_ := Aside0.mk ((by rw [hg]; exact Nat.ne_of_gt (blk_lt (g := gb925) (o := .cells #[.string t921, .int .i64 t922, .bool t923] 23 (0, 0)) (apB BK925.out)) : gb939 ≠ gb925)); have n9_ := Aside0.mk ((by rw [hg]; exact Nat.ne_of_lt (blk_lt (g := gb930) (o := .cells #[.string t926, .int .i64 t927, .bool t928] 23 (0, 0)) (apB BK930.out)) : gb930 ≠ gb939)); have n10_ := Aside0.mk ((by rw [hg]; exact Nat.ne_of_gt (blk_lt (g := gb930) (o := .cells #[.string t926, .int .i64 t927, .bool t928] 23 (0, 0)) (apB BK930.out)) : gb939 ≠ gb930)); clear HO_7; clear BK925; clear BK930; clear HB; have HO_7 := n0_; have BK925 := n1_; have BK930 := n2_; have HB := n3_; have BK939 := n4_; have GW939 := n5_; have GE939 := n6_; have NB925_939 := n7_; have NB939_925 := n8_; have NB930_939 := n9_; have NB939_930 := n10_; clear n0_ n1_ n2_ n3_ n4_ n5_ n6_ n7_ n8_ n9_ n10_; clear hb hbox hg; have hnb53 := NB939_925.out; have hnc53 := NB925_939.out; have hnb54 := NB939_930.out; have hnc54 := NB930_939.out; have hcz55_0 : w52.cell? ⟨gb939, 0, none⟩ = some (.string (⟨#[]⟩ : ByteArray)) := (blk_cell BK939.out 0).trans rfl; have hcz55_1 : w52.cell? ⟨gb939, 1, none⟩ = some (.int .i64 0) := (blk_cell BK939.out 1).trans rfl; have hcz55_2 : w52.cell? ⟨gb939, 2, none⟩ = some (.bool false) := (blk_cell BK939.out 2).trans rfl; have hfz55_0 := blk_frozen BK939.out 0; have hfz55_1 := blk_frozen BK939.out 1; have hfz55_2 := blk_frozen BK939.out 2; have p940 : 0 ≤ ((ji32) : Int) := of_decide_eq_true ap0; have q940 : (ji32) < (t931.length : Int) := of_decide_eq_true ap0; obtain ⟨ad940, e940, hx940_0⟩ := Kd.at_string (Kd.R_reads' HO_7.out).2.2 (ji32) p940 q940; obtain rfl : ad934 = ad940 := (by injection e940); have hn940_0 : ad934.block ≠ gb939 := Kd.own_blk (Kd.R_ne HO_7.out BK939.out (by decide)); have hn940_1 : ad934.block ≠ gb939 := Kd.own_blk (Kd.R_ne HO_7.out BK939.out (by decide)); have hn940_2 : ad934.block ≠ gb939 := Kd.own_blk (Kd.R_ne HO_7.out BK939.out (by decide)); replace hx940_0 := (cell_far (p := ⟨gb939, 0, none⟩) (by first | (rw [add_block]; exact hn940_0) | (show (Addr.add _ _).block ≠ _; rw [add_block]; exact hn940_0) | exact hn940_0) (.string t935)).trans hx940_0; replace hx940_0 := (cell_far (p := ⟨gb939, 1, none⟩) (by first | (rw [add_block]; exact hn940_1) | (show (Addr.add _ _).block ≠ _; rw [add_block]; exact hn940_1) | exact hn940_1) (.int .i64 t936)).trans hx940_0; replace hx940_0 := (cell_far (p := ⟨gb939, 2, none⟩) (by first | (rw [add_block]; exact hn940_2) | (show (Addr.add _ _).block ≠ _; rw [add_block]; exact hn940_2) | exact hn940_2) (.bool t937)).trans hx940_0; (try have hy940_0 := fun (n_ : Nat) => (show (((((w52.drewN n_).setCell ⟨gb939, 0, none⟩ (.string t935)).setCell ⟨gb939, 1, none⟩ (.int .i64 t936)).setCell ⟨gb939, 2, none⟩ (.bool t937))).cell? _ = some _ from hx940_0)); clear hn940_0; clear hn940_1; clear hn940_2; replace p940 := eq_true p940; replace q940 := eq_true q940; have p941 : 0 ≤ (x9_2 : Int) := of_decide_eq_true ap0; have q941 : x9_2 < (t931.length : Int) := of_decide_eq_true ap0; obtain ⟨ad941, e941, hx941_0⟩ := Kd.at_string (Kd.R_reads' HO_7.out).2.2 x9_2 p941 q941; obtain rfl : ad934 = ad941 := (by injection e941); have hn941_0 : ad934.block ≠ gb939 := Kd.own_blk (Kd.R_ne HO_7.out BK939.out (by decide)); have hn941_1 : ad934.block ≠ gb939 := Kd.own_blk (Kd.R_ne HO_7.out BK939.out (by decide)); have hn941_2 : ad934.block ≠ gb939 := Kd.own_blk (Kd.R_ne HO_7.out BK939.out (by decide)); replace hx941_0 := (cell_far (p := ⟨gb939, 0, none⟩) (by first | (rw [add_block]; exact hn941_0) | (show (Addr.add _ _).block ≠ _; rw [add_block]; exact hn941_0) | exact hn941_0) (.string t935)).trans hx941_0; replace hx941_0 := (cell_far (p := ⟨gb939, 1, none⟩) (by first | (rw [add_block]; exact hn941_1) | (show (Addr.add _ _).block ≠ _; rw [add_block]; exact hn941_1) | exact hn941_1) (.int .i64 t936)).trans hx941_0; replace hx941_0 := (cell_far (p := ⟨gb939, 2, none⟩) (by first | (rw [add_block]; exact hn941_2) | (show (Addr.add _ _).block ≠ _; rw [add_block]; exact hn941_2) | exact hn941_2) (.bool t937)).trans hx941_0; (try have hy941_0 := fun (n_ : Nat) => (show (((((w52.drewN n_).setCell ⟨gb939, 0, none⟩ (.string t935)).setCell ⟨gb939, 1, none⟩ (.int .i64 t936)).setCell ⟨gb939, 2, none⟩ (.bool t937))).cell? _ = some _ from hx941_0)); clear hn941_0; clear hn941_1; clear hn941_2; replace p941 := eq_true p941; replace q941 := eq_true q941) | (go_at_call 24; (with_reducible refine (R01Less.calls k2 (rdOf ByteArray.empty t931 (ji32)) (rdOf ByteArray.empty t931 x9_2) t942 _ A35.out).mono ?_); rintro e w' ⟨rfl, ⟨nd, rfl⟩⟩; (try exact ap4); have p943 : 0 ≤ (x9_2 : Int) := of_decide_eq_true ap0; have q943 : x9_2 < (t931.length : Int) := of_decide_eq_true ap0; obtain ⟨ad943, e943, hx943_0⟩ := Kd.at_string (Kd.R_reads' HO_7.out).2.2 x9_2 p943 q943; obtain rfl : ad934 = ad943 := (by injection e943); have hn943_0 : ad934.block ≠ gb939 := Kd.own_blk (Kd.R_ne HO_7.out BK939.out (by decide)); have hn943_1 : ad934.block ≠ gb939 := Kd.own_blk (Kd.R_ne HO_7.out BK939.out (by decide)); have hn943_2 : ad934.block ≠ gb939 := Kd.own_blk (Kd.R_ne HO_7.out BK939.out (by decide)); replace hx943_0 := (cell_far (p := ⟨gb939, 0, none⟩) (by first | (rw [add_block]; exact hn943_0) | (show (Addr.add _ _).block ≠ _; rw [add_block]; exact hn943_0) | exact hn943_0) (.string t935)).trans hx943_0; replace hx943_0 := (cell_far (p := ⟨gb939, 1, none⟩) (by first | (rw [add_block]; exact hn943_1) | (show (Addr.add _ _).block ≠ _; rw [add_block]; exact hn943_1) | exact hn943_1) (.int .i64 t936)).trans hx943_0; replace hx943_0 := (cell_far (p := ⟨gb939, 2, none⟩) (by first | (rw [add_block]; exact hn943_2) | (show (Addr.add _ _).block ≠ _; rw [add_block]; exact hn943_2) | exact hn943_2) (.bool t937)).trans hx943_0; (try have hy943_0 := fun (n_ : Nat) => (show (((((w52.drewN n_).setCell ⟨gb939, 0, none⟩ (.string t935)).setCell ⟨gb939, 1, none⟩ (.int .i64 t936)).setCell ⟨gb939, 2, none⟩ (.bool t937))).cell? _ = some _ from hx943_0)); clear hn943_0; clear hn943_1; clear hn943_2; replace p943 := eq_true p943; replace q943 := eq_true q943; have hnb56 := NB925_930.out; have hnc56 := NB930_925.out; have hcz57_0 : w52.cell? ⟨gb925, 0, none⟩ = some (.string t921) := (blk_cell BK925.out 0).trans rfl; have hcz57_1 : w52.cell? ⟨gb925, 1, none⟩ = some (.int .i64 t922) := (blk_cell BK925.out 1).trans rfl; have hcz57_2 : w52.cell? ⟨gb925, 2, none⟩ = some (.bool t923) := (blk_cell BK925.out 2).trans rfl; have hfz57_0 := blk_frozen BK925.out 0; have hfz57_1 := blk_frozen BK925.out 1; have hfz57_2 := blk_frozen BK925.out 2))
                repeat (go_quiet (first | (go_at_call 22; (with_reducible refine (R16Find.calls k2 (rdOf ByteArray.empty t931 x9_2) t935 t936 t937 true _ A29.out).mono ?_); rintro e w51 ⟨rfl, hb⟩; have n0_ := Aside0.mk (Kd.R_below (apAR HO_7.out) hb); have n1_ := Aside0.mk (blk_below (g := gb925) (o := .cells #[.string t921, .int .i64 t922, .bool t923] 23 (0, 0)) (apB BK925.out) hb); have n2_ := Aside0.mk (blk_below (g := gb930) (o := .cells #[.string t926, .int .i64 t927, .bool t928] 23 (0, 0)) (apB BK930.out) hb); have n3_ := Aside0.mk (below_step (by repeat (first | (with_reducible first | exact HB.out | apply below_alloc | apply pw_below_drewN | apply below_drew1 | refine below_set ?_ GE925.out | refine below_set ?_ GE930.out) | exact HB.out)) hb); clear HO_7; clear BK925; clear BK930; clear HB; have HO_7 := n0_; have BK925 := n1_; have BK930 := n2_; have HB := n3_; clear n0_ n1_ n2_ n3_; (try clear hb); (try clear hb2); (try clear hk); (try clear hi)) | ((with_reducible refine gate_dst (N := 10) rfl ?_); refine box_event ?hg (N := 10) ?hd (cs := #[.string (⟨#[]⟩ : ByteArray), .int .i64 0, .bool false]) (t := 23) ?hr ?_; (case hd => rfl); (case hg => rfl); (case hr => first | (go_simp; done) | (go_simp; rfl)); intro gb939 hg w52 hbox hb; have n0_ := Aside0.mk (Kd.R_below (apAR HO_7.out) hb); have n1_ := Aside0.mk (blk_below (g := gb925) (o := .cells #[.string t921, .int .i64 t922, .bool t923] 23 (0, 0)) (apB BK925.out) hb); have n2_ := Aside0.mk (blk_below (g := gb930) (o := .cells #[.string t926, .int .i64 t927, .bool t928] 23 (0, 0)) (apB BK930.out) hb); have n3_ := Aside0.mk (below_step (by repeat (first | (with_reducible first | exact HB.out | apply below_alloc | apply pw_below_drewN | apply below_drew1 | refine below_set ?_ GE925.out | refine below_set ?_ GE930.out) | exact HB.out)) hb); have n4_ := Aside0.mk (hbox); have n5_ := Aside0.mk ((by rw [hg]; exact (below_size (by repeat (first | (with_reducible first | exact HB.out | apply below_alloc | apply pw_below_drewN | apply below_drew1 | refine below_set ?_ GE925.out | refine below_set ?_ GE930.out) | exact HB.out))) : w.heap.size ≤ gb939)); have n6_ := Aside0.mk ((by rw [hg]; exact (below_size (by repeat (first | (with_reducible first | exact HB.out | apply below_alloc | apply pw_below_drewN | apply below_drew1 | refine below_set ?_ GE925.out | refine below_set ?_ GE930.out) | exact HB.out))) : w.heap.size ≤ gb939)); have n7_ := Aside0.mk ((by rw [hg]; exact Nat.ne_of_lt (blk_lt (g := gb925) (o := .cells #[.string t921, .int .i64 t922, .bool t923] 23 (0, 0)) (apB BK925.out)) : gb925 ≠ gb939)); have n8_ := Aside0.mk ((by rw [hg]; exact Nat.ne_of_gt (blk_lt (g := gb925) (o := .cells #[.string t921, .int .i64 t922, .bool t923] 23 (0, 0)) (apB BK925.out)) : gb939 ≠ gb925)); have n9_ := Aside0.mk ((by rw [hg]; exact Nat.ne_of_lt (blk_lt (g := gb930) (o := .cells #[.string t926, .int .i64 t927, .bool t928] 23 (0, 0)) (apB BK930.out)) : gb930 ≠ gb939)); have n10_ := Aside0.mk ((by rw [hg]; exact Nat.ne_of_gt (blk_lt (g := gb930) (o := .cells #[.string t926, .int .i64 t927, .bool t928] 23 (0, 0)) (apB BK930.out)) : gb939 ≠ gb930)); clear HO_7; clear BK925; clear BK930; clear HB; have HO_7 := n0_; have BK925 := n1_; have BK930 := n2_; have HB := n3_; have BK939 := n4_; have GW939 := n5_; have GE939 := n6_; have NB925_939 := n7_; have NB939_925 := n8_; have NB930_939 := n9_; have NB939_930 := n10_; clear n0_ n1_ n2_ n3_ n4_ n5_ n6_ n7_ n8_ n9_ n10_; clear hb hbox hg; have hnb53 := NB939_925.out; have hnc53 := NB925_939.out; have hnb54 := NB939_930.out; have hnc54 := NB930_939.out; have hcz55_0 : w52.cell? ⟨gb939, 0, none⟩ = some (.string (⟨#[]⟩ : ByteArray)) := (blk_cell BK939.out 0).trans rfl; have hcz55_1 : w52.cell? ⟨gb939, 1, none⟩ = some (.int .i64 0) := (blk_cell BK939.out 1).trans rfl; have hcz55_2 : w52.cell? ⟨gb939, 2, none⟩ = some (.bool false) := (blk_cell BK939.out 2).trans rfl; have hfz55_0 := blk_frozen BK939.out 0; have hfz55_1 := blk_frozen BK939.out 1; have hfz55_2 := blk_frozen BK939.out 2; have p940 : 0 ≤ ((ji32) : Int) := of_decide_eq_true ap0; have q940 : (ji32) < (t931.length : Int) := of_decide_eq_true ap0; obtain ⟨ad940, e940, hx940_0⟩ := Kd.at_string (Kd.R_reads' HO_7.out).2.2 (ji32) p940 q940; obtain rfl : ad934 = ad940 := (by injection e940); have hn940_0 : ad934.block ≠ gb939 := Kd.own_blk (Kd.R_ne HO_7.out BK939.out (by decide)); have hn940_1 : ad934.block ≠ gb939 := Kd.own_blk (Kd.R_ne HO_7.out BK939.out (by decide)); have hn940_2 : ad934.block ≠ gb939 := Kd.own_blk (Kd.R_ne HO_7.out BK939.out (by decide)); replace hx940_0 := (cell_far (p := ⟨gb939, 0, none⟩) (by first | (rw [add_block]; exact hn940_0) | (show (Addr.add _ _).block ≠ _; rw [add_block]; exact hn940_0) | exact hn940_0) (.string t935)).trans hx940_0; replace hx940_0 := (cell_far (p := ⟨gb939, 1, none⟩) (by first | (rw [add_block]; exact hn940_1) | (show (Addr.add _ _).block ≠ _; rw [add_block]; exact hn940_1) | exact hn940_1) (.int .i64 t936)).trans hx940_0; replace hx940_0 := (cell_far (p := ⟨gb939, 2, none⟩) (by first | (rw [add_block]; exact hn940_2) | (show (Addr.add _ _).block ≠ _; rw [add_block]; exact hn940_2) | exact hn940_2) (.bool t937)).trans hx940_0; (try have hy940_0 := fun (n_ : Nat) => (show (((((w52.drewN n_).setCell ⟨gb939, 0, none⟩ (.string t935)).setCell ⟨gb939, 1, none⟩ (.int .i64 t936)).setCell ⟨gb939, 2, none⟩ (.bool t937))).cell? _ = some _ from hx940_0)); clear hn940_0; clear hn940_1; clear hn940_2; replace p940 := eq_true p940; replace q940 := eq_true q940; have p941 : 0 ≤ (x9_2 : Int) := of_decide_eq_true ap0; have q941 : x9_2 < (t931.length : Int) := of_decide_eq_true ap0; obtain ⟨ad941, e941, hx941_0⟩ := Kd.at_string (Kd.R_reads' HO_7.out).2.2 x9_2 p941 q941; obtain rfl : ad934 = ad941 := (by injection e941); have hn941_0 : ad934.block ≠ gb939 := Kd.own_blk (Kd.R_ne HO_7.out BK939.out (by decide)); have hn941_1 : ad934.block ≠ gb939 := Kd.own_blk (Kd.R_ne HO_7.out BK939.out (by decide)); have hn941_2 : ad934.block ≠ gb939 := Kd.own_blk (Kd.R_ne HO_7.out BK939.out (by decide)); replace hx941_0 := (cell_far (p := ⟨gb939, 0, none⟩) (by first | (rw [add_block]; exact hn941_0) | (show (Addr.add _ _).block ≠ _; rw [add_block]; exact hn941_0) | exact hn941_0) (.string t935)).trans hx941_0; replace hx941_0 := (cell_far (p := ⟨gb939, 1, none⟩) (by first | (rw [add_block]; exact hn941_1) | (show (Addr.add _ _).block ≠ _; rw [add_block]; exact hn941_1) | exact hn941_1) (.int .i64 t936)).trans hx941_0; replace hx941_0 := (cell_far (p := ⟨gb939, 2, none⟩) (by first | (rw [add_block]; exact hn941_2) | (show (Addr.add _ _).block ≠ _; rw [add_block]; exact hn941_2) | exact hn941_2) (.bool t937)).trans hx941_0; (try have hy941_0 := fun (n_ : Nat) => (show (((((w52.drewN n_).setCell ⟨gb939, 0, none⟩ (.string t935)).setCell ⟨gb939, 1, none⟩ (.int .i64 t936)).setCell ⟨gb939, 2, none⟩ (.bool t937))).cell? _ = some _ from hx941_0)); clear hn941_0; clear hn941_1; clear hn941_2; replace p941 := eq_true p941; replace q941 := eq_true q941) | (go_at_call 24; (with_reducible refine (R01Less.calls k2 (rdOf ByteArray.empty t931 (ji32)) (rdOf ByteArray.empty t931 x9_2) t942 _ A35.out).mono ?_); rintro e w' ⟨rfl, ⟨nd, rfl⟩⟩; (try exact ap4); have p943 : 0 ≤ (x9_2 : Int) := of_decide_eq_true ap0; have q943 : x9_2 < (t931.length : Int) := of_decide_eq_true ap0; obtain ⟨ad943, e943, hx943_0⟩ := Kd.at_string (Kd.R_reads' HO_7.out).2.2 x9_2 p943 q943; obtain rfl : ad934 = ad943 := (by injection e943); have hn943_0 : ad934.block ≠ gb939 := Kd.own_blk (Kd.R_ne HO_7.out BK939.out (by decide)); have hn943_1 : ad934.block ≠ gb939 := Kd.own_blk (Kd.R_ne HO_7.out BK939.out (by decide)); have hn943_2 : ad934.block ≠ gb939 := Kd.own_blk (Kd.R_ne HO_7.out BK939.out (by decide)); replace hx943_0 := (cell_far (p := ⟨gb939, 0, none⟩) (by first | (rw [add_block]; exact hn943_0) | (show (Addr.add _ _).block ≠ _; rw [add_block]; exact hn943_0) | exact hn943_0) (.string t935)).trans hx943_0; replace hx943_0 := (cell_far (p := ⟨gb939, 1, none⟩) (by first | (rw [add_block]; exact hn943_1) | (show (Addr.add _ _).block ≠ _; rw [add_block]; exact hn943_1) | exact hn943_1) (.int .i64 t936)).trans hx943_0; replace hx943_0 := (cell_far (p := ⟨gb939, 2, none⟩) (by first | (rw [add_block]; exact hn943_2) | (show (Addr.add _ _).block ≠ _; rw [add_block]; exact hn943_2) | exact hn943_2) (.bool t937)).trans hx943_0; (try have hy943_0 := fun (n_ : Nat) => (show (((((w52.drewN n_).setCell ⟨gb939, 0, none⟩ (.string t935)).setCell ⟨gb939, 1, none⟩ (.int .i64 t936)).setCell ⟨gb939, 2, none⟩ (.bool t937))).cell? _ = some _ from hx943_0)); clear hn943_0; clear hn943_1; clear hn943_2; replace p943 := eq_true p943; replace q943 := eq_true q943; have hnb56 := NB925_930.out; have hnc56 := NB930_925.out; have hcz57_0 : w52.cell? ⟨gb925, 0, none⟩ = some (.string t921) := (blk_cell BK925.out 0).trans rfl; have hcz57_1 : w52.cell? ⟨gb925, 1, none⟩ = some (.int .i64 t922) := (blk_cell BK925.out 1).trans rfl; have hcz57_2 : w52.cell? ⟨gb925, 2, none⟩ = some (.bool t923) := (blk_cell BK925.out 2).trans rfl; have hfz57_0 := blk_frozen BK925.out 0; have hfz57_1 := blk_frozen BK925.out 1; have hfz57_2 := blk_frozen BK925.out 2)); try go_wp2_with (first | (go_at_call 22; (with_reducible refine (R16Find.calls k2 (rdOf ByteArray.empty t931 x9_2) t935 t936 t937 true _ A29.out).mono ?_); rintro e w51 ⟨rfl, hb⟩; have n0_ := Aside0.mk (Kd.R_below (apAR HO_7.out) hb); have n1_ := Aside0.mk (blk_below (g := gb925) (o := .cells #[.string t921, .int .i64 t922, .bool t923] 23 (0, 0)) (apB BK925.out) hb); have n2_ := Aside0.mk (blk_below (g := gb930) (o := .cells #[.string t926, .int .i64 t927, .bool t928] 23 (0, 0)) (apB BK930.out) hb); have n3_ := Aside0.mk (below_step (by repeat (first | (with_reducible first | exact HB.out | apply below_alloc | apply pw_below_drewN | apply below_drew1 | refine below_set ?_ GE925.out | refine below_set ?_ GE930.out) | exact HB.out)) hb); clear HO_7; clear BK925; clear BK930; clear HB; have HO_7 := n0_; have BK925 := n1_; have BK930 := n2_; have HB := n3_; clear n0_ n1_ n2_ n3_; (try clear hb); (try clear hb2); (try clear hk); (try clear hi)) | ((with_reducible refine gate_dst (N := 10) rfl ?_); refine box_event ?hg (N := 10) ?hd (cs := #[.string (⟨#[]⟩ : ByteArray), .int .i64 0, .bool false]) (t := 23) ?hr ?_; (case hd => rfl); (case hg => rfl); (case hr => first | (go_simp; done) | (go_simp; rfl)); intro gb939 hg w52 hbox hb; have n0_ := Aside0.mk (Kd.R_below (apAR HO_7.out) hb); have n1_ := Aside0.mk (blk_below (g := gb925) (o := .cells #[.string t921, .int .i64 t922, .bool t923] 23 (0, 0)) (apB BK925.out) hb); have n2_ := Aside0.mk (blk_below (g := gb930) (o := .cells #[.string t926, .int .i64 t927, .bool t928] 23 (0, 0)) (apB BK930.out) hb); have n3_ := Aside0.mk (below_step (by repeat (first | (with_reducible first | exact HB.out | apply below_alloc | apply pw_below_drewN | apply below_drew1 | refine below_set ?_ GE925.out | refine below_set ?_ GE930.out) | exact HB.out)) hb); have n4_ := Aside0.mk (hbox); have n5_ := Aside0.mk ((by rw [hg]; exact (below_size (by repeat (first | (with_reducible first | exact HB.out | apply below_alloc | apply pw_below_drewN | apply below_drew1 | refine below_set ?_ GE925.out | refine below_set ?_ GE930.out) | exact HB.out))) : w.heap.size ≤ gb939)); have n6_ := Aside0.mk ((by rw [hg]; exact (below_size (by repeat (first | (with_reducible first | exact HB.out | apply below_alloc | apply pw_below_drewN | apply below_drew1 | refine below_set ?_ GE925.out | refine below_set ?_ GE930.out) | exact HB.out))) : w.heap.size ≤ gb939)); have n7_ := Aside0.mk ((by rw [hg]; exact Nat.ne_of_lt (blk_lt (g := gb925) (o := .cells #[.string t921, .int .i64 t922, .bool t923] 23 (0, 0)) (apB BK925.out)) : gb925 ≠ gb939)); have n8_ := Aside0.mk ((by rw [hg]; exact Nat.ne_of_gt (blk_lt (g := gb925) (o := .cells #[.string t921, .int .i64 t922, .bool t923] 23 (0, 0)) (apB BK925.out)) : gb939 ≠ gb925)); have n9_ := Aside0.mk ((by rw [hg]; exact Nat.ne_of_lt (blk_lt (g := gb930) (o := .cells #[.string t926, .int .i64 t927, .bool t928] 23 (0, 0)) (apB BK930.out)) : gb930 ≠ gb939)); have n10_ := Aside0.mk ((by rw [hg]; exact Nat.ne_of_gt (blk_lt (g := gb930) (o := .cells #[.string t926, .int .i64 t927, .bool t928] 23 (0, 0)) (apB BK930.out)) : gb939 ≠ gb930)); clear HO_7; clear BK925; clear BK930; clear HB; have HO_7 := n0_; have BK925 := n1_; have BK930 := n2_; have HB := n3_; have BK939 := n4_; have GW939 := n5_; have GE939 := n6_; have NB925_939 := n7_; have NB939_925 := n8_; have NB930_939 := n9_; have NB939_930 := n10_; clear n0_ n1_ n2_ n3_ n4_ n5_ n6_ n7_ n8_ n9_ n10_; clear hb hbox hg; have hnb53 := NB939_925.out; have hnc53 := NB925_939.out; have hnb54 := NB939_930.out; have hnc54 := NB930_939.out; have hcz55_0 : w52.cell? ⟨gb939, 0, none⟩ = some (.string (⟨#[]⟩ : ByteArray)) := (blk_cell BK939.out 0).trans rfl; have hcz55_1 : w52.cell? ⟨gb939, 1, none⟩ = some (.int .i64 0) := (blk_cell BK939.out 1).trans rfl; have hcz55_2 : w52.cell? ⟨gb939, 2, none⟩ = some (.bool false) := (blk_cell BK939.out 2).trans rfl; have hfz55_0 := blk_frozen BK939.out 0; have hfz55_1 := blk_frozen BK939.out 1; have hfz55_2 := blk_frozen BK939.out 2; have p940 : 0 ≤ ((ji32) : Int) := of_decide_eq_true ap0; have q940 : (ji32) < (t931.length : Int) := of_decide_eq_true ap0; obtain ⟨ad940, e940, hx940_0⟩ := Kd.at_string (Kd.R_reads' HO_7.out).2.2 (ji32) p940 q940; obtain rfl : ad934 = ad940 := (by injection e940); have hn940_0 : ad934.block ≠ gb939 := Kd.own_blk (Kd.R_ne HO_7.out BK939.out (by decide)); have hn940_1 : ad934.block ≠ gb939 := Kd.own_blk (Kd.R_ne HO_7.out BK939.out (by decide)); have hn940_2 : ad934.block ≠ gb939 := Kd.own_blk (Kd.R_ne HO_7.out BK939.out (by decide)); replace hx940_0 := (cell_far (p := ⟨gb939, 0, none⟩) (by first | (rw [add_block]; exact hn940_0) | (show (Addr.add _ _).block ≠ _; rw [add_block]; exact hn940_0) | exact hn940_0) (.string t935)).trans hx940_0; replace hx940_0 := (cell_far (p := ⟨gb939, 1, none⟩) (by first | (rw [add_block]; exact hn940_1) | (show (Addr.add _ _).block ≠ _; rw [add_block]; exact hn940_1) | exact hn940_1) (.int .i64 t936)).trans hx940_0; replace hx940_0 := (cell_far (p := ⟨gb939, 2, none⟩) (by first | (rw [add_block]; exact hn940_2) | (show (Addr.add _ _).block ≠ _; rw [add_block]; exact hn940_2) | exact hn940_2) (.bool t937)).trans hx940_0; (try have hy940_0 := fun (n_ : Nat) => (show (((((w52.drewN n_).setCell ⟨gb939, 0, none⟩ (.string t935)).setCell ⟨gb939, 1, none⟩ (.int .i64 t936)).setCell ⟨gb939, 2, none⟩ (.bool t937))).cell? _ = some _ from hx940_0)); clear hn940_0; clear hn940_1; clear hn940_2; replace p940 := eq_true p940; replace q940 := eq_true q940; have p941 : 0 ≤ (x9_2 : Int) := of_decide_eq_true ap0; have q941 : x9_2 < (t931.length : Int) := of_decide_eq_true ap0; obtain ⟨ad941, e941, hx941_0⟩ := Kd.at_string (Kd.R_reads' HO_7.out).2.2 x9_2 p941 q941; obtain rfl : ad934 = ad941 := (by injection e941); have hn941_0 : ad934.block ≠ gb939 := Kd.own_blk (Kd.R_ne HO_7.out BK939.out (by decide)); have hn941_1 : ad934.block ≠ gb939 := Kd.own_blk (Kd.R_ne HO_7.out BK939.out (by decide)); have hn941_2 : ad934.block ≠ gb939 := Kd.own_blk (Kd.R_ne HO_7.out BK939.out (by decide)); replace hx941_0 := (cell_far (p := ⟨gb939, 0, none⟩) (by first | (rw [add_block]; exact hn941_0) | (show (Addr.add _ _).block ≠ _; rw [add_block]; exact hn941_0) | exact hn941_0) (.string t935)).trans hx941_0; replace hx941_0 := (cell_far (p := ⟨gb939, 1, none⟩) (by first | (rw [add_block]; exact hn941_1) | (show (Addr.add _ _).block ≠ _; rw [add_block]; exact hn941_1) | exact hn941_1) (.int .i64 t936)).trans hx941_0; replace hx941_0 := (cell_far (p := ⟨gb939, 2, none⟩) (by first | (rw [add_block]; exact hn941_2) | (show (Addr.add _ _).block ≠ _; rw [add_block]; exact hn941_2) | exact hn941_2) (.bool t937)).trans hx941_0; (try have hy941_0 := fun (n_ : Nat) => (show (((((w52.drewN n_).setCell ⟨gb939, 0, none⟩ (.string t935)).setCell ⟨gb939, 1, none⟩ (.int .i64 t936)).setCell ⟨gb939, 2, none⟩ (.bool t937))).cell? _ = some _ from hx941_0)); clear hn941_0; clear hn941_1; clear hn941_2; replace p941 := eq_true p941; replace q941 := eq_true q941) | (go_at_call 24; (with_reducible refine (R01Less.calls k2 (rdOf ByteArray.empty t931 (ji32)) (rdOf ByteArray.empty t931 x9_2) t942 _ A35.out).mono ?_); rintro e w' ⟨rfl, ⟨nd, rfl⟩⟩; (try exact ap4); have p943 : 0 ≤ (x9_2 : Int) := of_decide_eq_true ap0; have q943 : x9_2 < (t931.length : Int) := of_decide_eq_true ap0; obtain ⟨ad943, e943, hx943_0⟩ := Kd.at_string (Kd.R_reads' HO_7.out).2.2 x9_2 p943 q943; obtain rfl : ad934 = ad943 := (by injection e943); have hn943_0 : ad934.block ≠ gb939 := Kd.own_blk (Kd.R_ne HO_7.out BK939.out (by decide)); have hn943_1 : ad934.block ≠ gb939 := Kd.own_blk (Kd.R_ne HO_7.out BK939.out (by decide)); have hn943_2 : ad934.block ≠ gb939 := Kd.own_blk (Kd.R_ne HO_7.out BK939.out (by decide)); replace hx943_0 := (cell_far (p := ⟨gb939, 0, none⟩) (by first | (rw [add_block]; exact hn943_0) | (show (Addr.add _ _).block ≠ _; rw [add_block]; exact hn943_0) | exact hn943_0) (.string t935)).trans hx943_0; replace hx943_0 := (cell_far (p := ⟨gb939, 1, none⟩) (by first | (rw [add_block]; exact hn943_1) | (show (Addr.add _ _).block ≠ _; rw [add_block]; exact hn943_1) | exact hn943_1) (.int .i64 t936)).trans hx943_0; replace hx943_0 := (cell_far (p := ⟨gb939, 2, none⟩) (by first | (rw [add_block]; exact hn943_2) | (show (Addr.add _ _).block ≠ _; rw [add_block]; exact hn943_2) | exact hn943_2) (.bool t937)).trans hx943_0; (try have hy943_0 := fun (n_ : Nat) => (show (((((w52.drewN n_).setCell ⟨gb939, 0, none⟩ (.string t935)).setCell ⟨gb939, 1, none⟩ (.int .i64 t936)).setCell ⟨gb939, 2, none⟩ (.bool t937))).cell? _ = some _ from hx943_0)); clear hn943_0; clear hn943_1; clear hn943_2; replace p943 := eq_true p943; replace q943 := eq_true q943; have hnb56 := NB925_930.out; have hnc56 := NB930_925.out; have hcz57_0 : w52.cell? ⟨gb925, 0, none⟩ = some (.string t921) := (blk_cell BK925.out 0).trans rfl; have hcz57_1 : w52.cell? ⟨gb925, 1, none⟩ = some (.int .i64 t922) := (blk_cell BK925.out 1).trans rfl; have hcz57_2 : w52.cell? ⟨gb925, 2, none⟩ = some (.bool t923) := (blk_cell BK925.out 2).trans rfl; have hfz57_0 := blk_frozen BK925.out 0; have hfz57_1 := blk_frozen BK925.out 1; have hfz57_2 := blk_frozen BK925.out 2)))
                go_roundg k2
                case measure => have := HJ7.out; have := HK2.out; omega
                case rel => exact ⟨(((rdOf ByteArray.empty t931 x9_2).toList == t921.toList)), (wrap64 (x9_2 + 1)), ap2, ap2, H', ⟨by have := HJ7.out; have := HK2.out; omega⟩, ⟨by (with_reducible repeat (first | apply Kd.R_alloc | apply Kd.R_drewN | apply Kd.R_drew)); exact Kd.R_mono (Kd.R_far (p := ⟨gb939, 2, none⟩) (Kd.R_far (p := ⟨gb939, 1, none⟩) (Kd.R_far (p := ⟨gb939, 0, none⟩) (Kd.R_types HO_7.out BK939.out (by decide)) (fun _ hk => hk.2) (.string t935)) (fun _ hk => hk.2) (.int .i64 t936)) (fun _ hk => hk.2) (.bool t937)) (fun _ hk => trivial)⟩, ⟨by (with_reducible repeat (first | refine blk_drewN ?_ _ | refine blk_drew ?_ | refine blk_alloc ?_ _)); refine blk_far ?_ NB925_939.out _; (with_reducible repeat (first | refine blk_drewN ?_ _ | refine blk_drew ?_ | refine blk_alloc ?_ _)); refine blk_far ?_ NB925_939.out _; (with_reducible repeat (first | refine blk_drewN ?_ _ | refine blk_drew ?_ | refine blk_alloc ?_ _)); refine blk_far ?_ NB925_939.out _; (with_reducible repeat (first | refine blk_drewN ?_ _ | refine blk_drew ?_ | refine blk_alloc ?_ _)); exact BK925.out⟩, ⟨by (with_reducible repeat (first | refine blk_drewN ?_ _ | refine blk_drew ?_ | refine blk_alloc ?_ _)); refine blk_far ?_ NB930_939.out _; (with_reducible repeat (first | refine blk_drewN ?_ _ | refine blk_drew ?_ | refine blk_alloc ?_ _)); refine blk_far ?_ NB930_939.out _; (with_reducible repeat (first | refine blk_drewN ?_ _ | refine blk_drew ?_ | refine blk_alloc ?_ _)); refine blk_far ?_ NB930_939.out _; (with_reducible repeat (first | refine blk_drewN ?_ _ | refine blk_drew ?_ | refine blk_alloc ?_ _)); exact BK930.out⟩, ⟨by repeat (first | (with_reducible first | exact HB.out | apply below_alloc | apply pw_below_drewN | apply below_drew1 | refine below_set ?_ GE925.out | refine below_set ?_ GE930.out | refine below_set ?_ GE939.out) | exact HB.out)⟩⟩
             ·
              rw [if_neg c34] at H
              exact absurd H (by simp)
            ·
             rw [if_neg c33] at H
             exact absurd H (by simp)
           ·
            rw [if_neg c31] at H
            have c31b0 := decide_eq_false c31
            clear c31
            by_cases c58 : x8_2 = true
            ·
             subst c58
             rw [if_pos rfl] at H
             have H' := Aside0.mk H
             clear H
             obtain ⟨Ao59, co59, eo59⟩ := Kd.R_slice HO_7.out
             subst eo59
             have p934 : 0 ≤ (x9_2 : Int) := of_decide_eq_true ap0
             have q934 : x9_2 < (t931.length : Int) := of_decide_eq_true ap0
             obtain ⟨ad934, e934, hx934_0⟩ := Kd.at_string (Kd.R_reads' HO_7.out).2.2 x9_2 p934 q934
             cases e934
             replace p934 := eq_true p934
             replace q934 := eq_true q934
             go_wp2_with (first | (go_at_call 22; (with_reducible refine (R16Find.calls k2 (rdOf ByteArray.empty t931 x9_2) t935 t936 t937 true _ A29.out).mono ?_); rintro e w60 ⟨rfl, hb⟩; have n0_ := Aside0.mk (Kd.R_below (apAR HO_7.out) hb); have n1_ := Aside0.mk (blk_below (g := gb925) (o := .cells #[.string t921, .int .i64 t922, .bool t923] 23 (0, 0)) (apB BK925.out) hb); have n2_ := Aside0.mk (blk_below (g := gb930) (o := .cells #[.string t926, .int .i64 t927, .bool t928] 23 (0, 0)) (apB BK930.out) hb); have n3_ := Aside0.mk (below_step (by repeat (first | (with_reducible first | exact HB.out | apply below_alloc | apply pw_below_drewN | apply below_drew1 | refine below_set ?_ GE925.out | refine below_set ?_ GE930.out) | exact HB.out)) hb); clear HO_7; clear BK925; clear BK930; clear HB; have HO_7 := n0_; have BK925 := n1_; have BK930 := n2_; have HB := n3_; clear n0_ n1_ n2_ n3_; (try clear hb); (try clear hb2); (try clear hk); (try clear hi)) | ((with_reducible refine gate_dst (N := 10) rfl ?_); refine box_event ?hg (N := 10) ?hd (cs := #[.string (⟨#[]⟩ : ByteArray), .int .i64 0, .bool false]) (t := 23) ?hr ?_; (case hd => rfl); (case hg => rfl); (case hr => first | (go_simp; done) | (go_simp; rfl)); intro gb939 hg w61 hbox hb; have n0_ := Aside0.mk (Kd.R_below (apAR HO_7.out) hb); have n1_ := Aside0.mk (blk_below (g := gb925) (o := .cells #[.string t921, .int .i64 t922, .bool t923] 23 (0, 0)) (apB BK925.out) hb); have n2_ := Aside0.mk (blk_below (g := gb930) (o := .cells #[.string t926, .int .i64 t927, .bool t928] 23 (0, 0)) (apB BK930.out) hb); have n3_ := Aside0.mk (below_step (by repeat (first | (with_reducible first | exact HB.out | apply below_alloc | apply pw_below_drewN | apply below_drew1 | refine below_set ?_ GE925.out | refine below_set ?_ GE930.out) | exact HB.out)) hb); have n4_ := Aside0.mk (hbox); have n5_ := Aside0.mk ((by rw [hg]; exact (below_size (by repeat (first | (with_reducible first | exact HB.out | apply below_alloc | apply pw_below_drewN | apply below_drew1 | refine below_set ?_ GE925.out | refine below_set ?_ GE930.out) | exact HB.out))) : w.heap.size ≤ gb939)); have n6_ := Aside0.mk ((by rw [hg]; exact (below_size (by repeat (first | (with_reducible first | exact HB.out | apply below_alloc | apply pw_below_drewN | apply below_drew1 | refine below_set ?_ GE925.out | refine below_set ?_ GE930.out) | exact HB.out))) : w.heap.size ≤ gb939)); have n7_ := Aside0.mk ((by rw [hg]; exact Nat.ne_of_lt (blk_lt (g := gb925) (o := .cells #[.string t921, .int .i64 t922, .bool t923] 23 (0, 0)) (apB BK925.out)) : gb925 ≠ gb939)); have n8_ := Aside0.mk ((by rw [hg]; exact Nat.ne_of_gt (blk_lt (g := gb925) (o := .cells #[.string t921, .int .i64 t922, .bool t923] 23 (0, 0)) (apB BK925.out)) : gb939 ≠ gb925)); have n9_ := Aside0.mk ((by rw [hg]; exact Nat.ne_of_lt (blk_lt (g := gb930) (o := .cells #[.string t926, .int .i64 t927, .bool t928] 23 (0, 0)) (apB BK930.out)) : gb930 ≠ gb939)); have n10_ := Aside0.mk ((by rw [hg]; exact Nat.ne_of_gt (blk_lt (g := gb930) (o := .cells #[.string t926, .int .i64 t927, .bool t928] 23 (0, 0)) (apB BK930.out)) : gb939 ≠ gb930)); clear HO_7; clear BK925; clear BK930; clear HB; have HO_7 := n0_; have BK925 := n1_; have BK930 := n2_; have HB := n3_; have BK939 := n4_; have GW939 := n5_; have GE939 := n6_; have NB925_939 := n7_; have NB939_925 := n8_; have NB930_939 := n9_; have NB939_930 := n10_; clear n0_ n1_ n2_ n3_ n4_ n5_ n6_ n7_ n8_ n9_ n10_; clear hb hbox hg; have hnb62 := NB939_925.out; have hnc62 := NB925_939.out; have hnb63 := NB939_930.out; have hnc63 := NB930_939.out; have hcz64_0 : w61.cell? ⟨gb939, 0, none⟩ = some (.string (⟨#[]⟩ : ByteArray)) := (blk_cell BK939.out 0).trans rfl; have hcz64_1 : w61.cell? ⟨gb939, 1, none⟩ = some (.int .i64 0) := (blk_cell BK939.out 1).trans rfl; have hcz64_2 : w61.cell? ⟨gb939, 2, none⟩ = some (.bool false) := (blk_cell BK939.out 2).trans rfl; have hfz64_0 := blk_frozen BK939.out 0; have hfz64_1 := blk_frozen BK939.out 1; have hfz64_2 := blk_frozen BK939.out 2))
             repeat (go_quiet (first | (go_at_call 22; (with_reducible refine (R16Find.calls k2 (rdOf ByteArray.empty t931 x9_2) t935 t936 t937 true _ A29.out).mono ?_); rintro e w60 ⟨rfl, hb⟩; have n0_ := Aside0.mk (Kd.R_below (apAR HO_7.out) hb); have n1_ := Aside0.mk (blk_below (g := gb925) (o := .cells #[.string t921, .int .i64 t922, .bool t923] 23 (0, 0)) (apB BK925.out) hb); have n2_ := Aside0.mk (blk_below (g := gb930) (o := .cells #[.string t926, .int .i64 t927, .bool t928] 23 (0, 0)) (apB BK930.out) hb); have n3_ := Aside0.mk (below_step (by repeat (first | (with_reducible first | exact HB.out | apply below_alloc | apply pw_below_drewN | apply below_drew1 | refine below_set ?_ GE925.out | refine below_set ?_ GE930.out) | exact HB.out)) hb); clear HO_7; clear BK925; clear BK930; clear HB; have HO_7 := n0_; have BK925 := n1_; have BK930 := n2_; have HB := n3_; clear n0_ n1_ n2_ n3_; (try clear hb); (try clear hb2); (try clear hk); (try clear hi)) | ((with_reducible refine gate_dst (N := 10) rfl ?_); refine box_event ?hg (N := 10) ?hd (cs := #[.string (⟨#[]⟩ : ByteArray), .int .i64 0, .bool false]) (t := 23) ?hr ?_; (case hd => rfl); (case hg => rfl); (case hr => first | (go_simp; done) | (go_simp; rfl)); intro gb939 hg w61 hbox hb; have n0_ := Aside0.mk (Kd.R_below (apAR HO_7.out) hb); have n1_ := Aside0.mk (blk_below (g := gb925) (o := .cells #[.string t921, .int .i64 t922, .bool t923] 23 (0, 0)) (apB BK925.out) hb); have n2_ := Aside0.mk (blk_below (g := gb930) (o := .cells #[.string t926, .int .i64 t927, .bool t928] 23 (0, 0)) (apB BK930.out) hb); have n3_ := Aside0.mk (below_step (by repeat (first | (with_reducible first | exact HB.out | apply below_alloc | apply pw_below_drewN | apply below_drew1 | refine below_set ?_ GE925.out | refine below_set ?_ GE930.out) | exact HB.out)) hb); have n4_ := Aside0.mk (hbox); have n5_ := Aside0.mk ((by rw [hg]; exact (below_size (by repeat (first | (with_reducible first | exact HB.out | apply below_alloc | apply pw_below_drewN | apply below_drew1 | refine below_set ?_ GE925.out | refine below_set ?_ GE930.out) | exact HB.out))) : w.heap.size ≤ gb939)); have n6_ := Aside0.mk ((by rw [hg]; exact (below_size (by repeat (first | (with_reducible first | exact HB.out | apply below_alloc | apply pw_below_drewN | apply below_drew1 | refine below_set ?_ GE925.out | refine below_set ?_ GE930.out) | exact HB.out))) : w.heap.size ≤ gb939)); have n7_ := Aside0.mk ((by rw [hg]; exact Nat.ne_of_lt (blk_lt (g := gb925) (o := .cells #[.string t921, .int .i64 t922, .bool t923] 23 (0, 0)) (apB BK925.out)) : gb925 ≠ gb939)); have n8_ := Aside0.mk ((by rw [hg]; exact Nat.ne_of_gt (blk_lt (g := gb925) (o := .cells #[.string t921, .int .i64 t922, .bool t923] 23 (0, 0)) (apB BK925.out)) : gb939 ≠ gb925)); have n9_ := Aside0.mk ((by rw [hg]; exact Nat.ne_of_lt (blk_lt (g := gb930) (o := .cells #[.string t926, .int .i64 t927, .bool t928] 23 (0, 0)) (apB BK930.out)) : gb930 ≠ gb939)); have n10_ := Aside0.mk ((by rw [hg]; exact Nat.ne_of_gt (blk_lt (g := gb930) (o := .cells #[.string t926, .int .i64 t927, .bool t928] 23 (0, 0)) (apB BK930.out)) : gb939 ≠ gb930)); clear HO_7; clear BK925; clear BK930; clear HB; have HO_7 := n0_; have BK925 := n1_; have BK930 := n2_; have HB := n3_; have BK939 := n4_; have GW939 := n5_; have GE939 := n6_; have NB925_939 := n7_; have NB939_925 := n8_; have NB930_939 := n9_; have NB939_930 := n10_; clear n0_ n1_ n2_ n3_ n4_ n5_ n6_ n7_ n8_ n9_ n10_; clear hb hbox hg; have hnb62 := NB939_925.out; have hnc62 := NB925_939.out; have hnb63 := NB939_930.out; have hnc63 := NB930_939.out; have hcz64_0 : w61.cell? ⟨gb939, 0, none⟩ = some (.string (⟨#[]⟩ : ByteArray)) := (blk_cell BK939.out 0).trans rfl; have hcz64_1 : w61.cell? ⟨gb939, 1, none⟩ = some (.int .i64 0) := (blk_cell BK939.out 1).trans rfl; have hcz64_2 : w61.cell? ⟨gb939, 2, none⟩ = some (.bool false) := (blk_cell BK939.out 2).trans rfl; have hfz64_0 := blk_frozen BK939.out 0; have hfz64_1 := blk_frozen BK939.out 1; have hfz64_2 := blk_frozen BK939.out 2)); try go_wp2_with (first | (go_at_call 22; (with_reducible refine (R16Find.calls k2 (rdOf ByteArray.empty t931 x9_2) t935 t936 t937 true _ A29.out).mono ?_); rintro e w60 ⟨rfl, hb⟩; have n0_ := Aside0.mk (Kd.R_below (apAR HO_7.out) hb); have n1_ := Aside0.mk (blk_below (g := gb925) (o := .cells #[.string t921, .int .i64 t922, .bool t923] 23 (0, 0)) (apB BK925.out) hb); have n2_ := Aside0.mk (blk_below (g := gb930) (o := .cells #[.string t926, .int .i64 t927, .bool t928] 23 (0, 0)) (apB BK930.out) hb); have n3_ := Aside0.mk (below_step (by repeat (first | (with_reducible first | exact HB.out | apply below_alloc | apply pw_below_drewN | apply below_drew1 | refine below_set ?_ GE925.out | refine below_set ?_ GE930.out) | exact HB.out)) hb); clear HO_7; clear BK925; clear BK930; clear HB; have HO_7 := n0_; have BK925 := n1_; have BK930 := n2_; have HB := n3_; clear n0_ n1_ n2_ n3_; (try clear hb); (try clear hb2); (try clear hk); (try clear hi)) | ((with_reducible refine gate_dst (N := 10) rfl ?_); refine box_event ?hg (N := 10) ?hd (cs := #[.string (⟨#[]⟩ : ByteArray), .int .i64 0, .bool false]) (t := 23) ?hr ?_; (case hd => rfl); (case hg => rfl); (case hr => first | (go_simp; done) | (go_simp; rfl)); intro gb939 hg w61 hbox hb; have n0_ := Aside0.mk (Kd.R_below (apAR HO_7.out) hb); have n1_ := Aside0.mk (blk_below (g := gb925) (o := .cells #[.string t921, .int .i64 t922, .bool t923] 23 (0, 0)) (apB BK925.out) hb); have n2_ := Aside0.mk (blk_below (g := gb930) (o := .cells #[.string t926, .int .i64 t927, .bool t928] 23 (0, 0)) (apB BK930.out) hb); have n3_ := Aside0.mk (below_step (by repeat (first | (with_reducible first | exact HB.out | apply below_alloc | apply pw_below_drewN | apply below_drew1 | refine below_set ?_ GE925.out | refine below_set ?_ GE930.out) | exact HB.out)) hb); have n4_ := Aside0.mk (hbox); have n5_ := Aside0.mk ((by rw [hg]; exact (below_size (by repeat (first | (with_reducible first | exact HB.out | apply below_alloc | apply pw_below_drewN | apply below_drew1 | refine below_set ?_ GE925.out | refine below_set ?_ GE930.out) | exact HB.out))) : w.heap.size ≤ gb939)); have n6_ := Aside0.mk ((by rw [hg]; exact (below_size (by repeat (first | (with_reducible first | exact HB.out | apply below_alloc | apply pw_below_drewN | apply below_drew1 | refine below_set ?_ GE925.out | refine below_set ?_ GE930.out) | exact HB.out))) : w.heap.size ≤ gb939)); have n7_ := Aside0.mk ((by rw [hg]; exact Nat.ne_of_lt (blk_lt (g := gb925) (o := .cells #[.string t921, .int .i64 t922, .bool t923] 23 (0, 0)) (apB BK925.out)) : gb925 ≠ gb939)); have n8_ := Aside0.mk ((by rw [hg]; exact Nat.ne_of_gt (blk_lt (g := gb925) (o := .cells #[.string t921, .int .i64 t922, .bool t923] 23 (0, 0)) (apB BK925.out)) : gb939 ≠ gb925)); have n9_ := Aside0.mk ((by rw [hg]; exact Nat.ne_of_lt (blk_lt (g := gb930) (o := .cells #[.string t926, .int .i64 t927, .bool t928] 23 (0, 0)) (apB BK930.out)) : gb930 ≠ gb939)); have n10_ := Aside0.mk ((by rw [hg]; exact Nat.ne_of_gt (blk_lt (g := gb930) (o := .cells #[.string t926, .int .i64 t927, .bool t928] 23 (0, 0)) (apB BK930.out)) : gb939 ≠ gb930)); clear HO_7; clear BK925; clear BK930; clear HB; have HO_7 := n0_; have BK925 := n1_; have BK930 := n2_; have HB := n3_; have BK939 := n4_; have GW939 := n5_; have GE939 := n6_; have NB925_939 := n7_; have NB939_925 := n8_; have NB930_939 := n9_; have NB939_930 := n10_; clear n0_ n1_ n2_ n3_ n4_ n5_ n6_ n7_ n8_ n9_ n10_; clear hb hbox hg; have hnb62 := NB939_925.out; have hnc62 := NB925_939.out; have hnb63 := NB939_930.out; have hnc63 := NB930_939.out; have hcz64_0 : w61.cell? ⟨gb939, 0, none⟩ = some (.string (⟨#[]⟩ : ByteArray)) := (blk_cell BK939.out 0).trans rfl; have hcz64_1 : w61.cell? ⟨gb939, 1, none⟩ = some (.int .i64 0) := (blk_cell BK939.out 1).trans rfl; have hcz64_2 : w61.cell? ⟨gb939, 2, none⟩ = some (.bool false) := (blk_cell BK939.out 2).trans rfl; have hfz64_0 := blk_frozen BK939.out 0; have hfz64_1 := blk_frozen BK939.out 1; have hfz64_2 := blk_frozen BK939.out 2)))
             go_roundg k2
             case measure => have := HJ7.out; have := HK2.out; omega
             case rel => exact ⟨(true), (wrap64 (x9_2 + 1)), ap2, ap2, H', ⟨by have := HJ7.out; have := HK2.out; omega⟩, ⟨by (with_reducible repeat (first | apply Kd.R_alloc | apply Kd.R_drewN | apply Kd.R_drew)); exact Kd.R_mono (Kd.R_far (p := ⟨gb939, 2, none⟩) (Kd.R_far (p := ⟨gb939, 1, none⟩) (Kd.R_far (p := ⟨gb939, 0, none⟩) (Kd.R_types HO_7.out BK939.out (by decide)) (fun _ hk => hk.2) (.string t935)) (fun _ hk => hk.2) (.int .i64 t936)) (fun _ hk => hk.2) (.bool t937)) (fun _ hk => trivial)⟩, ⟨by (with_reducible repeat (first | refine blk_drewN ?_ _ | refine blk_drew ?_ | refine blk_alloc ?_ _)); refine blk_far ?_ NB925_939.out _; (with_reducible repeat (first | refine blk_drewN ?_ _ | refine blk_drew ?_ | refine blk_alloc ?_ _)); refine blk_far ?_ NB925_939.out _; (with_reducible repeat (first | refine blk_drewN ?_ _ | refine blk_drew ?_ | refine blk_alloc ?_ _)); refine blk_far ?_ NB925_939.out _; (with_reducible repeat (first | refine blk_drewN ?_ _ | refine blk_drew ?_ | refine blk_alloc ?_ _)); exact BK925.out⟩, ⟨by (with_reducible repeat (first | refine blk_drewN ?_ _ | refine blk_drew ?_ | refine blk_alloc ?_ _)); refine blk_far ?_ NB930_939.out _; (with_reducible repeat (first | refine blk_drewN ?_ _ | refine blk_drew ?_ | refine blk_alloc ?_ _)); refine blk_far ?_ NB930_939.out _; (with_reducible repeat (first | refine blk_drewN ?_ _ | refine blk_drew ?_ | refine blk_alloc ?_ _)); refine blk_far ?_ NB930_939.out _; (with_reducible repeat (first | refine blk_drewN ?_ _ | refine blk_drew ?_ | refine blk_alloc ?_ _)); exact BK930.out⟩, ⟨by repeat (first | (with_reducible first | exact HB.out | apply below_alloc | apply pw_below_drewN | apply below_drew1 | refine below_set ?_ GE925.out | refine below_set ?_ GE930.out | refine below_set ?_ GE939.out) | exact HB.out)⟩⟩
            ·
             replace c58 := Bool.eq_false_iff.mpr c58
             subst c58
             rw [if_neg (show ¬ (false = true) by decide)] at H
             have H' := Aside0.mk H
             clear H
             obtain ⟨Ao65, co65, eo65⟩ := Kd.R_slice HO_7.out
             subst eo65
             have p934 : 0 ≤ (x9_2 : Int) := of_decide_eq_true ap0
             have q934 : x9_2 < (t931.length : Int) := of_decide_eq_true ap0
             obtain ⟨ad934, e934, hx934_0⟩ := Kd.at_string (Kd.R_reads' HO_7.out).2.2 x9_2 p934 q934
             cases e934
             replace p934 := eq_true p934
             replace q934 := eq_true q934
             go_wp2_with (first | (go_at_call 22; (with_reducible refine (R16Find.calls k2 (rdOf ByteArray.empty t931 x9_2) t935 t936 t937 true _ A29.out).mono ?_); rintro e w66 ⟨rfl, hb⟩; have n0_ := Aside0.mk (Kd.R_below (apAR HO_7.out) hb); have n1_ := Aside0.mk (blk_below (g := gb925) (o := .cells #[.string t921, .int .i64 t922, .bool t923] 23 (0, 0)) (apB BK925.out) hb); have n2_ := Aside0.mk (blk_below (g := gb930) (o := .cells #[.string t926, .int .i64 t927, .bool t928] 23 (0, 0)) (apB BK930.out) hb); have n3_ := Aside0.mk (below_step (by repeat (first | (with_reducible first | exact HB.out | apply below_alloc | apply pw_below_drewN | apply below_drew1 | refine below_set ?_ GE925.out | refine below_set ?_ GE930.out) | exact HB.out)) hb); clear HO_7; clear BK925; clear BK930; clear HB; have HO_7 := n0_; have BK925 := n1_; have BK930 := n2_; have HB := n3_; clear n0_ n1_ n2_ n3_; (try clear hb); (try clear hb2); (try clear hk); (try clear hi)) | ((with_reducible refine gate_dst (N := 10) rfl ?_); refine box_event ?hg (N := 10) ?hd (cs := #[.string (⟨#[]⟩ : ByteArray), .int .i64 0, .bool false]) (t := 23) ?hr ?_; (case hd => rfl); (case hg => rfl); (case hr => first | (go_simp; done) | (go_simp; rfl)); intro gb939 hg w67 hbox hb; have n0_ := Aside0.mk (Kd.R_below (apAR HO_7.out) hb); have n1_ := Aside0.mk (blk_below (g := gb925) (o := .cells #[.string t921, .int .i64 t922, .bool t923] 23 (0, 0)) (apB BK925.out) hb); have n2_ := Aside0.mk (blk_below (g := gb930) (o := .cells #[.string t926, .int .i64 t927, .bool t928] 23 (0, 0)) (apB BK930.out) hb); have n3_ := Aside0.mk (below_step (by repeat (first | (with_reducible first | exact HB.out | apply below_alloc | apply pw_below_drewN | apply below_drew1 | refine below_set ?_ GE925.out | refine below_set ?_ GE930.out) | exact HB.out)) hb); have n4_ := Aside0.mk (hbox); have n5_ := Aside0.mk ((by rw [hg]; exact (below_size (by repeat (first | (with_reducible first | exact HB.out | apply below_alloc | apply pw_below_drewN | apply below_drew1 | refine below_set ?_ GE925.out | refine below_set ?_ GE930.out) | exact HB.out))) : w.heap.size ≤ gb939)); have n6_ := Aside0.mk ((by rw [hg]; exact (below_size (by repeat (first | (with_reducible first | exact HB.out | apply below_alloc | apply pw_below_drewN | apply below_drew1 | refine below_set ?_ GE925.out | refine below_set ?_ GE930.out) | exact HB.out))) : w.heap.size ≤ gb939)); have n7_ := Aside0.mk ((by rw [hg]; exact Nat.ne_of_lt (blk_lt (g := gb925) (o := .cells #[.string t921, .int .i64 t922, .bool t923] 23 (0, 0)) (apB BK925.out)) : gb925 ≠ gb939)); have n8_ := Aside0.mk ((by rw [hg]; exact Nat.ne_of_gt (blk_lt (g := gb925) (o := .cells #[.string t921, .int .i64 t922, .bool t923] 23 (0, 0)) (apB BK925.out)) : gb939 ≠ gb925)); have n9_ := Aside0.mk ((by rw [hg]; exact Nat.ne_of_lt (blk_lt (g := gb930) (o := .cells #[.string t926, .int .i64 t927, .bool t928] 23 (0, 0)) (apB BK930.out)) : gb930 ≠ gb939)); have n10_ := Aside0.mk ((by rw [hg]; exact Nat.ne_of_gt (blk_lt (g := gb930) (o := .cells #[.string t926, .int .i64 t927, .bool t928] 23 (0, 0)) (apB BK930.out)) : gb939 ≠ gb930)); clear HO_7; clear BK925; clear BK930; clear HB; have HO_7 := n0_; have BK925 := n1_; have BK930 := n2_; have HB := n3_; have BK939 := n4_; have GW939 := n5_; have GE939 := n6_; have NB925_939 := n7_; have NB939_925 := n8_; have NB930_939 := n9_; have NB939_930 := n10_; clear n0_ n1_ n2_ n3_ n4_ n5_ n6_ n7_ n8_ n9_ n10_; clear hb hbox hg; have hnb68 := NB939_925.out; have hnc68 := NB925_939.out; have hnb69 := NB939_930.out; have hnc69 := NB930_939.out; have hcz70_0 : w67.cell? ⟨gb939, 0, none⟩ = some (.string (⟨#[]⟩ : ByteArray)) := (blk_cell BK939.out 0).trans rfl; have hcz70_1 : w67.cell? ⟨gb939, 1, none⟩ = some (.int .i64 0) := (blk_cell BK939.out 1).trans rfl; have hcz70_2 : w67.cell? ⟨gb939, 2, none⟩ = some (.bool false) := (blk_cell BK939.out 2).trans rfl; have hfz70_0 := blk_frozen BK939.out 0; have hfz70_1 := blk_frozen BK939.out 1; have hfz70_2 := blk_frozen BK939.out 2; have p944 : 0 ≤ (x9_2 : Int) := of_decide_eq_true ap0; have q944 : x9_2 < (t931.length : Int) := of_decide_eq_true ap0; obtain ⟨ad944, e944, hx944_0⟩ := Kd.at_string (Kd.R_reads' HO_7.out).2.2 x9_2 p944 q944; obtain rfl : ad934 = ad944 := (by injection e944); have hn944_0 : ad934.block ≠ gb939 := Kd.own_blk (Kd.R_ne HO_7.out BK939.out (by decide)); have hn944_1 : ad934.block ≠ gb939 := Kd.own_blk (Kd.R_ne HO_7.out BK939.out (by decide)); have hn944_2 : ad934.block ≠ gb939 := Kd.own_blk (Kd.R_ne HO_7.out BK939.out (by decide)); replace hx944_0 := (cell_far (p := ⟨gb939, 0, none⟩) (by first | (rw [add_block]; exact hn944_0) | (show (Addr.add _ _).block ≠ _; rw [add_block]; exact hn944_0) | exact hn944_0) (.string t935)).trans hx944_0; replace hx944_0 := (cell_far (p := ⟨gb939, 1, none⟩) (by first | (rw [add_block]; exact hn944_1) | (show (Addr.add _ _).block ≠ _; rw [add_block]; exact hn944_1) | exact hn944_1) (.int .i64 t936)).trans hx944_0; replace hx944_0 := (cell_far (p := ⟨gb939, 2, none⟩) (by first | (rw [add_block]; exact hn944_2) | (show (Addr.add _ _).block ≠ _; rw [add_block]; exact hn944_2) | exact hn944_2) (.bool t937)).trans hx944_0; (try have hy944_0 := fun (n_ : Nat) => (show (((((w67.drewN n_).setCell ⟨gb939, 0, none⟩ (.string t935)).setCell ⟨gb939, 1, none⟩ (.int .i64 t936)).setCell ⟨gb939, 2, none⟩ (.bool t937))).cell? _ = some _ from hx944_0)); clear hn944_0; clear hn944_1; clear hn944_2; replace p944 := eq_true p944; replace q944 := eq_true q944; have hnb71 := NB925_930.out; have hnc71 := NB930_925.out; have hcz72_0 : w67.cell? ⟨gb925, 0, none⟩ = some (.string t921) := (blk_cell BK925.out 0).trans rfl; have hcz72_1 : w67.cell? ⟨gb925, 1, none⟩ = some (.int .i64 t922) := (blk_cell BK925.out 1).trans rfl; have hcz72_2 : w67.cell? ⟨gb925, 2, none⟩ = some (.bool t923) := (blk_cell BK925.out 2).trans rfl; have hfz72_0 := blk_frozen BK925.out 0; have hfz72_1 := blk_frozen BK925.out 1; have hfz72_2 := blk_frozen BK925.out 2))
             repeat (go_quiet (first | (go_at_call 22; (with_reducible refine (R16Find.calls k2 (rdOf ByteArray.empty t931 x9_2) t935 t936 t937 true _ A29.out).mono ?_); rintro e w66 ⟨rfl, hb⟩; have n0_ := Aside0.mk (Kd.R_below (apAR HO_7.out) hb); have n1_ := Aside0.mk (blk_below (g := gb925) (o := .cells #[.string t921, .int .i64 t922, .bool t923] 23 (0, 0)) (apB BK925.out) hb); have n2_ := Aside0.mk (blk_below (g := gb930) (o := .cells #[.string t926, .int .i64 t927, .bool t928] 23 (0, 0)) (apB BK930.out) hb); have n3_ := Aside0.mk (below_step (by repeat (first | (with_reducible first | exact HB.out | apply below_alloc | apply pw_below_drewN | apply below_drew1 | refine below_set ?_ GE925.out | refine below_set ?_ GE930.out) | exact HB.out)) hb); clear HO_7; clear BK925; clear BK930; clear HB; have HO_7 := n0_; have BK925 := n1_; have BK930 := n2_; have HB := n3_; clear n0_ n1_ n2_ n3_; (try clear hb); (try clear hb2); (try clear hk); (try clear hi)) | ((with_reducible refine gate_dst (N := 10) rfl ?_); refine box_event ?hg (N := 10) ?hd (cs := #[.string (⟨#[]⟩ : ByteArray), .int .i64 0, .bool false]) (t := 23) ?hr ?_; (case hd => rfl); (case hg => rfl); (case hr => first | (go_simp; done) | (go_simp; rfl)); intro gb939 hg w67 hbox hb; have n0_ := Aside0.mk (Kd.R_below (apAR HO_7.out) hb); have n1_ := Aside0.mk (blk_below (g := gb925) (o := .cells #[.string t921, .int .i64 t922, .bool t923] 23 (0, 0)) (apB BK925.out) hb); have n2_ := Aside0.mk (blk_below (g := gb930) (o := .cells #[.string t926, .int .i64 t927, .bool t928] 23 (0, 0)) (apB BK930.out) hb); have n3_ := Aside0.mk (below_step (by repeat (first | (with_reducible first | exact HB.out | apply below_alloc | apply pw_below_drewN | apply below_drew1 | refine below_set ?_ GE925.out | refine below_set ?_ GE930.out) | exact HB.out)) hb); have n4_ := Aside0.mk (hbox); have n5_ := Aside0.mk ((by rw [hg]; exact (below_size (by repeat (first | (with_reducible first | exact HB.out | apply below_alloc | apply pw_below_drewN | apply below_drew1 | refine below_set ?_ GE925.out | refine below_set ?_ GE930.out) | exact HB.out))) : w.heap.size ≤ gb939)); have n6_ := Aside0.mk ((by rw [hg]; exact (below_size (by repeat (first | (with_reducible first | exact HB.out | apply below_alloc | apply pw_below_drewN | apply below_drew1 | refine below_set ?_ GE925.out | refine below_set ?_ GE930.out) | exact HB.out))) : w.heap.size ≤ gb939)); have n7_ := Aside0.mk ((by rw [hg]; exact Nat.ne_of_lt (blk_lt (g := gb925) (o := .cells #[.string t921, .int .i64 t922, .bool t923] 23 (0, 0)) (apB BK925.out)) : gb925 ≠ gb939)); have n8_ := Aside0.mk ((by rw [hg]; exact Nat.ne_of_gt (blk_lt (g := gb925) (o := .cells #[.string t921, .int .i64 t922, .bool t923] 23 (0, 0)) (apB BK925.out)) : gb939 ≠ gb925)); have n9_ := Aside0.mk ((by rw [hg]; exact Nat.ne_of_lt (blk_lt (g := gb930) (o := .cells #[.string t926, .int .i64 t927, .bool t928] 23 (0, 0)) (apB BK930.out)) : gb930 ≠ gb939)); have n10_ := Aside0.mk ((by rw [hg]; exact Nat.ne_of_gt (blk_lt (g := gb930) (o := .cells #[.string t926, .int .i64 t927, .bool t928] 23 (0, 0)) (apB BK930.out)) : gb939 ≠ gb930)); clear HO_7; clear BK925; clear BK930; clear HB; have HO_7 := n0_; have BK925 := n1_; have BK930 := n2_; have HB := n3_; have BK939 := n4_; have GW939 := n5_; have GE939 := n6_; have NB925_939 := n7_; have NB939_925 := n8_; have NB930_939 := n9_; have NB939_930 := n10_; clear n0_ n1_ n2_ n3_ n4_ n5_ n6_ n7_ n8_ n9_ n10_; clear hb hbox hg; have hnb68 := NB939_925.out; have hnc68 := NB925_939.out; have hnb69 := NB939_930.out; have hnc69 := NB930_939.out; have hcz70_0 : w67.cell? ⟨gb939, 0, none⟩ = some (.string (⟨#[]⟩ : ByteArray)) := (blk_cell BK939.out 0).trans rfl; have hcz70_1 : w67.cell? ⟨gb939, 1, none⟩ = some (.int .i64 0) := (blk_cell BK939.out 1).trans rfl; have hcz70_2 : w67.cell? ⟨gb939, 2, none⟩ = some (.bool false) := (blk_cell BK939.out 2).trans rfl; have hfz70_0 := blk_frozen BK939.out 0; have hfz70_1 := blk_frozen BK939.out 1; have hfz70_2 := blk_frozen BK939.out 2; have p944 : 0 ≤ (x9_2 : Int) := of_decide_eq_true ap0; have q944 : x9_2 < (t931.length : Int) := of_decide_eq_true ap0; obtain ⟨ad944, e944, hx944_0⟩ := Kd.at_string (Kd.R_reads' HO_7.out).2.2 x9_2 p944 q944; obtain rfl : ad934 = ad944 := (by injection e944); have hn944_0 : ad934.block ≠ gb939 := Kd.own_blk (Kd.R_ne HO_7.out BK939.out (by decide)); have hn944_1 : ad934.block ≠ gb939 := Kd.own_blk (Kd.R_ne HO_7.out BK939.out (by decide)); have hn944_2 : ad934.block ≠ gb939 := Kd.own_blk (Kd.R_ne HO_7.out BK939.out (by decide)); replace hx944_0 := (cell_far (p := ⟨gb939, 0, none⟩) (by first | (rw [add_block]; exact hn944_0) | (show (Addr.add _ _).block ≠ _; rw [add_block]; exact hn944_0) | exact hn944_0) (.string t935)).trans hx944_0; replace hx944_0 := (cell_far (p := ⟨gb939, 1, none⟩) (by first | (rw [add_block]; exact hn944_1) | (show (Addr.add _ _).block ≠ _; rw [add_block]; exact hn944_1) | exact hn944_1) (.int .i64 t936)).trans hx944_0; replace hx944_0 := (cell_far (p := ⟨gb939, 2, none⟩) (by first | (rw [add_block]; exact hn944_2) | (show (Addr.add _ _).block ≠ _; rw [add_block]; exact hn944_2) | exact hn944_2) (.bool t937)).trans hx944_0; (try have hy944_0 := fun (n_ : Nat) => (show (((((w67.drewN n_).setCell ⟨gb939, 0, none⟩ (.string t935)).setCell ⟨gb939, 1, none⟩ (.int .i64 t936)).setCell ⟨gb939, 2, none⟩ (.bool t937))).cell? _ = some _ from hx944_0)); clear hn944_0; clear hn944_1; clear hn944_2; replace p944 := eq_true p944; replace q944 := eq_true q944; have hnb71 := NB925_930.out; have hnc71 := NB930_925.out; have hcz72_0 : w67.cell? ⟨gb925, 0, none⟩ = some (.string t921) := (blk_cell BK925.out 0).trans rfl; have hcz72_1 : w67.cell? ⟨gb925, 1, none⟩ = some (.int .i64 t922) := (blk_cell BK925.out 1).trans rfl; have hcz72_2 : w67.cell? ⟨gb925, 2, none⟩ = some (.bool t923) := (blk_cell BK925.out 2).trans rfl; have hfz72_0 := blk_frozen BK925.out 0; have hfz72_1 := blk_frozen BK925.out 1; have hfz72_2 := blk_frozen BK925.out 2)); try go_wp2_with (first | (go_at_call 22; (with_reducible refine (R16Find.calls k2 (rdOf ByteArray.empty t931 x9_2) t935 t936 t937 true _ A29.out).mono ?_); rintro e w66 ⟨rfl, hb⟩; have n0_ := Aside0.mk (Kd.R_below (apAR HO_7.out) hb); have n1_ := Aside0.mk (blk_below (g := gb925) (o := .cells #[.string t921, .int .i64 t922, .bool t923] 23 (0, 0)) (apB BK925.out) hb); have n2_ := Aside0.mk (blk_below (g := gb930) (o := .cells #[.string t926, .int .i64 t927, .bool t928] 23 (0, 0)) (apB BK930.out) hb); have n3_ := Aside0.mk (below_step (by repeat (first | (with_reducible first | exact HB.out | apply below_alloc | apply pw_below_drewN | apply below_drew1 | refine below_set ?_ GE925.out | refine below_set ?_ GE930.out) | exact HB.out)) hb); clear HO_7; clear BK925; clear BK930; clear HB; have HO_7 := n0_; have BK925 := n1_; have BK930 := n2_; have HB := n3_; clear n0_ n1_ n2_ n3_; (try clear hb); (try clear hb2); (try clear hk); (try clear hi)) | ((with_reducible refine gate_dst (N := 10) rfl ?_); refine box_event ?hg (N := 10) ?hd (cs := #[.string (⟨#[]⟩ : ByteArray), .int .i64 0, .bool false]) (t := 23) ?hr ?_; (case hd => rfl); (case hg => rfl); (case hr => first | (go_simp; done) | (go_simp; rfl)); intro gb939 hg w67 hbox hb; have n0_ := Aside0.mk (Kd.R_below (apAR HO_7.out) hb); have n1_ := Aside0.mk (blk_below (g := gb925) (o := .cells #[.string t921, .int .i64 t922, .bool t923] 23 (0, 0)) (apB BK925.out) hb); have n2_ := Aside0.mk (blk_below (g := gb930) (o := .cells #[.string t926, .int .i64 t927, .bool t928] 23 (0, 0)) (apB BK930.out) hb); have n3_ := Aside0.mk (below_step (by repeat (first | (with_reducible first | exact HB.out | apply below_alloc | apply pw_below_drewN | apply below_drew1 | refine below_set ?_ GE925.out | refine below_set ?_ GE930.out) | exact HB.out)) hb); have n4_ := Aside0.mk (hbox); have n5_ := Aside0.mk ((by rw [hg]; exact (below_size (by repeat (first | (with_reducible first | exact HB.out | apply below_alloc | apply pw_below_drewN | apply below_drew1 | refine below_set ?_ GE925.out | refine below_set ?_ GE930.out) | exact HB.out))) : w.heap.size ≤ gb939)); have n6_ := Aside0.mk ((by rw [hg]; exact (below_size (by repeat (first | (with_reducible first | exact HB.out | apply below_alloc | apply pw_below_drewN | apply below_drew1 | refine below_set ?_ GE925.out | refine below_set ?_ GE930.out) | exact HB.out))) : w.heap.size ≤ gb939)); have n7_ := Aside0.mk ((by rw [hg]; exact Nat.ne_of_lt (blk_lt (g := gb925) (o := .cells #[.string t921, .int .i64 t922, .bool t923] 23 (0, 0)) (apB BK925.out)) : gb925 ≠ gb939)); have n8_ := Aside0.mk ((by rw [hg]; exact Nat.ne_of_gt (blk_lt (g := gb925) (o := .cells #[.string t921, .int .i64 t922, .bool t923] 23 (0, 0)) (apB BK925.out)) : gb939 ≠ gb925)); have n9_ := Aside0.mk ((by rw [hg]; exact Nat.ne_of_lt (blk_lt (g := gb930) (o := .cells #[.string t926, .int .i64 t927, .bool t928] 23 (0, 0)) (apB BK930.out)) : gb930 ≠ gb939)); have n10_ := Aside0.mk ((by rw [hg]; exact Nat.ne_of_gt (blk_lt (g := gb930) (o := .cells #[.string t926, .int .i64 t927, .bool t928] 23 (0, 0)) (apB BK930.out)) : gb939 ≠ gb930)); clear HO_7; clear BK925; clear BK930; clear HB; have HO_7 := n0_; have BK925 := n1_; have BK930 := n2_; have HB := n3_; have BK939 := n4_; have GW939 := n5_; have GE939 := n6_; have NB925_939 := n7_; have NB939_925 := n8_; have NB930_939 := n9_; have NB939_930 := n10_; clear n0_ n1_ n2_ n3_ n4_ n5_ n6_ n7_ n8_ n9_ n10_; clear hb hbox hg; have hnb68 := NB939_925.out; have hnc68 := NB925_939.out; have hnb69 := NB939_930.out; have hnc69 := NB930_939.out; have hcz70_0 : w67.cell? ⟨gb939, 0, none⟩ = some (.string (⟨#[]⟩ : ByteArray)) := (blk_cell BK939.out 0).trans rfl; have hcz70_1 : w67.cell? ⟨gb939, 1, none⟩ = some (.int .i64 0) := (blk_cell BK939.out 1).trans rfl; have hcz70_2 : w67.cell? ⟨gb939, 2, none⟩ = some (.bool false) := (blk_cell BK939.out 2).trans rfl; have hfz70_0 := blk_frozen BK939.out 0; have hfz70_1 := blk_frozen BK939.out 1; have hfz70_2 := blk_frozen BK939.out 2; have p944 : 0 ≤ (x9_2 : Int) := of_decide_eq_true ap0; have q944 : x9_2 < (t931.length : Int) := of_decide_eq_true ap0; obtain ⟨ad944, e944, hx944_0⟩ := Kd.at_string (Kd.R_reads' HO_7.out).2.2 x9_2 p944 q944; obtain rfl : ad934 = ad944 := (by injection e944); have hn944_0 : ad934.block ≠ gb939 := Kd.own_blk (Kd.R_ne HO_7.out BK939.out (by decide)); have hn944_1 : ad934.block ≠ gb939 := Kd.own_blk (Kd.R_ne HO_7.out BK939.out (by decide)); have hn944_2 : ad934.block ≠ gb939 := Kd.own_blk (Kd.R_ne HO_7.out BK939.out (by decide)); replace hx944_0 := (cell_far (p := ⟨gb939, 0, none⟩) (by first | (rw [add_block]; exact hn944_0) | (show (Addr.add _ _).block ≠ _; rw [add_block]; exact hn944_0) | exact hn944_0) (.string t935)).trans hx944_0; replace hx944_0 := (cell_far (p := ⟨gb939, 1, none⟩) (by first | (rw [add_block]; exact hn944_1) | (show (Addr.add _ _).block ≠ _; rw [add_block]; exact hn944_1) | exact hn944_1) (.int .i64 t936)).trans hx944_0; replace hx944_0 := (cell_far (p := ⟨gb939, 2, none⟩) (by first | (rw [add_block]; exact hn944_2) | (show (Addr.add _ _).block ≠ _; rw [add_block]; exact hn944_2) | exact hn944_2) (.bool t937)).trans hx944_0; (try have hy944_0 := fun (n_ : Nat) => (show (((((w67.drewN n_).setCell ⟨gb939, 0, none⟩ (.string t935)).setCell ⟨gb939, 1, none⟩ (.int .i64 t936)).setCell ⟨gb939, 2, none⟩ (.bool t937))).cell? _ = some _ from hx944_0)); clear hn944_0; clear hn944_1; clear hn944_2; replace p944 := eq_true p944; replace q944 := eq_true q944; have hnb71 := NB925_930.out; have hnc71 := NB930_925.out; have hcz72_0 : w67.cell? ⟨gb925, 0, none⟩ = some (.string t921) := (blk_cell BK925.out 0).trans rfl; have hcz72_1 : w67.cell? ⟨gb925, 1, none⟩ = some (.int .i64 t922) := (blk_cell BK925.out 1).trans rfl; have hcz72_2 : w67.cell? ⟨gb925, 2, none⟩ = some (.bool t923) := (blk_cell BK925.out 2).trans rfl; have hfz72_0 := blk_frozen BK925.out 0; have hfz72_1 := blk_frozen BK925.out 1; have hfz72_2 := blk_frozen BK925.out 2)))
             go_roundg k2
             case measure => have := HJ7.out; have := HK2.out; omega
             case rel => exact ⟨(((rdOf ByteArray.empty t931 x9_2).toList == t921.toList)), (wrap64 (x9_2 + 1)), ap2, ap2, H', ⟨by have := HJ7.out; have := HK2.out; omega⟩, ⟨by (with_reducible repeat (first | apply Kd.R_alloc | apply Kd.R_drewN | apply Kd.R_drew)); exact Kd.R_mono (Kd.R_far (p := ⟨gb939, 2, none⟩) (Kd.R_far (p := ⟨gb939, 1, none⟩) (Kd.R_far (p := ⟨gb939, 0, none⟩) (Kd.R_types HO_7.out BK939.out (by decide)) (fun _ hk => hk.2) (.string t935)) (fun _ hk => hk.2) (.int .i64 t936)) (fun _ hk => hk.2) (.bool t937)) (fun _ hk => trivial)⟩, ⟨by (with_reducible repeat (first | refine blk_drewN ?_ _ | refine blk_drew ?_ | refine blk_alloc ?_ _)); refine blk_far ?_ NB925_939.out _; (with_reducible repeat (first | refine blk_drewN ?_ _ | refine blk_drew ?_ | refine blk_alloc ?_ _)); refine blk_far ?_ NB925_939.out _; (with_reducible repeat (first | refine blk_drewN ?_ _ | refine blk_drew ?_ | refine blk_alloc ?_ _)); refine blk_far ?_ NB925_939.out _; (with_reducible repeat (first | refine blk_drewN ?_ _ | refine blk_drew ?_ | refine blk_alloc ?_ _)); exact BK925.out⟩, ⟨by (with_reducible repeat (first | refine blk_drewN ?_ _ | refine blk_drew ?_ | refine blk_alloc ?_ _)); refine blk_far ?_ NB930_939.out _; (with_reducible repeat (first | refine blk_drewN ?_ _ | refine blk_drew ?_ | refine blk_alloc ?_ _)); refine blk_far ?_ NB930_939.out _; (with_reducible repeat (first | refine blk_drewN ?_ _ | refine blk_drew ?_ | refine blk_alloc ?_ _)); refine blk_far ?_ NB930_939.out _; (with_reducible repeat (first | refine blk_drewN ?_ _ | refine blk_drew ?_ | refine blk_alloc ?_ _)); exact BK930.out⟩, ⟨by repeat (first | (with_reducible first | exact HB.out | apply below_alloc | apply pw_below_drewN | apply below_drew1 | refine below_set ?_ GE925.out | refine below_set ?_ GE930.out | refine below_set ?_ GE939.out) | exact HB.out)⟩⟩
          ·
           replace c30 := Bool.eq_false_iff.mpr c30
           subst c30
           rw [if_neg (show ¬ (false = true) by decide)] at H
           obtain rfl := Option.some.inj H
           obtain ⟨Ao73, co73, eo73⟩ := Kd.R_slice HO_7.out
           subst eo73
           have p934 : 0 ≤ (x9_2 : Int) := of_decide_eq_true ap0
           have q934 : x9_2 < (t931.length : Int) := of_decide_eq_true ap0
           obtain ⟨ad934, e934, hx934_0⟩ := Kd.at_string (Kd.R_reads' HO_7.out).2.2 x9_2 p934 q934
           cases e934
           replace p934 := eq_true p934
           replace q934 := eq_true q934
           go_wp2_with (first | (go_at_call 22; (with_reducible refine (R16Find.calls k2 (rdOf ByteArray.empty t931 x9_2) t935 t936 t937 false _ A29.out).mono ?_); rintro e w74 ⟨rfl, hb⟩; have n0_ := Aside0.mk (Kd.R_below (apAR HO_7.out) hb); have n1_ := Aside0.mk (blk_below (g := gb925) (o := .cells #[.string t921, .int .i64 t922, .bool t923] 23 (0, 0)) (apB BK925.out) hb); have n2_ := Aside0.mk (blk_below (g := gb930) (o := .cells #[.string t926, .int .i64 t927, .bool t928] 23 (0, 0)) (apB BK930.out) hb); have n3_ := Aside0.mk (below_step (by repeat (first | (with_reducible first | exact HB.out | apply below_alloc | apply pw_below_drewN | apply below_drew1 | refine below_set ?_ GE925.out | refine below_set ?_ GE930.out) | exact HB.out)) hb); clear HO_7; clear BK925; clear BK930; clear HB; have HO_7 := n0_; have BK925 := n1_; have BK930 := n2_; have HB := n3_; clear n0_ n1_ n2_ n3_; (try clear hb); (try clear hb2); (try clear hk); (try clear hi)) | ((with_reducible refine gate_dst (N := 10) rfl ?_); refine box_event ?hg (N := 10) ?hd (cs := #[.string (⟨#[]⟩ : ByteArray), .int .i64 0, .bool false]) (t := 23) ?hr ?_; (case hd => rfl); (case hg => rfl); (case hr => first | (go_simp; done) | (go_simp; rfl)); intro gb939 hg w75 hbox hb; have n0_ := Aside0.mk (Kd.R_below (apAR HO_7.out) hb); have n1_ := Aside0.mk (blk_below (g := gb925) (o := .cells #[.string t921, .int .i64 t922, .bool t923] 23 (0, 0)) (apB BK925.out) hb); have n2_ := Aside0.mk (blk_below (g := gb930) (o := .cells #[.string t926, .int .i64 t927, .bool t928] 23 (0, 0)) (apB BK930.out) hb); have n3_ := Aside0.mk (below_step (by repeat (first | (with_reducible first | exact HB.out | apply below_alloc | apply pw_below_drewN | apply below_drew1 | refine below_set ?_ GE925.out | refine below_set ?_ GE930.out) | exact HB.out)) hb); have n4_ := Aside0.mk (hbox); have n5_ := Aside0.mk ((by rw [hg]; exact (below_size (by repeat (first | (with_reducible first | exact HB.out | apply below_alloc | apply pw_below_drewN | apply below_drew1 | refine below_set ?_ GE925.out | refine below_set ?_ GE930.out) | exact HB.out))) : w.heap.size ≤ gb939)); have n6_ := Aside0.mk ((by rw [hg]; exact (below_size (by repeat (first | (with_reducible first | exact HB.out | apply below_alloc | apply pw_below_drewN | apply below_drew1 | refine below_set ?_ GE925.out | refine below_set ?_ GE930.out) | exact HB.out))) : w.heap.size ≤ gb939)); have n7_ := Aside0.mk ((by rw [hg]; exact Nat.ne_of_lt (blk_lt (g := gb925) (o := .cells #[.string t921, .int .i64 t922, .bool t923] 23 (0, 0)) (apB BK925.out)) : gb925 ≠ gb939)); have n8_ := Aside0.mk ((by rw [hg]; exact Nat.ne_of_gt (blk_lt (g := gb925) (o := .cells #[.string t921, .int .i64 t922, .bool t923] 23 (0, 0)) (apB BK925.out)) : gb939 ≠ gb925)); have n9_ := Aside0.mk ((by rw [hg]; exact Nat.ne_of_lt (blk_lt (g := gb930) (o := .cells #[.string t926, .int .i64 t927, .bool t928] 23 (0, 0)) (apB BK930.out)) : gb930 ≠ gb939)); have n10_ := Aside0.mk ((by rw [hg]; exact Nat.ne_of_gt (blk_lt (g := gb930) (o := .cells #[.string t926, .int .i64 t927, .bool t928] 23 (0, 0)) (apB BK930.out)) : gb939 ≠ gb930)); clear HO_7; clear BK925; clear BK930; clear HB; have HO_7 := n0_; have BK925 := n1_; have BK930 := n2_; have HB := n3_; have BK939 := n4_; have GW939 := n5_; have GE939 := n6_; have NB925_939 := n7_; have NB939_925 := n8_; have NB930_939 := n9_; have NB939_930 := n10_; clear n0_ n1_ n2_ n3_ n4_ n5_ n6_ n7_ n8_ n9_ n10_; clear hb hbox hg; have hnb76 := NB939_925.out; have hnc76 := NB925_939.out; have hnb77 := NB939_930.out; have hnc77 := NB930_939.out; have hcz78_0 : w75.cell? ⟨gb939, 0, none⟩ = some (.string (⟨#[]⟩ : ByteArray)) := (blk_cell BK939.out 0).trans rfl; have hcz78_1 : w75.cell? ⟨gb939, 1, none⟩ = some (.int .i64 0) := (blk_cell BK939.out 1).trans rfl; have hcz78_2 : w75.cell? ⟨gb939, 2, none⟩ = some (.bool false) := (blk_cell BK939.out 2).trans rfl; have hfz78_0 := blk_frozen BK939.out 0; have hfz78_1 := blk_frozen BK939.out 1; have hfz78_2 := blk_frozen BK939.out 2))
           repeat (go_quiet (first | (go_at_call 22; (with_reducible refine (R16Find.calls k2 (rdOf ByteArray.empty t931 x9_2) t935 t936 t937 false _ A29.out).mono ?_); rintro e w74 ⟨rfl, hb⟩; have n0_ := Aside0.mk (Kd.R_below (apAR HO_7.out) hb); have n1_ := Aside0.mk (blk_below (g := gb925) (o := .cells #[.string t921, .int .i64 t922, .bool t923] 23 (0, 0)) (apB BK925.out) hb); have n2_ := Aside0.mk (blk_below (g := gb930) (o := .cells #[.string t926, .int .i64 t927, .bool t928] 23 (0, 0)) (apB BK930.out) hb); have n3_ := Aside0.mk (below_step (by repeat (first | (with_reducible first | exact HB.out | apply below_alloc | apply pw_below_drewN | apply below_drew1 | refine below_set ?_ GE925.out | refine below_set ?_ GE930.out) | exact HB.out)) hb); clear HO_7; clear BK925; clear BK930; clear HB; have HO_7 := n0_; have BK925 := n1_; have BK930 := n2_; have HB := n3_; clear n0_ n1_ n2_ n3_; (try clear hb); (try clear hb2); (try clear hk); (try clear hi)) | ((with_reducible refine gate_dst (N := 10) rfl ?_); refine box_event ?hg (N := 10) ?hd (cs := #[.string (⟨#[]⟩ : ByteArray), .int .i64 0, .bool false]) (t := 23) ?hr ?_; (case hd => rfl); (case hg => rfl); (case hr => first | (go_simp; done) | (go_simp; rfl)); intro gb939 hg w75 hbox hb; have n0_ := Aside0.mk (Kd.R_below (apAR HO_7.out) hb); have n1_ := Aside0.mk (blk_below (g := gb925) (o := .cells #[.string t921, .int .i64 t922, .bool t923] 23 (0, 0)) (apB BK925.out) hb); have n2_ := Aside0.mk (blk_below (g := gb930) (o := .cells #[.string t926, .int .i64 t927, .bool t928] 23 (0, 0)) (apB BK930.out) hb); have n3_ := Aside0.mk (below_step (by repeat (first | (with_reducible first | exact HB.out | apply below_alloc | apply pw_below_drewN | apply below_drew1 | refine below_set ?_ GE925.out | refine below_set ?_ GE930.out) | exact HB.out)) hb); have n4_ := Aside0.mk (hbox); have n5_ := Aside0.mk ((by rw [hg]; exact (below_size (by repeat (first | (with_reducible first | exact HB.out | apply below_alloc | apply pw_below_drewN | apply below_drew1 | refine below_set ?_ GE925.out | refine below_set ?_ GE930.out) | exact HB.out))) : w.heap.size ≤ gb939)); have n6_ := Aside0.mk ((by rw [hg]; exact (below_size (by repeat (first | (with_reducible first | exact HB.out | apply below_alloc | apply pw_below_drewN | apply below_drew1 | refine below_set ?_ GE925.out | refine below_set ?_ GE930.out) | exact HB.out))) : w.heap.size ≤ gb939)); have n7_ := Aside0.mk ((by rw [hg]; exact Nat.ne_of_lt (blk_lt (g := gb925) (o := .cells #[.string t921, .int .i64 t922, .bool t923] 23 (0, 0)) (apB BK925.out)) : gb925 ≠ gb939)); have n8_ := Aside0.mk ((by rw [hg]; exact Nat.ne_of_gt (blk_lt (g := gb925) (o := .cells #[.string t921, .int .i64 t922, .bool t923] 23 (0, 0)) (apB BK925.out)) : gb939 ≠ gb925)); have n9_ := Aside0.mk ((by rw [hg]; exact Nat.ne_of_lt (blk_lt (g := gb930) (o := .cells #[.string t926, .int .i64 t927, .bool t928] 23 (0, 0)) (apB BK930.out)) : gb930 ≠ gb939)); have n10_ := Aside0.mk ((by rw [hg]; exact Nat.ne_of_gt (blk_lt (g := gb930) (o := .cells #[.string t926, .int .i64 t927, .bool t928] 23 (0, 0)) (apB BK930.out)) : gb939 ≠ gb930)); clear HO_7; clear BK925; clear BK930; clear HB; have HO_7 := n0_; have BK925 := n1_; have BK930 := n2_; have HB := n3_; have BK939 := n4_; have GW939 := n5_; have GE939 := n6_; have NB925_939 := n7_; have NB939_925 := n8_; have NB930_939 := n9_; have NB939_930 := n10_; clear n0_ n1_ n2_ n3_ n4_ n5_ n6_ n7_ n8_ n9_ n10_; clear hb hbox hg; have hnb76 := NB939_925.out; have hnc76 := NB925_939.out; have hnb77 := NB939_930.out; have hnc77 := NB930_939.out; have hcz78_0 : w75.cell? ⟨gb939, 0, none⟩ = some (.string (⟨#[]⟩ : ByteArray)) := (blk_cell BK939.out 0).trans rfl; have hcz78_1 : w75.cell? ⟨gb939, 1, none⟩ = some (.int .i64 0) := (blk_cell BK939.out 1).trans rfl; have hcz78_2 : w75.cell? ⟨gb939, 2, none⟩ = some (.bool false) := (blk_cell BK939.out 2).trans rfl; have hfz78_0 := blk_frozen BK939.out 0; have hfz78_1 := blk_frozen BK939.out 1; have hfz78_2 := blk_frozen BK939.out 2)); try go_wp2_with (first | (go_at_call 22; (with_reducible refine (R16Find.calls k2 (rdOf ByteArray.empty t931 x9_2) t935 t936 t937 false _ A29.out).mono ?_); rintro e w74 ⟨rfl, hb⟩; have n0_ := Aside0.mk (Kd.R_below (apAR HO_7.out) hb); have n1_ := Aside0.mk (blk_below (g := gb925) (o := .cells #[.string t921, .int .i64 t922, .bool t923] 23 (0, 0)) (apB BK925.out) hb); have n2_ := Aside0.mk (blk_below (g := gb930) (o := .cells #[.string t926, .int .i64 t927, .bool t928] 23 (0, 0)) (apB BK930.out) hb); have n3_ := Aside0.mk (below_step (by repeat (first | (with_reducible first | exact HB.out | apply below_alloc | apply pw_below_drewN | apply below_drew1 | refine below_set ?_ GE925.out | refine below_set ?_ GE930.out) | exact HB.out)) hb); clear HO_7; clear BK925; clear BK930; clear HB; have HO_7 := n0_; have BK925 := n1_; have BK930 := n2_; have HB := n3_; clear n0_ n1_ n2_ n3_; (try clear hb); (try clear hb2); (try clear hk); (try clear hi)) | ((with_reducible refine gate_dst (N := 10) rfl ?_); refine box_event ?hg (N := 10) ?hd (cs := #[.string (⟨#[]⟩ : ByteArray), .int .i64 0, .bool false]) (t := 23) ?hr ?_; (case hd => rfl); (case hg => rfl); (case hr => first | (go_simp; done) | (go_simp; rfl)); intro gb939 hg w75 hbox hb; have n0_ := Aside0.mk (Kd.R_below (apAR HO_7.out) hb); have n1_ := Aside0.mk (blk_below (g := gb925) (o := .cells #[.string t921, .int .i64 t922, .bool t923] 23 (0, 0)) (apB BK925.out) hb); have n2_ := Aside0.mk (blk_below (g := gb930) (o := .cells #[.string t926, .int .i64 t927, .bool t928] 23 (0, 0)) (apB BK930.out) hb); have n3_ := Aside0.mk (below_step (by repeat (first | (with_reducible first | exact HB.out | apply below_alloc | apply pw_below_drewN | apply below_drew1 | refine below_set ?_ GE925.out | refine below_set ?_ GE930.out) | exact HB.out)) hb); have n4_ := Aside0.mk (hbox); have n5_ := Aside0.mk ((by rw [hg]; exact (below_size (by repeat (first | (with_reducible first | exact HB.out | apply below_alloc | apply pw_below_drewN | apply below_drew1 | refine below_set ?_ GE925.out | refine below_set ?_ GE930.out) | exact HB.out))) : w.heap.size ≤ gb939)); have n6_ := Aside0.mk ((by rw [hg]; exact (below_size (by repeat (first | (with_reducible first | exact HB.out | apply below_alloc | apply pw_below_drewN | apply below_drew1 | refine below_set ?_ GE925.out | refine below_set ?_ GE930.out) | exact HB.out))) : w.heap.size ≤ gb939)); have n7_ := Aside0.mk ((by rw [hg]; exact Nat.ne_of_lt (blk_lt (g := gb925) (o := .cells #[.string t921, .int .i64 t922, .bool t923] 23 (0, 0)) (apB BK925.out)) : gb925 ≠ gb939)); have n8_ := Aside0.mk ((by rw [hg]; exact Nat.ne_of_gt (blk_lt (g := gb925) (o := .cells #[.string t921, .int .i64 t922, .bool t923] 23 (0, 0)) (apB BK925.out)) : gb939 ≠ gb925)); have n9_ := Aside0.mk ((by rw [hg]; exact Nat.ne_of_lt (blk_lt (g := gb930) (o := .cells #[.string t926, .int .i64 t927, .bool t928] 23 (0, 0)) (apB BK930.out)) : gb930 ≠ gb939)); have n10_ := Aside0.mk ((by rw [hg]; exact Nat.ne_of_gt (blk_lt (g := gb930) (o := .cells #[.string t926, .int .i64 t927, .bool t928] 23 (0, 0)) (apB BK930.out)) : gb939 ≠ gb930)); clear HO_7; clear BK925; clear BK930; clear HB; have HO_7 := n0_; have BK925 := n1_; have BK930 := n2_; have HB := n3_; have BK939 := n4_; have GW939 := n5_; have GE939 := n6_; have NB925_939 := n7_; have NB939_925 := n8_; have NB930_939 := n9_; have NB939_930 := n10_; clear n0_ n1_ n2_ n3_ n4_ n5_ n6_ n7_ n8_ n9_ n10_; clear hb hbox hg; have hnb76 := NB939_925.out; have hnc76 := NB925_939.out; have hnb77 := NB939_930.out; have hnc77 := NB930_939.out; have hcz78_0 : w75.cell? ⟨gb939, 0, none⟩ = some (.string (⟨#[]⟩ : ByteArray)) := (blk_cell BK939.out 0).trans rfl; have hcz78_1 : w75.cell? ⟨gb939, 1, none⟩ = some (.int .i64 0) := (blk_cell BK939.out 1).trans rfl; have hcz78_2 : w75.cell? ⟨gb939, 2, none⟩ = some (.bool false) := (blk_cell BK939.out 2).trans rfl; have hfz78_0 := blk_frozen BK939.out 0; have hfz78_1 := blk_frozen BK939.out 1; have hfz78_2 := blk_frozen BK939.out 2)))
           go_ret
           exact ⟨by first | rfl | (simp [errW_none, errW_some, bne_nil8, beq_nil8]; done) | (simp [errW_none, errW_some] <;> rfl) | (simp [*, errW_none, errW_some] <;> rfl), by repeat (first | (with_reducible first | exact HB.out | apply below_alloc | apply pw_below_drewN | apply below_drew1 | refine below_set ?_ GE925.out | refine below_set ?_ GE930.out | refine below_set ?_ GE939.out) | exact HB.out)⟩
         ·
          rw [if_neg c28] at H
          exact absurd H (by simp)
        ·
         rw [if_neg c27] at H
         have c27b0 := decide_eq_false c27
         clear c27
         by_cases c79 : (t931.length : Int) = 20
         ·
          rw [if_pos c79] at H
          have c79b0 : ((t931.length : Int) == 20) = true := beq_iff_eq.mpr c79
          have c79b1 : ((t931.length : Int) != 20) = false := bne_eq_false_iff_eq.mpr c79
          clear c79
          obtain rfl := Option.some.inj H
          obtain ⟨Ao80, co80, eo80⟩ := Kd.R_slice HO_7.out
          subst eo80
          go_wp2
          repeat (go_quiet (fail); try go_wp2)
          go_ret
          exact ⟨by first | rfl | (simp [errW_none, errW_some, bne_nil8, beq_nil8]; done) | (simp [errW_none, errW_some] <;> rfl) | (simp [*, errW_none, errW_some] <;> rfl), by repeat (first | (with_reducible first | exact HB.out | apply below_alloc | apply pw_below_drewN | apply below_drew1 | refine below_set ?_ GE925.out | refine below_set ?_ GE930.out) | exact HB.out)⟩
         ·
          rw [if_neg c79] at H
          have c79b0 : ((t931.length : Int) == 20) = false := beq_eq_false_iff_ne.mpr c79
          have c79b1 : ((t931.length : Int) != 20) = true := bne_iff_ne.mpr c79
          obtain rfl := Option.some.inj H
          obtain ⟨Ao81, co81, eo81⟩ := Kd.R_slice HO_7.out
          subst eo81
          go_wp2
          repeat (go_quiet (fail); try go_wp2)
          go_ret
          exact ⟨by first | rfl | (simp [errW_none, errW_some, bne_nil8, beq_nil8]; done) | (simp [errW_none, errW_some] <;> rfl) | (simp [*, errW_none, errW_some] <;> rfl), by repeat (first | (with_reducible first | exact HB.out | apply below_alloc | apply pw_below_drewN | apply below_drew1 | refine below_set ?_ GE925.out | refine below_set ?_ GE930.out) | exact HB.out)⟩
 ·
  replace c3 := Bool.eq_false_iff.mpr c3
  subst c3
  rw [if_neg (show ¬ (false = true) by decide)] at H
  obtain rfl := Option.some.inj H
  go_enter Tryz.func8, Tryz.ntmps8
  go_wp2_with (first | (go_at_call 9; (with_reducible refine (L16awake.calls k  false _ ?side1 A2.out).mono ?_); (case side1 => exact ap6); rintro e w82 ⟨rfl, hb⟩; have n0_ := Aside0.mk (below_step ap1 hb); clear HB; have HB := n0_; clear n0_; (try clear hb); (try clear hb2); (try clear hk); (try clear hi)))
  repeat (go_quiet (first | (go_at_call 9; (with_reducible refine (L16awake.calls k  false _ ?side1 A2.out).mono ?_); (case side1 => exact ap6); rintro e w82 ⟨rfl, hb⟩; have n0_ := Aside0.mk (below_step ap1 hb); clear HB; have HB := n0_; clear n0_; (try clear hb); (try clear hb2); (try clear hk); (try clear hi))); try go_wp2_with (first | (go_at_call 9; (with_reducible refine (L16awake.calls k  false _ ?side1 A2.out).mono ?_); (case side1 => exact ap6); rintro e w82 ⟨rfl, hb⟩; have n0_ := Aside0.mk (below_step ap1 hb); clear HB; have HB := n0_; clear n0_; (try clear hb); (try clear hb2); (try clear hk); (try clear hi))))
  go_ret
  exact ⟨by first | rfl | (simp [errW_none, errW_some, bne_nil8, beq_nil8]; done) | (simp [errW_none, errW_some] <;> rfl) | (simp [*, errW_none, errW_some] <;> rfl), by repeat (first | (with_reducible first | exact HB.out | apply below_alloc | apply pw_below_drewN | apply below_drew1) | exact HB.out)⟩
end Go.Proofs.YtpklcnpmppaaoaaGreatDoor.Print
namespace Go.Proofs.YtpklcnpmppaaoaaGreatDoor.Print
open Go.RowKit Go.Proofs.YtpklcnpmppaaoaaGreatDoorW.PrintWords Go.Proofs.YtpklcnpmppaaoaaGreatDoorW.PrintLast Go.Proofs.YtpklcnpmppaaoaaGreatDoorW.PrintMore Go.Proofs.YtpklcnpmppaaoaaGreatDoor.Pure
set_option linter.unusedVariables false
set_option linter.unusedSimpArgs false
theorem lowI16 (c : UInt8) (h1 : 65 ≤ c.toNat) (h2 : c.toNat ≤ 90) : (((c.toNat : Int) + 32) % 256) = ((lowB c).toNat : Int) := by
  have e : lowB c = c + 32 := by unfold lowB; rw [if_pos ⟨h1, h2⟩]
  rw [e, UInt8.toNat_add]
  show _ = (((c.toNat + 32) % 256 : Nat) : Int)
  omega
theorem small_loop (s : ByteArray) (hs : s.size ≤ 1000000) : ∀ (m i : Nat), s.size - i = m → i ≤ s.size →
    Ev (fun k => R16Small.l0 k s (ints (((bl s).take i).map lowB)) (i : Int)) (mkB ((bl s).map lowB)) := by
  intro m
  induction m with
  | zero =>
    intro i hm hi
    have hl := bl_length s
    rw [List.take_of_length_le (by omega)]
    refine Ev.step (fun k => by rw [R16Small.l0]) (Ev.neg (by omega) ?_)
    rw [strOfNums_ints]; exact Ev.rfl'
  | succ m ih =>
    intro i hm hi
    cases hr : (bl s).drop i with
    | nil => have := drop_nil hr; omega
    | cons c r =>
      obtain ⟨h1, h2, h3⟩ := drop_cons hr
      have hi2 := ih (i + 1) (by omega) (by omega)
      have hti : (ints (((bl s).take i).map lowB)).length < 140737488355328 := by
        rw [ints_length, List.length_map, List.length_take]; omega
      have e : ints (((bl s).take (i + 1)).map lowB) = ints (((bl s).take i).map lowB) ++ [((lowB c).toNat : Int)] := by
        rw [take_next hr, List.map_append, ← ints_app]; rfl
      rw [e] at hi2
      refine Ev.step (fun k => by rw [R16Small.l0]) ?_
      rw [h2, wsucc (p := i) (by omega)]
      refine Ev.pos (by omega) (Ev.pos (by omega) ?_)
      by_cases c1 : 65 ≤ c.toNat
      · refine Ev.pos (by omega) ?_
        by_cases c2 : c.toNat ≤ 90
        · refine Ev.pos (by omega) (Ev.pos hti ?_)
          rw [lowI16 c c1 c2]; exact hi2
        · have el : lowB c = c := by unfold lowB; rw [if_neg (by omega)]
          rw [el] at hi2
          exact Ev.neg (by omega) (Ev.pos hti hi2)
      · have el : lowB c = c := by unfold lowB; rw [if_neg (by omega)]
        rw [el] at hi2
        exact Ev.neg (by omega) (Ev.pos hti hi2)
theorem small_ev (s : ByteArray) (hs : s.size ≤ 1000000) : Ev (fun k => R16Small.f k s) (mkB ((bl s).map lowB)) := by
  unfold R16Small.f
  have := small_loop s hs _ 0 rfl (Nat.zero_le _)
  rw [List.take_zero] at this
  exact this
def lowOf (s : ByteArray) : ByteArray := mkB ((bl s).map lowB)
theorem alower_f (s : ByteArray) (hs : s.size ≤ 1000000) : attr_lower.f s = some (lowOf s) := by
  unfold attr_lower.f
  rw [if_pos hs]; rfl
theorem afind_f (s : ByteArray) (hs : s.size ≤ 1000000) : attr_Find.f s = some (findIn attrTab (lowOf s)) := by
  unfold attr_Find.f
  rw [alower_f s hs]; rfl
def singleB (s : ByteArray) : Bool := decide (bl s = [117, 105, 100, 110, 117, 109, 98, 101, 114]) || decide (bl s = [101, 110, 97, 98, 108, 101, 100])
def tabRow (x : ByteArray × Int × Bool) : Bool := decide (R16Syntax.f 10 x.1 = some x.2.1) && decide (findIn attrTab x.1 = (x.1, x.2.1, x.2.2, true)) && decide (x.2.2 = singleB x.1) && decide (x.2.1 ≠ 0)
set_option maxRecDepth 100000 in
theorem tab_all : attrTab.all tabRow = true := by kernel_rfl
theorem findIn_none : ∀ (l : List (ByteArray × Int × Bool)) (s : ByteArray), (∀ x ∈ l, s ≠ x.1) → findIn l s = (⟨#[]⟩, 0, false, false)
  | [], _, _ => rfl
  | x :: l, s, h => by
    rw [findIn, if_neg (h x (by simp)), findIn_none l s fun y hy => h y (by simp [hy])]
theorem syn_none (s : ByteArray) (h : ∀ x ∈ attrTab, s ≠ x.1) : R16Syntax.f 10 s = some 0 := by
  have hl : ∀ x ∈ attrTab, ¬ s.toList = x.1.toList := fun x hx h2 => h x hx (ba_ext (by rw [← tl_bl, ← tl_bl]; exact h2))
  have hb : ∀ x ∈ attrTab, (s.toList == x.1.toList) = false := fun x hx => beq_eq_false_iff_ne.2 (hl x hx)
  unfold attrTab at hl hb
  simp only [List.mem_cons, List.mem_nil_iff, or_false, forall_eq_or_imp, forall_eq, Lib.toList_data] at hl hb
  unfold R16Syntax.f
  simp only [R16Syntax.j0, R16Syntax.j1, R16Syntax.j2, R16Syntax.j3, Lib.toList_data, hl, hb, if_false, Bool.false_eq_true]
theorem reffind_ev (s : ByteArray) (hs : s.size ≤ 1000000) : Ev (fun k => R16Find.f k s) (findIn attrTab (lowOf s)) := by
  unfold R16Find.f
  refine Ev.bind (small_ev s hs) ?_
  rw [show mkB ((bl s).map lowB) = lowOf s from rfl]
  generalize lowOf s = q
  by_cases h : ∃ x ∈ attrTab, q = x.1
  · obtain ⟨x, hx, rfl⟩ := h
    have ht := List.all_eq_true.1 tab_all x hx
    unfold tabRow at ht
    simp only [Bool.and_eq_true, decide_eq_true_eq] at ht
    obtain ⟨⟨⟨t1, t2⟩, t3⟩, t4⟩ := ht
    rw [t2]
    refine Ev.bind (ev_mono (R16Syntax.mono _) 10 t1) (Ev.neg t4 ?_)
    rw [tl_bl]
    unfold singleB at t3
    by_cases u : bl x.1 = [117, 105, 100, 110, 117, 109, 98, 101, 114]
    · refine Ev.pos u ?_
      rw [t3, decide_eq_true u]; exact Ev.rfl'
    · refine Ev.neg u ?_
      rw [t3, decide_eq_false u, Bool.false_or]
      refine Ev.const fun k => ?_
      rw [show (bl x.1 == ([101, 110, 97, 98, 108, 101, 100] : List UInt8)) = decide (bl x.1 = [101, 110, 97, 98, 108, 101, 100]) from by
        by_cases w : bl x.1 = [101, 110, 97, 98, 108, 101, 100]
        · rw [decide_eq_true w, w]; rfl
        · rw [decide_eq_false w]; exact beq_eq_false_iff_ne.2 w]
  · have h2 : ∀ x ∈ attrTab, q ≠ x.1 := fun x hx e => h ⟨x, hx, e⟩
    rw [findIn_none attrTab q h2]
    exact Ev.bind (ev_mono (R16Syntax.mono _) 10 (syn_none q h2)) (Ev.pos rfl Ev.rfl')
def tabNames : List ByteArray := attrTab.map (·.1)
def nameRow (i : Nat) : Bool := (match R16Find.f 60 (rdOf ByteArray.empty tabNames (i : Int)) with | some x => x.2.2.2 | none => false) && (decide (i = 0) || (match R01Less.f 60 (rdOf ByteArray.empty tabNames ((i - 1 : Nat) : Int)) (rdOf ByteArray.empty tabNames (i : Int)) with | some x => decide (x < 0) | none => false))
set_option maxRecDepth 100000 in
theorem names_all : (List.range 20).all nameRow = true := by kernel_rfl
theorem finds_loop (n : ByteArray) (t : Int) (b ok : Bool) : ∀ (m i : Nat) (here : Bool), 20 - i = m → i ≤ 20 →
    Ev (fun k => L16AttrFinds.l0 k ok tabNames here (i : Int) n t b) ((here || (tabNames.drop i).any fun x => x.toList == n.toList) == ok) := by
  intro m
  induction m with
  | zero =>
    intro i here hm hi
    have h20 : tabNames.length = 20 := rfl
    refine Ev.step (fun k => by rw [L16AttrFinds.l0]) (Ev.neg (by rw [h20]; omega) (Ev.pos (by rw [h20]; rfl) ?_))
    rw [List.drop_eq_nil_of_le (by omega), List.any_nil, Bool.or_false]
    exact Ev.rfl'
  | succ m ih =>
    intro i here hm hi
    have hr := List.all_eq_true.1 names_all i (List.mem_range.2 (by omega))
    unfold nameRow at hr
    rw [Bool.and_eq_true] at hr
    obtain ⟨r1, r2⟩ := hr
    have hlt : i < tabNames.length := show i < 20 by omega
    have hd := List.drop_eq_getElem_cons hlt
    have hx : rdOf ByteArray.empty tabNames (i : Int) = tabNames[i] := rdB_at hd
    rw [hd, List.any_cons, ← Bool.or_assoc]
    have hnext : ∀ q, q = (here || tabNames[i].toList == n.toList) → Ev (fun k => L16AttrFinds.l0 k ok tabNames q ((i + 1 : Nat) : Int) n t b) ((here || tabNames[i].toList == n.toList || (tabNames.drop (i + 1)).any fun x => x.toList == n.toList) == ok) := by
      intro q hq
      rw [← hq]
      exact ih (i + 1) q (by omega) (by omega)
    refine Ev.step (fun k => by rw [L16AttrFinds.l0]) ?_
    refine Ev.pos (show (i : Int) < ((20 : Nat) : Int) by omega) (Ev.pos (by omega) ?_)
    cases hf : R16Find.f 60 (rdOf ByteArray.empty tabNames (i : Int)) with
    | none => rw [hf] at r1; cases r1
    | some x =>
      rw [hf] at r1
      refine Ev.bind (ev_mono (R16Find.mono _) 60 hf) (Ev.pos r1 ?_)
      have hgo : Ev (fun k => if here = true then L16AttrFinds.l0 k ok tabNames true (wrap64 ((i : Int) + 1)) n t b else L16AttrFinds.l0 k ok tabNames ((rdOf ByteArray.empty tabNames (i : Int)).toList == n.toList) (wrap64 ((i : Int) + 1)) n t b) ((here || tabNames[i].toList == n.toList || (tabNames.drop (i + 1)).any fun x => x.toList == n.toList) == ok) := by
        rw [wsucc (p := i) (by omega), hx]
        cases here with
        | true => exact Ev.pos rfl (hnext true (by simp))
        | false => exact Ev.neg (by simp) (hnext _ (by simp))
      by_cases h0 : i = 0
      · exact Ev.neg (by omega) hgo
      · rw [decide_eq_false h0, Bool.false_or] at r2
        have hw : wrap64 ((i : Int) - 1) = ((i - 1 : Nat) : Int) := by unfold wrap64; omega
        cases hg : R01Less.f 60 (rdOf ByteArray.empty tabNames ((i - 1 : Nat) : Int)) (rdOf ByteArray.empty tabNames (i : Int)) with
        | none => rw [hg] at r2; cases r2
        | some z =>
          rw [hg] at r2
          have hz := of_decide_eq_true r2
          rw [hw]
          refine Ev.pos (by omega) (Ev.pos (by omega) (Ev.pos (show ((i - 1 : Nat) : Int) < ((20 : Nat) : Int) by omega) (Ev.bind (ev_mono (R01Less.mono _ _) 60 hg) (Ev.neg (by omega) hgo))))
theorem any_name (q : ByteArray) : (tabNames.any fun x => x.toList == (findIn attrTab q).1.toList) = (findIn attrTab q).2.2.2 := by
  by_cases h : ∃ x ∈ attrTab, q = x.1
  · obtain ⟨x, hx, rfl⟩ := h
    have ht := List.all_eq_true.1 tab_all x hx
    unfold tabRow at ht
    simp only [Bool.and_eq_true, decide_eq_true_eq] at ht
    rw [ht.1.1.2]
    exact List.any_eq_true.2 ⟨x.1, List.mem_map.2 ⟨x, hx, rfl⟩, by simp⟩
  · rw [findIn_none attrTab q fun x hx e => h ⟨x, hx, e⟩]
    kernel_rfl
theorem AttrFinds_main (s : ByteArray) : ∃ k, L16AttrFinds.f k s = some true := by
  refine Ev.some' ?_
  unfold L16AttrFinds.f
  refine Ev.bind awake16_ev (Ev.pos rfl ?_)
  by_cases h : (s.size : Int) > 2000
  · exact Ev.pos h Ev.rfl'
  refine Ev.neg h (Ev.bindc (afind_f s (by omega)) (Ev.bind (reffind_ev s (by omega)) ?_))
  refine Ev.neg (by simp) ?_
  rw [bne_self_eq_false]
  refine Ev.step (fun k => by rw [L16AttrFinds.j0]) (Ev.neg (by simp) ?_)
  refine Ev.bindc (u := tabNames) rfl ?_
  have := finds_loop (findIn attrTab (lowOf s)).1 (findIn attrTab (lowOf s)).2.1 (findIn attrTab (lowOf s)).2.2.1 (findIn attrTab (lowOf s)).2.2.2 _ 0 false rfl (by omega)
  rw [Bool.false_or, List.drop_zero, any_name, beq_self_eq_true] at this
  exact this
end Go.Proofs.YtpklcnpmppaaoaaGreatDoor.Print
namespace Go
variable {H : Type} {enc : TypeId × Value → H}
theorem handed_laid {a : Assume} {C : Checked} {os : Os} {f : FuncId} {fn : Func} {s : ChangeSpec} {conds : List PathCond} {apart fresh handsOn again : Bool} {X : World → Array Value → Prop}
    (hX : ∀ (w w' : World) (args : Array Value), w.heap = w'.heap → X w args → X w' args)
    (own : ownKnob C.prog.godebug = none) (started : os.Started) (noInit : C.prog.inits.idxOf? f = none) (hfn : C.prog.funcs[f]? = some fn)
    (witness : ∃ (w : World) (tape : Tape) (i : Input), w.os = os ∧ (w.forCall tape i).Shaped C.prog ∧ i.vars = [] ∧ Input.okWide C.prog (w.forCall tape i) .any w.heap.size f i ∧
      ((s.pre enc C.prog fn conds apart (w.forCall tape i).memory i.args ∧ X (w.forCall tape i).memory i.args) ∧ sizedMet enc C.prog fn (OpenSpec.ofChange s) apart (w.forCall tape i).memory i.args) ∧ a.holds C.prog (lone (Frame.enter C.prog f i.args .normal) [] (w.forCall tape i)))
    (contract : ∀ (W : World) (base : Nat) (args : Array Value) (ds gs : List (DataW H)) (before : List MemPlace),
      (∀ (j : Nat) t v, fn.params[j]? = some t → args[j]? = some v → Value.okWide C.prog W .any base t v) →
      DataW.Whole enc C.prog fn.params.toList s.vars apart W args.toList ds gs before →
      conds.all (PathCond.test C.prog ⟨fn.params.toList, ds, s.plain.varTypes C.prog, gs⟩) = true →
      (DataW.weightsEach C.prog (fn.params.toList ++ s.plain.varTypes C.prog) (ds ++ gs)).all (· ≤ reachBytes) = true → X W args →
      W.ShapedOpen C.prog →
      a.holds C.prog (lone (Frame.enter C.prog f args .normal) [] W) →
      Calls C.prog f args W fun e W' => ∃ v, e = .returned v ∧ s.post enc C.prog fn apart fresh handsOn again W args v W') :
    ReturnsInHanded a C os f .any (fun w args => (s.pre enc C.prog fn conds apart w args ∧ X w args) ∧ sizedMet enc C.prog fn (OpenSpec.ofChange s) apart w args) (s.post enc C.prog fn apart fresh handsOn again) := by
  refine returnsInHanded_of_calls own started noInit witness ?_
  intro w tape i _ hsh _ hok hpre hholds
  obtain ⟨_, _, _, fn', hfn', _, _, _, _, hval⟩ := hok
  have e : fn' = fn := Option.some.inj (hfn'.symm.trans hfn)
  subst e
  obtain ⟨⟨⟨ds, gs, before, hw, hc⟩, hx⟩, hz⟩ := hpre
  have hw' := DataW.Whole.of_heap (w' := w.forCall tape i) (by rfl) hw
  refine (contract (w.forCall tape i) w.heap.size i.args ds gs before hval hw' hc (hz.weights hw) (hX _ _ _ (by rfl) hx) hsh hholds).mono fun e W' ⟨v, he, hp⟩ => ?_
  subst he
  exact ChangeSpec.post_blind hp
end Go
namespace Go.Proofs.YtpklcnpmppaaoaaGreatDoor
open Go.ChangeShapes Go.WideShapes Go.ChangeAt Go.RowKit
open Go.ChangeMaps (open_string shut_string)
set_option maxRecDepth 100000
theorem own : ownKnob Tryz.prog.godebug = none := by kernel_rfl
def laid2 : List (String × DataW Unit) := [("math/bits.deBruijn32tab", Rows.laid_math_bits_deBruijn32tab), ("math/bits.deBruijn64tab", Rows.laid_math_bits_deBruijn64tab), ("internal/strconv.uint64pow10", Rows.laid_internal_strconv_uint64pow10), ("unicode/utf8.acceptRanges", Rows.laid_unicode_utf8_acceptRanges), ("strconv.ErrRange", Rows.laid_strconv_ErrRange), ("strconv.ErrSyntax", Rows.laid_strconv_ErrSyntax), ("rollbook/attr.types", Rows.laid_rollbook_attr_types), ("unicode/utf8.first", Rows.laid_unicode_utf8_first)]
theorem first_is : (Rows.laid_unicode_utf8_first : DataW Unit) = Lib.firstData := by kernel_rfl
theorem accept_is : (Rows.laid_unicode_utf8_acceptRanges : DataW Unit) = Lib.acceptData := by kernel_rfl
def ren : Go.Shelf.Ren := ⟨fun n => n, fun | 5 => 5 | 119 => 181 | 138 => 183 | 139 => 184 | n => n, fun | 3 => 4 | 4 => 5 | n => n⟩
theorem u8types : U8Types Tryz.prog ren := { t5 := Tryz.underlying5, t119 := Tryz.underlying181, t138 := Tryz.underlying183, t139 := Tryz.underlying184 }
theorem u8extra : U8Extra Tryz.prog ren := { n3 := by kernel_rfl, n4 := by kernel_rfl, y3 := by kernel_rfl, y4 := by kernel_rfl, c5 := by kernel_rfl, c119 := by kernel_rfl, c138 := by kernel_rfl }
theorem types_is : (Rows.laid_rollbook_attr_types : DataW Unit) = .agg (Print.attrTab.map fun x => .agg [.lit (.string x.1.data.toList), .lit (.int .i64 x.2.1), .lit (.bool x.2.2)]) := by kernel_rfl
theorem cells23 : Tryz.prog.cellsOf 23 = 3 := by kernel_rfl
theorem attr_row {W : World} {cs : List Value} {fuel : Nat} {p : List MemPlace} {a : List UInt8} {k : Int} {b : Bool} (h : DataW.trod (fun _ : TypeId × Value => ()) Tryz.prog W 0 (fun _ => true) false fuel 23 cs = some (.agg [.lit (.string a), .lit (.int .i64 k), .lit (.bool b)], p)) : cs = [.string ⟨a.toArray⟩, .int .i64 k, .bool b] := by
  obtain ⟨xs, n, rfl, hx, hl, hn, hf⟩ := DataW.trod_struct Tryz.underlying23 h
  have k0 := hf 0 _ rfl
  have k1 := hf 1 _ rfl
  have k2 := hf 2 _ rfl
  rw [cells23] at hl
  have hn3 : xs.length = 3 := hn
  obtain ⟨x0, x1, x2, rfl⟩ : ∃ x0 x1 x2, xs = [x0, x1, x2] := by
    match xs, hn3 with
    | [x0, x1, x2], _ => exact ⟨x0, x1, x2, rfl⟩
  obtain ⟨c0, c1, c2, rfl⟩ : ∃ c0 c1 c2, cs = [c0, c1, c2] := by
    match cs, hl with
    | [c0, c1, c2], _ => exact ⟨c0, c1, c2, rfl⟩
  obtain ⟨s, e0, rfl, _⟩ := DataW.trod_string Tryz.underlying9 k0
  obtain ⟨m, e1, rfl, _⟩ := DataW.trod_int Tryz.underlying3 k1
  obtain ⟨q, e2, rfl⟩ := DataW.trod_bool Tryz.underlying4 k2
  have c9 : Tryz.prog.cellsOf 9 = 1 := by kernel_rfl
  have c3 : Tryz.prog.cellsOf 3 = 1 := by kernel_rfl
  have c4 : Tryz.prog.cellsOf 4 = 1 := by kernel_rfl
  have g0 : c0 = .string s := by simpa [c9] using e0
  have g1 : c1 = .int .i64 m := by simpa [c3] using e1
  have g2 : c2 = .bool q := by simpa [c4] using e2
  simp only [List.map_cons, List.map_nil, Prod.mk.injEq, DataW.agg.injEq, List.cons.injEq, DataW.lit.injEq, Lit.string.injEq, Lit.int.injEq, Lit.bool.injEq, true_and, and_true] at hx
  obtain ⟨⟨rfl, rfl, rfl⟩, _⟩ := hx
  subst g0; subst g1; subst g2
  rfl
theorem types_of {W : World} (h : Lib.VarReads Tryz.prog W "rollbook/attr.types" (Rows.laid_rollbook_attr_types : DataW Unit)) : ∃ t fr, W.heap[0]? = some (.cells Print.attrCells t fr) := by
  obtain ⟨g, t, cs, fuel, p, hg, hty, hvar, hd⟩ := h
  obtain rfl := Option.some.inj ((show Tryz.prog.globalNamed "rollbook/attr.types" = some 0 by kernel_rfl).symm.trans hg)
  obtain rfl := Option.some.inj ((show (Tryz.prog.globals[0]?).map (·.type) = some 63 by kernel_rfl).symm.trans hty)
  rw [types_is] at hd
  obtain ⟨xs, m, rfl, hx, hl, hn, hf⟩ := DataW.trod_array Tryz.underlying63 hd
  rw [show Tryz.prog.cellsOf 63 = 60 by kernel_rfl] at hl
  rw [cells23] at hf
  have hxs : xs.map (·.1) = Print.attrTab.map fun x => (DataW.agg [.lit (.string x.1.data.toList), .lit (.int .i64 x.2.1), .lit (.bool x.2.2)] : DataW Unit) := by
    have := congrArg Prod.fst hx
    simpa using this.symm
  have hrow : ∀ i, i < 20 → (cs.toList.drop (i * 3)).take 3 = [.string (Print.attrTab.getD i default).1, .int .i64 (Print.attrTab.getD i default).2.1, .bool (Print.attrTab.getD i default).2.2] := by
    intro i hi
    have h1 := hf i hi
    rw [List.getElem?_eq_getElem (by omega)] at h1
    have h2 : (xs.map (·.1))[i]? = some (xs[i]'(by omega)).1 := by rw [List.getElem?_map, List.getElem?_eq_getElem (by omega)]; rfl
    rw [hxs, List.getElem?_map, List.getElem?_eq_getElem (show i < Print.attrTab.length from hi)] at h2
    simp only [Option.map_some, Option.some.injEq] at h2
    rw [show xs[i]'(by omega) = ((xs[i]'(by omega)).1, (xs[i]'(by omega)).2) from rfl, ← h2] at h1
    have h3 := attr_row h1
    rw [h3, List.getD_eq_getElem?_getD, List.getElem?_eq_getElem (show i < Print.attrTab.length from hi)]; rfl
  have hcs : cs = Print.attrCells := by
    apply Array.ext'
    apply List.ext_getElem?
    intro j
    by_cases hj : j < 60
    · have h1 := congrArg (·[j % 3]?) (hrow (j / 3) (by omega))
      simp only [List.getElem?_take, List.getElem?_drop] at h1
      rw [if_pos (Nat.mod_lt _ (by omega)), show j / 3 * 3 + j % 3 = j by omega] at h1
      rw [h1]
      have h2 : ∀ q r, q < 20 → r < 3 → ([Value.string (Print.attrTab.getD q default).1, .int .i64 (Print.attrTab.getD q default).2.1, .bool (Print.attrTab.getD q default).2.2] : List Value)[r]? = Print.attrCells.toList[q * 3 + r]? := by
        intro q r hq hr
        match q, hq with
        | 0, _ | 1, _ | 2, _ | 3, _ | 4, _ | 5, _ | 6, _ | 7, _ | 8, _ | 9, _ | 10, _ | 11, _ | 12, _ | 13, _ | 14, _ | 15, _ | 16, _ | 17, _ | 18, _ | 19, _ =>
          match r, hr with
          | 0, _ | 1, _ | 2, _ => rfl
          | r + 3, h => exact absurd h (by omega)
        | q + 20, h => exact absurd h (by omega)
      rw [h2 (j / 3) (j % 3) (by omega) (Nat.mod_lt _ (by omega)), show j / 3 * 3 + j % 3 = j by omega]
    · rw [List.getElem?_eq_none (by omega), List.getElem?_eq_none (show Print.attrCells.toList.length ≤ j by show 60 ≤ j; omega)]
  unfold World.var? at hvar
  rw [hg, Option.bind_some] at hvar
  split at hvar
  · rename_i c e fr hc
    injection hvar with hvar
    subst hvar; subst hcs
    exact ⟨e, fr, hc⟩
  · cases hvar
theorem gw_of {W : World} (hsh : W.ShapedOpen Tryz.prog) (hL : laidMetH Tryz.prog laid2 W) : Print.Gw W := by
  rw [MakeChecks.laidMetH_plain _ _ _ (by kernel_rfl)] at hL
  refine ⟨cell_of_shapedOpen_int (zero := #[.int .i64 0]) (t := 3) hsh (of_decide_eq_true (by kernel_rfl)) (by kernel_rfl) rfl (by kernel_rfl) (by kernel_rfl) Tryz.underlying3, ?_, ?_⟩
  · refine utf8Tabs_of_readsT u8types u8extra ?_ ?_
    · rw [← first_is]; exact Lib.laidMet.reads hL (by simp [laid2])
    · rw [← accept_is]; exact Lib.laidMet.reads hL (by simp [laid2])
  · exact types_of (Lib.laidMet.reads hL (by simp [laid2]))
end Go.Proofs.YtpklcnpmppaaoaaGreatDoor
