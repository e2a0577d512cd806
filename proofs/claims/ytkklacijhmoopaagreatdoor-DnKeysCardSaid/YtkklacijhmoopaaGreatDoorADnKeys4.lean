-- laid together by pack.py (a program of this session)
import Derived.Test.YtkklacijhmoopaaGreatDoorADnKeys3
namespace Go.Proofs.YtkklacijhmoopaaGreatDoor.Print
open Go.RowKit Go.Proofs.YtkklacijhmoopaaGreatDoorW.PrintWords Go.Proofs.YtkklacijhmoopaaGreatDoorW.PrintLast Go.Proofs.YtkklacijhmoopaaGreatDoorW.PrintMore
attribute [local go_sem] max2_int min2_int max_two min_two max_three min_three max_four min_four
set_option linter.unusedVariables false
set_option linter.unusedSimpArgs false
set_option maxHeartbeats 8000000 in
set_option maxRecDepth 100000 in
theorem L15awake.calls (k : Nat)  (r : Bool) (w : World) (hG : Gw w) (h : L15awake.f k  = some r) :
  Calls Tryz.prog 5 #[] w fun e w' => e = .returned (.bool r) ∧ Below w.heap.size w w' := by
 have HB := Aside0.mk (Below.refl w.heap.size w)
 have HG := Aside0.mk hG
 clear hG
 have H : ((dn_Parse.f k (⟨#[67, 78, 61, 65, 110, 110, 32, 92, 44, 32, 66, 32, 43, 32, 115, 110, 61, 120, 32, 44, 32, 111, 117, 61, 80, 101, 111, 112, 108, 101]⟩ : ByteArray)).bind fun bt218 => ((dn_Print.f k bt218.1).bind fun bt222 => (if bt218.2 = 0 then (if bt222.2 = 0 then (if bt222.1.toList = ([99, 110, 61, 65, 110, 110, 32, 92, 44, 32, 66, 43, 115, 110, 61, 120, 44, 111, 117, 61, 80, 101, 111, 112, 108, 101] : List UInt8) then (if (bt218.1.length : Int) = 2 then (if 0 < (bt218.1.length : Int) then (some (((rd_L8 bt218.1 0).length : Int) == 2)) else (none)) else (some false)) else (some false)) else (some false)) else (some false)))) = some r := h
 clear h
 replace H := Option.bind_eq_some_iff.mp H
 obtain ⟨⟨t218, t219⟩, A10, H⟩ := H
 replace H : ((dn_Print.f k t218).bind fun bt222 => (if t219 = 0 then (if bt222.2 = 0 then (if bt222.1.toList = ([99, 110, 61, 65, 110, 110, 32, 92, 44, 32, 66, 43, 115, 110, 61, 120, 44, 111, 117, 61, 80, 101, 111, 112, 108, 101] : List UInt8) then (if (t218.length : Int) = 2 then (if 0 < (t218.length : Int) then (some (((rd_L8 t218 0).length : Int) == 2)) else (none)) else (some false)) else (some false)) else (some false)) else (some false))) = some r := H
 have A1 := Aside0.mk A10
 clear A10
 replace H := Option.bind_eq_some_iff.mp H
 obtain ⟨⟨t222, t223⟩, A20, H⟩ := H
 replace H : (if t219 = 0 then (if t223 = 0 then (if t222.toList = ([99, 110, 61, 65, 110, 110, 32, 92, 44, 32, 66, 43, 115, 110, 61, 120, 44, 111, 117, 61, 80, 101, 111, 112, 108, 101] : List UInt8) then (if (t218.length : Int) = 2 then (if 0 < (t218.length : Int) then (some (((rd_L8 t218 0).length : Int) == 2)) else (none)) else (some false)) else (some false)) else (some false)) else (some false)) = some r := H
 have A2 := Aside0.mk A20
 clear A20
 by_cases c3 : t219 = 0
 ·
  rw [if_pos c3] at H
  have c3b0 : (t219 == 0) = true := beq_iff_eq.mpr c3
  have c3b1 : (t219 != 0) = false := bne_eq_false_iff_eq.mpr c3
  clear c3
  by_cases c4 : t223 = 0
  ·
   rw [if_pos c4] at H
   have c4b0 : (t223 == 0) = true := beq_iff_eq.mpr c4
   have c4b1 : (t223 != 0) = false := bne_eq_false_iff_eq.mpr c4
   clear c4
   by_cases c5 : t222.toList = ([99, 110, 61, 65, 110, 110, 32, 92, 44, 32, 66, 43, 115, 110, 61, 120, 44, 111, 117, 61, 80, 101, 111, 112, 108, 101] : List UInt8)
   ·
    rw [if_pos c5] at H
    have c5b0 : (t222.toList == ([99, 110, 61, 65, 110, 110, 32, 92, 44, 32, 66, 43, 115, 110, 61, 120, 44, 111, 117, 61, 80, 101, 111, 112, 108, 101] : List UInt8)) = true := beq_iff_eq.mpr c5
    have c5b1 : (t222.toList != ([99, 110, 61, 65, 110, 110, 32, 92, 44, 32, 66, 43, 115, 110, 61, 120, 44, 111, 117, 61, 80, 101, 111, 112, 108, 101] : List UInt8)) = false := bne_eq_false_iff_eq.mpr c5
    clear c5
    by_cases c6 : (t218.length : Int) = 2
    ·
     rw [if_pos c6] at H
     have c6b0 : ((t218.length : Int) == 2) = true := beq_iff_eq.mpr c6
     have c6b1 : ((t218.length : Int) != 2) = false := bne_eq_false_iff_eq.mpr c6
     clear c6
     by_cases c7 : 0 < (t218.length : Int)
     ·
      rw [if_pos c7] at H
      have c7b0 := decide_eq_true c7
      have c7b1 : decide (0 < t218.length) = true := decide_eq_true (by omega)
      clear c7
      obtain rfl := Option.some.inj H
      go_enter Tryz.func5, Tryz.ntmps5
      go_wp2_with (first | ((with_reducible refine gate_callee (f := 16) rfl ?_); refine goesL_ (some 6) rfl rfl Tryz.func16 (by kernel_rfl) rfl #[.string (⟨#[67, 78, 61, 65, 110, 110, 32, 92, 44, 32, 66, 32, 43, 32, 115, 110, 61, 120, 32, 44, 32, 111, 117, 61, 80, 101, 111, 112, 108, 101]⟩ : ByteArray)] rfl ap3 ?_; (with_reducible refine (dn_Parse.calls k (⟨#[67, 78, 61, 65, 110, 110, 32, 92, 44, 32, 66, 32, 43, 32, 115, 110, 61, 120, 32, 44, 32, 111, 117, 61, 80, 101, 111, 112, 108, 101]⟩ : ByteArray) t218 t219 _ ?side1 A1.out).mono ?_); (case side1 => exact ap6); rintro e w8 ⟨v220, rfl, ho0, hb⟩; refine ⟨_, rfl, ?_⟩; have n0_ := Aside0.mk (Kd.S_lower ho0 (below_size ap1)); have n1_ := Aside0.mk (below_step ap1 hb); clear HB; have HO221 := n0_; have HB := n1_; clear n0_ n1_; (try clear hb); (try clear hb2); (try clear hk); (try clear hi); (try clear ho0); obtain ⟨Ao9, co9, eo9⟩ := Kd.S_slice HO221.out; subst eo9) | ((with_reducible refine gate_callee (f := 17) rfl ?_); refine goesL_ (some 11) rfl rfl Tryz.func17 (by kernel_rfl) rfl #[.slice Ao9 t218.length co9] rfl ap3 ?_; (with_reducible refine (dn_Print.calls k _ _ t218 t222 t223 _ ?side1 ?side2 ?side3 A2.out).mono ?_); (case side1 => repeat (first | exact (Kd.S_reads' HO221.out).2.2 | (with_reducible refine Kd.C_alloc ?_ _) | (with_reducible refine Kd.C_drewN ?_ _) | (with_reducible refine Kd.C_drew ?_))); (case side2 => exact (Kd.S_reads' HO221.out).2.1); (case side3 => exact ap6); rintro e w10 ⟨rfl, hb⟩; refine ⟨_, rfl, ?_⟩; have n0_ := Aside0.mk (Kd.S_below (apAS HO221.out) hb); have n1_ := Aside0.mk (below_step ap1 hb); clear HO221; clear HB; have HO221 := n0_; have HB := n1_; clear n0_ n1_; (try clear hb); (try clear hb2); (try clear hk); (try clear hi); have p224 : 0 ≤ (0 : Int) := (by omega); have q224 : 0 < (t218.length : Int) := of_decide_eq_true ap0; obtain ⟨ad224, A224_0, c224_0, e224, hx224_0, hl224_0, hi224_0⟩ := at_L8 (Kd.S_reads' HO221.out).2.2 0 p224 q224; cases e224; obtain ⟨ce224, hce224, hMe224, hcc224⟩ := Kd.S_get HO221.out [] 0 p224 (by first | exact q224 | exact of_decide_eq_true ap0 | (have e_ := (Kd.S_reads' HO221.out).1; omega)); obtain ⟨ve224_0, rfl, ge224_0⟩ := hMe224; have hv224_0 := hcc224 0 _ rfl; rw [Nat.add_zero, show ((Kd.slice 40 k40)).sz = 1 from rfl, Nat.mul_one] at hv224_0; replace hv224_0 := Option.some.inj (hv224_0.symm.trans hx224_0); rw [hv224_0] at ge224_0; have HL224_0 := Aside0.mk (show Kd.R k40 40 _ _ _ _ (rd_L8 t218 0) from ge224_0); clear hv224_0 ge224_0; clear hcc224 hce224; have qi224 : (0 < t218.length) = True := eq_true (by omega); (try rw [show ((0 : Int)).toNat = 0 from rfl] at hx224_0); (try rw [Addr.add_zero'] at hx224_0); have HR224_0 := Aside0.mk hi224_0; have HC224_0 := Aside0.mk hl224_0; clear hi224_0 hl224_0; replace p224 := eq_true p224; replace q224 := eq_true q224))
      go_ret
      exact ⟨by first | rfl | (simp [errW_none, errW_some, bne_nil8, beq_nil8]; done) | (simp [errW_none, errW_some] <;> rfl) | (simp [*, errW_none, errW_some] <;> rfl), by repeat (first | (with_reducible first | exact HB.out | apply below_alloc | apply pw_below_drewN | apply below_drew1) | exact HB.out)⟩
     ·
      rw [if_neg c7] at H
      exact absurd H (by simp)
    ·
     rw [if_neg c6] at H
     have c6b0 : ((t218.length : Int) == 2) = false := beq_eq_false_iff_ne.mpr c6
     have c6b1 : ((t218.length : Int) != 2) = true := bne_iff_ne.mpr c6
     obtain rfl := Option.some.inj H
     go_enter Tryz.func5, Tryz.ntmps5
     go_wp2_with (first | ((with_reducible refine gate_callee (f := 16) rfl ?_); refine goesL_ (some 6) rfl rfl Tryz.func16 (by kernel_rfl) rfl #[.string (⟨#[67, 78, 61, 65, 110, 110, 32, 92, 44, 32, 66, 32, 43, 32, 115, 110, 61, 120, 32, 44, 32, 111, 117, 61, 80, 101, 111, 112, 108, 101]⟩ : ByteArray)] rfl ap3 ?_; (with_reducible refine (dn_Parse.calls k (⟨#[67, 78, 61, 65, 110, 110, 32, 92, 44, 32, 66, 32, 43, 32, 115, 110, 61, 120, 32, 44, 32, 111, 117, 61, 80, 101, 111, 112, 108, 101]⟩ : ByteArray) t218 t219 _ ?side1 A1.out).mono ?_); (case side1 => exact ap6); rintro e w11 ⟨v220, rfl, ho0, hb⟩; refine ⟨_, rfl, ?_⟩; have n0_ := Aside0.mk (Kd.S_lower ho0 (below_size ap1)); have n1_ := Aside0.mk (below_step ap1 hb); clear HB; have HO221 := n0_; have HB := n1_; clear n0_ n1_; (try clear hb); (try clear hb2); (try clear hk); (try clear hi); (try clear ho0); obtain ⟨Ao12, co12, eo12⟩ := Kd.S_slice HO221.out; subst eo12) | ((with_reducible refine gate_callee (f := 17) rfl ?_); refine goesL_ (some 11) rfl rfl Tryz.func17 (by kernel_rfl) rfl #[.slice Ao12 t218.length co12] rfl ap3 ?_; (with_reducible refine (dn_Print.calls k _ _ t218 t222 t223 _ ?side1 ?side2 ?side3 A2.out).mono ?_); (case side1 => repeat (first | exact (Kd.S_reads' HO221.out).2.2 | (with_reducible refine Kd.C_alloc ?_ _) | (with_reducible refine Kd.C_drewN ?_ _) | (with_reducible refine Kd.C_drew ?_))); (case side2 => exact (Kd.S_reads' HO221.out).2.1); (case side3 => exact ap6); rintro e w13 ⟨rfl, hb⟩; refine ⟨_, rfl, ?_⟩; have n0_ := Aside0.mk (Kd.S_below (apAS HO221.out) hb); have n1_ := Aside0.mk (below_step ap1 hb); clear HO221; clear HB; have HO221 := n0_; have HB := n1_; clear n0_ n1_; (try clear hb); (try clear hb2); (try clear hk); (try clear hi)))
     go_ret
     exact ⟨by first | rfl | (simp [errW_none, errW_some, bne_nil8, beq_nil8]; done) | (simp [errW_none, errW_some] <;> rfl) | (simp [*, errW_none, errW_some] <;> rfl), by repeat (first | (with_reducible first | exact HB.out | apply below_alloc | apply pw_below_drewN | apply below_drew1) | exact HB.out)⟩
   ·
    rw [if_neg c5] at H
    have c5b0 : (t222.toList == ([99, 110, 61, 65, 110, 110, 32, 92, 44, 32, 66, 43, 115, 110, 61, 120, 44, 111, 117, 61, 80, 101, 111, 112, 108, 101] : List UInt8)) = false := beq_eq_false_iff_ne.mpr c5
    have c5b1 : (t222.toList != ([99, 110, 61, 65, 110, 110, 32, 92, 44, 32, 66, 43, 115, 110, 61, 120, 44, 111, 117, 61, 80, 101, 111, 112, 108, 101] : List UInt8)) = true := bne_iff_ne.mpr c5
    obtain rfl := Option.some.inj H
    go_enter Tryz.func5, Tryz.ntmps5
    go_wp2_with (first | ((with_reducible refine gate_callee (f := 16) rfl ?_); refine goesL_ (some 6) rfl rfl Tryz.func16 (by kernel_rfl) rfl #[.string (⟨#[67, 78, 61, 65, 110, 110, 32, 92, 44, 32, 66, 32, 43, 32, 115, 110, 61, 120, 32, 44, 32, 111, 117, 61, 80, 101, 111, 112, 108, 101]⟩ : ByteArray)] rfl ap3 ?_; (with_reducible refine (dn_Parse.calls k (⟨#[67, 78, 61, 65, 110, 110, 32, 92, 44, 32, 66, 32, 43, 32, 115, 110, 61, 120, 32, 44, 32, 111, 117, 61, 80, 101, 111, 112, 108, 101]⟩ : ByteArray) t218 t219 _ ?side1 A1.out).mono ?_); (case side1 => exact ap6); rintro e w14 ⟨v220, rfl, ho0, hb⟩; refine ⟨_, rfl, ?_⟩; have n0_ := Aside0.mk (Kd.S_lower ho0 (below_size ap1)); have n1_ := Aside0.mk (below_step ap1 hb); clear HB; have HO221 := n0_; have HB := n1_; clear n0_ n1_; (try clear hb); (try clear hb2); (try clear hk); (try clear hi); (try clear ho0); obtain ⟨Ao15, co15, eo15⟩ := Kd.S_slice HO221.out; subst eo15) | ((with_reducible refine gate_callee (f := 17) rfl ?_); refine goesL_ (some 11) rfl rfl Tryz.func17 (by kernel_rfl) rfl #[.slice Ao15 t218.length co15] rfl ap3 ?_; (with_reducible refine (dn_Print.calls k _ _ t218 t222 t223 _ ?side1 ?side2 ?side3 A2.out).mono ?_); (case side1 => repeat (first | exact (Kd.S_reads' HO221.out).2.2 | (with_reducible refine Kd.C_alloc ?_ _) | (with_reducible refine Kd.C_drewN ?_ _) | (with_reducible refine Kd.C_drew ?_))); (case side2 => exact (Kd.S_reads' HO221.out).2.1); (case side3 => exact ap6); rintro e w16 ⟨rfl, hb⟩; refine ⟨_, rfl, ?_⟩; have n0_ := Aside0.mk (Kd.S_below (apAS HO221.out) hb); have n1_ := Aside0.mk (below_step ap1 hb); clear HO221; clear HB; have HO221 := n0_; have HB := n1_; clear n0_ n1_; (try clear hb); (try clear hb2); (try clear hk); (try clear hi)))
    go_ret
    exact ⟨by first | rfl | (simp [errW_none, errW_some, bne_nil8, beq_nil8]; done) | (simp [errW_none, errW_some] <;> rfl) | (simp [*, errW_none, errW_some] <;> rfl), by repeat (first | (with_reducible first | exact HB.out | apply below_alloc | apply pw_below_drewN | apply below_drew1) | exact HB.out)⟩
  ·
   rw [if_neg c4] at H
   have c4b0 : (t223 == 0) = false := beq_eq_false_iff_ne.mpr c4
   have c4b1 : (t223 != 0) = true := bne_iff_ne.mpr c4
   obtain rfl := Option.some.inj H
   go_enter Tryz.func5, Tryz.ntmps5
   go_wp2_with (first | ((with_reducible refine gate_callee (f := 16) rfl ?_); refine goesL_ (some 6) rfl rfl Tryz.func16 (by kernel_rfl) rfl #[.string (⟨#[67, 78, 61, 65, 110, 110, 32, 92, 44, 32, 66, 32, 43, 32, 115, 110, 61, 120, 32, 44, 32, 111, 117, 61, 80, 101, 111, 112, 108, 101]⟩ : ByteArray)] rfl ap3 ?_; (with_reducible refine (dn_Parse.calls k (⟨#[67, 78, 61, 65, 110, 110, 32, 92, 44, 32, 66, 32, 43, 32, 115, 110, 61, 120, 32, 44, 32, 111, 117, 61, 80, 101, 111, 112, 108, 101]⟩ : ByteArray) t218 t219 _ ?side1 A1.out).mono ?_); (case side1 => exact ap6); rintro e w17 ⟨v220, rfl, ho0, hb⟩; refine ⟨_, rfl, ?_⟩; have n0_ := Aside0.mk (Kd.S_lower ho0 (below_size ap1)); have n1_ := Aside0.mk (below_step ap1 hb); clear HB; have HO221 := n0_; have HB := n1_; clear n0_ n1_; (try clear hb); (try clear hb2); (try clear hk); (try clear hi); (try clear ho0); obtain ⟨Ao18, co18, eo18⟩ := Kd.S_slice HO221.out; subst eo18) | ((with_reducible refine gate_callee (f := 17) rfl ?_); refine goesL_ (some 11) rfl rfl Tryz.func17 (by kernel_rfl) rfl #[.slice Ao18 t218.length co18] rfl ap3 ?_; (with_reducible refine (dn_Print.calls k _ _ t218 t222 t223 _ ?side1 ?side2 ?side3 A2.out).mono ?_); (case side1 => repeat (first | exact (Kd.S_reads' HO221.out).2.2 | (with_reducible refine Kd.C_alloc ?_ _) | (with_reducible refine Kd.C_drewN ?_ _) | (with_reducible refine Kd.C_drew ?_))); (case side2 => exact (Kd.S_reads' HO221.out).2.1); (case side3 => exact ap6); rintro e w19 ⟨rfl, hb⟩; refine ⟨_, rfl, ?_⟩; have n0_ := Aside0.mk (Kd.S_below (apAS HO221.out) hb); have n1_ := Aside0.mk (below_step ap1 hb); clear HO221; clear HB; have HO221 := n0_; have HB := n1_; clear n0_ n1_; (try clear hb); (try clear hb2); (try clear hk); (try clear hi)))
   go_ret
   exact ⟨by first | rfl | (simp [errW_none, errW_some, bne_nil8, beq_nil8]; done) | (simp [errW_none, errW_some] <;> rfl) | (simp [*, errW_none, errW_some] <;> rfl), by repeat (first | (with_reducible first | exact HB.out | apply below_alloc | apply pw_below_drewN | apply below_drew1) | exact HB.out)⟩
 ·
  rw [if_neg c3] at H
  have c3b0 : (t219 == 0) = false := beq_eq_false_iff_ne.mpr c3
  have c3b1 : (t219 != 0) = true := bne_iff_ne.mpr c3
  obtain rfl := Option.some.inj H
  go_enter Tryz.func5, Tryz.ntmps5
  go_wp2_with (first | ((with_reducible refine gate_callee (f := 16) rfl ?_); refine goesL_ (some 6) rfl rfl Tryz.func16 (by kernel_rfl) rfl #[.string (⟨#[67, 78, 61, 65, 110, 110, 32, 92, 44, 32, 66, 32, 43, 32, 115, 110, 61, 120, 32, 44, 32, 111, 117, 61, 80, 101, 111, 112, 108, 101]⟩ : ByteArray)] rfl ap3 ?_; (with_reducible refine (dn_Parse.calls k (⟨#[67, 78, 61, 65, 110, 110, 32, 92, 44, 32, 66, 32, 43, 32, 115, 110, 61, 120, 32, 44, 32, 111, 117, 61, 80, 101, 111, 112, 108, 101]⟩ : ByteArray) t218 t219 _ ?side1 A1.out).mono ?_); (case side1 => exact ap6); rintro e w20 ⟨v220, rfl, ho0, hb⟩; refine ⟨_, rfl, ?_⟩; have n0_ := Aside0.mk (Kd.S_lower ho0 (below_size ap1)); have n1_ := Aside0.mk (below_step ap1 hb); clear HB; have HO221 := n0_; have HB := n1_; clear n0_ n1_; (try clear hb); (try clear hb2); (try clear hk); (try clear hi); (try clear ho0); obtain ⟨Ao21, co21, eo21⟩ := Kd.S_slice HO221.out; subst eo21) | ((with_reducible refine gate_callee (f := 17) rfl ?_); refine goesL_ (some 11) rfl rfl Tryz.func17 (by kernel_rfl) rfl #[.slice Ao21 t218.length co21] rfl ap3 ?_; (with_reducible refine (dn_Print.calls k _ _ t218 t222 t223 _ ?side1 ?side2 ?side3 A2.out).mono ?_); (case side1 => repeat (first | exact (Kd.S_reads' HO221.out).2.2 | (with_reducible refine Kd.C_alloc ?_ _) | (with_reducible refine Kd.C_drewN ?_ _) | (with_reducible refine Kd.C_drew ?_))); (case side2 => exact (Kd.S_reads' HO221.out).2.1); (case side3 => exact ap6); rintro e w22 ⟨rfl, hb⟩; refine ⟨_, rfl, ?_⟩; have n0_ := Aside0.mk (Kd.S_below (apAS HO221.out) hb); have n1_ := Aside0.mk (below_step ap1 hb); clear HO221; clear HB; have HO221 := n0_; have HB := n1_; clear n0_ n1_; (try clear hb); (try clear hb2); (try clear hk); (try clear hi)))
  go_ret
  exact ⟨by first | rfl | (simp [errW_none, errW_some, bne_nil8, beq_nil8]; done) | (simp [errW_none, errW_some] <;> rfl) | (simp [*, errW_none, errW_some] <;> rfl), by repeat (first | (with_reducible first | exact HB.out | apply below_alloc | apply pw_below_drewN | apply below_drew1) | exact HB.out)⟩
end Go.Proofs.YtkklacijhmoopaaGreatDoor.Print
namespace Go.Proofs.YtkklacijhmoopaaGreatDoor.Print
open Go.RowKit Go.Proofs.YtkklacijhmoopaaGreatDoorW.PrintWords Go.Proofs.YtkklacijhmoopaaGreatDoorW.PrintLast Go.Proofs.YtkklacijhmoopaaGreatDoorW.PrintMore Go.Proofs.YtkklacijhmoopaaGreatDoor.Pure
def exT : List UInt8 := [67, 78, 61, 65, 110, 110, 32, 92, 44, 32, 66, 32, 43, 32, 115, 110, 61, 120, 32, 44, 32, 111, 117, 61, 80, 101, 111, 112, 108, 101]
def exN : List (List Pr) := [[([99, 110], [65, 110, 110, 32, 44, 32, 66]), ([115, 110], [120])], [([111, 117], [80, 101, 111, 112, 108, 101])]]
set_option maxRecDepth 100000 in
theorem exN_read : ((signs exT).bind fun L => goP L [] [] []) = some exN := by decide +kernel
set_option maxRecDepth 100000 in
theorem exN_ok : nameOk (mkN exN) = true := by decide +kernel
theorem exN_short : shortP exN := by unfold shortP exN; decide
theorem exN_text : nameText exN = [99, 110, 61, 65, 110, 110, 32, 92, 44, 32, 66, 43, 115, 110, 61, 120, 44, 111, 117, 61, 80, 101, 111, 112, 108, 101] := by decide +kernel
theorem awake15_ev : Ev (fun k => L15awake.f k) true := by
  obtain ⟨z1, z2, z3⟩ := sz_short exN_short
  obtain ⟨_, _, _, p4⟩ := parse_ev (mkB exT) (by rw [mkB_size]; decide)
  have hp := p4 (by rw [mkB_size]; decide) (by decide) exN _ exN_read (right_ev (mkN exN) z1 z2)
  have hq := print_ev exN exN_short
  rw [exN_ok, if_pos rfl] at hp hq
  have hf : fin (nameText exN) = (mkB [99, 110, 61, 65, 110, 110, 32, 92, 44, 32, 66, 43, 115, 110, 61, 120, 44, 111, 117, 61, 80, 101, 111, 112, 108, 101], 0) := by
    unfold fin; rw [exN_text, if_neg (by decide)]
  rw [hf] at hq
  unfold L15awake.f
  refine Ev.bind hp (Ev.bind hq (Ev.pos rfl (Ev.pos rfl (Ev.pos ?_ (Ev.pos rfl (Ev.pos (by decide) Ev.rfl'))))))
  rw [Lib.toList_data]
end Go.Proofs.YtkklacijhmoopaaGreatDoor.Print
namespace Go.Proofs.YtkklacijhmoopaaGreatDoor.Print
open Go.RowKit Go.Proofs.YtkklacijhmoopaaGreatDoorW.PrintWords
def strings_ReplaceAll.f (a0 a1 a2 : ByteArray) : Option ByteArray :=
  if a0.size ≤ 1000000 then (if 1 ≤ a1.size then (if a2.size ≤ 1000 then some ⟨(Lib.replaceAll a0.data.toList a1.data.toList a2.data.toList).toArray⟩ else none) else none) else none
theorem strings_ReplaceAll.calls (a0 a1 a2 : ByteArray) (r : ByteArray) (w : World) (hG : Gw w) (h : strings_ReplaceAll.f a0 a1 a2 = some r) :
    Calls Tryz.prog 53 #[.string a0, .string a1, .string a2] w fun e w' => e = .returned (.string r) ∧ Below w.heap.size w w' := by
  unfold strings_ReplaceAll.f at h
  by_cases c : a0.size ≤ 1000000
  · by_cases c1 : 1 ≤ a1.size
    · by_cases c2 : a2.size ≤ 1000
      · rw [if_pos c, if_pos c1, if_pos c2] at h
        injection h with h
        subst h
        obtain ⟨m, hm⟩ := hG.maxLen
        have hle := Lib.countB_le a1 c1 a0.size a0 (Nat.le_refl _)
        have : Lib.countB a0 a1 * a2.size ≤ 1000000 * 1000 := Nat.mul_le_mul (by omega) c2
        exact Tryz.strings_ReplaceAll a0 a1 a2 m w (by omega) hm c1 (by omega)
      · rw [if_pos c, if_pos c1, if_neg c2] at h; cases h
    · rw [if_pos c, if_neg c1] at h; cases h
  · rw [if_neg c] at h; cases h
end Go.Proofs.YtkklacijhmoopaaGreatDoor.Print
namespace Go.Proofs
open Go.Shelf
def Tryz.lays170_ren : Go.Shelf.Ren := ⟨fun | 170 => 54 | n => n, fun | 70 => 65 | 3 => 3 | 0 => 0 | 72 => 67 | 37 => 61 | 5 => 5 | n => n, fun | n => n⟩
theorem Tryz.lays170 : Go.Proofs.Lays.n170 Tryz.prog Tryz.lays170_ren := {
  mixed := by kernel_rfl
  f170 := Tryz.func54.trans (congrArg some (by kernel_rfl))
  t0 := Tryz.underlying0
  a0 := Tryz.isAgg0
  z0 := Tryz.sizeOf0
  v0 := Tryz.zeroValue0
  t3 := Tryz.underlying3
  a3 := Tryz.isAgg3
  z3 := Tryz.sizeOf3
  v3 := Tryz.zeroValue3
  t37 := Tryz.underlying61
  a37 := Tryz.isAgg61
  z37 := Tryz.sizeOf61
  v37 := Tryz.zeroValue61
  t70 := Tryz.underlying65
  a70 := Tryz.isAgg65
  z70 := Tryz.sizeOf65
  v70 := Tryz.zeroValue65
  t72 := Tryz.underlying67
  a72 := Tryz.isAgg67
  z72 := Tryz.sizeOf67
  v72 := Tryz.zeroValue67 }
open Go.RowKit in
theorem Tryz.Builder_Len_f (B b : Nat) (bs : List Value) (w : World) (h : Lib.IsBuilderF 67 5 B b bs w) :
    Calls Tryz.prog 54 #[.pointer (some ⟨b, 0, none⟩)] w fun e w' => e = .returned (.int .i64 bs.length) ∧ w' = w := Any.Builder_Len_f Tryz.lays170 B b bs w h
end Go.Proofs
namespace Go.Proofs.YtkklacijhmoopaaGreatDoor.Print
open Go.RowKit Go.Proofs.YtkklacijhmoopaaGreatDoorW.PrintWords Go.Proofs.YtkklacijhmoopaaGreatDoorW.PrintLast Go.Proofs.YtkklacijhmoopaaGreatDoorW.PrintMore
set_option linter.unusedVariables false
set_option linter.unusedSimpArgs false
theorem idx_of1 (z : UInt8) (a b : List UInt8) (h : ∀ c ∈ a, c ≠ z) : Lib.index (a ++ z :: b) [z] = (a.length : Int) := by
  rw [Lib.index_one]
  induction a with
  | nil => simp [Lib.indexByte]
  | cons c a ih =>
    have hc := h c (by simp)
    have ih := ih fun x hx => h x (by simp [hx])
    rw [List.cons_append, Lib.indexByte, if_neg (by simpa using hc), ih, if_neg (by simp <;> omega)]
    simp
theorem first_z (z : UInt8) (l : List UInt8) : (∀ c ∈ l, c ≠ z) ∨ ∃ a b, l = a ++ z :: b ∧ ∀ c ∈ a, c ≠ z := by
  induction l with
  | nil => exact .inl (by simp)
  | cons c l ih =>
    by_cases hc : c = z
    · exact .inr ⟨[], l, by rw [hc]; rfl, by simp⟩
    · rcases ih with h | ⟨a, b, rfl, h⟩
      · exact .inl fun x hx => by rcases List.mem_cons.1 hx with rfl | hx; exact hc; exact h x hx
      · exact .inr ⟨c :: a, b, rfl, fun x hx => by rcases List.mem_cons.1 hx with rfl | hx; exact hc; exact h x hx⟩
def swapZ (z : UInt8) (new l : List UInt8) : List UInt8 := l.flatMap fun c => if c = z then new else [c]
theorem swapZ_none (z : UInt8) (new : List UInt8) : ∀ (a : List UInt8), (∀ c ∈ a, c ≠ z) → swapZ z new a = a
  | [], _ => rfl
  | c :: a, h => by
    have ih := swapZ_none z new a fun x hx => h x (by simp [hx])
    show (if c = z then new else [c]) ++ swapZ z new a = _
    rw [if_neg (h c (by simp)), ih]; rfl
theorem replaceK_z (z : UInt8) (new : List UInt8) : ∀ (k : Nat) (l : List UInt8), l.count z = k → Lib.replaceK [z] new k l = swapZ z new l
  | 0, l, h => by
    have hn : ∀ c ∈ l, c ≠ z := by
      intro c hc h2; subst h2
      have := List.count_pos_iff.2 hc; omega
    rw [swapZ_none z new l hn]; rfl
  | k + 1, l, h => by
    rcases first_z z l with hn | ⟨a, b, rfl, hn⟩
    · have : l.count z = 0 := List.count_eq_zero.2 fun hc => hn z hc rfl
      omega
    · have hc : b.count z = k := by
        rw [List.count_append, List.count_cons] at h
        have : a.count z = 0 := List.count_eq_zero.2 fun hc => hn z hc rfl
        simp at h; omega
      rw [Lib.replaceK_hit [z] new k _ a.length (idx_of1 z a b hn), show (a ++ z :: b).drop (a.length + ([z] : List UInt8).length) = b by simp, replaceK_z z new k b hc]
      have : swapZ z new (a ++ z :: b) = swapZ z new a ++ (new ++ swapZ z new b) := by simp [swapZ]
      rw [this, swapZ_none z new a hn]; simp
theorem replaceAll_z (z : UInt8) (new l : List UInt8) (h : ([z] == new) = false) : Lib.replaceAll l [z] new = swapZ z new l := by
  unfold Lib.replaceAll Lib.replace
  rw [h]
  have : Lib.replaceNum l [z] (-1) = l.count z := by
    unfold Lib.replaceNum
    rw [if_pos (Or.inl (by decide)), Lib.count_one]
  rw [this, replaceK_z z new _ l rfl]; rfl
theorem swapZ_len (z : UInt8) (new : List UInt8) (B : Nat) (hB : 1 ≤ B) (hn : new.length ≤ B) : ∀ (l : List UInt8), (swapZ z new l).length ≤ B * l.length
  | [] => by simp [swapZ]
  | c :: l => by
    have ih := swapZ_len z new B hB hn l
    have h : (if c = z then new else [c]).length ≤ B := by
      split
      · exact hn
      · simpa using hB
    have : swapZ z new (c :: l) = (if c = z then new else [c]) ++ swapZ z new l := rfl
    rw [this, List.length_append, List.length_cons, Nat.mul_succ]; omega
def part1 (p : ByteArray) : List UInt8 := swapZ 0 [0, 255] p.data.toList ++ [0, 1]
def tupOf (l : List ByteArray) : List UInt8 := l.flatMap part1
def field_Tuple.f (l0 : List ByteArray) : Option (ByteArray × Int) :=
  if 16 < l0.length then some (⟨#[]⟩, 1) else if l0.any (fun p => decide (4096 < p.size)) = true then some (⟨#[]⟩, 5) else if 4096 < (tupOf l0).length then some (⟨#[]⟩, 5) else some (⟨(tupOf l0).toArray⟩, 0)
theorem tupOf_snoc (l : List ByteArray) (p : ByteArray) : tupOf (l ++ [p]) = tupOf l ++ part1 p := by simp [tupOf]
theorem part1_len (p : ByteArray) (h : p.size ≤ 4096) : (part1 p).length ≤ 8194 := by
  have := swapZ_len 0 [0, 255] 2 (by omega) (by simp) p.data.toList
  have h2 : p.data.toList.length = p.size := by simp
  unfold part1
  rw [List.length_append]
  simp only [List.length_cons, List.length_nil]; omega
theorem rep_f (p : ByteArray) (h : p.size ≤ 4096) : strings_ReplaceAll.f p (⟨#[0]⟩ : ByteArray) (⟨#[0, 255]⟩ : ByteArray) = some ⟨(swapZ 0 [0, 255] p.data.toList).toArray⟩ := by
  unfold strings_ReplaceAll.f
  rw [if_pos (by omega), if_pos (show 1 ≤ (⟨#[0]⟩ : ByteArray).size from Nat.le_refl _), if_pos (show (⟨#[0, 255]⟩ : ByteArray).size ≤ 1000 by decide)]
  have : Lib.replaceAll p.data.toList (⟨#[0]⟩ : ByteArray).data.toList (⟨#[0, 255]⟩ : ByteArray).data.toList = swapZ 0 [0, 255] p.data.toList := replaceAll_z 0 [0, 255] _ (by decide)
  rw [this]
theorem take_succ_ba (l : List ByteArray) (k : Nat) (h : k < l.length) : l.take (k + 1) = l.take k ++ [l.getD k ByteArray.empty] := by
  rw [List.take_succ_eq_append_getElem h]
  simp [List.getD_eq_getElem?_getD, h]
set_option maxHeartbeats 4000000 in
set_option maxRecDepth 1000000 in
theorem field_Tuple.calls (A0 : Option Addr) (c0 : Nat) (l0 : List ByteArray) (r1 : ByteArray) (r2 : Int) (w : World) (hr0 : Kd.C Kd.string w A0 l0.length l0) (hc0 : l0.length ≤ c0) (hG : Gw w) (h : field_Tuple.f l0 = some (r1, r2)) :
    Calls Tryz.prog 34 #[.slice A0 l0.length c0] w fun e w' => e = .returned (.tuple #[.string r1, .int .i64 r2]) ∧ Below w.heap.size w w' := by
  have hlm := hr0.2.1
  unfold field_Tuple.f at h
  by_cases h16 : 16 < l0.length
  · rw [if_pos h16] at h
    simp only [Option.some.injEq, Prod.mk.injEq] at h
    obtain ⟨rfl, rfl⟩ := h
    clear hr0
    go_enter Tryz.func34, Tryz.ntmps34
    go_wp2
    go_ret2
    exact ⟨rfl, Below.refl _ _⟩
  · rw [if_neg h16] at h
    have HH := Aside0.mk h
    have HC := Aside0.mk hr0
    have HG := Aside0.mk hG
    clear h hr0 hG
    go_enter Tryz.func34, Tryz.ntmps34
    go_wp2
    go_loopw [12] (fun i wr => ∃ (k : Nat) (acc : List UInt8), k ≤ l0.length ∧ i = .int .i64 k ∧ Aside0 (Bld w.heap.size w.heap.size (Lib.byteCells acc) wr) ∧ Aside0 (Below w.heap.size w wr) ∧ Aside0 (acc = tupOf (l0.take k)) ∧ Aside0 (acc.length ≤ 8194 * k) ∧ Aside0 (∀ p ∈ l0.take k, p.size ≤ 4096)) (fun i wr => l0.length - (intOf i).toNat)
    case atStart =>
      exact ⟨0, [], Nat.zero_le _, rfl, ⟨Lib.IsBuilderF.of (Lib.fresh_isBuilder 67 5 w)⟩, ⟨(Below.refl _ w).alloc (Nat.le_refl _) _⟩, ⟨rfl⟩, ⟨by simp⟩, ⟨by simp⟩⟩
    case round =>
      obtain ⟨k, acc, hk, rfl, HB, hbw, hacc, hacl, hsml⟩ := hrel
      by_cases hlt : k < l0.length
      · obtain ⟨ad, hA, hc⟩ := (Kd.reads_of_C (d := ByteArray.empty) HC.out).at_ (k : Int) (by omega) (by omega)
        have hcw := (hbw.out.cell (World.block_lt_of_cell? _ _ hc)).trans hc
        clear hc
        subst hA
        have hts := take_succ_ba l0 k hlt
        have hmem : l0.getD k ByteArray.empty ∈ l0 := by rw [List.getD_eq_getElem?_getD, List.getElem?_eq_getElem hlt]; simp
        simp only [Int.toNat_natCast, rdOf] at hcw
        generalize hx : l0.getD k ByteArray.empty = p at *
        have HT := Aside0.mk hts
        have HM := Aside0.mk hmem
        clear hts hx hmem
        by_cases hz : 4096 < p.size
        · go_wp2
          go_ret2
          have hany : l0.any (fun p => decide (4096 < p.size)) = true := List.any_eq_true.2 ⟨p, HM.out, by simpa using hz⟩
          have := HH.out
          rw [if_pos hany] at this
          simp only [Option.some.injEq, Prod.mk.injEq] at this
          obtain ⟨rfl, rfl⟩ := this
          exact ⟨rfl, hbw.out⟩
        · have HF := Aside0.mk (rep_f p (by omega))
          have hpl := part1_len p (by omega)
          have h15 : k ≤ 15 := by omega
          have hsw := swapZ_len 0 [0, 255] 2 (by omega) (by simp) p.data.toList
          have h2 : p.data.toList.length = p.size := by simp
          have HS := Aside0.mk (show (swapZ 0 [0, 255] p.data.toList).length ≤ 8192 by omega)
          clear hsw h2
          go_wp2_with (first
            | (go_at_call 53; (with_reducible refine (strings_ReplaceAll.calls _ _ _ _ _ ?hG HF.out).mono ?_); (case hG => exact HG.out.below hbw.out); rintro e w2 ⟨rfl, hb2⟩; have hcc := Aside0.mk (Lib.IsBuilderF.below HB.out hb2); replace hb2 := Aside0.mk (hbw.out.trans (hb2.mono hbw.out.size)))
            | (go_at_call 45; first
                | ((with_reducible refine (bld_WriteString w.heap.size w.heap.size _ _ _ g1.out ?h3 ?h4).mono ?_); (case h3 => have q1 := hacl.out; have q2 := HS.out; simp [Lib.byteCells_length, Lib.strCells_length, ByteArray.size]; omega); (case h4 => have a2 := hb2.out.size; have a3 := g2.out.size; omega); rintro e w4 ⟨rfl, f1, f2, _⟩; replace f1 := Aside0.mk f1; replace f2 := Aside0.mk f2)
                | ((with_reducible refine (bld_WriteString w.heap.size w.heap.size (Lib.byteCells acc) _ _ ?hB ?h3 ?h4).mono ?_); (case hB => exact hcc.out); (case h3 => have q1 := hacl.out; have q2 := HS.out; simp [Lib.byteCells_length, ByteArray.size]; omega); (case h4 => have a2 := hb2.out.size; omega); rintro e w3 ⟨rfl, g1, g2, _⟩; replace g1 := Aside0.mk g1; replace g2 := Aside0.mk g2)))
          go_roundw
          case rel =>
            refine ⟨k + 1, acc ++ part1 p, by omega, by go_num, ⟨?_⟩, ⟨hb2.out.trans (g2.out.trans f2.out)⟩, ⟨?_⟩, ⟨?_⟩, ⟨?_⟩⟩
            · have := f1.out
              rw [Lib.byteCells_append]
              simpa [Lib.byteCells, Lib.strCells, part1, List.append_assoc] using this
            · rw [HT.out, tupOf_snoc, hacc.out]
            · have := hacl.out; rw [List.length_append]; omega
            · intro x hx
              rw [HT.out] at hx
              rcases List.mem_append.1 hx with hx | hx
              · exact hsml.out x hx
              · simp only [List.mem_singleton] at hx; subst hx; omega
          case measure => simp [intOf]; omega
      · obtain rfl : k = l0.length := by omega
        have hac2 : acc = tupOf l0 := by rw [hacc.out, List.take_length]
        have hall : ¬ l0.any (fun p => decide (4096 < p.size)) = true := by
          rw [List.any_eq_true]
          rintro ⟨x, hx, h2⟩
          have := hsml.out x (by rw [List.take_length]; exact hx)
          simp at h2; omega
        have H2 := HH.out
        rw [if_neg hall, ← hac2] at H2
        have HA := Aside0.mk H2
        clear hac2 hall H2 HH hacc
        have hbl : (Lib.byteCells acc).length = acc.length := Lib.byteCells_length _
        by_cases hz : 4096 < acc.length
        · have := HA.out
          rw [if_pos hz] at this
          simp only [Option.some.injEq, Prod.mk.injEq] at this
          obtain ⟨rfl, rfl⟩ := this
          have hz2 : 4096 < (Lib.byteCells acc).length := by omega
          clear hbl
          go_wp2_with (go_at_call 54; (with_reducible refine (Tryz.Builder_Len_f w.heap.size w.heap.size _ _ HB.out).mono ?_); rintro e w2 ⟨rfl, rfl⟩)
          go_ret2
          exact ⟨rfl, hbw.out⟩
        · have := HA.out
          rw [if_neg hz] at this
          simp only [Option.some.injEq, Prod.mk.injEq] at this
          obtain ⟨rfl, rfl⟩ := this
          have hz2 : ¬ 4096 < (Lib.byteCells acc).length := by omega
          clear hbl
          go_wp2_with (first
            | (go_at_call 54; (with_reducible refine (Tryz.Builder_Len_f w.heap.size w.heap.size _ _ HB.out).mono ?_); rintro e w2 ⟨rfl, rfl⟩)
            | (go_at_call 49; (with_reducible refine (bld_String w.heap.size w.heap.size _ _ HB.out ?h1).mono ?_); (case h1 => have := hbw.out.size; omega); rintro e w2 ⟨rfl, h2⟩; replace h2 := Aside0.mk h2))
          go_ret2
          exact ⟨rfl, hbw.out.trans h2.out⟩
end Go.Proofs.YtkklacijhmoopaaGreatDoor.Print
namespace Go.Proofs
open Go.Shelf
def Tryz.lays190_ren : Go.Shelf.Ren := ⟨fun | 190 => 35 | 125 => 56 | 258 => 55 | 128 => 86 | 129 => 87 | 302 => 77 | 303 => 78 | 304 => 79 | 305 => 80 | 306 => 81 | 307 => 82 | 308 => 83 | 309 => 84 | 310 => 85 | 333 => 100 | 329 => 101 | 330 => 102 | 334 => 103 | 335 => 104 | 336 => 105 | 344 => 111 | n => n, fun | 31 => 28 | 9 => 9 | 3 => 3 | 46 => 25 | 0 => 0 | 51 => 101 | 53 => 103 | 4 => 4 | 183 => 94 | 182 => 93 | 131 => 98 | 5 => 5 | 218 => 115 | 222 => 119 | 228 => 122 | 229 => 104 | n => n, fun | n => n⟩
theorem Tryz.lays190 : Go.Proofs.Lays.n190 Tryz.prog Tryz.lays190_ren := {
  mixed := by kernel_rfl
  f125 := Tryz.func56.trans (congrArg some (by kernel_rfl))
  f128 := Tryz.func86.trans (congrArg some (by kernel_rfl))
  f129 := Tryz.func87.trans (congrArg some (by kernel_rfl))
  f190 := Tryz.func35.trans (congrArg some (by kernel_rfl))
  f258 := Tryz.func55.trans (congrArg some (by kernel_rfl))
  f302 := Tryz.func77.trans (congrArg some (by kernel_rfl))
  f303 := Tryz.func78.trans (congrArg some (by kernel_rfl))
  f304 := Tryz.func79.trans (congrArg some (by kernel_rfl))
  f305 := Tryz.func80.trans (congrArg some (by kernel_rfl))
  f306 := Tryz.func81.trans (congrArg some (by kernel_rfl))
  f307 := Tryz.func82.trans (congrArg some (by kernel_rfl))
  f308 := Tryz.func83.trans (congrArg some (by kernel_rfl))
  f309 := Tryz.func84.trans (congrArg some (by kernel_rfl))
  f310 := Tryz.func85.trans (congrArg some (by kernel_rfl))
  f329 := Tryz.func101.trans (congrArg some (by kernel_rfl))
  f330 := Tryz.func102.trans (congrArg some (by kernel_rfl))
  f333 := Tryz.func100.trans (congrArg some (by kernel_rfl))
  f334 := Tryz.func103.trans (congrArg some (by kernel_rfl))
  f335 := Tryz.func104.trans (congrArg some (by kernel_rfl))
  f336 := Tryz.func105.trans (congrArg some (by kernel_rfl))
  f344 := Tryz.func111.trans (congrArg some (by kernel_rfl))
  t0 := Tryz.underlying0
  a0 := Tryz.isAgg0
  z0 := Tryz.sizeOf0
  v0 := Tryz.zeroValue0
  t3 := Tryz.underlying3
  a3 := Tryz.isAgg3
  z3 := Tryz.sizeOf3
  v3 := Tryz.zeroValue3
  t4 := Tryz.underlying4
  a4 := Tryz.isAgg4
  z4 := Tryz.sizeOf4
  v4 := Tryz.zeroValue4
  t5 := Tryz.underlying5
  a5 := Tryz.isAgg5
  z5 := Tryz.sizeOf5
  v5 := Tryz.zeroValue5
  t9 := Tryz.underlying9
  a9 := Tryz.isAgg9
  z9 := Tryz.sizeOf9
  v9 := Tryz.zeroValue9
  t31 := Tryz.underlying28
  a31 := Tryz.isAgg28
  z31 := Tryz.sizeOf28
  v31 := Tryz.zeroValue28
  t46 := Tryz.underlying25
  a46 := Tryz.isAgg25
  z46 := Tryz.sizeOf25
  v46 := Tryz.zeroValue25
  t51 := Tryz.underlying101
  a51 := Tryz.isAgg101
  z51 := Tryz.sizeOf101
  v51 := Tryz.zeroValue101
  t53 := Tryz.underlying103
  a53 := Tryz.isAgg103
  z53 := Tryz.sizeOf103
  v53 := Tryz.zeroValue103
  t131 := Tryz.underlying98
  a131 := Tryz.isAgg98
  z131 := Tryz.sizeOf98
  v131 := Tryz.zeroValue98
  t182 := Tryz.underlying93
  a182 := Tryz.isAgg93
  z182 := Tryz.sizeOf93
  v182 := Tryz.zeroValue93
  t183 := Tryz.underlying94
  a183 := Tryz.isAgg94
  z183 := Tryz.sizeOf94
  v183 := Tryz.zeroValue94
  t218 := Tryz.underlying115
  a218 := Tryz.isAgg115
  z218 := Tryz.sizeOf115
  v218 := Tryz.zeroValue115
  t222 := Tryz.underlying119
  a222 := Tryz.isAgg119
  z222 := Tryz.sizeOf119
  v222 := Tryz.zeroValue119
  t228 := Tryz.underlying122
  a228 := Tryz.isAgg122
  z228 := Tryz.sizeOf122
  v228 := Tryz.zeroValue122
  t229 := Tryz.underlying104
  a229 := Tryz.isAgg104
  z229 := Tryz.sizeOf104
  v229 := Tryz.zeroValue104 }
open Go.Sort Go.RowKit in
theorem Tryz.slices_Sort_string (blk off cap : Nat) (ss : List (List UInt8)) (w : World) (hH : Holds encStr w blk off ss.toArray) (hblk : blk < w.heap.size) (hsz : ss.length < 4611686018427387904) :
    Calls Tryz.prog 35 #[.slice (some ⟨blk, off, none⟩) ss.length cap] w fun e w' =>
      e = .returned (.tuple #[]) ∧ ∃ n os, w' = grow (putRow encStr (Sort.ahead w n) blk off (ss.mergeSort fun x y => decide (x ≤ y)).toArray) os := Any.slices_Sort_string Tryz.lays190 blk off cap ss w hH hblk hsz
open Go.RowKit Go.Sort in
theorem Tryz.slices_Sort_string_none (p : Option Addr) (cap : Nat) (w : World) :
    Calls Tryz.prog 35 #[.slice p 0 cap] w fun e w' => e = .returned (.tuple #[]) ∧ w' = w := Any.slices_Sort_string_none Tryz.lays190 p cap w
end Go.Proofs
namespace Go.Proofs.YtkklacijhmoopaaGreatDoor.Print
open Go.RowKit Go.Proofs.YtkklacijhmoopaaGreatDoorW.PrintWords Go.Proofs.YtkklacijhmoopaaGreatDoorW.PrintLast Go.Proofs.YtkklacijhmoopaaGreatDoorW.PrintMore Go.Sort
set_option linter.unusedVariables false
def sortL (l : List (List UInt8)) : List (List UInt8) := l.mergeSort fun x y => decide (x ≤ y)
def sortB (xs : List ByteArray) : List ByteArray := (sortL (xs.map (·.data.toList))).map fun l => ⟨l.toArray⟩
theorem sortB_len (xs : List ByteArray) : (sortB xs).length = xs.length := by simp [sortB, sortL]
theorem encs_str (xs : List ByteArray) : encs Value.string xs = (xs.map (·.data.toList)).map encStr := by
  unfold encs
  rw [List.map_map]
  exact List.map_congr_left fun x _ => rfl
theorem encs_sort (xs : List ByteArray) : encs Value.string (sortB xs) = (sortL (xs.map (·.data.toList))).map encStr := by
  unfold encs sortB
  rw [List.map_map]
  exact List.map_congr_left fun x _ => rfl
theorem sort_own (A : Option Addr) (c : Nat) (xs : List ByteArray) (B : Nat) (w : World) (ho : Kd.R Kd.string 9 w B (fun _ => True) (.slice A xs.length c) xs) (hB : B ≤ w.heap.size) (hle : xs.length ≤ 1000000) :
    Calls Tryz.prog 35 #[.slice A xs.length c] w fun e w' => e = .returned (.tuple #[]) ∧ Kd.R Kd.string 9 w' B (fun _ => True) (.slice A xs.length c) (sortB xs) ∧ Below B w w' := by
  have hrow := Kd.own_of_R ho
  rw [encs_str] at hrow
  have hmax := (Kd.R_reads' ho).2.2.2.1
  rcases hrow.2 with ⟨hnil, hn0⟩ | ⟨g, cap, cur, hv, hbase, hb, h1, h2, h3, h4⟩
  · have hx : xs = [] := List.eq_nil_of_length_eq_zero (by simpa using hn0)
    subst hx
    refine (Tryz.slices_Sort_string_none A c w).mono ?_
    rintro e w' ⟨he, rfl⟩
    have e0 : sortB [] = [] := by simp [sortB, sortL]
    rw [e0]
    exact ⟨he, ho, Below.refl _ _⟩
  · injection hv with hA hl hc
    subst hA; subst hc
    have hH : Holds encStr w g 0 (xs.map (·.data.toList)).toArray := holds_of_block hb (by simpa using h4)
    have hlen : xs.length = (xs.map (·.data.toList)).length := by simp
    have hcall := Tryz.slices_Sort_string g 0 c (xs.map (·.data.toList)) w hH (Array.getElem?_eq_some_iff.1 hb).1 (by rw [← hlen]; omega)
    rw [← hlen] at hcall
    refine hcall.mono ?_
    rintro e w' ⟨he, n, os, rfl⟩
    have hs := ownsRow_sorted (w := w) (n := n) (os := os) (ss := xs.map (·.data.toList)) (ts := sortL (xs.map (·.data.toList))) (by simp [sortL]) hbase hb (by rw [← hlen]; exact h1) h2 h3
    rw [← hlen, ← encs_sort] at hs
    refine ⟨he, Kd.R_of_own (by rw [sortB_len]; exact hs) (fun _ _ => trivial), ?_⟩
    exact (Below.refl B w).grown (grownBy_sorted _) hB (fun j hj => by cases hj; exact hbase)
theorem join_le {l : List ByteArray} {s r : ByteArray} (h : strings_Join.f (sortB l) s = some r) : l.length ≤ 1000000 := by
  unfold strings_Join.f at h
  by_cases c : (sortB l).length ≤ 1000000
  · rw [sortB_len] at c; exact c
  · rw [if_neg c] at h; cases h
theorem join_n (A0 : Option Addr) (c0 : Nat) (l0 : List ByteArray) (n : Nat) (hn : l0.length = n) (a1 : ByteArray) (r : ByteArray) (w : World) (hr0 : Kd.C Kd.string w A0 l0.length l0) (hc0 : l0.length ≤ c0) (h : strings_Join.f l0 a1 = some r) :
    Calls Tryz.prog 30 #[.slice A0 n c0, .string a1] w fun e w' => e = .returned (.string r) ∧ Below w.heap.size w w' := by
  subst hn
  exact strings_Join.calls A0 c0 l0 a1 r w hr0 hc0 h
theorem reads_srt {A : Option Addr} {c : Nat} {xs : List ByteArray} {B : Nat} {w : World} {ok : Nat → Prop} (h : Kd.R Kd.string 9 w B ok (.slice A xs.length c) (sortB xs)) : (sortB xs).length ≤ c ∧ Kd.C Kd.string w A (sortB xs).length (sortB xs) := by
  have h2 := Kd.R_reads' (xs := sortB xs) (n := xs.length) h
  refine ⟨?_, ?_⟩
  · rw [sortB_len]; exact h2.2.1
  · exact h2.2.2
end Go.Proofs.YtkklacijhmoopaaGreatDoor.Print
namespace Go.Proofs.YtkklacijhmoopaaGreatDoor.Print
open Go.RowKit Go.Proofs.YtkklacijhmoopaaGreatDoorW.PrintWords Go.Proofs.YtkklacijhmoopaaGreatDoorW.PrintLast Go.Proofs.YtkklacijhmoopaaGreatDoorW.PrintMore
attribute [local go_sem] max2_int min2_int max_two min_two max_three min_three max_four min_four
set_option linter.unusedVariables false
set_option linter.unusedSimpArgs false
def dn_key.l0 : Nat → List ByteArray → List (S40) → Int → Int → Option (ByteArray)
 | 0, _, _, _, _ => none
 | k + 1, x3, x10, x11, x12 => if x12 < x11 then (if 0 ≤ x12 then (if x12 < (x10.length : Int) then ((prep_Ready.f k ((rd_T40 x10 x12).f1) true).bind fun bt431 => ((field_Tuple.f (([(rd_T40 x10 x12).f0, bt431.1] : List ByteArray))).bind fun bt436 => (if x3.length < 8796093022208 then (dn_key.l0 k (x3 ++ [bt436.1]) x10 x11 (wrap64 (x12 + 1))) else (none)))) else (none)) else (none)) else ((strings_Join.f (sortB x3) (⟨#[]⟩ : ByteArray)).bind fun t441 => (some t441))
def dn_key.f (k : Nat) (l0 : List (S40)) : Option (ByteArray) := dn_key.l0 k ([] : List ByteArray) l0 (l0.length : Int) 0
set_option maxHeartbeats 8000000 in
set_option maxRecDepth 100000 in
theorem dn_key.calls (k : Nat) (A0 : Option Addr) (c0 : Nat) (l0 : List (S40)) (r : ByteArray) (w : World) (hr0 : Kd.C k40 w A0 l0.length l0) (hc0 : l0.length ≤ c0) (hG : Gw w) (h : dn_key.f k l0 = some r) :
  Calls Tryz.prog 21 #[.slice A0 l0.length c0] w fun e w' => e = .returned (.string r) ∧ Below w.heap.size w w' := by
 have hu40 := Tryz.underlying40
 have HR0 := Aside0.mk hr0
 have HC0 := Aside0.mk hc0
 clear hr0 hc0
 have HB := Aside0.mk (Below.refl w.heap.size w)
 have HG := Aside0.mk hG
 clear hG
 have H : (dn_key.l0 k ([] : List ByteArray) l0 (l0.length : Int) 0) = some r := h
 clear h
 have H' := Aside0.mk H
 clear H
 go_enter Tryz.func21, Tryz.ntmps21
 go_wp2
 go_loopg [3, 12] k (fun kq v3 v12 w' => ∃ (x3_1 : List ByteArray) (x12_1 : Int), v12 = .int .i64 x12_1 ∧ Aside0 (dn_key.l0 kq x3_1 l0 (l0.length : Int) x12_1 = some r) ∧ Aside0 (kq ≤ k) ∧ Aside0 (Kd.R Kd.string 9 w' w.heap.size (fun _ => True) v3 x3_1) ∧ Aside0 (Below w.heap.size w w'))
 case atStart => exact ⟨(([] : List ByteArray)), (0), ap2, H', ⟨Nat.le_refl _⟩, ⟨by first | exact Kd.R_nil _ _ _ _ _ | exact Kd.N_nil _ _ _ _ _ | exact Kd.V_nil _ _ _ _ _ | exact Kd.Q_nil _ _ _ _ _ | exact Kd.S_nil _ _ _ _ _⟩, ⟨by repeat (first | (with_reducible first | exact HB.out | apply below_alloc | apply pw_below_drewN | apply below_drew1) | exact HB.out)⟩⟩
 case round =>
  clear H'
  obtain ⟨x3_1, x12_1, rfl, HA, HK1, HO_3, HB⟩ := hrel
  cases gk with
  | zero => exact absurd HA.out (by simp [dn_key.l0])
  | succ k1 =>
   have H := HA.out
   clear HA
   simp only [dn_key.l0] at H
   by_cases c2 : x12_1 < (l0.length : Int)
   ·
    rw [if_pos c2] at H
    have c2b0 := decide_eq_true c2
    clear c2
    by_cases c3 : 0 ≤ x12_1
    ·
     rw [if_pos c3] at H
     have c3b0 := decide_eq_true c3
     clear c3
     by_cases c4 : x12_1 < (l0.length : Int)
     ·
      rw [if_pos c4] at H
      have c4b0 := decide_eq_true c4
      clear c4
      replace H := Option.bind_eq_some_iff.mp H
      obtain ⟨⟨t431, t432⟩, A50, H⟩ := H
      replace H : ((field_Tuple.f (([(rd_T40 l0 x12_1).f0, t431] : List ByteArray))).bind fun bt436 => (if x3_1.length < 8796093022208 then (dn_key.l0 k1 (x3_1 ++ [bt436.1]) l0 (l0.length : Int) (wrap64 (x12_1 + 1))) else (none))) = some r := H
      have A5 := Aside0.mk A50
      clear A50
      obtain ⟨y433, hy433⟩ : ∃ y_ : List ByteArray, y_ = (([(rd_T40 l0 x12_1).f0, t431] : List ByteArray)) := ⟨_, rfl⟩
      replace H : ((field_Tuple.f y433).bind fun bt436 => (if x3_1.length < 8796093022208 then (dn_key.l0 k1 (x3_1 ++ [bt436.1]) l0 (l0.length : Int) (wrap64 (x12_1 + 1))) else (none))) = some r := by first | (rw [hy433]; with_reducible exact H) | (have H2_ := (Option.bind_some _ _).symm.trans H; rw [hy433]; with_reducible exact H2_) | (have H2_ := (Option.bind_some _ _).symm.trans H; with_reducible exact H2_) | with_reducible exact H | (rw [hy433]; exact H) | exact H
      have Ny433 := Aside0.mk hy433
      clear hy433
      replace H := Option.bind_eq_some_iff.mp H
      obtain ⟨⟨t436, t437⟩, A60, H⟩ := H
      replace H : (if x3_1.length < 8796093022208 then (dn_key.l0 k1 (x3_1 ++ [t436]) l0 (l0.length : Int) (wrap64 (x12_1 + 1))) else (none)) = some r := H
      have A6 := Aside0.mk A60
      clear A60
      by_cases c7 : x3_1.length < 8796093022208
      ·
       rw [if_pos c7] at H
       have LMc7 := Aside0.mk c7
       clear c7
       obtain ⟨y438, hy438⟩ : ∃ y_ : List ByteArray, y_ = (x3_1 ++ [t436]) := ⟨_, rfl⟩
       replace H : (dn_key.l0 k1 y438 l0 (l0.length : Int) (wrap64 (x12_1 + 1))) = some r := by first | (rw [hy438]; with_reducible exact H) | (have H2_ := (Option.bind_some _ _).symm.trans H; rw [hy438]; with_reducible exact H2_) | (have H2_ := (Option.bind_some _ _).symm.trans H; with_reducible exact H2_) | with_reducible exact H | (rw [hy438]; exact H) | exact H
       have Ny438 := Aside0.mk hy438
       clear hy438
       have H' := Aside0.mk H
       clear H
       have p429 : 0 ≤ (x12_1 : Int) := of_decide_eq_true ap0
       have q429 : x12_1 < (l0.length : Int) := of_decide_eq_true ap0
       obtain ⟨ad429, e429, hx429_0, hx429_1⟩ := at_T40 HR0.out x12_1 p429 q429
       cases e429
       replace hx429_0 := (HB.out.cell (World.block_lt_of_cell? w _ hx429_0)).trans hx429_0
       replace hx429_1 := (HB.out.cell (World.block_lt_of_cell? w _ hx429_1)).trans hx429_1
       replace p429 := eq_true p429
       replace q429 := eq_true q429
       go_wp2_with (first | ((with_reducible refine gate_dst (N := 5) rfl ?_); refine box_event ?hg (N := 5) ?hd (cs := #[.string (⟨#[]⟩ : ByteArray), .string (⟨#[]⟩ : ByteArray)]) (t := 40) ?hr ?_; (case hd => rfl); (case hg => rfl); (case hr => first | (go_simp; done) | (go_simp; rfl)); intro gb430 hg w8 hbox hb; have n0_ := Aside0.mk (Kd.R_below (apAR HO_3.out) hb); have n1_ := Aside0.mk (below_step ap1 hb); have n2_ := Aside0.mk (hbox); have n3_ := Aside0.mk ((by rw [hg]; exact (below_size ap1) : w.heap.size ≤ gb430)); have n4_ := Aside0.mk ((by rw [hg]; exact (below_size ap1) : w.heap.size ≤ gb430)); clear HO_3; clear HB; have HO_3 := n0_; have HB := n1_; have BK430 := n2_; have GW430 := n3_; have GE430 := n4_; clear n0_ n1_ n2_ n3_ n4_; clear hb hbox hg; have hcz9_0 : w8.cell? ⟨gb430, 0, none⟩ = some (.string (⟨#[]⟩ : ByteArray)) := (blk_cell BK430.out 0).trans rfl; have hcz9_1 : w8.cell? ⟨gb430, 1, none⟩ = some (.string (⟨#[]⟩ : ByteArray)) := (blk_cell BK430.out 1).trans rfl; have hfz9_0 := blk_frozen BK430.out 0; have hfz9_1 := blk_frozen BK430.out 1) | ((with_reducible refine gate_callee (f := 33) rfl ?_); refine goesL_ (some 19) rfl rfl Tryz.func33 (by kernel_rfl) rfl #[.string ((rd_T40 l0 x12_1).f1), .bool true] rfl ap3 ?_; (with_reducible refine (prep_Ready.calls k1 ((rd_T40 l0 x12_1).f1) true t431 t432 _ ?side1 A5.out).mono ?_); (case side1 => first | exact HG.out | (refine Gw.below HG.out ?_; repeat (first | (with_reducible first | exact HB.out | apply below_alloc | apply pw_below_drewN | apply below_drew1 | refine below_set ?_ GE430.out) | exact HB.out))); rintro e w10 ⟨rfl, hb⟩; refine ⟨_, rfl, ?_⟩; have n0_ := Aside0.mk (Kd.R_below (by (with_reducible repeat (first | apply Kd.R_alloc | apply Kd.R_drewN | apply Kd.R_drew)); exact (Kd.R_mono (Kd.R_far (p := ⟨gb430, 1, none⟩) (Kd.R_far (p := ⟨gb430, 0, none⟩) (Kd.R_types HO_3.out BK430.out (by decide)) (fun _ hk => hk.2) (.string ((rd_T40 l0 x12_1).f0))) (fun _ hk => hk.2) (.string ((rd_T40 l0 x12_1).f1))) (fun _ h_ => h_.1))) hb); have n1_ := Aside0.mk (blk_below (g := gb430) (o := .cells #[.string ((rd_T40 l0 x12_1).f0), .string ((rd_T40 l0 x12_1).f1)] 40 (0, 0)) (by (with_reducible repeat (first | refine blk_drewN ?_ _ | refine blk_drew ?_ | refine blk_alloc ?_ _)); refine blk_put (cs := #[.string ((rd_T40 l0 x12_1).f0), .string (⟨#[]⟩ : ByteArray)]) ?_ 1 _ rfl; (with_reducible repeat (first | refine blk_drewN ?_ _ | refine blk_drew ?_ | refine blk_alloc ?_ _)); refine blk_put (cs := #[.string (⟨#[]⟩ : ByteArray), .string (⟨#[]⟩ : ByteArray)]) ?_ 0 _ rfl; (with_reducible repeat (first | refine blk_drewN ?_ _ | refine blk_drew ?_ | refine blk_alloc ?_ _)); exact BK430.out) hb); have n2_ := Aside0.mk (below_step (apG GE430.out) hb); clear HO_3; clear BK430; clear HB; have HO_3 := n0_; have BK430 := n1_; have HB := n2_; clear n0_ n1_ n2_; (try clear hb); (try clear hb2); (try clear hk); (try clear hi); have hcz11_0 : w10.cell? ⟨gb430, 0, none⟩ = some (.string ((rd_T40 l0 x12_1).f0)) := (blk_cell BK430.out 0).trans rfl; have hcz11_1 : w10.cell? ⟨gb430, 1, none⟩ = some (.string ((rd_T40 l0 x12_1).f1)) := (blk_cell BK430.out 1).trans rfl; have hfz11_0 := blk_frozen BK430.out 0; have hfz11_1 := blk_frozen BK430.out 1) | ((with_reducible refine gate_dst (N := 26) rfl ?_); refine Kd.R_lit Kd.string _ 9 ?hg (N := 26) ?hd (xs := ([(rd_T40 l0 x12_1).f0, t431] : List ByteArray)) (inner := [.string ((rd_T40 l0 x12_1).f0), .string t431]) (ok := fun _ => True) (okp := fun _ => True) ?hr ?hp (fun _ hk => hk) trivial (Below.refl _ _) (Nat.le_refl _) (by simp) ?_; (case hd => rfl); (case hg => rfl); (case hr => first | (go_simp; done) | (go_simp; rfl)); (case hp => exact (Reps.one (show Kd.M Kd.string _ _ _ ((rd_T40 l0 x12_1).f0) [.string ((rd_T40 l0 x12_1).f0)] from rfl) (Reps.one (show Kd.M Kd.string _ _ _ t431 [.string t431] from rfl) (Reps.none _ _)))); intro v434 w12 ho13 hb hg_ hnew_; clear hg_ hnew_; (first | rw [← Ny433.out] at ho13 | (simp only [Int.reduceToNat] at ho13; rw [← Ny433.out] at ho13)); have n0_ := Aside0.mk (Kd.R_elder' (apAR HO_3.out) (Kd.R_base ho13) hb); have n1_ := Aside0.mk (Kd.R_lower (Kd.R_new' ho13 (Kd.R_lt (apAR HO_3.out))) (below_size (apG GE430.out))); have n2_ := Aside0.mk (blk_below (g := gb430) (o := .cells #[.string ((rd_T40 l0 x12_1).f0), .string ((rd_T40 l0 x12_1).f1)] 40 (0, 0)) (apB BK430.out) hb); have n3_ := Aside0.mk (below_step (apG GE430.out) hb); clear HO_3; clear BK430; clear HB; have HO_3 := n0_; have HO435 := n1_; have BK430 := n2_; have HB := n3_; clear n0_ n1_ n2_ n3_; clear hb ho13; obtain ⟨Ao14, co14, eo14⟩ := Kd.R_slice HO435.out; subst eo14) | ((with_reducible refine gate_callee (f := 34) rfl ?_); refine goesL_ (some 27) rfl rfl Tryz.func34 (by kernel_rfl) rfl #[.slice Ao14 y433.length co14] rfl ap3 ?_; (with_reducible refine (field_Tuple.calls _ _ y433 t436 t437 _ ?side1 ?side2 ?side3 A6.out).mono ?_); (case side1 => repeat (first | exact (Kd.R_reads' HO435.out).2.2 | (with_reducible refine Kd.C_alloc ?_ _) | (with_reducible refine Kd.C_drewN ?_ _) | (with_reducible refine Kd.C_drew ?_))); (case side2 => exact (Kd.R_reads' HO435.out).2.1); (case side3 => first | exact HG.out | (refine Gw.below HG.out ?_; repeat (first | (with_reducible first | exact HB.out | apply below_alloc | apply pw_below_drewN | apply below_drew1 | refine below_set ?_ GE430.out) | exact HB.out))); rintro e w15 ⟨rfl, hb⟩; refine ⟨_, rfl, ?_⟩; have n0_ := Aside0.mk (Kd.R_below (apAR HO_3.out) hb); have n1_ := Aside0.mk (Kd.R_below (apAR HO435.out) hb); have n2_ := Aside0.mk (blk_below (g := gb430) (o := .cells #[.string ((rd_T40 l0 x12_1).f0), .string ((rd_T40 l0 x12_1).f1)] 40 (0, 0)) (apB BK430.out) hb); have n3_ := Aside0.mk (below_step (apG GE430.out) hb); clear HO_3; clear HO435; clear BK430; clear HB; have HO_3 := n0_; have HO435 := n1_; have BK430 := n2_; have HB := n3_; clear n0_ n1_ n2_ n3_; (try clear hb); (try clear hb2); (try clear hk); (try clear hi)) | ((with_reducible refine gate_builtin (b := .append) (xs := #[.tmp 30, .tmp 32]) rfl ?_); at_builtin; refine Kd.R_append Kd.string (w0 := w) w.heap.size rfl (.tmp 30) (.tmp 32) 28 9 (.string ⟨#[]⟩) 16 rfl Tryz.underlying28 info9 rfl (by decide) (by omega) u3 x3_1 t436 [.string t436] (fun k_ => some k_ ≠ (.slice Ao14 y433.length co14 : Value).ownBlock) (fun _ => False) rfl rfl ?aP (fun _ hk => hk.elim) ?aF ?aO ?aB ?aS ?aL ?_; (case aP => exact rfl); (case aB => exact (apG GE430.out)); (case aF => exact (fun k_ hk => Kd.fresh' (Kd.R_lt (apAR HO435.out)) k_ hk)); (case aO => exact (by (with_reducible repeat (first | apply Kd.R_alloc | apply Kd.R_drewN | apply Kd.R_drew)); exact Kd.R_mono HO_3.out (fun _ hk => hk.2))); (case aS => exact (below_size (apG GE430.out))); (case aL => have := LMc7.out; omega); intro v439 w16 ho hb hg hat; rw [← Ny438.out] at ho; have n0_ := Aside0.mk (blk_grown (g := gb430) (o := .cells #[.string ((rd_T40 l0 x12_1).f0), .string ((rd_T40 l0 x12_1).f1)] 40 (0, 0)) (apB BK430.out) hg (Kd.R_ne HO_3.out BK430.out (by decide))); have n1_ := Aside0.mk (Kd.R_after (ok := (fun _ => True)) (apAR HO435.out) hg hat); have n2_ := Aside0.mk (hb); have n3_ := Aside0.mk (ho); clear BK430; clear HO435; clear HB; clear HO_3; have BK430 := n0_; have HO435 := n1_; have HB := n2_; have HO440 := n3_; clear n0_ n1_ n2_ n3_; clear ho hb hg hat))
       go_roundg k1
       case measure => have := HK1.out; omega
       case rel => exact ⟨(y438), (wrap64 (x12_1 + 1)), ap2, H', ⟨by have := HK1.out; omega⟩, ⟨by (with_reducible repeat (first | apply Kd.R_alloc | apply Kd.R_drewN | apply Kd.R_drew)); exact Kd.R_mono HO440.out (fun _ hk => trivial)⟩, ⟨by repeat (first | (with_reducible first | exact HB.out | apply below_alloc | apply pw_below_drewN | apply below_drew1 | refine below_set ?_ GE430.out) | exact HB.out)⟩⟩
      ·
       rw [if_neg c7] at H
       exact absurd H (by simp)
     ·
      rw [if_neg c4] at H
      exact absurd H (by simp)
    ·
     rw [if_neg c3] at H
     exact absurd H (by simp)
   ·
    rw [if_neg c2] at H
    have c2b0 := decide_eq_false c2
    clear c2
    replace H := Option.bind_eq_some_iff.mp H
    obtain ⟨t441, A170, H⟩ := H
    replace H : (some t441) = some r := H
    have A17 := Aside0.mk A170
    clear A170
    obtain rfl := Option.some.inj H
    have JL := Aside0.mk A17.out
    obtain ⟨Ao18, co18, eo18⟩ := Kd.R_slice HO_3.out
    subst eo18
    go_wp2_with (first | ((with_reducible refine gate_callee (f := 35) rfl ?_); refine goesL_ (some 36) rfl rfl Tryz.func35 (by kernel_rfl) rfl #[.slice Ao18 x3_1.length co18] rfl ap3 ?_; (with_reducible refine (sort_own Ao18 co18 x3_1 w.heap.size _ ?sa ?sb ?sc).mono ?_); (case sa => exact (apAR HO_3.out)); (case sb => exact (below_size ap1)); (case sc => exact join_le JL.out); rintro e w90 ⟨rfl, ho0, hb⟩; refine ⟨_, rfl, ?_⟩; have n0_ := Aside0.mk ho0; have n1_ := Aside0.mk (Below.trans ap1 hb); clear HO_3; clear HB; have HO_3 := n0_; have HB := n1_; clear n0_ n1_; clear hb ho0) | ((with_reducible refine gate_callee (f := 30) rfl ?_); refine goesL_ (some 38) rfl rfl Tryz.func30 (by kernel_rfl) rfl #[.slice Ao18 x3_1.length co18, .string (⟨#[]⟩ : ByteArray)] rfl ap3 ?_; (with_reducible refine (join_n _ _ (sortB x3_1) x3_1.length (sortB_len _) (⟨#[]⟩ : ByteArray) t441 _ ?side1 ?side2 A17.out).mono ?_); (case side1 => repeat (first | exact (reads_srt HO_3.out).2 | (with_reducible refine Kd.C_alloc ?_ _) | (with_reducible refine Kd.C_drewN ?_ _) | (with_reducible refine Kd.C_drew ?_))); (case side2 => exact (reads_srt HO_3.out).1); rintro e w19 ⟨rfl, hb⟩; refine ⟨_, rfl, ?_⟩; have n0_ := Aside0.mk (Kd.R_below (apAR HO_3.out) hb); have n1_ := Aside0.mk (below_step ap1 hb); clear HO_3; clear HB; have HO_3 := n0_; have HB := n1_; clear n0_ n1_; (try clear hb); (try clear hb2); (try clear hk); (try clear hi)))
    go_ret
    exact ⟨by first | rfl | (simp [errW_none, errW_some, bne_nil8, beq_nil8]; done) | (simp [errW_none, errW_some] <;> rfl) | (simp [*, errW_none, errW_some] <;> rfl), by repeat (first | (with_reducible first | exact HB.out | apply below_alloc | apply pw_below_drewN | apply below_drew1) | exact HB.out)⟩
def dn_Keys.l0 : Nat → List (List (S40)) → List ByteArray → Int → Int → Option (List ByteArray × Int)
 | 0, _, _, _, _ => none
 | k + 1, x0, x4, x10, x11 => if x11 < x10 then (if 0 ≤ (wrap64 ((wrap64 ((x0.length : Int) - 1)) - x11)) then (if (wrap64 ((wrap64 ((x0.length : Int) - 1)) - x11)) < (x0.length : Int) then ((dn_key.f k (rd_L8 x0 (wrap64 ((wrap64 ((x0.length : Int) - 1)) - x11)))).bind fun t444 => (if x4.length < 8796093022208 then (dn_Keys.l0 k x0 (x4 ++ [t444]) x10 (wrap64 (x11 + 1))) else (none))) else (none)) else (none)) else (some (x4, 0))
def dn_Keys.f (k : Nat) (l0 : List (List (S40))) : Option (List ByteArray × Int) := (dn_Right.f k l0).bind fun t442 => (if t442 = true then (dn_Keys.l0 k l0 ([] : List ByteArray) (l0.length : Int) 0) else (some (([] : List ByteArray), 4)))
set_option maxHeartbeats 8000000 in
set_option maxRecDepth 100000 in
theorem dn_Keys.calls (k : Nat) (A0 : Option Addr) (c0 : Nat) (l0 : List (List (S40))) (r1 : List ByteArray) (r2 : Int) (w : World) (hr0 : Kd.C (Kd.slice 40 k40) w A0 l0.length l0) (hc0 : l0.length ≤ c0) (hG : Gw w) (h : dn_Keys.f k l0 = some (r1, r2)) :
  Calls Tryz.prog 9 #[.slice A0 l0.length c0] w fun e w' => ∃ v0_ : Value, e = .returned (.tuple #[v0_, .int .i64 r2]) ∧ Kd.R Kd.string 9 w' w.heap.size (fun _ => True) v0_ r1 ∧ Below w.heap.size w w' := by
 have HR0 := Aside0.mk hr0
 have HC0 := Aside0.mk hc0
 clear hr0 hc0
 have HB := Aside0.mk (Below.refl w.heap.size w)
 have HG := Aside0.mk hG
 clear hG
 have H : ((dn_Right.f k l0).bind fun t442 => (if t442 = true then (dn_Keys.l0 k l0 ([] : List ByteArray) (l0.length : Int) 0) else (some (([] : List ByteArray), 4)))) = some (r1, r2) := h
 clear h
 replace H := Option.bind_eq_some_iff.mp H
 obtain ⟨t442, A20, H⟩ := H
 replace H : (if t442 = true then (dn_Keys.l0 k l0 ([] : List ByteArray) (l0.length : Int) 0) else (some (([] : List ByteArray), 4))) = some (r1, r2) := H
 have A2 := Aside0.mk A20
 clear A20
 by_cases c3 : t442 = true
 ·
  subst c3
  rw [if_pos rfl] at H
  have H' := Aside0.mk H
  clear H
  go_enter Tryz.func9, Tryz.ntmps9
  go_wp2_with (first | ((with_reducible refine gate_callee (f := 20) rfl ?_); refine goesL_ (some 7) rfl rfl Tryz.func20 (by kernel_rfl) rfl #[.slice A0 l0.length c0] rfl ap3 ?_; (with_reducible refine (dn_Right.calls k _ _ l0 true _ ?side1 ?side2 ?side3 A2.out).mono ?_); (case side1 => repeat (first | exact HR0.out | (with_reducible refine Kd.C_alloc ?_ _) | (with_reducible refine Kd.C_drewN ?_ _) | (with_reducible refine Kd.C_drew ?_))); (case side2 => exact HC0.out); (case side3 => exact ap6); rintro e w4 ⟨rfl, hb⟩; refine ⟨_, rfl, ?_⟩; have n0_ := Aside0.mk (below_step ap1 hb); clear HB; have HB := n0_; clear n0_; (try clear hb); (try clear hb2); (try clear hk); (try clear hi)))
  go_loopg [4, 11] k (fun kq v4 v11 w' => ∃ (x4_1 : List ByteArray) (x11_1 : Int), v11 = .int .i64 x11_1 ∧ Aside0 (dn_Keys.l0 kq l0 x4_1 (l0.length : Int) x11_1 = some (r1, r2)) ∧ Aside0 (kq ≤ k) ∧ Aside0 (Kd.R Kd.string 9 w' w.heap.size (fun _ => True) v4 x4_1) ∧ Aside0 (Below w.heap.size w w'))
  case atStart => exact ⟨(([] : List ByteArray)), (0), ap2, H', ⟨Nat.le_refl _⟩, ⟨by first | exact Kd.R_nil _ _ _ _ _ | exact Kd.N_nil _ _ _ _ _ | exact Kd.V_nil _ _ _ _ _ | exact Kd.Q_nil _ _ _ _ _ | exact Kd.S_nil _ _ _ _ _⟩, ⟨by repeat (first | (with_reducible first | exact HB.out | apply below_alloc | apply pw_below_drewN | apply below_drew1) | exact HB.out)⟩⟩
  case round =>
   clear H'
   try clear c2
   try clear p2
   try clear c3
   obtain ⟨x4_1, x11_1, rfl, HA, HK1, HO_4, HB⟩ := hrel
   cases gk with
   | zero => exact absurd HA.out (by simp [dn_Keys.l0])
   | succ k1 =>
    have H := HA.out
    clear HA
    simp only [dn_Keys.l0] at H
    by_cases c5 : x11_1 < (l0.length : Int)
    ·
     rw [if_pos c5] at H
     have c5b0 := decide_eq_true c5
     clear c5
     obtain ⟨ji6, hji6⟩ : ∃ j_ : Int, (wrap64 ((wrap64 ((l0.length : Int) - 1)) - x11_1)) = j_ := ⟨_, rfl⟩
     replace H : (if 0 ≤ (ji6) then (if (ji6) < (l0.length : Int) then ((dn_key.f k1 (rd_L8 l0 (ji6))).bind fun t444 => (if x4_1.length < 8796093022208 then (dn_Keys.l0 k1 l0 (x4_1 ++ [t444]) (l0.length : Int) (wrap64 (x11_1 + 1))) else (none))) else (none)) else (none)) = some (r1, r2) := by first | (rw [hji6] at H; exact H) | (simp only [hji6] at H ⊢; exact H)
     have hji6w : (IntKind.i64.wrap ((wrap64 ((l0.length : Int) - 1)) - x11_1)) = ji6 := (i64_w _).trans hji6
     by_cases c7 : 0 ≤ (ji6)
     ·
      rw [if_pos c7] at H
      have c7b0 := decide_eq_true c7
      clear c7
      by_cases c8 : (ji6) < (l0.length : Int)
      ·
       rw [if_pos c8] at H
       have c8b0 := decide_eq_true c8
       clear c8
       replace H := Option.bind_eq_some_iff.mp H
       obtain ⟨t444, A90, H⟩ := H
       replace H : (if x4_1.length < 8796093022208 then (dn_Keys.l0 k1 l0 (x4_1 ++ [t444]) (l0.length : Int) (wrap64 (x11_1 + 1))) else (none)) = some (r1, r2) := H
       have A9 := Aside0.mk A90
       clear A90
       by_cases c10 : x4_1.length < 8796093022208
       ·
        rw [if_pos c10] at H
        have LMc10 := Aside0.mk c10
        clear c10
        obtain ⟨y445, hy445⟩ : ∃ y_ : List ByteArray, y_ = (x4_1 ++ [t444]) := ⟨_, rfl⟩
        replace H : (dn_Keys.l0 k1 l0 y445 (l0.length : Int) (wrap64 (x11_1 + 1))) = some (r1, r2) := by first | (rw [hy445]; with_reducible exact H) | (have H2_ := (Option.bind_some _ _).symm.trans H; rw [hy445]; with_reducible exact H2_) | (have H2_ := (Option.bind_some _ _).symm.trans H; with_reducible exact H2_) | with_reducible exact H | (rw [hy445]; exact H) | exact H
        have Ny445 := Aside0.mk hy445
        clear hy445
        have H' := Aside0.mk H
        clear H
        have p443 : 0 ≤ ((ji6) : Int) := of_decide_eq_true ap0
        have q443 : (ji6) < (l0.length : Int) := of_decide_eq_true ap0
        obtain ⟨ad443, A443_0, c443_0, e443, hx443_0, hl443_0, hi443_0⟩ := at_L8 HR0.out (ji6) p443 q443
        cases e443
        replace hx443_0 := (HB.out.cell (World.block_lt_of_cell? w _ hx443_0)).trans hx443_0
        have HR443_0 := Aside0.mk hi443_0
        have HC443_0 := Aside0.mk hl443_0
        clear hi443_0 hl443_0
        replace p443 := eq_true p443
        replace q443 := eq_true q443
        go_wp2_with (first | ((with_reducible refine gate_callee (f := 21) rfl ?_); refine goesL_ (some 23) rfl rfl Tryz.func21 (by kernel_rfl) rfl #[.slice A443_0 (rd_L8 l0 (ji6)).length c443_0] rfl (by (try simp only [List.map_toArray, List.map_cons, List.map_nil]); first | done | (simp only [hji6]; rfl) | rfl | (simp only [List.length_drop, List.length_take]; rfl)) ?_; (with_reducible refine (dn_key.calls k1 _ _ (rd_L8 l0 (ji6)) t444 _ ?side1 ?side2 ?side3 A9.out).mono ?_); (case side1 => repeat (first | exact (Kd.C_below HR443_0.out HB.out) | (with_reducible refine Kd.C_alloc ?_ _) | (with_reducible refine Kd.C_drewN ?_ _) | (with_reducible refine Kd.C_drew ?_))); (case side2 => exact HC443_0.out); (case side3 => exact ap6); rintro e w11 ⟨rfl, hb⟩; refine ⟨_, rfl, ?_⟩; have n0_ := Aside0.mk (Kd.R_below (apAR HO_4.out) hb); have n1_ := Aside0.mk (below_step ap1 hb); clear HO_4; clear HB; have HO_4 := n0_; have HB := n1_; clear n0_ n1_; (try clear hb); (try clear hb2); (try clear hk); (try clear hi)) | ((with_reducible refine gate_builtin (b := .append) (xs := #[.tmp 14, .tmp 24]) rfl ?_); at_builtin; refine Kd.R_append Kd.string (w0 := w) w.heap.size rfl (.tmp 14) (.tmp 24) 28 9 (.string ⟨#[]⟩) 16 rfl Tryz.underlying28 info9 rfl (by decide) (by omega) u4 x4_1 t444 [.string t444] (fun _ => True) (fun _ => False) rfl rfl ?aP (fun _ hk => hk.elim) ?aF ?aO ?aB ?aS ?aL ?_; (case aP => exact rfl); (case aB => exact ap1); (case aF => exact (fun _ _ => trivial)); (case aO => exact (apAR HO_4.out)); (case aS => exact (below_size ap1)); (case aL => have := LMc10.out; omega); intro v446 w12 ho hb hg hat; rw [← Ny445.out] at ho; have n0_ := Aside0.mk (hb); have n1_ := Aside0.mk (ho); clear HB; clear HO_4; have HB := n0_; have HO447 := n1_; clear n0_ n1_; clear ho hb hg hat))
        go_roundg k1
        case measure => have := HK1.out; omega
        case rel => exact ⟨(y445), (wrap64 (x11_1 + 1)), ap2, H', ⟨by have := HK1.out; omega⟩, ⟨by (with_reducible repeat (first | apply Kd.R_alloc | apply Kd.R_drewN | apply Kd.R_drew)); exact HO447.out⟩, ⟨by repeat (first | (with_reducible first | exact HB.out | apply below_alloc | apply pw_below_drewN | apply below_drew1) | exact HB.out)⟩⟩
       ·
        rw [if_neg c10] at H
        exact absurd H (by simp)
      ·
       rw [if_neg c8] at H
       exact absurd H (by simp)
     ·
      rw [if_neg c7] at H
      exact absurd H (by simp)
    ·
     rw [if_neg c5] at H
     have c5b0 := decide_eq_false c5
     clear c5
     simp only [Option.some.injEq, Prod.mk.injEq] at H
     obtain ⟨rfl, rfl⟩ := H
     go_wp2
     go_ret2
     exact ⟨_, by first | rfl | (simp [errW_none, errW_some, bne_nil8, beq_nil8]; done) | (simp [errW_none, errW_some] <;> rfl) | (simp [*, errW_none, errW_some] <;> rfl), by (with_reducible repeat (first | apply Kd.R_alloc | apply Kd.R_drewN | apply Kd.R_drew)); exact HO_4.out, by repeat (first | (with_reducible first | exact HB.out | apply below_alloc | apply pw_below_drewN | apply below_drew1) | exact HB.out)⟩
 ·
  replace c3 := Bool.eq_false_iff.mpr c3
  subst c3
  rw [if_neg (show ¬ (false = true) by decide)] at H
  simp only [Option.some.injEq, Prod.mk.injEq] at H
  obtain ⟨rfl, rfl⟩ := H
  go_enter Tryz.func9, Tryz.ntmps9
  go_wp2_with (first | ((with_reducible refine gate_callee (f := 20) rfl ?_); refine goesL_ (some 7) rfl rfl Tryz.func20 (by kernel_rfl) rfl #[.slice A0 l0.length c0] rfl ap3 ?_; (with_reducible refine (dn_Right.calls k _ _ l0 false _ ?side1 ?side2 ?side3 A2.out).mono ?_); (case side1 => repeat (first | exact HR0.out | (with_reducible refine Kd.C_alloc ?_ _) | (with_reducible refine Kd.C_drewN ?_ _) | (with_reducible refine Kd.C_drew ?_))); (case side2 => exact HC0.out); (case side3 => exact ap6); rintro e w13 ⟨rfl, hb⟩; refine ⟨_, rfl, ?_⟩; have n0_ := Aside0.mk (below_step ap1 hb); clear HB; have HB := n0_; clear n0_; (try clear hb); (try clear hb2); (try clear hk); (try clear hi)))
  go_ret2
  exact ⟨_, by first | rfl | (simp [errW_none, errW_some, bne_nil8, beq_nil8]; done) | (simp [errW_none, errW_some] <;> rfl) | (simp [*, errW_none, errW_some] <;> rfl), by first | exact Kd.R_nil _ _ _ _ _ | exact Kd.N_nil _ _ _ _ _ | exact Kd.V_nil _ _ _ _ _ | exact Kd.Q_nil _ _ _ _ _ | exact Kd.S_nil _ _ _ _ _, by repeat (first | (with_reducible first | exact HB.out | apply below_alloc | apply pw_below_drewN | apply below_drew1) | exact HB.out)⟩
def slices_Equal_string_string.l0 : Nat → List ByteArray → List ByteArray → Int → Int → Option (Bool)
 | 0, _, _, _, _ => none
 | k + 1, x0, x1, x12, x13 => if x13 < x12 then (if 0 ≤ x13 then (if x13 < (x0.length : Int) then (if x13 < (x1.length : Int) then (if (rdOf ByteArray.empty x0 x13).toList = (rdOf ByteArray.empty x1 x13).toList then (slices_Equal_string_string.l0 k x0 x1 x12 (wrap64 (x13 + 1))) else (some false)) else (none)) else (none)) else (none)) else (some true)
def slices_Equal_string_string.f (k : Nat) (l0 : List ByteArray) (l1 : List ByteArray) : Option (Bool) := if (l0.length : Int) = (l1.length : Int) then (slices_Equal_string_string.l0 k l0 l1 (l0.length : Int) 0) else (some false)
set_option maxHeartbeats 8000000 in
set_option maxRecDepth 100000 in
theorem slices_Equal_string_string.calls (k : Nat) (A0 : Option Addr) (c0 : Nat) (l0 : List ByteArray) (A1 : Option Addr) (c1 : Nat) (l1 : List ByteArray) (r : Bool) (w : World) (hr0 : Kd.C Kd.string w A0 l0.length l0) (hc0 : l0.length ≤ c0) (hr1 : Kd.C Kd.string w A1 l1.length l1) (hc1 : l1.length ≤ c1) (h : slices_Equal_string_string.f k l0 l1 = some r) :
  Calls Tryz.prog 19 #[.slice A0 l0.length c0, .slice A1 l1.length c1] w fun e w' => e = .returned (.bool r) ∧ Drawn0 w w' := by
 have HR0 := Aside0.mk hr0
 have HC0 := Aside0.mk hc0
 clear hr0 hc0
 have HR1 := Aside0.mk hr1
 have HC1 := Aside0.mk hc1
 clear hr1 hc1
 have H : (if (l0.length : Int) = (l1.length : Int) then (slices_Equal_string_string.l0 k l0 l1 (l0.length : Int) 0) else (some false)) = some r := h
 clear h
 by_cases c3 : (l0.length : Int) = (l1.length : Int)
 ·
  rw [if_pos c3] at H
  have c3b0 : ((l0.length : Int) == (l1.length : Int)) = true := beq_iff_eq.mpr c3
  have c3b1 : ((l0.length : Int) != (l1.length : Int)) = false := bne_eq_false_iff_eq.mpr c3
  have c3b2 : (l0.length == l1.length) = true := by first | simpa using c3 | (simp at c3 ⊢; omega)
  clear c3
  have H' := Aside0.mk H
  clear H
  go_enter Tryz.func19, Tryz.ntmps19
  go_wp2
  repeat (go_quiet (fail); try go_wp2)
  go_loopg [13] k (fun kq v13 w' => ∃ (x13_1 : Int), v13 = .int .i64 x13_1 ∧ Aside0 (slices_Equal_string_string.l0 kq l0 l1 (l0.length : Int) x13_1 = some r) ∧ Aside0 (kq ≤ k) ∧ Drawn0 w w')
  case atStart => exact ⟨(0), ap2, H', ⟨Nat.le_refl _⟩, by repeat (first | exact Drawn0.refl _ | apply Drawn0.step)⟩
  case round =>
   clear H'
   try clear c1
   try clear p2
   try clear c3
   try clear c3b0
   try clear c3b1
   try clear c3b2
   obtain ⟨x13_1, rfl, HA, HK1, ⟨m1, rfl⟩⟩ := hrel
   cases gk with
   | zero => exact absurd HA.out (by simp [slices_Equal_string_string.l0])
   | succ k1 =>
    have H := HA.out
    clear HA
    simp only [slices_Equal_string_string.l0] at H
    by_cases c4 : x13_1 < (l0.length : Int)
    ·
     rw [if_pos c4] at H
     have c4b0 := decide_eq_true c4
     clear c4
     by_cases c5 : 0 ≤ x13_1
     ·
      rw [if_pos c5] at H
      have c5b0 := decide_eq_true c5
      clear c5
      by_cases c6 : x13_1 < (l0.length : Int)
      ·
       rw [if_pos c6] at H
       have c6b0 := decide_eq_true c6
       clear c6
       by_cases c7 : x13_1 < (l1.length : Int)
       ·
        rw [if_pos c7] at H
        have c7b0 := decide_eq_true c7
        clear c7
        by_cases c8 : (rdOf ByteArray.empty l0 x13_1).toList = (rdOf ByteArray.empty l1 x13_1).toList
        ·
         rw [if_pos c8] at H
         have c8b0 : ((rdOf ByteArray.empty l0 x13_1).toList == (rdOf ByteArray.empty l1 x13_1).toList) = true := beq_iff_eq.mpr c8
         have c8b1 : ((rdOf ByteArray.empty l0 x13_1).toList != (rdOf ByteArray.empty l1 x13_1).toList) = false := bne_eq_false_iff_eq.mpr c8
         clear c8
         have H' := Aside0.mk H
         clear H
         have p448 : 0 ≤ (x13_1 : Int) := of_decide_eq_true ap0
         have q448 : x13_1 < (l0.length : Int) := of_decide_eq_true ap0
         obtain ⟨ad448, e448, hx448_0⟩ := Kd.at_string HR0.out x13_1 p448 q448
         cases e448
         replace p448 := eq_true p448
         replace q448 := eq_true q448
         have p449 : 0 ≤ (x13_1 : Int) := of_decide_eq_true ap0
         have q449 : x13_1 < (l1.length : Int) := of_decide_eq_true ap0
         obtain ⟨ad449, e449, hx449_0⟩ := Kd.at_string HR1.out x13_1 p449 q449
         cases e449
         replace p449 := eq_true p449
         replace q449 := eq_true q449
         go_wp2
         repeat (go_quiet (fail); try go_wp2)
         go_roundg k1
         case measure => have := HK1.out; omega
         case rel => exact ⟨(wrap64 (x13_1 + 1)), ap2, H', ⟨by have := HK1.out; omega⟩, by repeat (first | exact Drawn0.refl _ | apply Drawn0.step)⟩
        ·
         rw [if_neg c8] at H
         have c8b0 : ((rdOf ByteArray.empty l0 x13_1).toList == (rdOf ByteArray.empty l1 x13_1).toList) = false := beq_eq_false_iff_ne.mpr c8
         have c8b1 : ((rdOf ByteArray.empty l0 x13_1).toList != (rdOf ByteArray.empty l1 x13_1).toList) = true := bne_iff_ne.mpr c8
         obtain rfl := Option.some.inj H
         have p448 : 0 ≤ (x13_1 : Int) := of_decide_eq_true ap0
         have q448 : x13_1 < (l0.length : Int) := of_decide_eq_true ap0
         obtain ⟨ad448, e448, hx448_0⟩ := Kd.at_string HR0.out x13_1 p448 q448
         cases e448
         replace p448 := eq_true p448
         replace q448 := eq_true q448
         have p449 : 0 ≤ (x13_1 : Int) := of_decide_eq_true ap0
         have q449 : x13_1 < (l1.length : Int) := of_decide_eq_true ap0
         obtain ⟨ad449, e449, hx449_0⟩ := Kd.at_string HR1.out x13_1 p449 q449
         cases e449
         replace p449 := eq_true p449
         replace q449 := eq_true q449
         go_wp2
         repeat (go_quiet (fail); try go_wp2)
         go_ret
         exact ⟨ap2, ap7⟩
       ·
        rw [if_neg c7] at H
        exact absurd H (by simp)
      ·
       rw [if_neg c6] at H
       exact absurd H (by simp)
     ·
      rw [if_neg c5] at H
      exact absurd H (by simp)
    ·
     rw [if_neg c4] at H
     have c4b0 := decide_eq_false c4
     clear c4
     obtain rfl := Option.some.inj H
     go_wp2
     repeat (go_quiet (fail); try go_wp2)
     go_ret
     exact ⟨ap2, ap7⟩
 ·
  rw [if_neg c3] at H
  have c3b0 : ((l0.length : Int) == (l1.length : Int)) = false := beq_eq_false_iff_ne.mpr c3
  have c3b1 : ((l0.length : Int) != (l1.length : Int)) = true := bne_iff_ne.mpr c3
  have c3b2 : (l0.length == l1.length) = false := by first | simpa using c3 | (simp at c3 ⊢; omega)
  obtain rfl := Option.some.inj H
  go_enter Tryz.func19, Tryz.ntmps19
  go_wp2
  repeat (go_quiet (fail); try go_wp2)
  go_ret
  exact ⟨ap2, ap7⟩
def dn_Under.f (k : Nat) (l0 : List (List (S40))) (l1 : List (List (S40))) : Option (Bool) := (dn_Keys.f k l0).bind fun bt450 => ((dn_Keys.f k l1).bind fun bt454 => (if bt450.2 = 0 then (if bt454.2 = 0 then (if (bt454.1.length : Int) ≤ (bt450.1.length : Int) then (if 0 ≤ (bt454.1.length : Int) then ((slices_Equal_string_string.f k (bt450.1.take ((bt454.1.length : Int) : Int).toNat) bt454.1).bind fun t462 => (some t462)) else (none)) else (some false)) else (some false)) else (some false)))
set_option maxHeartbeats 8000000 in
set_option maxRecDepth 100000 in
theorem dn_Under.calls (k : Nat) (A0 : Option Addr) (c0 : Nat) (l0 : List (List (S40))) (A1 : Option Addr) (c1 : Nat) (l1 : List (List (S40))) (r : Bool) (w : World) (hr0 : Kd.C (Kd.slice 40 k40) w A0 l0.length l0) (hc0 : l0.length ≤ c0) (hr1 : Kd.C (Kd.slice 40 k40) w A1 l1.length l1) (hc1 : l1.length ≤ c1) (hG : Gw w) (h : dn_Under.f k l0 l1 = some r) :
  Calls Tryz.prog 8 #[.slice A0 l0.length c0, .slice A1 l1.length c1] w fun e w' => e = .returned (.bool r) ∧ Below w.heap.size w w' := by
 have HR0 := Aside0.mk hr0
 have HC0 := Aside0.mk hc0
 clear hr0 hc0
 have HR1 := Aside0.mk hr1
 have HC1 := Aside0.mk hc1
 clear hr1 hc1
 have HB := Aside0.mk (Below.refl w.heap.size w)
 have HG := Aside0.mk hG
 clear hG
 have H : ((dn_Keys.f k l0).bind fun bt450 => ((dn_Keys.f k l1).bind fun bt454 => (if bt450.2 = 0 then (if bt454.2 = 0 then (if (bt454.1.length : Int) ≤ (bt450.1.length : Int) then (if 0 ≤ (bt454.1.length : Int) then ((slices_Equal_string_string.f k (bt450.1.take ((bt454.1.length : Int) : Int).toNat) bt454.1).bind fun t462 => (some t462)) else (none)) else (some false)) else (some false)) else (some false)))) = some r := h
 clear h
 replace H := Option.bind_eq_some_iff.mp H
 obtain ⟨⟨t450, t451⟩, A30, H⟩ := H
 replace H : ((dn_Keys.f k l1).bind fun bt454 => (if t451 = 0 then (if bt454.2 = 0 then (if (bt454.1.length : Int) ≤ (t450.length : Int) then (if 0 ≤ (bt454.1.length : Int) then ((slices_Equal_string_string.f k (t450.take ((bt454.1.length : Int) : Int).toNat) bt454.1).bind fun t462 => (some t462)) else (none)) else (some false)) else (some false)) else (some false))) = some r := H
 have A3 := Aside0.mk A30
 clear A30
 replace H := Option.bind_eq_some_iff.mp H
 obtain ⟨⟨t454, t455⟩, A40, H⟩ := H
 replace H : (if t451 = 0 then (if t455 = 0 then (if (t454.length : Int) ≤ (t450.length : Int) then (if 0 ≤ (t454.length : Int) then ((slices_Equal_string_string.f k (t450.take ((t454.length : Int) : Int).toNat) t454).bind fun t462 => (some t462)) else (none)) else (some false)) else (some false)) else (some false)) = some r := H
 have A4 := Aside0.mk A40
 clear A40
 by_cases c5 : t451 = 0
 ·
  rw [if_pos c5] at H
  have c5b0 : (t451 == 0) = true := beq_iff_eq.mpr c5
  have c5b1 : (t451 != 0) = false := bne_eq_false_iff_eq.mpr c5
  clear c5
  by_cases c6 : t455 = 0
  ·
   rw [if_pos c6] at H
   have c6b0 : (t455 == 0) = true := beq_iff_eq.mpr c6
   have c6b1 : (t455 != 0) = false := bne_eq_false_iff_eq.mpr c6
   clear c6
   by_cases c7 : (t454.length : Int) ≤ (t450.length : Int)
   ·
    rw [if_pos c7] at H
    have c7b0 := decide_eq_true c7
    have c7b1 : decide (t454.length ≤ t450.length) = true := decide_eq_true (Int.ofNat_le.mp c7)
    clear c7
    by_cases c8 : 0 ≤ (t454.length : Int)
    ·
     rw [if_pos c8] at H
     have c8b0 := eq_true c8
     have c8b1 := decide_eq_true c8
     clear c8
     have c9b0 := eq_true (of_decide_eq_true ap0 : (t454.length : Int) ≤ (t450.length : Int))
     obtain ⟨y458, hy458⟩ : ∃ y_ : List ByteArray, y_ = (t450.take ((t454.length : Int) : Int).toNat) := ⟨_, rfl⟩
     replace H : ((slices_Equal_string_string.f k y458 t454).bind fun t462 => (some t462)) = some r := by first | (rw [hy458]; with_reducible exact H) | (have H2_ := (Option.bind_some _ _).symm.trans H; rw [hy458]; with_reducible exact H2_) | (have H2_ := (Option.bind_some _ _).symm.trans H; with_reducible exact H2_) | with_reducible exact H | (rw [hy458]; exact H) | exact H
     have Ny458 := Aside0.mk hy458
     clear hy458
     replace H := Option.bind_eq_some_iff.mp H
     obtain ⟨t462, A100, H⟩ := H
     replace H : (some t462) = some r := H
     have A10 := Aside0.mk A100
     clear A100
     obtain rfl := Option.some.inj H
     go_enter Tryz.func8, Tryz.ntmps8
     go_wp2_with (first | ((with_reducible refine gate_callee (f := 9) rfl ?_); refine goesL_ (some 11) rfl rfl Tryz.func9 (by kernel_rfl) rfl #[.slice A0 l0.length c0] rfl ap3 ?_; (with_reducible refine (dn_Keys.calls k _ _ l0 t450 t451 _ ?side1 ?side2 ?side3 A3.out).mono ?_); (case side1 => repeat (first | exact HR0.out | (with_reducible refine Kd.C_alloc ?_ _) | (with_reducible refine Kd.C_drewN ?_ _) | (with_reducible refine Kd.C_drew ?_))); (case side2 => exact HC0.out); (case side3 => exact ap6); rintro e w11 ⟨v452, rfl, ho0, hb⟩; refine ⟨_, rfl, ?_⟩; have n0_ := Aside0.mk (Kd.R_lower ho0 (below_size ap1)); have n1_ := Aside0.mk (below_step ap1 hb); clear HB; have HO453 := n0_; have HB := n1_; clear n0_ n1_; (try clear hb); (try clear hb2); (try clear hk); (try clear hi); (try clear ho0)) | ((with_reducible refine gate_callee (f := 9) rfl ?_); refine goesL_ (some 16) rfl rfl Tryz.func9 (by kernel_rfl) rfl #[.slice A1 l1.length c1] rfl ap3 ?_; (with_reducible refine (dn_Keys.calls k _ _ l1 t454 t455 _ ?side1 ?side2 ?side3 A4.out).mono ?_); (case side1 => repeat (first | exact (Kd.C_below HR1.out HB.out) | (with_reducible refine Kd.C_alloc ?_ _) | (with_reducible refine Kd.C_drewN ?_ _) | (with_reducible refine Kd.C_drew ?_))); (case side2 => exact HC1.out); (case side3 => exact ap6); rintro e w12 ⟨v456, rfl, ho0, hb⟩; refine ⟨_, rfl, ?_⟩; have n0_ := Aside0.mk (Kd.R_elder' (apAR HO453.out) (Kd.R_base ho0) hb); have n1_ := Aside0.mk (Kd.R_lower (Kd.R_new' ho0 (Kd.R_lt (apAR HO453.out))) (below_size ap1)); have n2_ := Aside0.mk (below_step ap1 hb); clear HO453; clear HB; have HO453 := n0_; have HO457 := n1_; have HB := n2_; clear n0_ n1_ n2_; (try clear hb); (try clear hb2); (try clear hk); (try clear hi); (try clear ho0); obtain ⟨Ao13, co13, eo13⟩ := Kd.R_slice HO457.out; subst eo13; obtain ⟨Ao14, co14, eo14⟩ := Kd.R_slice HO453.out; subst eo14; have q15 : ((t454.length : Int) : Int) ≤ ((t450.length : Int) : Int) := of_decide_eq_true ap0; obtain ⟨i015, hi015, _, hsz15, _⟩ := info_parts info9; have hroom15 : t450.length ≤ co14 := (Kd.R_reads' HO453.out).2.1; have hC15 : Kd.C Kd.string _ Ao14 t450.length t450 := (Kd.R_reads' HO453.out).2.2; have hcut15 := cut_to (P := Tryz.prog) 28 9 .i64 Tryz.underlying28 hi015 Ao14 t450.length co14 (t454.length : Int) (of_decide_eq_true ap0) q15 hroom15; have hr15 := Kd.C_take (m := ((t454.length : Int) : Int).toNat) hC15 (by omega); have hy15 : y458.length = ((t454.length : Int) : Int).toNat := (by rw [Ny458.out, List.length_take]; omega); rw [← Ny458.out] at hr15; rw [← hy15] at hcut15; have HR461 := Aside0.mk hr15; have HC461 := Aside0.mk (show y458.length ≤ co14 from by omega); clear hr15 hC15 hroom15 hi015 hsz15; have KY15 := Aside0.mk hy15; clear hy15; have KL15 := Aside0.mk (show ((t454.length : Int) : Int).toNat ≤ t450.length from by omega); replace q15 := eq_true q15) | (go_at_call 19; (with_reducible refine (slices_Equal_string_string.calls k _ _ y458 _ _ t454 t462 _ ?side1 ?side2 ?side3 ?side4 A10.out).mono ?_); (case side1 => repeat (first | exact (apC HR461.out) | (with_reducible refine Kd.C_alloc ?_ _) | (with_reducible refine Kd.C_drewN ?_ _) | (with_reducible refine Kd.C_drew ?_))); (case side2 => exact HC461.out); (case side3 => repeat (first | exact (Kd.R_reads' HO457.out).2.2 | (with_reducible refine Kd.C_alloc ?_ _) | (with_reducible refine Kd.C_drewN ?_ _) | (with_reducible refine Kd.C_drew ?_))); (case side4 => exact (Kd.R_reads' HO457.out).2.1); rintro e w' ⟨rfl, ⟨nd, rfl⟩⟩))
     go_ret
     exact ⟨by first | rfl | (simp [errW_none, errW_some, bne_nil8, beq_nil8]; done) | (simp [errW_none, errW_some] <;> rfl) | (simp [*, errW_none, errW_some] <;> rfl), by repeat (first | (with_reducible first | exact HB.out | apply below_alloc | apply pw_below_drewN | apply below_drew1) | exact HB.out)⟩
    ·
     rw [if_neg c8] at H
     exact absurd H (by simp)
   ·
    rw [if_neg c7] at H
    have c7b0 := decide_eq_false c7
    have c7b1 : decide (t454.length ≤ t450.length) = false := decide_eq_false (fun h => c7 (Int.ofNat_le.mpr h))
    clear c7
    obtain rfl := Option.some.inj H
    go_enter Tryz.func8, Tryz.ntmps8
    go_wp2_with (first | ((with_reducible refine gate_callee (f := 9) rfl ?_); refine goesL_ (some 11) rfl rfl Tryz.func9 (by kernel_rfl) rfl #[.slice A0 l0.length c0] rfl ap3 ?_; (with_reducible refine (dn_Keys.calls k _ _ l0 t450 t451 _ ?side1 ?side2 ?side3 A3.out).mono ?_); (case side1 => repeat (first | exact HR0.out | (with_reducible refine Kd.C_alloc ?_ _) | (with_reducible refine Kd.C_drewN ?_ _) | (with_reducible refine Kd.C_drew ?_))); (case side2 => exact HC0.out); (case side3 => exact ap6); rintro e w16 ⟨v452, rfl, ho0, hb⟩; refine ⟨_, rfl, ?_⟩; have n0_ := Aside0.mk (Kd.R_lower ho0 (below_size ap1)); have n1_ := Aside0.mk (below_step ap1 hb); clear HB; have HO453 := n0_; have HB := n1_; clear n0_ n1_; (try clear hb); (try clear hb2); (try clear hk); (try clear hi); (try clear ho0)) | ((with_reducible refine gate_callee (f := 9) rfl ?_); refine goesL_ (some 16) rfl rfl Tryz.func9 (by kernel_rfl) rfl #[.slice A1 l1.length c1] rfl ap3 ?_; (with_reducible refine (dn_Keys.calls k _ _ l1 t454 t455 _ ?side1 ?side2 ?side3 A4.out).mono ?_); (case side1 => repeat (first | exact (Kd.C_below HR1.out HB.out) | (with_reducible refine Kd.C_alloc ?_ _) | (with_reducible refine Kd.C_drewN ?_ _) | (with_reducible refine Kd.C_drew ?_))); (case side2 => exact HC1.out); (case side3 => exact ap6); rintro e w17 ⟨v456, rfl, ho0, hb⟩; refine ⟨_, rfl, ?_⟩; have n0_ := Aside0.mk (Kd.R_elder' (apAR HO453.out) (Kd.R_base ho0) hb); have n1_ := Aside0.mk (Kd.R_lower (Kd.R_new' ho0 (Kd.R_lt (apAR HO453.out))) (below_size ap1)); have n2_ := Aside0.mk (below_step ap1 hb); clear HO453; clear HB; have HO453 := n0_; have HO457 := n1_; have HB := n2_; clear n0_ n1_ n2_; (try clear hb); (try clear hb2); (try clear hk); (try clear hi); (try clear ho0); obtain ⟨Ao18, co18, eo18⟩ := Kd.R_slice HO457.out; subst eo18; obtain ⟨Ao19, co19, eo19⟩ := Kd.R_slice HO453.out; subst eo19))
    go_ret
    exact ⟨by first | rfl | (simp [errW_none, errW_some, bne_nil8, beq_nil8]; done) | (simp [errW_none, errW_some] <;> rfl) | (simp [*, errW_none, errW_some] <;> rfl), by repeat (first | (with_reducible first | exact HB.out | apply below_alloc | apply pw_below_drewN | apply below_drew1) | exact HB.out)⟩
  ·
   rw [if_neg c6] at H
   have c6b0 : (t455 == 0) = false := beq_eq_false_iff_ne.mpr c6
   have c6b1 : (t455 != 0) = true := bne_iff_ne.mpr c6
   obtain rfl := Option.some.inj H
   go_enter Tryz.func8, Tryz.ntmps8
   go_wp2_with (first | ((with_reducible refine gate_callee (f := 9) rfl ?_); refine goesL_ (some 11) rfl rfl Tryz.func9 (by kernel_rfl) rfl #[.slice A0 l0.length c0] rfl ap3 ?_; (with_reducible refine (dn_Keys.calls k _ _ l0 t450 t451 _ ?side1 ?side2 ?side3 A3.out).mono ?_); (case side1 => repeat (first | exact HR0.out | (with_reducible refine Kd.C_alloc ?_ _) | (with_reducible refine Kd.C_drewN ?_ _) | (with_reducible refine Kd.C_drew ?_))); (case side2 => exact HC0.out); (case side3 => exact ap6); rintro e w20 ⟨v452, rfl, ho0, hb⟩; refine ⟨_, rfl, ?_⟩; have n0_ := Aside0.mk (Kd.R_lower ho0 (below_size ap1)); have n1_ := Aside0.mk (below_step ap1 hb); clear HB; have HO453 := n0_; have HB := n1_; clear n0_ n1_; (try clear hb); (try clear hb2); (try clear hk); (try clear hi); (try clear ho0)) | ((with_reducible refine gate_callee (f := 9) rfl ?_); refine goesL_ (some 16) rfl rfl Tryz.func9 (by kernel_rfl) rfl #[.slice A1 l1.length c1] rfl ap3 ?_; (with_reducible refine (dn_Keys.calls k _ _ l1 t454 t455 _ ?side1 ?side2 ?side3 A4.out).mono ?_); (case side1 => repeat (first | exact (Kd.C_below HR1.out HB.out) | (with_reducible refine Kd.C_alloc ?_ _) | (with_reducible refine Kd.C_drewN ?_ _) | (with_reducible refine Kd.C_drew ?_))); (case side2 => exact HC1.out); (case side3 => exact ap6); rintro e w21 ⟨v456, rfl, ho0, hb⟩; refine ⟨_, rfl, ?_⟩; have n0_ := Aside0.mk (Kd.R_elder' (apAR HO453.out) (Kd.R_base ho0) hb); have n1_ := Aside0.mk (Kd.R_lower (Kd.R_new' ho0 (Kd.R_lt (apAR HO453.out))) (below_size ap1)); have n2_ := Aside0.mk (below_step ap1 hb); clear HO453; clear HB; have HO453 := n0_; have HO457 := n1_; have HB := n2_; clear n0_ n1_ n2_; (try clear hb); (try clear hb2); (try clear hk); (try clear hi); (try clear ho0)))
   go_ret
   exact ⟨by first | rfl | (simp [errW_none, errW_some, bne_nil8, beq_nil8]; done) | (simp [errW_none, errW_some] <;> rfl) | (simp [*, errW_none, errW_some] <;> rfl), by repeat (first | (with_reducible first | exact HB.out | apply below_alloc | apply pw_below_drewN | apply below_drew1) | exact HB.out)⟩
 ·
  rw [if_neg c5] at H
  have c5b0 : (t451 == 0) = false := beq_eq_false_iff_ne.mpr c5
  have c5b1 : (t451 != 0) = true := bne_iff_ne.mpr c5
  obtain rfl := Option.some.inj H
  go_enter Tryz.func8, Tryz.ntmps8
  go_wp2_with (first | ((with_reducible refine gate_callee (f := 9) rfl ?_); refine goesL_ (some 11) rfl rfl Tryz.func9 (by kernel_rfl) rfl #[.slice A0 l0.length c0] rfl ap3 ?_; (with_reducible refine (dn_Keys.calls k _ _ l0 t450 t451 _ ?side1 ?side2 ?side3 A3.out).mono ?_); (case side1 => repeat (first | exact HR0.out | (with_reducible refine Kd.C_alloc ?_ _) | (with_reducible refine Kd.C_drewN ?_ _) | (with_reducible refine Kd.C_drew ?_))); (case side2 => exact HC0.out); (case side3 => exact ap6); rintro e w22 ⟨v452, rfl, ho0, hb⟩; refine ⟨_, rfl, ?_⟩; have n0_ := Aside0.mk (Kd.R_lower ho0 (below_size ap1)); have n1_ := Aside0.mk (below_step ap1 hb); clear HB; have HO453 := n0_; have HB := n1_; clear n0_ n1_; (try clear hb); (try clear hb2); (try clear hk); (try clear hi); (try clear ho0)) | ((with_reducible refine gate_callee (f := 9) rfl ?_); refine goesL_ (some 16) rfl rfl Tryz.func9 (by kernel_rfl) rfl #[.slice A1 l1.length c1] rfl ap3 ?_; (with_reducible refine (dn_Keys.calls k _ _ l1 t454 t455 _ ?side1 ?side2 ?side3 A4.out).mono ?_); (case side1 => repeat (first | exact (Kd.C_below HR1.out HB.out) | (with_reducible refine Kd.C_alloc ?_ _) | (with_reducible refine Kd.C_drewN ?_ _) | (with_reducible refine Kd.C_drew ?_))); (case side2 => exact HC1.out); (case side3 => exact ap6); rintro e w23 ⟨v456, rfl, ho0, hb⟩; refine ⟨_, rfl, ?_⟩; have n0_ := Aside0.mk (Kd.R_elder' (apAR HO453.out) (Kd.R_base ho0) hb); have n1_ := Aside0.mk (Kd.R_lower (Kd.R_new' ho0 (Kd.R_lt (apAR HO453.out))) (below_size ap1)); have n2_ := Aside0.mk (below_step ap1 hb); clear HO453; clear HB; have HO453 := n0_; have HO457 := n1_; have HB := n2_; clear n0_ n1_ n2_; (try clear hb); (try clear hb2); (try clear hk); (try clear hi); (try clear ho0)))
  go_ret
  exact ⟨by first | rfl | (simp [errW_none, errW_some, bne_nil8, beq_nil8]; done) | (simp [errW_none, errW_some] <;> rfl) | (simp [*, errW_none, errW_some] <;> rfl), by repeat (first | (with_reducible first | exact HB.out | apply below_alloc | apply pw_below_drewN | apply below_drew1) | exact HB.out)⟩
def dn_Same.f (k : Nat) (l0 : List (List (S40))) (l1 : List (List (S40))) : Option (Bool) := if (l0.length : Int) = (l1.length : Int) then ((dn_Under.f k l0 l1).bind fun t590 => (some t590)) else (some false)
set_option maxHeartbeats 8000000 in
set_option maxRecDepth 100000 in
theorem dn_Same.calls (k : Nat) (A0 : Option Addr) (c0 : Nat) (l0 : List (List (S40))) (A1 : Option Addr) (c1 : Nat) (l1 : List (List (S40))) (r : Bool) (w : World) (hr0 : Kd.C (Kd.slice 40 k40) w A0 l0.length l0) (hc0 : l0.length ≤ c0) (hr1 : Kd.C (Kd.slice 40 k40) w A1 l1.length l1) (hc1 : l1.length ≤ c1) (hG : Gw w) (h : dn_Same.f k l0 l1 = some r) :
  Calls Tryz.prog 13 #[.slice A0 l0.length c0, .slice A1 l1.length c1] w fun e w' => e = .returned (.bool r) ∧ Below w.heap.size w w' := by
 have HR0 := Aside0.mk hr0
 have HC0 := Aside0.mk hc0
 clear hr0 hc0
 have HR1 := Aside0.mk hr1
 have HC1 := Aside0.mk hc1
 clear hr1 hc1
 have HB := Aside0.mk (Below.refl w.heap.size w)
 have HG := Aside0.mk hG
 clear hG
 have H : (if (l0.length : Int) = (l1.length : Int) then ((dn_Under.f k l0 l1).bind fun t590 => (some t590)) else (some false)) = some r := h
 clear h
 by_cases c3 : (l0.length : Int) = (l1.length : Int)
 ·
  rw [if_pos c3] at H
  have c3b0 : ((l0.length : Int) == (l1.length : Int)) = true := beq_iff_eq.mpr c3
  have c3b1 : ((l0.length : Int) != (l1.length : Int)) = false := bne_eq_false_iff_eq.mpr c3
  have c3b2 : (l0.length == l1.length) = true := by first | simpa using c3 | (simp at c3 ⊢; omega)
  clear c3
  replace H := Option.bind_eq_some_iff.mp H
  obtain ⟨t590, A40, H⟩ := H
  replace H : (some t590) = some r := H
  have A4 := Aside0.mk A40
  clear A40
  obtain rfl := Option.some.inj H
  go_enter Tryz.func13, Tryz.ntmps13
  go_wp2_with (first | (go_at_call 8; (with_reducible refine (dn_Under.calls k _ _ l0 _ _ l1 t590 _ ?side1 ?side2 ?side3 ?side4 ?side5 A4.out).mono ?_); (case side1 => repeat (first | exact HR0.out | (with_reducible refine Kd.C_alloc ?_ _) | (with_reducible refine Kd.C_drewN ?_ _) | (with_reducible refine Kd.C_drew ?_))); (case side2 => exact HC0.out); (case side3 => repeat (first | exact HR1.out | (with_reducible refine Kd.C_alloc ?_ _) | (with_reducible refine Kd.C_drewN ?_ _) | (with_reducible refine Kd.C_drew ?_))); (case side4 => exact HC1.out); (case side5 => exact ap6); rintro e w5 ⟨rfl, hb⟩; have n0_ := Aside0.mk (below_step ap1 hb); clear HB; have HB := n0_; clear n0_; (try clear hb); (try clear hb2); (try clear hk); (try clear hi)))
  go_ret
  exact ⟨by first | rfl | (simp [errW_none, errW_some, bne_nil8, beq_nil8]; done) | (simp [errW_none, errW_some] <;> rfl) | (simp [*, errW_none, errW_some] <;> rfl), by repeat (first | (with_reducible first | exact HB.out | apply below_alloc | apply pw_below_drewN | apply below_drew1) | exact HB.out)⟩
 ·
  rw [if_neg c3] at H
  have c3b0 : ((l0.length : Int) == (l1.length : Int)) = false := beq_eq_false_iff_ne.mpr c3
  have c3b1 : ((l0.length : Int) != (l1.length : Int)) = true := bne_iff_ne.mpr c3
  have c3b2 : (l0.length == l1.length) = false := by first | simpa using c3 | (simp at c3 ⊢; omega)
  obtain rfl := Option.some.inj H
  go_enter Tryz.func13, Tryz.ntmps13
  go_wp2
  go_ret
  exact ⟨by first | rfl | (simp [errW_none, errW_some, bne_nil8, beq_nil8]; done) | (simp [errW_none, errW_some] <;> rfl) | (simp [*, errW_none, errW_some] <;> rfl), by repeat (first | (with_reducible first | exact HB.out | apply below_alloc | apply pw_below_drewN | apply below_drew1) | exact HB.out)⟩
end Go.Proofs.YtkklacijhmoopaaGreatDoor.Print
namespace Go.Proofs.YtkklacijhmoopaaGreatDoor.Print
open Go.RowKit Go.Proofs.YtkklacijhmoopaaGreatDoorW.PrintWords Go.Proofs.YtkklacijhmoopaaGreatDoorW.PrintLast Go.Proofs.YtkklacijhmoopaaGreatDoorW.PrintMore Go.Proofs.YtkklacijhmoopaaGreatDoor.Pure
set_option linter.unusedVariables false
set_option linter.unusedSimpArgs false
def readyB (s : ByteArray) : ByteArray := match readyOf true s with
  | some t => ⟨t.toArray⟩
  | none => ⟨#[]⟩
def tupB (l : List ByteArray) : ByteArray × Int :=
  if 16 < l.length then (⟨#[]⟩, 1) else if l.any (fun p => decide (4096 < p.size)) = true then (⟨#[]⟩, 5) else if 4096 < (tupOf l).length then (⟨#[]⟩, 5) else (⟨(tupOf l).toArray⟩, 0)
theorem tup_f (l : List ByteArray) : field_Tuple.f l = some (tupB l) := by
  unfold field_Tuple.f tupB
  by_cases h1 : 16 < l.length
  · rw [if_pos h1, if_pos h1]
  rw [if_neg h1, if_neg h1]
  by_cases h2 : l.any (fun p => decide (4096 < p.size)) = true
  · rw [if_pos h2, if_pos h2]
  rw [if_neg h2, if_neg h2]
  by_cases h3 : 4096 < (tupOf l).length
  · rw [if_pos h3, if_pos h3]
  · rw [if_neg h3, if_neg h3]
theorem tupB_len (l : List ByteArray) : (tupB l).1.size ≤ 4096 := by
  unfold tupB
  by_cases h1 : 16 < l.length
  · rw [if_pos h1]; decide
  rw [if_neg h1]
  by_cases h2 : l.any (fun p => decide (4096 < p.size)) = true
  · rw [if_pos h2]; decide
  rw [if_neg h2]
  by_cases h3 : 4096 < (tupOf l).length
  · rw [if_pos h3]; decide
  · rw [if_neg h3]; show (mkB (tupOf l)).size ≤ _; rw [mkB_size]; omega
def tupV (a : AvaS) : ByteArray := (tupB [a.f0, readyB a.f1]).1
theorem joinB_none (xs : List ByteArray) : joinB xs (⟨#[]⟩ : ByteArray) = (xs.map bl).flatten := by
  show ([] : List UInt8).intercalate (xs.map bl) = _
  cases h : xs.map bl with
  | nil => rfl
  | cons w ws => rw [inter_cons, List.flatten_cons, List.flatMap_def]; simp
theorem flat_len (B : Nat) : ∀ (l : List (List UInt8)), (∀ x ∈ l, x.length ≤ B) → l.flatten.length ≤ l.length * B
  | [], _ => by simp
  | x :: l, h => by
    have ih := flat_len B l fun y hy => h y (by simp [hy])
    have := h x (by simp)
    rw [List.flatten_cons, List.length_append, List.length_cons, Nat.succ_mul]; omega
theorem sortL_mem (l : List (List UInt8)) : ∀ x, x ∈ sortL l ↔ x ∈ l := fun x => (List.mergeSort_perm l _).mem_iff
theorem sortB_size (xs : List ByteArray) (h : ∀ x ∈ xs, x.size ≤ 4096) : ∀ x ∈ (sortB xs).map bl, x.length ≤ 4096 := by
  intro x hx
  unfold sortB at hx
  rw [List.map_map] at hx
  obtain ⟨y, hy, rfl⟩ := List.mem_map.1 hx
  obtain ⟨z, hz, rfl⟩ := List.mem_map.1 ((sortL_mem _ _).1 hy)
  have := h z hz
  rw [← bl_length] at this
  simpa using this
def keyOf (l : List AvaS) : ByteArray := ⟨((sortB (l.map tupV)).map bl).flatten.toArray⟩
theorem key_join (l : List AvaS) (h : l.length ≤ 1000) : strings_Join.f (sortB (l.map tupV)) (⟨#[]⟩ : ByteArray) = some (keyOf l) := by
  have hlen : (sortB (l.map tupV)).length = l.length := by rw [sortB_len, List.length_map]
  have hB := flat_len 4096 ((sortB (l.map tupV)).map bl) (sortB_size _ fun x hx => by
    obtain ⟨a, _, rfl⟩ := List.mem_map.1 hx
    exact tupB_len _)
  rw [List.length_map, hlen] at hB
  have h2 : l.length * 4096 ≤ 1000 * 4096 := Nat.mul_le_mul_right _ h
  unfold strings_Join.f
  rw [if_pos (by omega), joinB_none, if_pos (by omega)]; rfl
theorem ready_ev' (s : ByteArray) (hs : s.size ≤ 100000) : ∃ e, Ev (fun k => prep_Ready.f k s true) (readyB s, e) := by
  have h := ready_ev s hs true
  unfold readyB
  cases hr : readyOf true s with
  | none => rw [hr] at h; exact ⟨_, h⟩
  | some t => rw [hr] at h; exact ⟨_, h⟩
theorem take_next {α : Type} {l : List α} {i : Nat} {x : α} {r : List α} (h : l.drop i = x :: r) : l.take (i + 1) = l.take i ++ [x] := by
  obtain ⟨g1, g0, _⟩ := getD_at (d := x) h
  rw [List.take_succ_eq_append_getElem g1]
  congr 2
  rw [Int.toNat_natCast, List.getD_eq_getElem?_getD, List.getElem?_eq_getElem g1] at g0
  simpa using g0
theorem key_loop (l : List AvaS) (hl : l.length ≤ 1000) (hs : ∀ a ∈ l, szA a) : ∀ (m i : Nat), l.length - i = m → i ≤ l.length → Ev (fun k => dn_key.l0 k ((l.take i).map tupV) l (l.length : Int) (i : Int)) (keyOf l) := by
  intro m
  induction m with
  | zero =>
    intro i hm hi
    rw [List.take_of_length_le (by omega)]
    refine Ev.step (fun k => by rw [dn_key.l0]) ?_
    exact Ev.neg (by omega) (Ev.bindc (key_join l hl) Ev.rfl')
  | succ m ih =>
    intro i hm hi
    cases hr : l.drop i with
    | nil => have := List.drop_eq_nil_iff.1 hr; omega
    | cons a r =>
      obtain ⟨g1, _, g3⟩ := getD_at (d := a) hr
      have g2 := rdA_at hr
      have hsz := hs a (by
        have : a ∈ l.drop i := by rw [hr]; simp
        exact List.mem_of_mem_drop this)
      have hi2 := ih (i + 1) (by omega) (by omega)
      rw [take_next hr, List.map_append] at hi2
      obtain ⟨e, he⟩ := ready_ev' a.f1 hsz.2
      refine Ev.step (fun k => by rw [dn_key.l0]) ?_
      rw [g2, wsucc (by omega)]
      refine Ev.pos (by omega) (Ev.pos (by omega) (Ev.pos (by omega) (Ev.bind he ?_)))
      refine Ev.bindc (tup_f _) ?_
      exact Ev.pos (by rw [List.length_map, List.length_take]; omega) hi2
theorem key_ev (l : List AvaS) (hl : l.length ≤ 1000) (hs : ∀ a ∈ l, szA a) : Ev (fun k => dn_key.f k l) (keyOf l) := by
  unfold dn_key.f
  exact key_loop l hl hs _ 0 rfl (Nat.zero_le _)
def keysOf (n : List (List AvaS)) : List ByteArray := n.reverse.map keyOf
theorem rdR_get {n : List (List AvaS)} {j : Nat} (h : j < n.length) : rdR n (j : Int) = n[j] := rdR_at (r := n.drop (j + 1)) (List.drop_eq_getElem_cons h)
theorem keys_loop (n : List (List AvaS)) (hn : n.length ≤ 1000) (hs : ∀ l ∈ n, l.length ≤ 1000 ∧ ∀ a ∈ l, szA a) : ∀ (m i : Nat), n.length - i = m → i ≤ n.length → Ev (fun k => dn_Keys.l0 k n ((n.reverse.take i).map keyOf) (n.length : Int) (i : Int)) (keysOf n, 0) := by
  intro m
  induction m with
  | zero =>
    intro i hm hi
    rw [List.take_of_length_le (by rw [List.length_reverse]; omega)]
    refine Ev.step (fun k => by rw [dn_Keys.l0]) ?_
    exact Ev.neg (by omega) Ev.rfl'
  | succ m ih =>
    intro i hm hi
    have hlt : i < n.length := by omega
    have hi2 := ih (i + 1) (by omega) (by omega)
    have hj : n.length - 1 - i < n.length := by omega
    have hx : wrap64 ((wrap64 ((n.length : Int) - 1)) - (i : Int)) = ((n.length - 1 - i : Nat) : Int) := by unfold wrap64; omega
    have hr : n.reverse.drop i = n[n.length - 1 - i] :: n.reverse.drop (i + 1) := by
      rw [List.drop_eq_getElem_cons (by rw [List.length_reverse]; exact hlt), List.getElem_reverse]
    rw [take_next hr, List.map_append] at hi2
    obtain ⟨z1, z2⟩ := hs n[n.length - 1 - i] (List.getElem_mem _)
    refine Ev.step (fun k => by rw [dn_Keys.l0]) ?_
    have hg : rd_L8 n ((n.length - 1 - i : Nat) : Int) = n[n.length - 1 - i] := rdR_get hj
    rw [hx, hg, wsucc (by omega)]
    refine Ev.pos (by omega) (Ev.pos (by omega) (Ev.pos (by omega) (Ev.bind (key_ev _ z1 z2) ?_)))
    exact Ev.pos (by rw [List.length_map, List.length_take]; omega) hi2
theorem nameOk_sz {n : List (List AvaS)} (h : nameOk n = true) : n.length ≤ 12 ∧ ∀ l ∈ n, l.length ≤ 4 := by
  unfold nameOk at h
  rw [Bool.and_eq_true] at h
  refine ⟨by simpa using h.1, fun l hl => ?_⟩
  have := List.all_eq_true.1 h.2 l hl
  unfold rdnOk at this
  rw [Bool.and_eq_true] at this
  have h1 := of_decide_eq_true this.1
  exact h1.2
theorem keys_ev (n : List (List AvaS)) (hl : n.length ≤ 1000000) (h : szN n) : Ev (fun k => dn_Keys.f k n) (if nameOk n = true then (keysOf n, 0) else ([], 4)) := by
  unfold dn_Keys.f
  refine Ev.bind (right_ev n hl h) ?_
  cases hn : nameOk n with
  | false => exact Ev.neg (by simp) (by simpa using Ev.rfl')
  | true =>
    rw [if_pos rfl]
    obtain ⟨h1, h2⟩ := nameOk_sz hn
    exact Ev.pos rfl (keys_loop n (by omega) (fun l hl => ⟨by have := h2 l hl; omega, (h l hl).2⟩) _ 0 rfl (Nat.zero_le _))
theorem rdB_at {L : List ByteArray} {i : Nat} {x : ByteArray} {r : List ByteArray} (h : L.drop i = x :: r) : rdOf ByteArray.empty L (i : Int) = x := (rdOf_at h).2.1
theorem ba_list {a b : ByteArray} : a.toList = b.toList ↔ a = b := by
  rw [Lib.toList_data, Lib.toList_data]
  exact ⟨fun h => ByteArray.ext (Array.toList_inj.1 h), fun h => by rw [h]⟩
theorem eqs_loop (L M : List ByteArray) (hL : L.length ≤ 1000000) (hM : M.length = L.length) : ∀ (m i : Nat), L.length - i = m → i ≤ L.length → Ev (fun k => slices_Equal_string_string.l0 k L M (L.length : Int) (i : Int)) (decide (L.drop i = M.drop i)) := by
  intro m
  induction m with
  | zero =>
    intro i hm hi
    rw [List.drop_eq_nil_of_le (by omega), List.drop_eq_nil_of_le (show M.length ≤ i by omega)]
    show Ev _ true
    exact Ev.step (fun k => by rw [slices_Equal_string_string.l0]) (Ev.neg (by omega) Ev.rfl')
  | succ m ih =>
    intro i hm hi
    cases hr : L.drop i with
    | nil => have := List.drop_eq_nil_iff.1 hr; omega
    | cons x r =>
      cases hq : M.drop i with
      | nil => have := List.drop_eq_nil_iff.1 hq; omega
      | cons y q =>
        obtain ⟨g1, _, g3⟩ := getD_at (d := x) hr
        obtain ⟨k1, _, k3⟩ := getD_at (d := x) hq
        have hi2 := ih (i + 1) (by omega) (by omega)
        rw [g3, k3] at hi2
        refine Ev.step (fun k => by rw [slices_Equal_string_string.l0]) ?_
        rw [rdB_at hr, rdB_at hq, wsucc (by omega)]
        refine Ev.pos (by omega) (Ev.pos (by omega) (Ev.pos (by omega) (Ev.pos (by omega) ?_)))
        by_cases e : x = y
        · subst e
          refine Ev.pos rfl ?_
          rw [show decide (x :: r = x :: q) = decide (r = q) by simp]
          exact hi2
        · rw [show decide (x :: r = y :: q) = false by simp [e]]
          exact Ev.neg (fun h => e (ba_list.1 h)) Ev.rfl'
theorem eqs_ev (L M : List ByteArray) (hL : L.length ≤ 1000000) : Ev (fun k => slices_Equal_string_string.f k L M) (decide (L = M)) := by
  unfold slices_Equal_string_string.f
  by_cases h : L.length = M.length
  · refine Ev.pos (by omega) ?_
    have := eqs_loop L M hL h.symm _ 0 rfl (Nat.zero_le _)
    rw [List.drop_zero, List.drop_zero] at this; exact this
  · rw [show decide (L = M) = false from decide_eq_false fun e => h (by rw [e])]
    exact Ev.neg (by omega) Ev.rfl'
def underB (n m : List (List AvaS)) : Bool := nameOk n && nameOk m && decide (m.length ≤ n.length) && decide ((keysOf n).take m.length = keysOf m)
theorem keysOf_len (n : List (List AvaS)) : (keysOf n).length = n.length := by unfold keysOf; simp
theorem under_ev (n m : List (List AvaS)) (hn : n.length ≤ 1000000) (hm : m.length ≤ 1000000) (zn : szN n) (zm : szN m) : Ev (fun k => dn_Under.f k n m) (underB n m) := by
  unfold dn_Under.f underB
  refine Ev.bind (keys_ev n hn zn) (Ev.bind (keys_ev m hm zm) ?_)
  cases h1 : nameOk n with
  | false => exact Ev.neg (show ¬ ((4 : Int) = 0) by decide) (by simpa using Ev.rfl')
  | true =>
    refine Ev.pos rfl ?_
    cases h2 : nameOk m with
    | false => exact Ev.neg (show ¬ ((4 : Int) = 0) by decide) (by simpa using Ev.rfl')
    | true =>
      refine Ev.pos rfl ?_
      simp only [if_true, keysOf_len, Bool.and_self, Bool.true_and]
      by_cases h3 : m.length ≤ n.length
      · rw [decide_eq_true h3, Bool.true_and]
        refine Ev.pos (by omega) (Ev.pos (by omega) ?_)
        rw [Int.toNat_natCast]
        exact Ev.bind (eqs_ev _ _ (by rw [List.length_take]; omega)) Ev.rfl'
      · rw [decide_eq_false h3, Bool.false_and]
        exact Ev.neg (by omega) Ev.rfl'
theorem same_ev (n m : List (List AvaS)) (hn : n.length ≤ 1000000) (hm : m.length ≤ 1000000) (zn : szN n) (zm : szN m) : Ev (fun k => dn_Same.f k n m) (decide (n.length = m.length) && underB n m) := by
  unfold dn_Same.f
  by_cases h : n.length = m.length
  · rw [decide_eq_true h, Bool.true_and]
    exact Ev.pos (by omega) (Ev.bind (under_ev n m hn hm zn zm) Ev.rfl')
  · rw [decide_eq_false h, Bool.false_and]
    exact Ev.neg (by omega) Ev.rfl'
theorem sortL_perm {a b : List (List UInt8)} (h : a.Perm b) : sortL a = sortL b := by
  unfold sortL
  have tr : ∀ x y z : List UInt8, decide (x ≤ y) = true → decide (y ≤ z) = true → decide (x ≤ z) = true := by
    intro x y z h1 h2
    exact decide_eq_true (List.le_trans (of_decide_eq_true h1) (of_decide_eq_true h2))
  have tot : ∀ x y : List UInt8, (decide (x ≤ y) || decide (y ≤ x)) = true := by
    intro x y
    rcases List.le_total x y with h | h
    · rw [decide_eq_true h]; rfl
    · rw [decide_eq_true h, Bool.or_true]
  refine List.Perm.eq_of_pairwise (le := fun x y => decide (x ≤ y) = true) ?_ (List.pairwise_mergeSort tr tot a) (List.pairwise_mergeSort tr tot b) (((List.mergeSort_perm a _).trans h).trans (List.mergeSort_perm b _).symm)
  intro x y _ _ h1 h2
  exact List.le_antisymm (of_decide_eq_true h1) (of_decide_eq_true h2)
theorem sorted_is {ps xs : List ByteArray} (hp : (ps.map bl).Pairwise (· ≤ ·)) (h : ps.Perm xs) : ps = sortB xs := by
  have e : ps.map bl = sortL (xs.map bl) := by
    rw [← sortL_perm (h.map bl)]
    unfold sortL
    refine (List.mergeSort_of_pairwise ?_).symm
    exact hp.imp fun {x y} h => decide_eq_true h
  have e2 : sortB xs = (ps.map bl).map (fun l => (⟨l.toArray⟩ : ByteArray)) := by rw [e]; rfl
  rw [e2, List.map_map]
  conv => lhs; rw [← List.map_id ps]
  exact List.map_congr_left fun x _ => rfl
end Go.Proofs.YtkklacijhmoopaaGreatDoor.Print
namespace Go.Proofs.YtkklacijhmoopaaGreatDoor.Print
open Go.RowKit Go.Proofs.YtkklacijhmoopaaGreatDoorW.PrintWords Go.Proofs.YtkklacijhmoopaaGreatDoorW.PrintLast Go.Proofs.YtkklacijhmoopaaGreatDoorW.PrintMore Go.Proofs.YtkklacijhmoopaaGreatDoor.Pure
theorem short_of {n : List (List AvaS)} (h : okLs n n) : shortP (ofN n) := by
  refine ⟨by unfold ofN; rw [List.length_map]; exact h.1, fun l hl => ?_⟩
  obtain ⟨x, hx, rfl⟩ := List.mem_map.1 hl
  obtain ⟨h1, h2⟩ := h.2 x hx
  refine ⟨by rw [List.length_map]; exact h1, fun a ha => ?_⟩
  obtain ⟨y, hy, rfl⟩ := List.mem_map.1 ha
  obtain ⟨k1, k2⟩ := h2 y hy
  exact ⟨by rw [show (ofA y).1 = bl y.f0 from rfl, bl_length]; exact k1, by rw [show (ofA y).2 = bl y.f1 from rfl, bl_length]; exact k2⟩
end Go.Proofs.YtkklacijhmoopaaGreatDoor.Print
namespace Go.Proofs.YtkklacijhmoopaaGreatDoor.Print
open Go.RowKit Go.Proofs.YtkklacijhmoopaaGreatDoorW.PrintWords Go.Proofs.YtkklacijhmoopaaGreatDoorW.PrintLast Go.Proofs.YtkklacijhmoopaaGreatDoorW.PrintMore
attribute [local go_sem] max2_int min2_int max_two min_two max_three min_three max_four min_four
set_option linter.unusedVariables false
set_option linter.unusedSimpArgs false
def dn_Key.f (k : Nat) (l0 : List (S40)) : Option (ByteArray × Int) := (dn_rightRdn.f k l0).bind fun t591 => (if t591 = true then ((dn_key.f k l0).bind fun t592 => (some (t592, 0))) else (some ((⟨#[]⟩ : ByteArray), 4)))
set_option maxHeartbeats 8000000 in
set_option maxRecDepth 100000 in
theorem dn_Key.calls (k : Nat) (A0 : Option Addr) (c0 : Nat) (l0 : List (S40)) (r1 : ByteArray) (r2 : Int) (w : World) (hr0 : Kd.C k40 w A0 l0.length l0) (hc0 : l0.length ≤ c0) (hG : Gw w) (h : dn_Key.f k l0 = some (r1, r2)) :
  Calls Tryz.prog 14 #[.slice A0 l0.length c0] w fun e w' => e = .returned (.tuple #[.string r1, .int .i64 r2]) ∧ Below w.heap.size w w' := by
 have HR0 := Aside0.mk hr0
 have HC0 := Aside0.mk hc0
 clear hr0 hc0
 have HB := Aside0.mk (Below.refl w.heap.size w)
 have HG := Aside0.mk hG
 clear hG
 have H : ((dn_rightRdn.f k l0).bind fun t591 => (if t591 = true then ((dn_key.f k l0).bind fun t592 => (some (t592, 0))) else (some ((⟨#[]⟩ : ByteArray), 4)))) = some (r1, r2) := h
 clear h
 replace H := Option.bind_eq_some_iff.mp H
 obtain ⟨t591, A20, H⟩ := H
 replace H : (if t591 = true then ((dn_key.f k l0).bind fun t592 => (some (t592, 0))) else (some ((⟨#[]⟩ : ByteArray), 4))) = some (r1, r2) := H
 have A2 := Aside0.mk A20
 clear A20
 by_cases c3 : t591 = true
 ·
  subst c3
  rw [if_pos rfl] at H
  replace H := Option.bind_eq_some_iff.mp H
  obtain ⟨t592, A40, H⟩ := H
  replace H : (some (t592, 0)) = some (r1, r2) := H
  have A4 := Aside0.mk A40
  clear A40
  simp only [Option.some.injEq, Prod.mk.injEq] at H
  obtain ⟨rfl, rfl⟩ := H
  go_enter Tryz.func14, Tryz.ntmps14
  go_wp2_with (first | ((with_reducible refine gate_callee (f := 22) rfl ?_); refine goesL_ (some 5) rfl rfl Tryz.func22 (by kernel_rfl) rfl #[.slice A0 l0.length c0] rfl ap3 ?_; (with_reducible refine (dn_rightRdn.calls k _ _ l0 true _ ?side1 ?side2 ?side3 A2.out).mono ?_); (case side1 => repeat (first | exact HR0.out | (with_reducible refine Kd.C_alloc ?_ _) | (with_reducible refine Kd.C_drewN ?_ _) | (with_reducible refine Kd.C_drew ?_))); (case side2 => exact HC0.out); (case side3 => exact ap6); rintro e w5 ⟨rfl, hb⟩; refine ⟨_, rfl, ?_⟩; have n0_ := Aside0.mk (below_step ap1 hb); clear HB; have HB := n0_; clear n0_; (try clear hb); (try clear hb2); (try clear hk); (try clear hi)) | ((with_reducible refine gate_callee (f := 21) rfl ?_); refine goesL_ (some 8) rfl rfl Tryz.func21 (by kernel_rfl) rfl #[.slice A0 l0.length c0] rfl ap3 ?_; (with_reducible refine (dn_key.calls k _ _ l0 t592 _ ?side1 ?side2 ?side3 A4.out).mono ?_); (case side1 => repeat (first | exact (Kd.C_below HR0.out HB.out) | (with_reducible refine Kd.C_alloc ?_ _) | (with_reducible refine Kd.C_drewN ?_ _) | (with_reducible refine Kd.C_drew ?_))); (case side2 => exact HC0.out); (case side3 => exact ap6); rintro e w6 ⟨rfl, hb⟩; refine ⟨_, rfl, ?_⟩; have n0_ := Aside0.mk (below_step ap1 hb); clear HB; have HB := n0_; clear n0_; (try clear hb); (try clear hb2); (try clear hk); (try clear hi)))
  go_ret2
  exact ⟨by first | rfl | (simp [errW_none, errW_some, bne_nil8, beq_nil8]; done) | (simp [errW_none, errW_some] <;> rfl) | (simp [*, errW_none, errW_some] <;> rfl), by repeat (first | (with_reducible first | exact HB.out | apply below_alloc | apply pw_below_drewN | apply below_drew1) | exact HB.out)⟩
 ·
  replace c3 := Bool.eq_false_iff.mpr c3
  subst c3
  rw [if_neg (show ¬ (false = true) by decide)] at H
  simp only [Option.some.injEq, Prod.mk.injEq] at H
  obtain ⟨rfl, rfl⟩ := H
  go_enter Tryz.func14, Tryz.ntmps14
  go_wp2_with (first | ((with_reducible refine gate_callee (f := 22) rfl ?_); refine goesL_ (some 5) rfl rfl Tryz.func22 (by kernel_rfl) rfl #[.slice A0 l0.length c0] rfl ap3 ?_; (with_reducible refine (dn_rightRdn.calls k _ _ l0 false _ ?side1 ?side2 ?side3 A2.out).mono ?_); (case side1 => repeat (first | exact HR0.out | (with_reducible refine Kd.C_alloc ?_ _) | (with_reducible refine Kd.C_drewN ?_ _) | (with_reducible refine Kd.C_drew ?_))); (case side2 => exact HC0.out); (case side3 => exact ap6); rintro e w7 ⟨rfl, hb⟩; refine ⟨_, rfl, ?_⟩; have n0_ := Aside0.mk (below_step ap1 hb); clear HB; have HB := n0_; clear n0_; (try clear hb); (try clear hb2); (try clear hk); (try clear hi)))
  go_ret2
  exact ⟨by first | rfl | (simp [errW_none, errW_some, bne_nil8, beq_nil8]; done) | (simp [errW_none, errW_some] <;> rfl) | (simp [*, errW_none, errW_some] <;> rfl), by repeat (first | (with_reducible first | exact HB.out | apply below_alloc | apply pw_below_drewN | apply below_drew1) | exact HB.out)⟩
def R01Same.l0 : Nat → List ByteArray → List ByteArray → Int → Option (Bool)
 | 0, _, _, _ => none
 | k + 1, x0, x1, x5 => if x5 < (x0.length : Int) then (if 0 ≤ x5 then (if x5 < (x1.length : Int) then (if (rdOf ByteArray.empty x0 x5).toList = (rdOf ByteArray.empty x1 x5).toList then (R01Same.l0 k x0 x1 (wrap64 (x5 + 1))) else (some false)) else (none)) else (none)) else (some true)
def R01Same.f (k : Nat) (l0 : List ByteArray) (l1 : List ByteArray) : Option (Bool) := if (l0.length : Int) = (l1.length : Int) then (R01Same.l0 k l0 l1 0) else (some false)
set_option maxHeartbeats 8000000 in
set_option maxRecDepth 100000 in
theorem R01Same.calls (k : Nat) (A0 : Option Addr) (c0 : Nat) (l0 : List ByteArray) (A1 : Option Addr) (c1 : Nat) (l1 : List ByteArray) (r : Bool) (w : World) (hr0 : Kd.C Kd.string w A0 l0.length l0) (hc0 : l0.length ≤ c0) (hr1 : Kd.C Kd.string w A1 l1.length l1) (hc1 : l1.length ≤ c1) (h : R01Same.f k l0 l1 = some r) :
  Calls Tryz.prog 11 #[.slice A0 l0.length c0, .slice A1 l1.length c1] w fun e w' => e = .returned (.bool r) ∧ Drawn0 w w' := by
 have HR0 := Aside0.mk hr0
 have HC0 := Aside0.mk hc0
 clear hr0 hc0
 have HR1 := Aside0.mk hr1
 have HC1 := Aside0.mk hc1
 clear hr1 hc1
 have H : (if (l0.length : Int) = (l1.length : Int) then (R01Same.l0 k l0 l1 0) else (some false)) = some r := h
 clear h
 by_cases c3 : (l0.length : Int) = (l1.length : Int)
 ·
  rw [if_pos c3] at H
  have c3b0 : ((l0.length : Int) == (l1.length : Int)) = true := beq_iff_eq.mpr c3
  have c3b1 : ((l0.length : Int) != (l1.length : Int)) = false := bne_eq_false_iff_eq.mpr c3
  have c3b2 : (l0.length == l1.length) = true := by first | simpa using c3 | (simp at c3 ⊢; omega)
  clear c3
  have H' := Aside0.mk H
  clear H
  go_enter Tryz.func11, Tryz.ntmps11
  go_wp2
  repeat (go_quiet (fail); try go_wp2)
  go_loopg [5] k (fun kq v5 w' => ∃ (x5_1 : Int), v5 = .int .i64 x5_1 ∧ Aside0 (R01Same.l0 kq l0 l1 x5_1 = some r) ∧ Aside0 (kq ≤ k) ∧ Drawn0 w w')
  case atStart => exact ⟨(0), ap2, H', ⟨Nat.le_refl _⟩, by repeat (first | exact Drawn0.refl _ | apply Drawn0.step)⟩
  case round =>
   clear H'
   try clear c1
   try clear p2
   try clear c3
   try clear c3b0
   try clear c3b1
   try clear c3b2
   obtain ⟨x5_1, rfl, HA, HK1, ⟨m1, rfl⟩⟩ := hrel
   cases gk with
   | zero => exact absurd HA.out (by simp [R01Same.l0])
   | succ k1 =>
    have H := HA.out
    clear HA
    simp only [R01Same.l0] at H
    by_cases c4 : x5_1 < (l0.length : Int)
    ·
     rw [if_pos c4] at H
     have c4b0 := decide_eq_true c4
     clear c4
     by_cases c5 : 0 ≤ x5_1
     ·
      rw [if_pos c5] at H
      have c5b0 := decide_eq_true c5
      clear c5
      by_cases c6 : x5_1 < (l1.length : Int)
      ·
       rw [if_pos c6] at H
       have c6b0 := decide_eq_true c6
       clear c6
       by_cases c7 : (rdOf ByteArray.empty l0 x5_1).toList = (rdOf ByteArray.empty l1 x5_1).toList
       ·
        rw [if_pos c7] at H
        have c7b0 : ((rdOf ByteArray.empty l0 x5_1).toList == (rdOf ByteArray.empty l1 x5_1).toList) = true := beq_iff_eq.mpr c7
        have c7b1 : ((rdOf ByteArray.empty l0 x5_1).toList != (rdOf ByteArray.empty l1 x5_1).toList) = false := bne_eq_false_iff_eq.mpr c7
        clear c7
        have H' := Aside0.mk H
        clear H
        have p575 : 0 ≤ (x5_1 : Int) := of_decide_eq_true ap0
        have q575 : x5_1 < (l0.length : Int) := of_decide_eq_true ap0
        obtain ⟨ad575, e575, hx575_0⟩ := Kd.at_string HR0.out x5_1 p575 q575
        cases e575
        replace p575 := eq_true p575
        replace q575 := eq_true q575
        have p576 : 0 ≤ (x5_1 : Int) := of_decide_eq_true ap0
        have q576 : x5_1 < (l1.length : Int) := of_decide_eq_true ap0
        obtain ⟨ad576, e576, hx576_0⟩ := Kd.at_string HR1.out x5_1 p576 q576
        cases e576
        replace p576 := eq_true p576
        replace q576 := eq_true q576
        go_wp2
        repeat (go_quiet (fail); try go_wp2)
        go_roundg k1
        case measure => have := HK1.out; omega
        case rel => exact ⟨(wrap64 (x5_1 + 1)), ap2, H', ⟨by have := HK1.out; omega⟩, by repeat (first | exact Drawn0.refl _ | apply Drawn0.step)⟩
       ·
        rw [if_neg c7] at H
        have c7b0 : ((rdOf ByteArray.empty l0 x5_1).toList == (rdOf ByteArray.empty l1 x5_1).toList) = false := beq_eq_false_iff_ne.mpr c7
        have c7b1 : ((rdOf ByteArray.empty l0 x5_1).toList != (rdOf ByteArray.empty l1 x5_1).toList) = true := bne_iff_ne.mpr c7
        obtain rfl := Option.some.inj H
        have p575 : 0 ≤ (x5_1 : Int) := of_decide_eq_true ap0
        have q575 : x5_1 < (l0.length : Int) := of_decide_eq_true ap0
        obtain ⟨ad575, e575, hx575_0⟩ := Kd.at_string HR0.out x5_1 p575 q575
        cases e575
        replace p575 := eq_true p575
        replace q575 := eq_true q575
        have p576 : 0 ≤ (x5_1 : Int) := of_decide_eq_true ap0
        have q576 : x5_1 < (l1.length : Int) := of_decide_eq_true ap0
        obtain ⟨ad576, e576, hx576_0⟩ := Kd.at_string HR1.out x5_1 p576 q576
        cases e576
        replace p576 := eq_true p576
        replace q576 := eq_true q576
        go_wp2
        repeat (go_quiet (fail); try go_wp2)
        go_ret
        exact ⟨ap2, ap7⟩
      ·
       rw [if_neg c6] at H
       exact absurd H (by simp)
     ·
      rw [if_neg c5] at H
      exact absurd H (by simp)
    ·
     rw [if_neg c4] at H
     have c4b0 := decide_eq_false c4
     clear c4
     obtain rfl := Option.some.inj H
     go_wp2
     repeat (go_quiet (fail); try go_wp2)
     go_ret
     exact ⟨ap2, ap7⟩
 ·
  rw [if_neg c3] at H
  have c3b0 : ((l0.length : Int) == (l1.length : Int)) = false := beq_eq_false_iff_ne.mpr c3
  have c3b1 : ((l0.length : Int) != (l1.length : Int)) = true := bne_iff_ne.mpr c3
  have c3b2 : (l0.length == l1.length) = false := by first | simpa using c3 | (simp at c3 ⊢; omega)
  obtain rfl := Option.some.inj H
  go_enter Tryz.func11, Tryz.ntmps11
  go_wp2
  repeat (go_quiet (fail); try go_wp2)
  go_ret
  exact ⟨ap2, ap7⟩
mutual
def R01Less.l0 : Nat → ByteArray → ByteArray → Int → Option (Int)
 | 0, _, _, _ => none
 | k + 1, x0, x1, x5 => if x5 < (x0.size : Int) then (R01Less.j1 k x0 x1 x5 (decide (x5 < (x1.size : Int)))) else (R01Less.j1 k x0 x1 x5 false)
def R01Less.j1 : Nat → ByteArray → ByteArray → Int → Bool → Option (Int)
 | 0, _, _, _, _ => none
 | k + 1, x0, x1, x5, x15 => if x15 = true then (if 0 ≤ x5 then (if x5 < (x0.size : Int) then (if x5 < (x1.size : Int) then (if (bt x0 x5) < (bt x1 x5) then (some (-1)) else (if (bt x0 x5) > (bt x1 x5) then (some 1) else (R01Less.l0 k x0 x1 (wrap64 (x5 + 1))))) else (none)) else (none)) else (none)) else (if (x0.size : Int) < (x1.size : Int) then (some (-1)) else (if (x0.size : Int) > (x1.size : Int) then (some 1) else (some 0)))
end
def R01Less.f (k : Nat) (a0 : ByteArray) (a1 : ByteArray) : Option (Int) := R01Less.l0 k a0 a1 0
set_option maxHeartbeats 8000000 in
set_option maxRecDepth 100000 in
theorem R01Less.calls (k : Nat) (a0 : ByteArray) (a1 : ByteArray) (r : Int) (w : World) (h : R01Less.f k a0 a1 = some r) :
  Calls Tryz.prog 25 #[.string a0, .string a1] w fun e w' => e = .returned (.int .i64 r) ∧ Drawn0 w w' := by
 have H : (R01Less.l0 k a0 a1 0) = some r := h
 clear h
 have H' := Aside0.mk H
 clear H
 go_enter Tryz.func25, Tryz.ntmps25
 go_wp2
 repeat (go_quiet (fail); try go_wp2)
 go_loopg [5] k (fun kq v5 w' => ∃ (x5_1 : Int), v5 = .int .i64 x5_1 ∧ Aside0 (R01Less.l0 kq a0 a1 x5_1 = some r) ∧ Aside0 (kq ≤ k) ∧ Drawn0 w w')
 case atStart => exact ⟨(0), ap2, H', ⟨Nat.le_refl _⟩, by repeat (first | exact Drawn0.refl _ | apply Drawn0.step)⟩
 case round =>
  clear H'
  try clear c2
  try clear p2
  obtain ⟨x5_1, rfl, HA, HK1, ⟨m1, rfl⟩⟩ := hrel
  cases gk with
  | zero => exact absurd HA.out (by simp [R01Less.l0])
  | succ k1 =>
   have H := HA.out
   clear HA
   simp only [R01Less.l0] at H
   have HC3 := Aside0.mk H
   clear H
   go_upto_region 2 with (fail)
   repeat (go_quiet (fail); go_upto_region 2 with (fail))
   go_cut [15] (fun v15 wc => ∃ (kq : Nat) (x15_2 : Bool), v15 = .bool x15_2 ∧ Aside0 (R01Less.j1 kq a0 a1 x5_1 x15_2 = some r) ∧ Aside0 (kq ≤ k1) ∧ Drawn0 w wc)
   case first =>
    have H := HC3.out
    clear HC3
    by_cases c4 : x5_1 < (a0.size : Int)
    ·
     rw [if_pos c4] at H
     have c4b0 := decide_eq_true c4
     clear c4
     (first | rw [c4b0] | (simp only [i64_w, i32_w]; rw [c4b0]) | skip)
     have H' := Aside0.mk H
     clear H
     go_wp2
     repeat (go_quiet (fail); try go_wp2)
     go_meet
     case rel => exact ⟨_, (decide (x5_1 < (a1.size : Int))), ap2, H', ⟨by have := HK1.out; first | omega | exact Nat.le_refl _⟩, by repeat (first | exact Drawn0.refl _ | apply Drawn0.step)⟩
    ·
     rw [if_neg c4] at H
     have c4b0 := decide_eq_false c4
     clear c4
     (first | rw [c4b0] | (simp only [i64_w, i32_w]; rw [c4b0]) | skip)
     have H' := Aside0.mk H
     clear H
     go_wp2
     repeat (go_quiet (fail); try go_wp2)
     go_meet
     case rel => exact ⟨_, (false), ap2, H', ⟨by have := HK1.out; first | omega | exact Nat.le_refl _⟩, by repeat (first | exact Drawn0.refl _ | apply Drawn0.step)⟩
   case rest =>
    clear HC3
    try clear c2
    try clear p2
    try clear c4
    try clear c4b0
    try clear p2
    obtain ⟨kq, x15_2, rfl, HA, HJ2, ⟨mc2, rfl⟩⟩ := hcut
    cases kq with
    | zero => exact absurd HA.out (by simp [R01Less.j1])
    | succ kj2 =>
     have H := HA.out
     clear HA
     simp only [R01Less.j1] at H
     by_cases c5 : x15_2 = true
     ·
      subst c5
      rw [if_pos rfl] at H
      by_cases c6 : 0 ≤ x5_1
      ·
       rw [if_pos c6] at H
       have c6b0 := decide_eq_true c6
       clear c6
       by_cases c7 : x5_1 < (a0.size : Int)
       ·
        rw [if_pos c7] at H
        have c7b0 := decide_eq_true c7
        clear c7
        by_cases c9 : x5_1 < (a1.size : Int)
        ·
         rw [if_pos c9] at H
         have c9b0 := decide_eq_true c9
         clear c9
         by_cases c11 : (bt a0 x5_1) < (bt a1 x5_1)
         ·
          rw [if_pos c11] at H
          have c11b0 := decide_eq_true c11
          clear c11
          obtain rfl := Option.some.inj H
          have p8 : 0 ≤ (x5_1 : Int) := of_decide_eq_true ap0
          have q8 : x5_1 < (a0.size : Int) := of_decide_eq_true ap0
          have hx8 := bt_at a0 x5_1
          replace p8 := eq_true p8
          replace q8 := eq_true q8
          have p10 : 0 ≤ (x5_1 : Int) := of_decide_eq_true ap0
          have q10 : x5_1 < (a1.size : Int) := of_decide_eq_true ap0
          have hx10 := bt_at a1 x5_1
          replace p10 := eq_true p10
          replace q10 := eq_true q10
          go_wp2
          repeat (go_quiet (fail); try go_wp2)
          go_ret
          exact ⟨ap2, ap7⟩
         ·
          rw [if_neg c11] at H
          have c11b0 := decide_eq_false c11
          clear c11
          by_cases c14 : (bt a0 x5_1) > (bt a1 x5_1)
          ·
           rw [if_pos c14] at H
           have c14b0 := decide_eq_true c14
           clear c14
           obtain rfl := Option.some.inj H
           have p8 : 0 ≤ (x5_1 : Int) := of_decide_eq_true ap0
           have q8 : x5_1 < (a0.size : Int) := of_decide_eq_true ap0
           have hx8 := bt_at a0 x5_1
           replace p8 := eq_true p8
           replace q8 := eq_true q8
           have p10 : 0 ≤ (x5_1 : Int) := of_decide_eq_true ap0
           have q10 : x5_1 < (a1.size : Int) := of_decide_eq_true ap0
           have hx10 := bt_at a1 x5_1
           replace p10 := eq_true p10
           replace q10 := eq_true q10
           have p12 : 0 ≤ (x5_1 : Int) := of_decide_eq_true ap0
           have q12 : x5_1 < (a0.size : Int) := of_decide_eq_true ap0
           have hx12 := bt_at a0 x5_1
           replace p12 := eq_true p12
           replace q12 := eq_true q12
           have p13 : 0 ≤ (x5_1 : Int) := of_decide_eq_true ap0
           have q13 : x5_1 < (a1.size : Int) := of_decide_eq_true ap0
           have hx13 := bt_at a1 x5_1
           replace p13 := eq_true p13
           replace q13 := eq_true q13
           go_wp2
           repeat (go_quiet (fail); try go_wp2)
           go_ret
           exact ⟨ap2, ap7⟩
          ·
           rw [if_neg c14] at H
           have c14b0 := decide_eq_false c14
           clear c14
           have H' := Aside0.mk H
           clear H
           have p8 : 0 ≤ (x5_1 : Int) := of_decide_eq_true ap0
           have q8 : x5_1 < (a0.size : Int) := of_decide_eq_true ap0
           have hx8 := bt_at a0 x5_1
           replace p8 := eq_true p8
           replace q8 := eq_true q8
           have p10 : 0 ≤ (x5_1 : Int) := of_decide_eq_true ap0
           have q10 : x5_1 < (a1.size : Int) := of_decide_eq_true ap0
           have hx10 := bt_at a1 x5_1
           replace p10 := eq_true p10
           replace q10 := eq_true q10
           have p12 : 0 ≤ (x5_1 : Int) := of_decide_eq_true ap0
           have q12 : x5_1 < (a0.size : Int) := of_decide_eq_true ap0
           have hx12 := bt_at a0 x5_1
           replace p12 := eq_true p12
           replace q12 := eq_true q12
           have p13 : 0 ≤ (x5_1 : Int) := of_decide_eq_true ap0
           have q13 : x5_1 < (a1.size : Int) := of_decide_eq_true ap0
           have hx13 := bt_at a1 x5_1
           replace p13 := eq_true p13
           replace q13 := eq_true q13
           go_wp2
           repeat (go_quiet (fail); try go_wp2)
           go_roundg kj2
           case measure => have := HK1.out; have := HJ2.out; omega
           case rel => exact ⟨(wrap64 (x5_1 + 1)), ap2, H', ⟨by have := HK1.out; have := HJ2.out; omega⟩, by repeat (first | exact Drawn0.refl _ | apply Drawn0.step)⟩
        ·
         rw [if_neg c9] at H
         exact absurd H (by simp)
       ·
        rw [if_neg c7] at H
        exact absurd H (by simp)
      ·
       rw [if_neg c6] at H
       exact absurd H (by simp)
     ·
      replace c5 := Bool.eq_false_iff.mpr c5
      subst c5
      rw [if_neg (show ¬ (false = true) by decide)] at H
      by_cases c15 : (a0.size : Int) < (a1.size : Int)
      ·
       rw [if_pos c15] at H
       have c15b0 := decide_eq_true c15
       have c15b1 : decide (a0.size < a1.size) = true := decide_eq_true (Int.ofNat_lt.mp c15)
       clear c15
       obtain rfl := Option.some.inj H
       go_wp2
       repeat (go_quiet (fail); try go_wp2)
       go_ret
       exact ⟨ap2, ap7⟩
      ·
       rw [if_neg c15] at H
       have c15b0 := decide_eq_false c15
       have c15b1 : decide (a0.size < a1.size) = false := decide_eq_false (fun h => c15 (Int.ofNat_lt.mpr h))
       clear c15
       by_cases c16 : (a0.size : Int) > (a1.size : Int)
       ·
        rw [if_pos c16] at H
        have c16b0 := decide_eq_true c16
        have c16b1 : decide (a1.size < a0.size) = true := decide_eq_true (Int.ofNat_lt.mp c16)
        clear c16
        obtain rfl := Option.some.inj H
        go_wp2
        repeat (go_quiet (fail); try go_wp2)
        go_ret
        exact ⟨ap2, ap7⟩
       ·
        rw [if_neg c16] at H
        have c16b0 := decide_eq_false c16
        have c16b1 : decide (a1.size < a0.size) = false := decide_eq_false (fun h => c16 (Int.ofNat_lt.mpr h))
        clear c16
        obtain rfl := Option.some.inj H
        go_wp2
        repeat (go_quiet (fail); try go_wp2)
        go_ret
        exact ⟨ap2, ap7⟩
mutual
def R01Tuple.l0 : Nat → List ByteArray → List Int → Int → Option (ByteArray × Int)
 | 0, _, _, _ => none
 | k + 1, x0, x4, x5 => if x5 < (x0.length : Int) then (R01Tuple.l1 k x0 x4 x5 0) else (if (x4.length : Int) > 4096 then (some ((⟨#[]⟩ : ByteArray), 5)) else (some (strOfNums x4, 0)))
def R01Tuple.l1 : Nat → List ByteArray → List Int → Int → Int → Option (ByteArray × Int)
 | 0, _, _, _, _ => none
 | k + 1, x0, x4, x5, x6 => if 0 ≤ x5 then (if x5 < (x0.length : Int) then (if x6 < ((rdOf ByteArray.empty x0 x5).size : Int) then (R01Tuple.j2 k x0 x4 x5 x6 (decide ((x4.length : Int) ≤ 4096))) else (R01Tuple.j2 k x0 x4 x5 x6 false)) else (none)) else (none)
def R01Tuple.j2 : Nat → List ByteArray → List Int → Int → Int → Bool → Option (ByteArray × Int)
 | 0, _, _, _, _, _ => none
 | k + 1, x0, x4, x5, x6, x28 => if x28 = true then (if 0 ≤ x5 then (if x5 < (x0.length : Int) then (if 0 ≤ x6 then (if x6 < ((rdOf ByteArray.empty x0 x5).size : Int) then (if x4.length < 140737488355328 then ((some (x4 ++ [bt (rdOf ByteArray.empty x0 x5) x6] : List Int)).bind fun y496 => (if (bt (rdOf ByteArray.empty x0 x5) x6) = 0 then (if y496.length < 140737488355328 then (R01Tuple.l1 k x0 (y496 ++ [255]) x5 (wrap64 (x6 + 1))) else (none)) else (R01Tuple.l1 k x0 y496 x5 (wrap64 (x6 + 1))))) else (none)) else (none)) else (none)) else (none)) else (none)) else ((some (([0, 1] : List Int) : List Int)).bind fun y503 => (if x4.length + y503.length < 140737488355328 then (R01Tuple.l0 k x0 (x4 ++ y503) (wrap64 (x5 + 1))) else (none)))
end
def R01Tuple.f (k : Nat) (l0 : List ByteArray) : Option (ByteArray × Int) := if (l0.length : Int) > 16 then (some ((⟨#[]⟩ : ByteArray), 1)) else (R01Tuple.l0 k l0 (([] : List Int)) 0)
set_option maxHeartbeats 8000000 in
set_option maxRecDepth 100000 in
theorem R01Tuple.calls (k : Nat) (A0 : Option Addr) (c0 : Nat) (l0 : List ByteArray) (r1 : ByteArray) (r2 : Int) (w : World) (hr0 : Kd.C Kd.string w A0 l0.length l0) (hc0 : l0.length ≤ c0) (h : R01Tuple.f k l0 = some (r1, r2)) :
  Calls Tryz.prog 24 #[.slice A0 l0.length c0] w fun e w' => e = .returned (.tuple #[.string r1, .int .i64 r2]) ∧ Below w.heap.size w w' := by
 have HR0 := Aside0.mk hr0
 have HC0 := Aside0.mk hc0
 clear hr0 hc0
 have HB := Aside0.mk (Below.refl w.heap.size w)
 have H : (if (l0.length : Int) > 16 then (some ((⟨#[]⟩ : ByteArray), 1)) else (R01Tuple.l0 k l0 (([] : List Int)) 0)) = some (r1, r2) := h
 clear h
 by_cases c2 : (l0.length : Int) > 16
 ·
  rw [if_pos c2] at H
  have c2b0 := decide_eq_true c2
  have c2b1 : decide (16 < l0.length) = true := decide_eq_true (by omega)
  clear c2
  simp only [Option.some.injEq, Prod.mk.injEq] at H
  obtain ⟨rfl, rfl⟩ := H
  go_enter Tryz.func24, Tryz.ntmps24
  go_wp2
  go_ret2
  exact ⟨by first | rfl | (simp [errW_none, errW_some, bne_nil8, beq_nil8]; done) | (simp [errW_none, errW_some] <;> rfl) | (simp [*, errW_none, errW_some] <;> rfl), by repeat (first | (with_reducible first | exact HB.out | apply below_alloc | apply pw_below_drewN | apply below_drew1) | exact HB.out)⟩
 ·
  rw [if_neg c2] at H
  have c2b0 := decide_eq_false c2
  have c2b1 : decide (16 < l0.length) = false := decide_eq_false (by omega)
  clear c2
  obtain ⟨y491, hy491⟩ : ∃ y_ : List Int, y_ = (([] : List Int)) := ⟨_, rfl⟩
  replace H : (R01Tuple.l0 k l0 y491 0) = some (r1, r2) := by first | (rw [hy491]; with_reducible exact H) | (have H2_ := (Option.bind_some _ _).symm.trans H; rw [hy491]; with_reducible exact H2_) | (have H2_ := (Option.bind_some _ _).symm.trans H; with_reducible exact H2_) | with_reducible exact H | (rw [hy491]; exact H) | exact H
  have Ny491 := Aside0.mk hy491
  clear hy491
  have H' := Aside0.mk H
  clear H
  go_enter Tryz.func24, Tryz.ntmps24
  go_wp2_with (first | ((with_reducible refine gate_dst (N := 10) rfl ?_); (try (refine gate_guard (by rfl) ?_; dsimp only)); refine Kd.R_lit (Kd.int .u8) _ 5 ?hg (N := 10) ?hd (xs := ([] : List Int)) (inner := []) (ok := fun _ => True) (okp := fun _ => True) ?hr ?hp (fun _ hk => hk) trivial (Below.refl _ _) (Nat.le_refl _) (by simp) ?_; (case hd => rfl); (case hg => rfl); (case hr => first | (go_simp; done) | (go_simp; rfl)); (case hp => exact (Reps.none _ _)); intro v492 w3 ho4 hb hg_ hnew_; clear hg_ hnew_; (first | rw [← Ny491.out] at ho4 | (simp only [Int.reduceToNat] at ho4; rw [← Ny491.out] at ho4)); have n0_ := Aside0.mk (Kd.R_lower ho4 (below_size ap1)); have n1_ := Aside0.mk (below_step ap1 hb); clear HB; have HO493 := n0_; have HB := n1_; clear n0_ n1_; clear hb ho4))
  go_loopg [4, 5] k (fun kq v4 v5 w' => ∃ (x4_1 : List Int) (x5_1 : Int), v5 = .int .i64 x5_1 ∧ Aside0 (R01Tuple.l0 kq l0 x4_1 x5_1 = some (r1, r2)) ∧ Aside0 (kq ≤ k) ∧ Aside0 (Kd.R (Kd.int .u8) 5 w' w.heap.size (fun _ => True) v4 x4_1) ∧ Aside0 (Below w.heap.size w w'))
  case atStart => exact ⟨(y491), (0), ap2, H', ⟨Nat.le_refl _⟩, ⟨by (with_reducible repeat (first | apply Kd.R_alloc | apply Kd.R_drewN | apply Kd.R_drew)); exact HO493.out⟩, ⟨by repeat (first | (with_reducible first | exact HB.out | apply below_alloc | apply pw_below_drewN | apply below_drew1) | exact HB.out)⟩⟩
  case round =>
   clear H'
   try clear c2
   try clear c2b0
   try clear c2b1
   try clear p2
   obtain ⟨x4_1, x5_1, rfl, HA, HK1, HO_4, HB⟩ := hrel
   cases gk with
   | zero => exact absurd HA.out (by simp [R01Tuple.l0])
   | succ k1 =>
    have H := HA.out
    clear HA
    simp only [R01Tuple.l0] at H
    by_cases c5 : x5_1 < (l0.length : Int)
    ·
     rw [if_pos c5] at H
     have c5b0 := decide_eq_true c5
     clear c5
     have H' := Aside0.mk H
     clear H
     go_wp2
     go_loopg [4, 6] k1 (fun kq v4 v6 w' => ∃ (x4_2 : List Int) (x6_2 : Int), v6 = .int .i64 x6_2 ∧ Aside0 (R01Tuple.l1 kq l0 x4_2 x5_1 x6_2 = some (r1, r2)) ∧ Aside0 (kq ≤ k1) ∧ Aside0 (Kd.R (Kd.int .u8) 5 w' w.heap.size (fun _ => True) v4 x4_2) ∧ Aside0 (Below w.heap.size w w'))
     case atStart => exact ⟨(x4_1), (0), ap2, H', ⟨Nat.le_refl _⟩, ⟨by (with_reducible repeat (first | apply Kd.R_alloc | apply Kd.R_drewN | apply Kd.R_drew)); exact HO_4.out⟩, ⟨by repeat (first | (with_reducible first | exact HB.out | apply below_alloc | apply pw_below_drewN | apply below_drew1) | exact HB.out)⟩⟩
     case round =>
      clear H'
      try clear c2
      try clear c2b0
      try clear c2b1
      try clear p2
      try clear c5
      try clear c5b0
      try clear p2
      obtain ⟨x4_2, x6_2, rfl, HA, HK2, HO_4, HB⟩ := hrel
      cases gk with
      | zero => exact absurd HA.out (by simp [R01Tuple.l1])
      | succ k2 =>
       have H := HA.out
       clear HA
       simp only [R01Tuple.l1] at H
       have HC6 := Aside0.mk H
       clear H
       go_upto_region 8 with (fail)
       go_cut [28] (fun v28 wc => ∃ (kq : Nat) (x28_5 : Bool), v28 = .bool x28_5 ∧ Aside0 (R01Tuple.j2 kq l0 x4_2 x5_1 x6_2 x28_5 = some (r1, r2)) ∧ Aside0 (kq ≤ k2) ∧ Aside0 (Kd.R (Kd.int .u8) 5 wc w.heap.size (fun _ => True) u4 x4_2) ∧ Aside0 (Below w.heap.size w wc))
       case first =>
        have H := HC6.out
        clear HC6
        by_cases c7 : 0 ≤ x5_1
        ·
         rw [if_pos c7] at H
         have c7b0 := decide_eq_true c7
         clear c7
         (first | rw [c7b0] | (simp only [i64_w, i32_w]; rw [c7b0]) | skip)
         by_cases c8 : x5_1 < (l0.length : Int)
         ·
          rw [if_pos c8] at H
          have c8b0 := decide_eq_true c8
          clear c8
          by_cases c9 : x6_2 < ((rdOf ByteArray.empty l0 x5_1).size : Int)
          ·
           rw [if_pos c9] at H
           have c9b0 := decide_eq_true c9
           clear c9
           have H' := Aside0.mk H
           clear H
           have p494 : 0 ≤ (x5_1 : Int) := of_decide_eq_true ap0
           have q494 : x5_1 < (l0.length : Int) := of_decide_eq_true ap0
           obtain ⟨ad494, e494, hx494_0⟩ := Kd.at_string HR0.out x5_1 p494 q494
           cases e494
           replace hx494_0 := (HB.out.cell (World.block_lt_of_cell? w _ hx494_0)).trans hx494_0
           replace p494 := eq_true p494
           replace q494 := eq_true q494
           obtain ⟨Ao10, co10, eo10⟩ := Kd.R_slice HO_4.out
           subst eo10
           go_wp2
           go_meet
           case rel => exact ⟨_, (decide ((x4_2.length : Int) ≤ 4096)), ap2, H', ⟨by have := HK1.out; have := HK2.out; first | omega | exact Nat.le_refl _⟩, ⟨by (with_reducible repeat (first | apply Kd.R_alloc | apply Kd.R_drewN | apply Kd.R_drew)); exact HO_4.out⟩, ⟨by repeat (first | (with_reducible first | exact HB.out | apply below_alloc | apply pw_below_drewN | apply below_drew1) | exact HB.out)⟩⟩
          ·
           rw [if_neg c9] at H
           have c9b0 := decide_eq_false c9
           clear c9
           have H' := Aside0.mk H
           clear H
           have p494 : 0 ≤ (x5_1 : Int) := of_decide_eq_true ap0
           have q494 : x5_1 < (l0.length : Int) := of_decide_eq_true ap0
           obtain ⟨ad494, e494, hx494_0⟩ := Kd.at_string HR0.out x5_1 p494 q494
           cases e494
           replace hx494_0 := (HB.out.cell (World.block_lt_of_cell? w _ hx494_0)).trans hx494_0
           replace p494 := eq_true p494
           replace q494 := eq_true q494
           go_wp2
           go_meet
           case rel => exact ⟨_, (false), ap2, H', ⟨by have := HK1.out; have := HK2.out; first | omega | exact Nat.le_refl _⟩, ⟨by (with_reducible repeat (first | apply Kd.R_alloc | apply Kd.R_drewN | apply Kd.R_drew)); exact HO_4.out⟩, ⟨by repeat (first | (with_reducible first | exact HB.out | apply below_alloc | apply pw_below_drewN | apply below_drew1) | exact HB.out)⟩⟩
         ·
          rw [if_neg c8] at H
          exact absurd H (by simp)
        ·
         rw [if_neg c7] at H
         exact absurd H (by simp)
       case rest =>
        clear HC6
        try clear c2
        try clear c2b0
        try clear c2b1
        try clear p2
        try clear p4
        try clear q4
        try clear hx4
        try clear c5
        try clear c5b0
        try clear c7
        try clear c7b0
        try clear c8
        try clear c8b0
        try clear c9
        try clear c9b0
        try clear hx494_0
        try clear p2
        try clear p494
        try clear q494
        obtain ⟨kq, x28_5, rfl, HA, HJ5, HO_4, HB⟩ := hcut
        cases kq with
        | zero => exact absurd HA.out (by simp [R01Tuple.j2])
        | succ kj5 =>
         have H := HA.out
         clear HA
         simp only [R01Tuple.j2] at H
         by_cases c11 : x28_5 = true
         ·
          subst c11
          rw [if_pos rfl] at H
          by_cases c12 : 0 ≤ x5_1
          ·
           rw [if_pos c12] at H
           have c12b0 := decide_eq_true c12
           clear c12
           by_cases c13 : x5_1 < (l0.length : Int)
           ·
            rw [if_pos c13] at H
            have c13b0 := decide_eq_true c13
            clear c13
            by_cases c14 : 0 ≤ x6_2
            ·
             rw [if_pos c14] at H
             have c14b0 := decide_eq_true c14
             clear c14
             by_cases c15 : x6_2 < ((rdOf ByteArray.empty l0 x5_1).size : Int)
             ·
              rw [if_pos c15] at H
              have c15b0 := decide_eq_true c15
              clear c15
              by_cases c17 : x4_2.length < 140737488355328
              ·
               rw [if_pos c17] at H
               have LMc17 := Aside0.mk c17
               clear c17
               obtain ⟨y496, hy496⟩ : ∃ y_ : List Int, y_ = (x4_2 ++ [bt (rdOf ByteArray.empty l0 x5_1) x6_2]) := ⟨_, rfl⟩
               replace H : (if (bt (rdOf ByteArray.empty l0 x5_1) x6_2) = 0 then (if y496.length < 140737488355328 then (R01Tuple.l1 kj5 l0 (y496 ++ [255]) x5_1 (wrap64 (x6_2 + 1))) else (none)) else (R01Tuple.l1 kj5 l0 y496 x5_1 (wrap64 (x6_2 + 1)))) = some (r1, r2) := by first | (rw [hy496]; with_reducible exact H) | (have H2_ := (Option.bind_some _ _).symm.trans H; rw [hy496]; with_reducible exact H2_) | (have H2_ := (Option.bind_some _ _).symm.trans H; with_reducible exact H2_) | with_reducible exact H | (rw [hy496]; exact H) | exact H
               have Ny496 := Aside0.mk hy496
               clear hy496
               by_cases c19 : (bt (rdOf ByteArray.empty l0 x5_1) x6_2) = 0
               ·
                rw [if_pos c19] at H
                have c19b0 : ((bt (rdOf ByteArray.empty l0 x5_1) x6_2) == 0) = true := beq_iff_eq.mpr c19
                have c19b1 : ((bt (rdOf ByteArray.empty l0 x5_1) x6_2) != 0) = false := bne_eq_false_iff_eq.mpr c19
                clear c19
                by_cases c20 : y496.length < 140737488355328
                ·
                 rw [if_pos c20] at H
                 have LMc20 := Aside0.mk c20
                 clear c20
                 obtain ⟨y500, hy500⟩ : ∃ y_ : List Int, y_ = (y496 ++ [255]) := ⟨_, rfl⟩
                 replace H : (R01Tuple.l1 kj5 l0 y500 x5_1 (wrap64 (x6_2 + 1))) = some (r1, r2) := by first | (rw [hy500]; with_reducible exact H) | (have H2_ := (Option.bind_some _ _).symm.trans H; rw [hy500]; with_reducible exact H2_) | (have H2_ := (Option.bind_some _ _).symm.trans H; with_reducible exact H2_) | with_reducible exact H | (rw [hy500]; exact H) | exact H
                 have Ny500 := Aside0.mk hy500
                 clear hy500
                 have H' := Aside0.mk H
                 clear H
                 have p495 : 0 ≤ (x5_1 : Int) := of_decide_eq_true ap0
                 have q495 : x5_1 < (l0.length : Int) := of_decide_eq_true ap0
                 obtain ⟨ad495, e495, hx495_0⟩ := Kd.at_string HR0.out x5_1 p495 q495
                 cases e495
                 replace hx495_0 := (HB.out.cell (World.block_lt_of_cell? w _ hx495_0)).trans hx495_0
                 replace p495 := eq_true p495
                 replace q495 := eq_true q495
                 have p16 : 0 ≤ (x6_2 : Int) := of_decide_eq_true ap0
                 have q16 : x6_2 < ((rdOf ByteArray.empty l0 x5_1).size : Int) := of_decide_eq_true ap0
                 have hx16 := bt_at (rdOf ByteArray.empty l0 x5_1) x6_2
                 replace p16 := eq_true p16
                 replace q16 := eq_true q16
                 go_wp2_with (first | ((with_reducible refine gate_builtin (b := .append) (xs := #[.tmp 31, .tmp 38]) rfl ?_); (try (refine gate_guard (by rfl) ?_; dsimp only)); at_builtin; refine Kd.R_append (Kd.int .u8) (w0 := w) w.heap.size rfl (.tmp 31) (.tmp 38) 61 5 (.int .u8 0) 1 rfl Tryz.underlying61 info5 rfl (by decide) (by omega) u4 x4_2 (bt (rdOf ByteArray.empty l0 x5_1) x6_2) [.int .u8 (bt (rdOf ByteArray.empty l0 x5_1) x6_2)] (fun _ => True) (fun _ => False) rfl rfl ?aP (fun _ hk => hk.elim) ?aF ?aO ?aB ?aS ?aL ?_; (case aP => exact rfl); (case aB => exact ap1); (case aF => exact (fun _ _ => trivial)); (case aO => exact (apAR HO_4.out)); (case aS => exact (below_size ap1)); (case aL => have := LMc17.out; omega); intro v497 w21 ho hb hg hat; rw [← Ny496.out] at ho; have n0_ := Aside0.mk (hb); have n1_ := Aside0.mk (ho); clear HB; clear HO_4; have HB := n0_; have HO498 := n1_; clear n0_ n1_; clear ho hb hg hat; have p499 : 0 ≤ (x5_1 : Int) := of_decide_eq_true ap0; have q499 : x5_1 < (l0.length : Int) := of_decide_eq_true ap0; obtain ⟨ad499, e499, hx499_0⟩ := Kd.at_string HR0.out x5_1 p499 q499; obtain rfl : ad495 = ad499 := (by injection e499); replace hx499_0 := (HB.out.cell (World.block_lt_of_cell? w _ hx499_0)).trans hx499_0; replace p499 := eq_true p499; replace q499 := eq_true q499; have p18 : 0 ≤ (x6_2 : Int) := of_decide_eq_true ap0; have q18 : x6_2 < ((rdOf ByteArray.empty l0 x5_1).size : Int) := of_decide_eq_true ap0; have hx18 := bt_at (rdOf ByteArray.empty l0 x5_1) x6_2; replace p18 := eq_true p18; replace q18 := eq_true q18) | ((with_reducible refine gate_builtin (b := .append) (xs := #[.tmp 47, .tmp 48]) rfl ?_); (try (refine gate_guard (by rfl) ?_; dsimp only)); at_builtin; refine Kd.R_append (Kd.int .u8) (w0 := w) w.heap.size rfl (.tmp 47) (.tmp 48) 61 5 (.int .u8 0) 1 rfl Tryz.underlying61 info5 rfl (by decide) (by omega) v497 y496 255 [.int .u8 255] (fun _ => True) (fun _ => False) rfl rfl ?aP (fun _ hk => hk.elim) ?aF ?aO ?aB ?aS ?aL ?_; (case aP => exact rfl); (case aB => exact ap1); (case aF => exact (fun _ _ => trivial)); (case aO => exact (apAR HO498.out)); (case aS => exact (below_size ap1)); (case aL => have := LMc20.out; omega); intro v501 w22 ho hb hg hat; rw [← Ny500.out] at ho; have n0_ := Aside0.mk (hb); have n1_ := Aside0.mk (ho); clear HB; clear HO498; have HB := n0_; have HO502 := n1_; clear n0_ n1_; clear ho hb hg hat))
                 go_roundg kj5
                 case measure => have := HK1.out; have := HK2.out; have := HJ5.out; omega
                 case rel => exact ⟨(y500), (wrap64 (x6_2 + 1)), ap2, H', ⟨by have := HK1.out; have := HK2.out; have := HJ5.out; omega⟩, ⟨by (with_reducible repeat (first | apply Kd.R_alloc | apply Kd.R_drewN | apply Kd.R_drew)); exact HO502.out⟩, ⟨by repeat (first | (with_reducible first | exact HB.out | apply below_alloc | apply pw_below_drewN | apply below_drew1) | exact HB.out)⟩⟩
                ·
                 rw [if_neg c20] at H
                 exact absurd H (by simp)
               ·
                rw [if_neg c19] at H
                have c19b0 : ((bt (rdOf ByteArray.empty l0 x5_1) x6_2) == 0) = false := beq_eq_false_iff_ne.mpr c19
                have c19b1 : ((bt (rdOf ByteArray.empty l0 x5_1) x6_2) != 0) = true := bne_iff_ne.mpr c19
                have H' := Aside0.mk H
                clear H
                have p495 : 0 ≤ (x5_1 : Int) := of_decide_eq_true ap0
                have q495 : x5_1 < (l0.length : Int) := of_decide_eq_true ap0
                obtain ⟨ad495, e495, hx495_0⟩ := Kd.at_string HR0.out x5_1 p495 q495
                cases e495
                replace hx495_0 := (HB.out.cell (World.block_lt_of_cell? w _ hx495_0)).trans hx495_0
                replace p495 := eq_true p495
                replace q495 := eq_true q495
                have p16 : 0 ≤ (x6_2 : Int) := of_decide_eq_true ap0
                have q16 : x6_2 < ((rdOf ByteArray.empty l0 x5_1).size : Int) := of_decide_eq_true ap0
                have hx16 := bt_at (rdOf ByteArray.empty l0 x5_1) x6_2
                replace p16 := eq_true p16
                replace q16 := eq_true q16
                go_wp2_with (first | ((with_reducible refine gate_builtin (b := .append) (xs := #[.tmp 31, .tmp 38]) rfl ?_); (try (refine gate_guard (by rfl) ?_; dsimp only)); at_builtin; refine Kd.R_append (Kd.int .u8) (w0 := w) w.heap.size rfl (.tmp 31) (.tmp 38) 61 5 (.int .u8 0) 1 rfl Tryz.underlying61 info5 rfl (by decide) (by omega) u4 x4_2 (bt (rdOf ByteArray.empty l0 x5_1) x6_2) [.int .u8 (bt (rdOf ByteArray.empty l0 x5_1) x6_2)] (fun _ => True) (fun _ => False) rfl rfl ?aP (fun _ hk => hk.elim) ?aF ?aO ?aB ?aS ?aL ?_; (case aP => exact rfl); (case aB => exact ap1); (case aF => exact (fun _ _ => trivial)); (case aO => exact (apAR HO_4.out)); (case aS => exact (below_size ap1)); (case aL => have := LMc17.out; omega); intro v497 w23 ho hb hg hat; rw [← Ny496.out] at ho; have n0_ := Aside0.mk (hb); have n1_ := Aside0.mk (ho); clear HB; clear HO_4; have HB := n0_; have HO498 := n1_; clear n0_ n1_; clear ho hb hg hat; have p499 : 0 ≤ (x5_1 : Int) := of_decide_eq_true ap0; have q499 : x5_1 < (l0.length : Int) := of_decide_eq_true ap0; obtain ⟨ad499, e499, hx499_0⟩ := Kd.at_string HR0.out x5_1 p499 q499; obtain rfl : ad495 = ad499 := (by injection e499); replace hx499_0 := (HB.out.cell (World.block_lt_of_cell? w _ hx499_0)).trans hx499_0; replace p499 := eq_true p499; replace q499 := eq_true q499; have p18 : 0 ≤ (x6_2 : Int) := of_decide_eq_true ap0; have q18 : x6_2 < ((rdOf ByteArray.empty l0 x5_1).size : Int) := of_decide_eq_true ap0; have hx18 := bt_at (rdOf ByteArray.empty l0 x5_1) x6_2; replace p18 := eq_true p18; replace q18 := eq_true q18))
                go_roundg kj5
                case measure => have := HK1.out; have := HK2.out; have := HJ5.out; omega
                case rel => exact ⟨(y496), (wrap64 (x6_2 + 1)), ap2, H', ⟨by have := HK1.out; have := HK2.out; have := HJ5.out; omega⟩, ⟨by (with_reducible repeat (first | apply Kd.R_alloc | apply Kd.R_drewN | apply Kd.R_drew)); exact HO498.out⟩, ⟨by repeat (first | (with_reducible first | exact HB.out | apply below_alloc | apply pw_below_drewN | apply below_drew1) | exact HB.out)⟩⟩
              ·
               rw [if_neg c17] at H
               exact absurd H (by simp)
             ·
              rw [if_neg c15] at H
              exact absurd H (by simp)
            ·
             rw [if_neg c14] at H
             exact absurd H (by simp)
           ·
            rw [if_neg c13] at H
            exact absurd H (by simp)
          ·
           rw [if_neg c12] at H
           exact absurd H (by simp)
         ·
          replace c11 := Bool.eq_false_iff.mpr c11
          subst c11
          rw [if_neg (show ¬ (false = true) by decide)] at H
          obtain ⟨y503, hy503⟩ : ∃ y_ : List Int, y_ = (([0, 1] : List Int)) := ⟨_, rfl⟩
          replace H : (if x4_2.length + y503.length < 140737488355328 then (R01Tuple.l0 kj5 l0 (x4_2 ++ y503) (wrap64 (x5_1 + 1))) else (none)) = some (r1, r2) := by first | (rw [hy503]; with_reducible exact H) | (have H2_ := (Option.bind_some _ _).symm.trans H; rw [hy503]; with_reducible exact H2_) | (have H2_ := (Option.bind_some _ _).symm.trans H; with_reducible exact H2_) | with_reducible exact H | (rw [hy503]; exact H) | exact H
          have Ny503 := Aside0.mk hy503
          clear hy503
          by_cases c24 : x4_2.length + y503.length < 140737488355328
          ·
           rw [if_pos c24] at H
           have LMc24 := Aside0.mk c24
           clear c24
           obtain ⟨y506, hy506⟩ : ∃ y_ : List Int, y_ = (x4_2 ++ y503) := ⟨_, rfl⟩
           replace H : (R01Tuple.l0 kj5 l0 y506 (wrap64 (x5_1 + 1))) = some (r1, r2) := by first | (rw [hy506]; with_reducible exact H) | (have H2_ := (Option.bind_some _ _).symm.trans H; rw [hy506]; with_reducible exact H2_) | (have H2_ := (Option.bind_some _ _).symm.trans H; with_reducible exact H2_) | with_reducible exact H | (rw [hy506]; exact H) | exact H
           have Ny506 := Aside0.mk hy506
           clear hy506
           have H' := Aside0.mk H
           clear H
           go_wp2_with (first | ((with_reducible refine gate_dst (N := 51) rfl ?_); (try (refine gate_guard (by rfl) ?_; dsimp only)); refine Kd.R_lit (Kd.int .u8) _ 5 ?hg (N := 51) ?hd (xs := ([0, 1] : List Int)) (inner := [.int .u8 0, .int .u8 1]) (ok := fun _ => True) (okp := fun _ => True) ?hr ?hp (fun _ hk => hk) trivial (Below.refl _ _) (Nat.le_refl _) (by simp) ?_; (case hd => rfl); (case hg => rfl); (case hr => first | (go_simp; done) | (go_simp; rfl)); (case hp => exact (Reps.one (show Kd.M (Kd.int .u8) _ _ _ 0 [.int .u8 0] from rfl) (Reps.one (show Kd.M (Kd.int .u8) _ _ _ 1 [.int .u8 1] from rfl) (Reps.none _ _)))); intro v504 w25 ho26 hb hg_ hnew_; clear hg_ hnew_; (first | rw [← Ny503.out] at ho26 | (simp only [Int.reduceToNat] at ho26; rw [← Ny503.out] at ho26)); have n0_ := Aside0.mk (Kd.R_elder' (apAR HO_4.out) (Kd.R_base ho26) hb); have n1_ := Aside0.mk (Kd.R_lower (Kd.R_new' ho26 (Kd.R_lt (apAR HO_4.out))) (below_size ap1)); have n2_ := Aside0.mk (below_step ap1 hb); clear HO_4; clear HB; have HO_4 := n0_; have HO505 := n1_; have HB := n2_; clear n0_ n1_ n2_; clear hb ho26; obtain ⟨Ao28, co28, eo28⟩ := Kd.R_slice HO505.out; subst eo28) | ((with_reducible refine gate_builtin (b := .append) (xs := #[.tmp 50, .tmp 51]) rfl ?_); (try (refine gate_guard (by rfl) ?_; dsimp only)); at_builtin; refine Kd.R_append_rows (Kd.int .u8) (w0 := w) w.heap.size rfl (.tmp 50) (.tmp 51) 61 5 (.int .u8 0) 1 rfl Tryz.underlying61 info5 rfl (by decide) (by omega) u4 x4_2 y503 _ _ _ (fun k_ => some k_ ≠ (.slice Ao28 y503.length co28 : Value).ownBlock) (fun _ => False) rfl rfl ?aO ?aR (fun _ _ h => h) (fun _ h => h.elim) ?aF ?aB ?aS ?aL ?_; (case aR => repeat (first | exact (Kd.R_reads' HO505.out).2.2 | (with_reducible refine Kd.C_alloc ?_ _) | (with_reducible refine Kd.C_drewN ?_ _) | (with_reducible refine Kd.C_drew ?_))); (case aB => exact ap1); (case aF => exact (fun k_ hk => Kd.fresh' (Kd.R_lt (apAR HO505.out)) k_ hk)); (case aO => exact (by (with_reducible repeat (first | apply Kd.R_alloc | apply Kd.R_drewN | apply Kd.R_drew)); exact Kd.R_mono HO_4.out (fun _ hk => hk.2))); (case aS => exact (below_size ap1)); (case aL => have := LMc24.out; omega); intro v507 w27 ho hb hg hat; rw [← Ny506.out] at ho; have n0_ := Aside0.mk (Kd.R_after (ok := (fun _ => True)) (apAR HO505.out) hg hat); have n1_ := Aside0.mk (hb); have n2_ := Aside0.mk (ho); clear HO505; clear HB; clear HO_4; have HO505 := n0_; have HB := n1_; have HO508 := n2_; clear n0_ n1_ n2_; clear ho hb hg hat))
           go_roundg kj5
           case measure => have := HK1.out; have := HK2.out; have := HJ5.out; omega
           case rel => exact ⟨(y506), (wrap64 (x5_1 + 1)), ap2, H', ⟨by have := HK1.out; have := HK2.out; have := HJ5.out; omega⟩, ⟨by (with_reducible repeat (first | apply Kd.R_alloc | apply Kd.R_drewN | apply Kd.R_drew)); exact Kd.R_mono HO508.out (fun _ hk => trivial)⟩, ⟨by repeat (first | (with_reducible first | exact HB.out | apply below_alloc | apply pw_below_drewN | apply below_drew1) | exact HB.out)⟩⟩
          ·
           rw [if_neg c24] at H
           exact absurd H (by simp)
    ·
     rw [if_neg c5] at H
     have c5b0 := decide_eq_false c5
     clear c5
     by_cases c29 : (x4_1.length : Int) > 4096
     ·
      rw [if_pos c29] at H
      have c29b0 := decide_eq_true c29
      have c29b1 : decide (4096 < x4_1.length) = true := decide_eq_true (by omega)
      clear c29
      simp only [Option.some.injEq, Prod.mk.injEq] at H
      obtain ⟨rfl, rfl⟩ := H
      obtain ⟨Ao30, co30, eo30⟩ := Kd.R_slice HO_4.out
      subst eo30
      go_wp2
      go_ret2
      exact ⟨by first | rfl | (simp [errW_none, errW_some, bne_nil8, beq_nil8]; done) | (simp [errW_none, errW_some] <;> rfl) | (simp [*, errW_none, errW_some] <;> rfl), by repeat (first | (with_reducible first | exact HB.out | apply below_alloc | apply pw_below_drewN | apply below_drew1) | exact HB.out)⟩
     ·
      rw [if_neg c29] at H
      have c29b0 := decide_eq_false c29
      have c29b1 : decide (4096 < x4_1.length) = false := decide_eq_false (by omega)
      clear c29
      simp only [Option.some.injEq, Prod.mk.injEq] at H
      obtain ⟨rfl, rfl⟩ := H
      obtain ⟨Ao31, co31, eo31⟩ := Kd.R_slice HO_4.out
      subst eo31
      have hcv32 := own_string (P := Tryz.prog) Tryz.underlying61 Tryz.underlying5 Tryz.underlying9 (Kd.own_of_R HO_4.out)
      go_wp2
      go_ret2
      exact ⟨by first | rfl | (simp [errW_none, errW_some, bne_nil8, beq_nil8]; done) | (simp [errW_none, errW_some] <;> rfl) | (simp [*, errW_none, errW_some] <;> rfl), by repeat (first | (with_reducible first | exact HB.out | apply below_alloc | apply pw_below_drewN | apply below_drew1) | exact HB.out)⟩
mutual
def R15Key.l0 : Nat → List (S40) → List ByteArray → Int → Option (ByteArray × Int)
 | 0, _, _, _ => none
 | k + 1, x0, x4, x5 => if x5 < (x0.length : Int) then (if 0 ≤ x5 then ((R13Ready.f k ((rd_T40 x0 x5).f1) true).bind fun bt514 => ((R01Tuple.f k (([(rd_T40 x0 x5).f0, bt514.1] : List ByteArray))).bind fun bt520 => (R15Key.l1 k x0 x4 x5 bt520.1 0))) else (none)) else (R15Key.l2 k x4 (⟨#[]⟩ : ByteArray) 0)
def R15Key.l1 : Nat → List (S40) → List ByteArray → Int → ByteArray → Int → Option (ByteArray × Int)
 | 0, _, _, _, _, _ => none
 | k + 1, x0, x4, x5, x8, x10 => if x10 < (x4.length : Int) then (if 0 ≤ x10 then ((R01Less.f k (rdOf ByteArray.empty x4 x10) x8).bind fun t523 => (if t523 < 0 then (R15Key.l1 k x0 x4 x5 x8 (wrap64 (x10 + 1))) else ((some (([] : List ByteArray) : List ByteArray)).bind fun y524 => (if x10 ≤ (x4.length : Int) then ((some (x4.take (x10 : Int).toNat : List ByteArray)).bind fun y527 => (if y524.length + y527.length < 8796093022208 then ((some (y524 ++ y527 : List ByteArray)).bind fun y531 => (if y531.length < 8796093022208 then ((some (y531 ++ [x8] : List ByteArray)).bind fun y534 => ((some (x4.drop (x10 : Int).toNat : List ByteArray)).bind fun y537 => (if y534.length + y537.length < 8796093022208 then (R15Key.l0 k x0 (y534 ++ y537) (wrap64 (x5 + 1))) else (none)))) else (none))) else (none))) else (none))))) else (none)) else ((some (([] : List ByteArray) : List ByteArray)).bind fun y544 => (if 0 ≤ x10 then (if x10 ≤ (x4.length : Int) then ((some (x4.take (x10 : Int).toNat : List ByteArray)).bind fun y547 => (if y544.length + y547.length < 8796093022208 then ((some (y544 ++ y547 : List ByteArray)).bind fun y551 => (if y551.length < 8796093022208 then ((some (y551 ++ [x8] : List ByteArray)).bind fun y554 => ((some (x4.drop (x10 : Int).toNat : List ByteArray)).bind fun y557 => (if y554.length + y557.length < 8796093022208 then (R15Key.l0 k x0 (y554 ++ y557) (wrap64 (x5 + 1))) else (none)))) else (none))) else (none))) else (none)) else (none)))
def R15Key.l2 : Nat → List ByteArray → ByteArray → Int → Option (ByteArray × Int)
 | 0, _, _, _ => none
 | k + 1, x4, x12, x13 => if x13 < (x4.length : Int) then (if 0 ≤ x13 then (if x12.size + (rdOf ByteArray.empty x4 x13).size ≤ 9223372036854775807 then (R15Key.l2 k x4 (x12 ++ (rdOf ByteArray.empty x4 x13)) (wrap64 (x13 + 1))) else (none)) else (none)) else (some (x12, 0))
end
def R15Key.f (k : Nat) (l0 : List (S40)) : Option (ByteArray × Int) := (R15Rdn.f k l0).bind fun t509 => (if t509 = true then (R15Key.l0 k l0 (([] : List ByteArray)) 0) else (some ((⟨#[]⟩ : ByteArray), 4)))
set_option maxHeartbeats 8000000 in
set_option maxRecDepth 100000 in
theorem R15Key.calls (k : Nat) (A0 : Option Addr) (c0 : Nat) (l0 : List (S40)) (r1 : ByteArray) (r2 : Int) (w : World) (hr0 : Kd.C k40 w A0 l0.length l0) (hc0 : l0.length ≤ c0) (h : R15Key.f k l0 = some (r1, r2)) :
  Calls Tryz.prog 15 #[.slice A0 l0.length c0] w fun e w' => e = .returned (.tuple #[.string r1, .int .i64 r2]) ∧ Below w.heap.size w w' := by
 have HR0 := Aside0.mk hr0
 have HC0 := Aside0.mk hc0
 clear hr0 hc0
 have HB := Aside0.mk (Below.refl w.heap.size w)
 have H : ((R15Rdn.f k l0).bind fun t509 => (if t509 = true then (R15Key.l0 k l0 (([] : List ByteArray)) 0) else (some ((⟨#[]⟩ : ByteArray), 4)))) = some (r1, r2) := h
 clear h
 replace H := Option.bind_eq_some_iff.mp H
 obtain ⟨t509, A20, H⟩ := H
 replace H : (if t509 = true then (R15Key.l0 k l0 (([] : List ByteArray)) 0) else (some ((⟨#[]⟩ : ByteArray), 4))) = some (r1, r2) := H
 have A2 := Aside0.mk A20
 clear A20
 by_cases c3 : t509 = true
 ·
  subst c3
  rw [if_pos rfl] at H
  obtain ⟨y510, hy510⟩ : ∃ y_ : List ByteArray, y_ = (([] : List ByteArray)) := ⟨_, rfl⟩
  replace H : (R15Key.l0 k l0 y510 0) = some (r1, r2) := by first | (rw [hy510]; with_reducible exact H) | (have H2_ := (Option.bind_some _ _).symm.trans H; rw [hy510]; with_reducible exact H2_) | (have H2_ := (Option.bind_some _ _).symm.trans H; with_reducible exact H2_) | with_reducible exact H | (rw [hy510]; exact H) | exact H
  have Ny510 := Aside0.mk hy510
  clear hy510
  have H' := Aside0.mk H
  clear H
  go_enter Tryz.func15, Tryz.ntmps15
  go_wp2_with (first | ((with_reducible refine gate_callee (f := 18) rfl ?_); refine goesL_ (some 15) rfl rfl Tryz.func18 (by kernel_rfl) rfl #[.slice A0 l0.length c0] rfl ap3 ?_; (with_reducible refine (R15Rdn.calls k _ _ l0 true _ ?side1 ?side2 A2.out).mono ?_); (case side1 => repeat (first | exact HR0.out | (with_reducible refine Kd.C_alloc ?_ _) | (with_reducible refine Kd.C_drewN ?_ _) | (with_reducible refine Kd.C_drew ?_))); (case side2 => exact HC0.out); rintro e w4 ⟨rfl, hb⟩; refine ⟨_, rfl, ?_⟩; have n0_ := Aside0.mk (below_step ap1 hb); clear HB; have HB := n0_; clear n0_; (try clear hb); (try clear hb2); (try clear hk); (try clear hi)) | ((with_reducible refine gate_dst (N := 17) rfl ?_); refine Kd.R_lit Kd.string _ 9 ?hg (N := 17) ?hd (xs := ([] : List ByteArray)) (inner := []) (ok := fun _ => True) (okp := fun _ => True) ?hr ?hp (fun _ hk => hk) trivial (Below.refl _ _) (Nat.le_refl _) (by simp) ?_; (case hd => rfl); (case hg => rfl); (case hr => first | (go_simp; done) | (go_simp; rfl)); (case hp => exact (Reps.none _ _)); intro v511 w5 ho6 hb hg_ hnew_; clear hg_ hnew_; (first | rw [← Ny510.out] at ho6 | (simp only [Int.reduceToNat] at ho6; rw [← Ny510.out] at ho6)); have n0_ := Aside0.mk (Kd.R_lower ho6 (below_size ap1)); have n1_ := Aside0.mk (below_step ap1 hb); clear HB; have HO512 := n0_; have HB := n1_; clear n0_ n1_; clear hb ho6))
  go_loopg [4, 5] k (fun kq v4 v5 w' => ∃ (x4_1 : List ByteArray) (x5_1 : Int), v5 = .int .i64 x5_1 ∧ Aside0 (R15Key.l0 kq l0 x4_1 x5_1 = some (r1, r2)) ∧ Aside0 (kq ≤ k) ∧ Aside0 (Kd.R Kd.string 9 w' w.heap.size (fun _ => True) v4 x4_1) ∧ Aside0 (Below w.heap.size w w'))
  case atStart => exact ⟨(y510), (0), ap2, H', ⟨Nat.le_refl _⟩, ⟨by (with_reducible repeat (first | apply Kd.R_alloc | apply Kd.R_drewN | apply Kd.R_drew)); exact HO512.out⟩, ⟨by repeat (first | (with_reducible first | exact HB.out | apply below_alloc | apply pw_below_drewN | apply below_drew1) | exact HB.out)⟩⟩
  case round =>
   clear H'
   try clear c1
   try clear p2
   try clear c3
   obtain ⟨x4_1, x5_1, rfl, HA, HK1, HO_4, HB⟩ := hrel
   cases gk with
   | zero => exact absurd HA.out (by simp [R15Key.l0])
   | succ k1 =>
    have H := HA.out
    clear HA
    simp only [R15Key.l0] at H
    by_cases c7 : x5_1 < (l0.length : Int)
    ·
     rw [if_pos c7] at H
     have c7b0 := decide_eq_true c7
     clear c7
     by_cases c8 : 0 ≤ x5_1
     ·
      rw [if_pos c8] at H
      have c8b0 := decide_eq_true c8
      clear c8
      replace H := Option.bind_eq_some_iff.mp H
      obtain ⟨⟨t514, t515⟩, A90, H⟩ := H
      replace H : ((R01Tuple.f k1 (([(rd_T40 l0 x5_1).f0, t514] : List ByteArray))).bind fun bt520 => (R15Key.l1 k1 l0 x4_1 x5_1 bt520.1 0)) = some (r1, r2) := H
      have A9 := Aside0.mk A90
      clear A90
      obtain ⟨y517, hy517⟩ : ∃ y_ : List ByteArray, y_ = (([(rd_T40 l0 x5_1).f0, t514] : List ByteArray)) := ⟨_, rfl⟩
      replace H : ((R01Tuple.f k1 y517).bind fun bt520 => (R15Key.l1 k1 l0 x4_1 x5_1 bt520.1 0)) = some (r1, r2) := by first | (rw [hy517]; with_reducible exact H) | (have H2_ := (Option.bind_some _ _).symm.trans H; rw [hy517]; with_reducible exact H2_) | (have H2_ := (Option.bind_some _ _).symm.trans H; with_reducible exact H2_) | with_reducible exact H | (rw [hy517]; exact H) | exact H
      have Ny517 := Aside0.mk hy517
      clear hy517
      replace H := Option.bind_eq_some_iff.mp H
      obtain ⟨⟨t520, t521⟩, A100, H⟩ := H
      replace H : (R15Key.l1 k1 l0 x4_1 x5_1 t520 0) = some (r1, r2) := H
      have A10 := Aside0.mk A100
      clear A100
      have H' := Aside0.mk H
      clear H
      have p513 : 0 ≤ (x5_1 : Int) := of_decide_eq_true ap0
      have q513 : x5_1 < (l0.length : Int) := of_decide_eq_true ap0
      obtain ⟨ad513, e513, hx513_0, hx513_1⟩ := at_T40 HR0.out x5_1 p513 q513
      cases e513
      replace hx513_0 := (HB.out.cell (World.block_lt_of_cell? w _ hx513_0)).trans hx513_0
      replace hx513_1 := (HB.out.cell (World.block_lt_of_cell? w _ hx513_1)).trans hx513_1
      replace p513 := eq_true p513
      replace q513 := eq_true q513
      go_wp2_with (first | ((with_reducible refine gate_callee (f := 23) rfl ?_); refine goesL_ (some 30) rfl rfl Tryz.func23 (by kernel_rfl) rfl #[.string ((rd_T40 l0 x5_1).f1), .bool true] rfl ap3 ?_; (with_reducible refine (R13Ready.calls k1 ((rd_T40 l0 x5_1).f1) true t514 t515 _ A9.out).mono ?_); rintro e w11 ⟨rfl, hb⟩; refine ⟨_, rfl, ?_⟩; have n0_ := Aside0.mk (Kd.R_below (apAR HO_4.out) hb); have n1_ := Aside0.mk (below_step ap1 hb); clear HO_4; clear HB; have HO_4 := n0_; have HB := n1_; clear n0_ n1_; (try clear hb); (try clear hb2); (try clear hk); (try clear hi); have p516 : 0 ≤ (x5_1 : Int) := of_decide_eq_true ap0; have q516 : x5_1 < (l0.length : Int) := of_decide_eq_true ap0; obtain ⟨ad516, e516, hx516_0, hx516_1⟩ := at_T40 HR0.out x5_1 p516 q516; obtain rfl : ad513 = ad516 := (by injection e516); replace hx516_0 := (HB.out.cell (World.block_lt_of_cell? w _ hx516_0)).trans hx516_0; replace hx516_1 := (HB.out.cell (World.block_lt_of_cell? w _ hx516_1)).trans hx516_1; replace p516 := eq_true p516; replace q516 := eq_true q516) | ((with_reducible refine gate_dst (N := 40) rfl ?_); refine Kd.R_lit Kd.string _ 9 ?hg (N := 40) ?hd (xs := ([(rd_T40 l0 x5_1).f0, t514] : List ByteArray)) (inner := [.string ((rd_T40 l0 x5_1).f0), .string t514]) (ok := fun _ => True) (okp := fun _ => True) ?hr ?hp (fun _ hk => hk) trivial (Below.refl _ _) (Nat.le_refl _) (by simp) ?_; (case hd => rfl); (case hg => rfl); (case hr => first | (go_simp; done) | (go_simp; rfl)); (case hp => exact (Reps.one (show Kd.M Kd.string _ _ _ ((rd_T40 l0 x5_1).f0) [.string ((rd_T40 l0 x5_1).f0)] from rfl) (Reps.one (show Kd.M Kd.string _ _ _ t514 [.string t514] from rfl) (Reps.none _ _)))); intro v518 w12 ho13 hb hg_ hnew_; clear hg_ hnew_; (first | rw [← Ny517.out] at ho13 | (simp only [Int.reduceToNat] at ho13; rw [← Ny517.out] at ho13)); have n0_ := Aside0.mk (Kd.R_elder' (apAR HO_4.out) (Kd.R_base ho13) hb); have n1_ := Aside0.mk (Kd.R_lower (Kd.R_new' ho13 (Kd.R_lt (apAR HO_4.out))) (below_size ap1)); have n2_ := Aside0.mk (below_step ap1 hb); clear HO_4; clear HB; have HO_4 := n0_; have HO519 := n1_; have HB := n2_; clear n0_ n1_ n2_; clear hb ho13; obtain ⟨Ao14, co14, eo14⟩ := Kd.R_slice HO519.out; subst eo14) | ((with_reducible refine gate_callee (f := 24) rfl ?_); refine goesL_ (some 41) rfl rfl Tryz.func24 (by kernel_rfl) rfl #[.slice Ao14 y517.length co14] rfl ap3 ?_; (with_reducible refine (R01Tuple.calls k1 _ _ y517 t520 t521 _ ?side1 ?side2 A10.out).mono ?_); (case side1 => repeat (first | exact (Kd.R_reads' HO519.out).2.2 | (with_reducible refine Kd.C_alloc ?_ _) | (with_reducible refine Kd.C_drewN ?_ _) | (with_reducible refine Kd.C_drew ?_))); (case side2 => exact (Kd.R_reads' HO519.out).2.1); rintro e w15 ⟨rfl, hb⟩; refine ⟨_, rfl, ?_⟩; have n0_ := Aside0.mk (Kd.R_below (apAR HO_4.out) hb); have n1_ := Aside0.mk (Kd.R_below (apAR HO519.out) hb); have n2_ := Aside0.mk (below_step ap1 hb); clear HO_4; clear HO519; clear HB; have HO_4 := n0_; have HO519 := n1_; have HB := n2_; clear n0_ n1_ n2_; (try clear hb); (try clear hb2); (try clear hk); (try clear hi)))
      go_loopg [10] k1 (fun kq v10 w' => ∃ (x10_2 : Int), v10 = .int .i64 x10_2 ∧ Aside0 (R15Key.l1 kq l0 x4_1 x5_1 t520 x10_2 = some (r1, r2)) ∧ Aside0 (kq ≤ k1) ∧ Aside0 (Kd.R Kd.string 9 w' w.heap.size (fun _ => True) u4 x4_1) ∧ Aside0 (Below w.heap.size w w'))
      case atStart => exact ⟨(0), ap2, H', ⟨Nat.le_refl _⟩, ⟨by (with_reducible repeat (first | apply Kd.R_alloc | apply Kd.R_drewN | apply Kd.R_drew)); exact Kd.R_mono HO_4.out (fun _ hk => trivial)⟩, ⟨by repeat (first | (with_reducible first | exact HB.out | apply below_alloc | apply pw_below_drewN | apply below_drew1) | exact HB.out)⟩⟩
      case round =>
       clear H'
       try clear c1
       try clear c2
       try clear p2
       try clear c3
       try clear p5
       try clear q5
       try clear hx5
       try clear c7
       try clear c7b0
       try clear c8
       try clear c8b0
       try clear c15
       try clear hx513_0
       try clear hx513_1
       try clear hx516_0
       try clear hx516_1
       try clear p2
       try clear p513
       try clear p516
       try clear q513
       try clear q516
       obtain ⟨x10_2, rfl, HA, HK2, HO_4, HB⟩ := hrel
       cases gk with
       | zero => exact absurd HA.out (by simp [R15Key.l1])
       | succ k2 =>
        have H := HA.out
        clear HA
        simp only [R15Key.l1] at H
        by_cases c16 : x10_2 < (x4_1.length : Int)
        ·
         rw [if_pos c16] at H
         have c16b0 := decide_eq_true c16
         clear c16
         by_cases c17 : 0 ≤ x10_2
         ·
          rw [if_pos c17] at H
          have c17b0 := decide_eq_true c17
          clear c17
          replace H := Option.bind_eq_some_iff.mp H
          obtain ⟨t523, A180, H⟩ := H
          replace H : (if t523 < 0 then (R15Key.l1 k2 l0 x4_1 x5_1 t520 (wrap64 (x10_2 + 1))) else ((some (([] : List ByteArray) : List ByteArray)).bind fun y524 => (if x10_2 ≤ (x4_1.length : Int) then ((some (x4_1.take (x10_2 : Int).toNat : List ByteArray)).bind fun y527 => (if y524.length + y527.length < 8796093022208 then ((some (y524 ++ y527 : List ByteArray)).bind fun y531 => (if y531.length < 8796093022208 then ((some (y531 ++ [t520] : List ByteArray)).bind fun y534 => ((some (x4_1.drop (x10_2 : Int).toNat : List ByteArray)).bind fun y537 => (if y534.length + y537.length < 8796093022208 then (R15Key.l0 k2 l0 (y534 ++ y537) (wrap64 (x5_1 + 1))) else (none)))) else (none))) else (none))) else (none)))) = some (r1, r2) := H
          have A18 := Aside0.mk A180
          clear A180
          by_cases c19 : t523 < 0
          ·
           rw [if_pos c19] at H
           have c19b0 := decide_eq_true c19
           clear c19
           have H' := Aside0.mk H
           clear H
           obtain ⟨Ao20, co20, eo20⟩ := Kd.R_slice HO_4.out
           subst eo20
           have p522 : 0 ≤ (x10_2 : Int) := of_decide_eq_true ap0
           have q522 : x10_2 < (x4_1.length : Int) := of_decide_eq_true ap0
           obtain ⟨ad522, e522, hx522_0⟩ := Kd.at_string (Kd.R_reads' HO_4.out).2.2 x10_2 p522 q522
           cases e522
           replace p522 := eq_true p522
           replace q522 := eq_true q522
           go_wp2_with (first | (go_at_call 25; (with_reducible refine (R01Less.calls k2 (rdOf ByteArray.empty x4_1 x10_2) t520 t523 _ A18.out).mono ?_); rintro e w' ⟨rfl, ⟨nd, rfl⟩⟩))
           go_roundg k2
           case measure => have := HK1.out; have := HK2.out; omega
           case rel => exact ⟨(wrap64 (x10_2 + 1)), ap2, H', ⟨by have := HK1.out; have := HK2.out; omega⟩, ⟨by (with_reducible repeat (first | apply Kd.R_alloc | apply Kd.R_drewN | apply Kd.R_drew)); exact HO_4.out⟩, ⟨by repeat (first | (with_reducible first | exact HB.out | apply below_alloc | apply pw_below_drewN | apply below_drew1) | exact HB.out)⟩⟩
          ·
           rw [if_neg c19] at H
           have c19b0 := decide_eq_false c19
           clear c19
           obtain ⟨y524, hy524⟩ : ∃ y_ : List ByteArray, y_ = (([] : List ByteArray)) := ⟨_, rfl⟩
           replace H : (if x10_2 ≤ (x4_1.length : Int) then ((some (x4_1.take (x10_2 : Int).toNat : List ByteArray)).bind fun y527 => (if y524.length + y527.length < 8796093022208 then ((some (y524 ++ y527 : List ByteArray)).bind fun y531 => (if y531.length < 8796093022208 then ((some (y531 ++ [t520] : List ByteArray)).bind fun y534 => ((some (x4_1.drop (x10_2 : Int).toNat : List ByteArray)).bind fun y537 => (if y534.length + y537.length < 8796093022208 then (R15Key.l0 k2 l0 (y534 ++ y537) (wrap64 (x5_1 + 1))) else (none)))) else (none))) else (none))) else (none)) = some (r1, r2) := by first | (rw [hy524]; with_reducible exact H) | (have H2_ := (Option.bind_some _ _).symm.trans H; rw [hy524]; with_reducible exact H2_) | (have H2_ := (Option.bind_some _ _).symm.trans H; with_reducible exact H2_) | with_reducible exact H | (rw [hy524]; exact H) | exact H
           have Ny524 := Aside0.mk hy524
           clear hy524
           have c21b0 := eq_true (of_decide_eq_true ap0 : 0 ≤ x10_2)
           by_cases c22 : x10_2 ≤ (x4_1.length : Int)
           ·
            rw [if_pos c22] at H
            have c22b0 := eq_true c22
            have c22b1 := decide_eq_true c22
            clear c22
            obtain ⟨y527, hy527⟩ : ∃ y_ : List ByteArray, y_ = (x4_1.take (x10_2 : Int).toNat) := ⟨_, rfl⟩
            replace H : (if y524.length + y527.length < 8796093022208 then ((some (y524 ++ y527 : List ByteArray)).bind fun y531 => (if y531.length < 8796093022208 then ((some (y531 ++ [t520] : List ByteArray)).bind fun y534 => ((some (x4_1.drop (x10_2 : Int).toNat : List ByteArray)).bind fun y537 => (if y534.length + y537.length < 8796093022208 then (R15Key.l0 k2 l0 (y534 ++ y537) (wrap64 (x5_1 + 1))) else (none)))) else (none))) else (none)) = some (r1, r2) := by first | (rw [hy527]; with_reducible exact H) | (have H2_ := (Option.bind_some _ _).symm.trans H; rw [hy527]; with_reducible exact H2_) | (have H2_ := (Option.bind_some _ _).symm.trans H; with_reducible exact H2_) | with_reducible exact H | (rw [hy527]; exact H) | exact H
            have Ny527 := Aside0.mk hy527
            clear hy527
            by_cases c23 : y524.length + y527.length < 8796093022208
            ·
             rw [if_pos c23] at H
             have LMc23 := Aside0.mk c23
             clear c23
             obtain ⟨y531, hy531⟩ : ∃ y_ : List ByteArray, y_ = (y524 ++ y527) := ⟨_, rfl⟩
             replace H : (if y531.length < 8796093022208 then ((some (y531 ++ [t520] : List ByteArray)).bind fun y534 => ((some (x4_1.drop (x10_2 : Int).toNat : List ByteArray)).bind fun y537 => (if y534.length + y537.length < 8796093022208 then (R15Key.l0 k2 l0 (y534 ++ y537) (wrap64 (x5_1 + 1))) else (none)))) else (none)) = some (r1, r2) := by first | (rw [hy531]; with_reducible exact H) | (have H2_ := (Option.bind_some _ _).symm.trans H; rw [hy531]; with_reducible exact H2_) | (have H2_ := (Option.bind_some _ _).symm.trans H; with_reducible exact H2_) | with_reducible exact H | (rw [hy531]; exact H) | exact H
             have Ny531 := Aside0.mk hy531
             clear hy531
             by_cases c24 : y531.length < 8796093022208
             ·
              rw [if_pos c24] at H
              have LMc24 := Aside0.mk c24
              clear c24
              obtain ⟨y534, hy534⟩ : ∃ y_ : List ByteArray, y_ = (y531 ++ [t520]) := ⟨_, rfl⟩
              replace H : ((some (x4_1.drop (x10_2 : Int).toNat : List ByteArray)).bind fun y537 => (if y534.length + y537.length < 8796093022208 then (R15Key.l0 k2 l0 (y534 ++ y537) (wrap64 (x5_1 + 1))) else (none))) = some (r1, r2) := by first | (rw [hy534]; with_reducible exact H) | (have H2_ := (Option.bind_some _ _).symm.trans H; rw [hy534]; with_reducible exact H2_) | (have H2_ := (Option.bind_some _ _).symm.trans H; with_reducible exact H2_) | with_reducible exact H | (rw [hy534]; exact H) | exact H
              have Ny534 := Aside0.mk hy534
              clear hy534
              have c25b0 := eq_true (of_decide_eq_true ap0 : 0 ≤ x10_2)
              have c26b0 := eq_true (of_decide_eq_true ap0 : x10_2 ≤ (x4_1.length : Int))
              obtain ⟨y537, hy537⟩ : ∃ y_ : List ByteArray, y_ = (x4_1.drop (x10_2 : Int).toNat) := ⟨_, rfl⟩
              replace H : (if y534.length + y537.length < 8796093022208 then (R15Key.l0 k2 l0 (y534 ++ y537) (wrap64 (x5_1 + 1))) else (none)) = some (r1, r2) := by first | (rw [hy537]; with_reducible exact H) | (have H2_ := (Option.bind_some _ _).symm.trans H; rw [hy537]; with_reducible exact H2_) | (have H2_ := (Option.bind_some _ _).symm.trans H; with_reducible exact H2_) | with_reducible exact H | (rw [hy537]; exact H) | exact H
              have Ny537 := Aside0.mk hy537
              clear hy537
              by_cases c27 : y534.length + y537.length < 8796093022208
              ·
               rw [if_pos c27] at H
               have LMc27 := Aside0.mk c27
               clear c27
               obtain ⟨y541, hy541⟩ : ∃ y_ : List ByteArray, y_ = (y534 ++ y537) := ⟨_, rfl⟩
               replace H : (R15Key.l0 k2 l0 y541 (wrap64 (x5_1 + 1))) = some (r1, r2) := by first | (rw [hy541]; with_reducible exact H) | (have H2_ := (Option.bind_some _ _).symm.trans H; rw [hy541]; with_reducible exact H2_) | (have H2_ := (Option.bind_some _ _).symm.trans H; with_reducible exact H2_) | with_reducible exact H | (rw [hy541]; exact H) | exact H
               have Ny541 := Aside0.mk hy541
               clear hy541
               have H' := Aside0.mk H
               clear H
               obtain ⟨Ao28, co28, eo28⟩ := Kd.R_slice HO_4.out
               subst eo28
               have p522 : 0 ≤ (x10_2 : Int) := of_decide_eq_true ap0
               have q522 : x10_2 < (x4_1.length : Int) := of_decide_eq_true ap0
               obtain ⟨ad522, e522, hx522_0⟩ := Kd.at_string (Kd.R_reads' HO_4.out).2.2 x10_2 p522 q522
               cases e522
               replace p522 := eq_true p522
               replace q522 := eq_true q522
               go_wp2_with (first | (go_at_call 25; (with_reducible refine (R01Less.calls k2 (rdOf ByteArray.empty x4_1 x10_2) t520 t523 _ A18.out).mono ?_); rintro e w' ⟨rfl, ⟨nd, rfl⟩⟩) | ((with_reducible refine gate_dst (N := 59) rfl ?_); refine Kd.R_lit Kd.string _ 9 ?hg (N := 59) ?hd (xs := ([] : List ByteArray)) (inner := []) (ok := fun _ => True) (okp := fun _ => True) ?hr ?hp (fun _ hk => hk) trivial (Below.refl _ _) (Nat.le_refl _) (by simp) ?_; (case hd => rfl); (case hg => rfl); (case hr => first | (go_simp; done) | (go_simp; rfl)); (case hp => exact (Reps.none _ _)); intro v525 w29 ho30 hb hg_ hnew_; clear hg_ hnew_; (first | rw [← Ny524.out] at ho30 | (simp only [Int.reduceToNat] at ho30; rw [← Ny524.out] at ho30)); have n0_ := Aside0.mk (Kd.R_elder' (apAR HO_4.out) (Kd.R_base ho30) hb); have n1_ := Aside0.mk (Kd.R_lower (Kd.R_new' ho30 (Kd.R_lt (apAR HO_4.out))) (below_size ap1)); have n2_ := Aside0.mk (below_step ap1 hb); clear HO_4; clear HB; have HO_4 := n0_; have HO526 := n1_; have HB := n2_; clear n0_ n1_ n2_; clear hb ho30; have q31 : (x10_2 : Int) ≤ ((x4_1.length : Int) : Int) := of_decide_eq_true ap0; obtain ⟨i031, hi031, _, hsz31, _⟩ := info_parts info9; have hroom31 : x4_1.length ≤ co28 := (Kd.R_reads' HO_4.out).2.1; have hC31 : Kd.C Kd.string _ (some ad522) x4_1.length x4_1 := (Kd.R_reads' HO_4.out).2.2; have hcut31 := cut_to (P := Tryz.prog) 28 9 .i64 Tryz.underlying28 hi031 (some ad522) x4_1.length co28 x10_2 (of_decide_eq_true ap0) q31 hroom31; have hr31 := Kd.C_take (m := (x10_2 : Int).toNat) hC31 (by omega); have hy31 : y527.length = (x10_2 : Int).toNat := (by rw [Ny527.out, List.length_take]; omega); rw [← Ny527.out] at hr31; rw [← hy31] at hcut31; have HR530 := Aside0.mk hr31; have HC530 := Aside0.mk (show y527.length ≤ co28 from by omega); clear hr31 hC31 hroom31 hi031 hsz31; have KY31 := Aside0.mk hy31; clear hy31; have KL31 := Aside0.mk (show (x10_2 : Int).toNat ≤ x4_1.length from by omega); replace q31 := eq_true q31) | ((with_reducible refine gate_builtin (b := .append) (xs := #[.tmp 60, .tmp 63]) rfl ?_); at_builtin; refine Kd.R_append_rows Kd.string (w0 := w) w.heap.size rfl (.tmp 60) (.tmp 63) 28 9 (.string ⟨#[]⟩) 16 rfl Tryz.underlying28 info9 rfl (by decide) (by omega) v525 y524 y527 _ _ _ (fun k_ => some k_ ≠ (.slice (some ad522) x4_1.length co28 : Value).ownBlock) (fun _ => False) rfl rfl ?aO ?aR (fun _ _ h => h) (fun _ h => h.elim) ?aF ?aB ?aS ?aL ?_; (case aR => repeat (first | exact (apC HR530.out) | (with_reducible refine Kd.C_alloc ?_ _) | (with_reducible refine Kd.C_drewN ?_ _) | (with_reducible refine Kd.C_drew ?_))); (case aB => exact ap1); (case aF => exact (fun k_ hk => Kd.fresh' (Kd.R_lt (apAR HO_4.out)) k_ hk)); (case aO => exact (by (with_reducible repeat (first | apply Kd.R_alloc | apply Kd.R_drewN | apply Kd.R_drew)); exact Kd.R_mono HO526.out (fun _ hk => hk.2))); (case aS => exact (below_size ap1)); (case aL => have := LMc23.out; omega); intro v532 w32 ho hb hg hat; rw [← Ny531.out] at ho; have n0_ := Aside0.mk (Kd.R_after (ok := (fun _ => True)) (apAR HO_4.out) hg hat); have n1_ := Aside0.mk (hb); have n2_ := Aside0.mk ((show Kd.C Kd.string w32 (some ad522) y527.length y527 from by rw [Ny527.out]; exact Kd.C_take (m := (x10_2 : Int).toNat) ((Kd.R_reads' (Kd.R_after (ok := (fun _ => True)) (apAR HO_4.out) hg hat)).2.2) KL31.out)); have n3_ := Aside0.mk (ho); clear HO_4; clear HB; clear HR530; clear HO526; have HO_4 := n0_; have HB := n1_; have HR530 := n2_; have HO533 := n3_; clear n0_ n1_ n2_ n3_; clear ho hb hg hat) | ((with_reducible refine gate_builtin (b := .append) (xs := #[.tmp 65, .tmp 67]) rfl ?_); at_builtin; refine Kd.R_append Kd.string (w0 := w) w.heap.size rfl (.tmp 65) (.tmp 67) 28 9 (.string ⟨#[]⟩) 16 rfl Tryz.underlying28 info9 rfl (by decide) (by omega) v532 y531 t520 [.string t520] (fun k_ => some k_ ≠ (.slice (some ad522) x4_1.length co28 : Value).ownBlock) (fun _ => False) rfl rfl ?aP (fun _ hk => hk.elim) ?aF ?aO ?aB ?aS ?aL ?_; (case aP => exact rfl); (case aB => exact ap1); (case aF => exact (fun k_ hk => Kd.fresh' (Kd.R_lt (apAR HO_4.out)) k_ hk)); (case aO => exact (apAR HO533.out)); (case aS => exact (below_size ap1)); (case aL => have := LMc24.out; omega); intro v535 w33 ho hb hg hat; rw [← Ny534.out] at ho; have n0_ := Aside0.mk (Kd.R_after (ok := (fun _ => True)) (apAR HO_4.out) hg hat); have n1_ := Aside0.mk (hb); have n2_ := Aside0.mk ((show Kd.C Kd.string w33 (some ad522) y527.length y527 from by rw [Ny527.out]; exact Kd.C_take (m := (x10_2 : Int).toNat) ((Kd.R_reads' (Kd.R_after (ok := (fun _ => True)) (apAR HO_4.out) hg hat)).2.2) KL31.out)); have n3_ := Aside0.mk (ho); clear HO_4; clear HB; clear HR530; clear HO533; have HO_4 := n0_; have HB := n1_; have HR530 := n2_; have HO536 := n3_; clear n0_ n1_ n2_ n3_; clear ho hb hg hat; have q34 : (x10_2 : Int) ≤ ((x4_1.length : Int) : Int) := of_decide_eq_true ap0; obtain ⟨i034, hi034, _, hsz34, _⟩ := info_parts info9; have hroom34 : x4_1.length ≤ co28 := (Kd.R_reads' HO_4.out).2.1; have hC34 : Kd.C Kd.string _ (some ad522) x4_1.length x4_1 := (Kd.R_reads' HO_4.out).2.2; have q034 : (0 : Int) ≤ (x10_2 : Int) := of_decide_eq_true ap0; have hcut34 := cut_from (P := Tryz.prog) 28 9 .i64 Tryz.underlying28 hi034 1 hsz34 (some ad522) x4_1.length co28 x10_2 q034 q34; have hr34 := Kd.C_drop (m := (x10_2 : Int).toNat) (c := co28) hC34 (by omega) hroom34; obtain ⟨A34, hA34⟩ : ∃ A1, A1 = (if co28 = (x10_2 : Int).toNat then (some ad522) else ((some ad522) : Option Addr).map (·.add ((x10_2 : Int).toNat * 1))) := ⟨_, rfl⟩; obtain ⟨c34, hc34⟩ : ∃ c1, c1 = co28 - (x10_2 : Int).toNat := ⟨_, rfl⟩; have hy34 : y537.length = x4_1.length - (x10_2 : Int).toNat := (by rw [Ny537.out, List.length_drop] <;> omega); rw [show (x4_1).drop (x10_2 : Int).toNat = y537 from Ny537.out.symm] at hr34; replace hr34 : Kd.C Kd.string _ A34 y537.length y537 := (by rw [hA34]; exact hr34); rw [← hy34, ← hA34, ← hc34] at hcut34; have HR540 := Aside0.mk hr34; have HC540 := Aside0.mk (show y537.length ≤ c34 from by rw [hy34, hc34]; exact Nat.sub_le_sub_right hroom34 _); clear hr34 hC34 hroom34 hi034 hsz34 hc34; have KY34 := Aside0.mk hy34; have KA34 := Aside0.mk hA34; clear hy34 hA34; have KL34 := Aside0.mk (show (x10_2 : Int).toNat ≤ x4_1.length from by omega); replace q34 := eq_true q34) | ((with_reducible refine gate_builtin (b := .append) (xs := #[.tmp 69, .tmp 72]) rfl ?_); at_builtin; refine Kd.R_append_rows Kd.string (w0 := w) w.heap.size rfl (.tmp 69) (.tmp 72) 28 9 (.string ⟨#[]⟩) 16 rfl Tryz.underlying28 info9 rfl (by decide) (by omega) v535 y534 y537 _ _ _ (fun k_ => some k_ ≠ (.slice (some ad522) x4_1.length co28 : Value).ownBlock) (fun _ => False) rfl rfl ?aO ?aR (fun _ _ h => h) (fun _ h => h.elim) ?aF ?aB ?aS ?aL ?_; (case aR => repeat (first | exact (apC HR540.out) | (with_reducible refine Kd.C_alloc ?_ _) | (with_reducible refine Kd.C_drewN ?_ _) | (with_reducible refine Kd.C_drew ?_))); (case aB => exact ap1); (case aF => exact (fun k_ hk => Kd.fresh' (Kd.R_lt (apAR HO_4.out)) k_ hk)); (case aO => exact (apAR HO536.out)); (case aS => exact (below_size ap1)); (case aL => have := LMc27.out; omega); intro v542 w35 ho hb hg hat; rw [← Ny541.out] at ho; have n0_ := Aside0.mk (Kd.R_after (ok := (fun _ => True)) (apAR HO_4.out) hg hat); have n1_ := Aside0.mk (hb); have n2_ := Aside0.mk ((show Kd.C Kd.string w35 (some ad522) y527.length y527 from by rw [Ny527.out]; exact Kd.C_take (m := (x10_2 : Int).toNat) ((Kd.R_reads' (Kd.R_after (ok := (fun _ => True)) (apAR HO_4.out) hg hat)).2.2) KL31.out)); have n3_ := Aside0.mk ((show Kd.C Kd.string w35 A34 y537.length y537 from by rw [Ny537.out, KA34.out]; exact Kd.C_drop (m := (x10_2 : Int).toNat) (c := co28) ((Kd.R_reads' (Kd.R_after (ok := (fun _ => True)) (apAR HO_4.out) hg hat)).2.2) KL34.out ((Kd.R_reads' (Kd.R_after (ok := (fun _ => True)) (apAR HO_4.out) hg hat)).2.1))); have n4_ := Aside0.mk (ho); clear HO_4; clear HB; clear HR530; clear HR540; clear HO536; have HO_4 := n0_; have HB := n1_; have HR530 := n2_; have HR540 := n3_; have HO543 := n4_; clear n0_ n1_ n2_ n3_ n4_; clear ho hb hg hat))
               go_roundg k2
               case measure => have := HK1.out; have := HK2.out; omega
               case rel => exact ⟨(y541), (wrap64 (x5_1 + 1)), ap2, H', ⟨by have := HK1.out; have := HK2.out; omega⟩, ⟨by (with_reducible repeat (first | apply Kd.R_alloc | apply Kd.R_drewN | apply Kd.R_drew)); exact Kd.R_mono HO543.out (fun _ hk => trivial)⟩, ⟨by repeat (first | (with_reducible first | exact HB.out | apply below_alloc | apply pw_below_drewN | apply below_drew1) | exact HB.out)⟩⟩
              ·
               rw [if_neg c27] at H
               exact absurd H (by simp)
             ·
              rw [if_neg c24] at H
              exact absurd H (by simp)
            ·
             rw [if_neg c23] at H
             exact absurd H (by simp)
           ·
            rw [if_neg c22] at H
            exact absurd H (by simp)
         ·
          rw [if_neg c17] at H
          exact absurd H (by simp)
        ·
         rw [if_neg c16] at H
         have c16b0 := decide_eq_false c16
         clear c16
         obtain ⟨y544, hy544⟩ : ∃ y_ : List ByteArray, y_ = (([] : List ByteArray)) := ⟨_, rfl⟩
         replace H : (if 0 ≤ x10_2 then (if x10_2 ≤ (x4_1.length : Int) then ((some (x4_1.take (x10_2 : Int).toNat : List ByteArray)).bind fun y547 => (if y544.length + y547.length < 8796093022208 then ((some (y544 ++ y547 : List ByteArray)).bind fun y551 => (if y551.length < 8796093022208 then ((some (y551 ++ [t520] : List ByteArray)).bind fun y554 => ((some (x4_1.drop (x10_2 : Int).toNat : List ByteArray)).bind fun y557 => (if y554.length + y557.length < 8796093022208 then (R15Key.l0 k2 l0 (y554 ++ y557) (wrap64 (x5_1 + 1))) else (none)))) else (none))) else (none))) else (none)) else (none)) = some (r1, r2) := by first | (rw [hy544]; with_reducible exact H) | (have H2_ := (Option.bind_some _ _).symm.trans H; rw [hy544]; with_reducible exact H2_) | (have H2_ := (Option.bind_some _ _).symm.trans H; with_reducible exact H2_) | with_reducible exact H | (rw [hy544]; exact H) | exact H
         have Ny544 := Aside0.mk hy544
         clear hy544
         by_cases c36 : 0 ≤ x10_2
         ·
          rw [if_pos c36] at H
          have c36b0 := eq_true c36
          have c36b1 := decide_eq_true c36
          clear c36
          by_cases c37 : x10_2 ≤ (x4_1.length : Int)
          ·
           rw [if_pos c37] at H
           have c37b0 := eq_true c37
           have c37b1 := decide_eq_true c37
           clear c37
           obtain ⟨y547, hy547⟩ : ∃ y_ : List ByteArray, y_ = (x4_1.take (x10_2 : Int).toNat) := ⟨_, rfl⟩
           replace H : (if y544.length + y547.length < 8796093022208 then ((some (y544 ++ y547 : List ByteArray)).bind fun y551 => (if y551.length < 8796093022208 then ((some (y551 ++ [t520] : List ByteArray)).bind fun y554 => ((some (x4_1.drop (x10_2 : Int).toNat : List ByteArray)).bind fun y557 => (if y554.length + y557.length < 8796093022208 then (R15Key.l0 k2 l0 (y554 ++ y557) (wrap64 (x5_1 + 1))) else (none)))) else (none))) else (none)) = some (r1, r2) := by first | (rw [hy547]; with_reducible exact H) | (have H2_ := (Option.bind_some _ _).symm.trans H; rw [hy547]; with_reducible exact H2_) | (have H2_ := (Option.bind_some _ _).symm.trans H; with_reducible exact H2_) | with_reducible exact H | (rw [hy547]; exact H) | exact H
           have Ny547 := Aside0.mk hy547
           clear hy547
           by_cases c38 : y544.length + y547.length < 8796093022208
           ·
            rw [if_pos c38] at H
            have LMc38 := Aside0.mk c38
            clear c38
            obtain ⟨y551, hy551⟩ : ∃ y_ : List ByteArray, y_ = (y544 ++ y547) := ⟨_, rfl⟩
            replace H : (if y551.length < 8796093022208 then ((some (y551 ++ [t520] : List ByteArray)).bind fun y554 => ((some (x4_1.drop (x10_2 : Int).toNat : List ByteArray)).bind fun y557 => (if y554.length + y557.length < 8796093022208 then (R15Key.l0 k2 l0 (y554 ++ y557) (wrap64 (x5_1 + 1))) else (none)))) else (none)) = some (r1, r2) := by first | (rw [hy551]; with_reducible exact H) | (have H2_ := (Option.bind_some _ _).symm.trans H; rw [hy551]; with_reducible exact H2_) | (have H2_ := (Option.bind_some _ _).symm.trans H; with_reducible exact H2_) | with_reducible exact H | (rw [hy551]; exact H) | exact H
            have Ny551 := Aside0.mk hy551
            clear hy551
            by_cases c39 : y551.length < 8796093022208
            ·
             rw [if_pos c39] at H
             have LMc39 := Aside0.mk c39
             clear c39
             obtain ⟨y554, hy554⟩ : ∃ y_ : List ByteArray, y_ = (y551 ++ [t520]) := ⟨_, rfl⟩
             replace H : ((some (x4_1.drop (x10_2 : Int).toNat : List ByteArray)).bind fun y557 => (if y554.length + y557.length < 8796093022208 then (R15Key.l0 k2 l0 (y554 ++ y557) (wrap64 (x5_1 + 1))) else (none))) = some (r1, r2) := by first | (rw [hy554]; with_reducible exact H) | (have H2_ := (Option.bind_some _ _).symm.trans H; rw [hy554]; with_reducible exact H2_) | (have H2_ := (Option.bind_some _ _).symm.trans H; with_reducible exact H2_) | with_reducible exact H | (rw [hy554]; exact H) | exact H
             have Ny554 := Aside0.mk hy554
             clear hy554
             have c40b0 := eq_true (of_decide_eq_true ap0 : 0 ≤ x10_2)
             have c41b0 := eq_true (of_decide_eq_true ap0 : x10_2 ≤ (x4_1.length : Int))
             obtain ⟨y557, hy557⟩ : ∃ y_ : List ByteArray, y_ = (x4_1.drop (x10_2 : Int).toNat) := ⟨_, rfl⟩
             replace H : (if y554.length + y557.length < 8796093022208 then (R15Key.l0 k2 l0 (y554 ++ y557) (wrap64 (x5_1 + 1))) else (none)) = some (r1, r2) := by first | (rw [hy557]; with_reducible exact H) | (have H2_ := (Option.bind_some _ _).symm.trans H; rw [hy557]; with_reducible exact H2_) | (have H2_ := (Option.bind_some _ _).symm.trans H; with_reducible exact H2_) | with_reducible exact H | (rw [hy557]; exact H) | exact H
             have Ny557 := Aside0.mk hy557
             clear hy557
             by_cases c42 : y554.length + y557.length < 8796093022208
             ·
              rw [if_pos c42] at H
              have LMc42 := Aside0.mk c42
              clear c42
              obtain ⟨y561, hy561⟩ : ∃ y_ : List ByteArray, y_ = (y554 ++ y557) := ⟨_, rfl⟩
              replace H : (R15Key.l0 k2 l0 y561 (wrap64 (x5_1 + 1))) = some (r1, r2) := by first | (rw [hy561]; with_reducible exact H) | (have H2_ := (Option.bind_some _ _).symm.trans H; rw [hy561]; with_reducible exact H2_) | (have H2_ := (Option.bind_some _ _).symm.trans H; with_reducible exact H2_) | with_reducible exact H | (rw [hy561]; exact H) | exact H
              have Ny561 := Aside0.mk hy561
              clear hy561
              have H' := Aside0.mk H
              clear H
              obtain ⟨Ao43, co43, eo43⟩ := Kd.R_slice HO_4.out
              subst eo43
              go_wp2_with (first | ((with_reducible refine gate_dst (N := 59) rfl ?_); refine Kd.R_lit Kd.string _ 9 ?hg (N := 59) ?hd (xs := ([] : List ByteArray)) (inner := []) (ok := fun _ => True) (okp := fun _ => True) ?hr ?hp (fun _ hk => hk) trivial (Below.refl _ _) (Nat.le_refl _) (by simp) ?_; (case hd => rfl); (case hg => rfl); (case hr => first | (go_simp; done) | (go_simp; rfl)); (case hp => exact (Reps.none _ _)); intro v545 w44 ho45 hb hg_ hnew_; clear hg_ hnew_; (first | rw [← Ny544.out] at ho45 | (simp only [Int.reduceToNat] at ho45; rw [← Ny544.out] at ho45)); have n0_ := Aside0.mk (Kd.R_elder' (apAR HO_4.out) (Kd.R_base ho45) hb); have n1_ := Aside0.mk (Kd.R_lower (Kd.R_new' ho45 (Kd.R_lt (apAR HO_4.out))) (below_size ap1)); have n2_ := Aside0.mk (below_step ap1 hb); clear HO_4; clear HB; have HO_4 := n0_; have HO546 := n1_; have HB := n2_; clear n0_ n1_ n2_; clear hb ho45; have q46 : (x10_2 : Int) ≤ ((x4_1.length : Int) : Int) := of_decide_eq_true ap0; obtain ⟨i046, hi046, _, hsz46, _⟩ := info_parts info9; have hroom46 : x4_1.length ≤ co43 := (Kd.R_reads' HO_4.out).2.1; have hC46 : Kd.C Kd.string _ Ao43 x4_1.length x4_1 := (Kd.R_reads' HO_4.out).2.2; have hcut46 := cut_to (P := Tryz.prog) 28 9 .i64 Tryz.underlying28 hi046 Ao43 x4_1.length co43 x10_2 (of_decide_eq_true ap0) q46 hroom46; have hr46 := Kd.C_take (m := (x10_2 : Int).toNat) hC46 (by omega); have hy46 : y547.length = (x10_2 : Int).toNat := (by rw [Ny547.out, List.length_take]; omega); rw [← Ny547.out] at hr46; rw [← hy46] at hcut46; have HR550 := Aside0.mk hr46; have HC550 := Aside0.mk (show y547.length ≤ co43 from by omega); clear hr46 hC46 hroom46 hi046 hsz46; have KY46 := Aside0.mk hy46; clear hy46; have KL46 := Aside0.mk (show (x10_2 : Int).toNat ≤ x4_1.length from by omega); replace q46 := eq_true q46) | ((with_reducible refine gate_builtin (b := .append) (xs := #[.tmp 60, .tmp 63]) rfl ?_); at_builtin; refine Kd.R_append_rows Kd.string (w0 := w) w.heap.size rfl (.tmp 60) (.tmp 63) 28 9 (.string ⟨#[]⟩) 16 rfl Tryz.underlying28 info9 rfl (by decide) (by omega) v545 y544 y547 _ _ _ (fun k_ => some k_ ≠ (.slice Ao43 x4_1.length co43 : Value).ownBlock) (fun _ => False) rfl rfl ?aO ?aR (fun _ _ h => h) (fun _ h => h.elim) ?aF ?aB ?aS ?aL ?_; (case aR => repeat (first | exact (apC HR550.out) | (with_reducible refine Kd.C_alloc ?_ _) | (with_reducible refine Kd.C_drewN ?_ _) | (with_reducible refine Kd.C_drew ?_))); (case aB => exact ap1); (case aF => exact (fun k_ hk => Kd.fresh' (Kd.R_lt (apAR HO_4.out)) k_ hk)); (case aO => exact (by (with_reducible repeat (first | apply Kd.R_alloc | apply Kd.R_drewN | apply Kd.R_drew)); exact Kd.R_mono HO546.out (fun _ hk => hk.2))); (case aS => exact (below_size ap1)); (case aL => have := LMc38.out; omega); intro v552 w47 ho hb hg hat; rw [← Ny551.out] at ho; have n0_ := Aside0.mk (Kd.R_after (ok := (fun _ => True)) (apAR HO_4.out) hg hat); have n1_ := Aside0.mk (hb); have n2_ := Aside0.mk ((show Kd.C Kd.string w47 Ao43 y547.length y547 from by rw [Ny547.out]; exact Kd.C_take (m := (x10_2 : Int).toNat) ((Kd.R_reads' (Kd.R_after (ok := (fun _ => True)) (apAR HO_4.out) hg hat)).2.2) KL46.out)); have n3_ := Aside0.mk (ho); clear HO_4; clear HB; clear HR550; clear HO546; have HO_4 := n0_; have HB := n1_; have HR550 := n2_; have HO553 := n3_; clear n0_ n1_ n2_ n3_; clear ho hb hg hat) | ((with_reducible refine gate_builtin (b := .append) (xs := #[.tmp 65, .tmp 67]) rfl ?_); at_builtin; refine Kd.R_append Kd.string (w0 := w) w.heap.size rfl (.tmp 65) (.tmp 67) 28 9 (.string ⟨#[]⟩) 16 rfl Tryz.underlying28 info9 rfl (by decide) (by omega) v552 y551 t520 [.string t520] (fun k_ => some k_ ≠ (.slice Ao43 x4_1.length co43 : Value).ownBlock) (fun _ => False) rfl rfl ?aP (fun _ hk => hk.elim) ?aF ?aO ?aB ?aS ?aL ?_; (case aP => exact rfl); (case aB => exact ap1); (case aF => exact (fun k_ hk => Kd.fresh' (Kd.R_lt (apAR HO_4.out)) k_ hk)); (case aO => exact (apAR HO553.out)); (case aS => exact (below_size ap1)); (case aL => have := LMc39.out; omega); intro v555 w48 ho hb hg hat; rw [← Ny554.out] at ho; have n0_ := Aside0.mk (Kd.R_after (ok := (fun _ => True)) (apAR HO_4.out) hg hat); have n1_ := Aside0.mk (hb); have n2_ := Aside0.mk ((show Kd.C Kd.string w48 Ao43 y547.length y547 from by rw [Ny547.out]; exact Kd.C_take (m := (x10_2 : Int).toNat) ((Kd.R_reads' (Kd.R_after (ok := (fun _ => True)) (apAR HO_4.out) hg hat)).2.2) KL46.out)); have n3_ := Aside0.mk (ho); clear HO_4; clear HB; clear HR550; clear HO553; have HO_4 := n0_; have HB := n1_; have HR550 := n2_; have HO556 := n3_; clear n0_ n1_ n2_ n3_; clear ho hb hg hat; have q49 : (x10_2 : Int) ≤ ((x4_1.length : Int) : Int) := of_decide_eq_true ap0; obtain ⟨i049, hi049, _, hsz49, _⟩ := info_parts info9; have hroom49 : x4_1.length ≤ co43 := (Kd.R_reads' HO_4.out).2.1; have hC49 : Kd.C Kd.string _ Ao43 x4_1.length x4_1 := (Kd.R_reads' HO_4.out).2.2; have q049 : (0 : Int) ≤ (x10_2 : Int) := of_decide_eq_true ap0; have hcut49 := cut_from (P := Tryz.prog) 28 9 .i64 Tryz.underlying28 hi049 1 hsz49 Ao43 x4_1.length co43 x10_2 q049 q49; have hr49 := Kd.C_drop (m := (x10_2 : Int).toNat) (c := co43) hC49 (by omega) hroom49; obtain ⟨A49, hA49⟩ : ∃ A1, A1 = (if co43 = (x10_2 : Int).toNat then Ao43 else (Ao43 : Option Addr).map (·.add ((x10_2 : Int).toNat * 1))) := ⟨_, rfl⟩; obtain ⟨c49, hc49⟩ : ∃ c1, c1 = co43 - (x10_2 : Int).toNat := ⟨_, rfl⟩; have hy49 : y557.length = x4_1.length - (x10_2 : Int).toNat := (by rw [Ny557.out, List.length_drop] <;> omega); rw [show (x4_1).drop (x10_2 : Int).toNat = y557 from Ny557.out.symm] at hr49; replace hr49 : Kd.C Kd.string _ A49 y557.length y557 := (by rw [hA49]; exact hr49); rw [← hy49, ← hA49, ← hc49] at hcut49; have HR560 := Aside0.mk hr49; have HC560 := Aside0.mk (show y557.length ≤ c49 from by rw [hy49, hc49]; exact Nat.sub_le_sub_right hroom49 _); clear hr49 hC49 hroom49 hi049 hsz49 hc49; have KY49 := Aside0.mk hy49; have KA49 := Aside0.mk hA49; clear hy49 hA49; have KL49 := Aside0.mk (show (x10_2 : Int).toNat ≤ x4_1.length from by omega); replace q49 := eq_true q49) | ((with_reducible refine gate_builtin (b := .append) (xs := #[.tmp 69, .tmp 72]) rfl ?_); at_builtin; refine Kd.R_append_rows Kd.string (w0 := w) w.heap.size rfl (.tmp 69) (.tmp 72) 28 9 (.string ⟨#[]⟩) 16 rfl Tryz.underlying28 info9 rfl (by decide) (by omega) v555 y554 y557 _ _ _ (fun k_ => some k_ ≠ (.slice Ao43 x4_1.length co43 : Value).ownBlock) (fun _ => False) rfl rfl ?aO ?aR (fun _ _ h => h) (fun _ h => h.elim) ?aF ?aB ?aS ?aL ?_; (case aR => repeat (first | exact (apC HR560.out) | (with_reducible refine Kd.C_alloc ?_ _) | (with_reducible refine Kd.C_drewN ?_ _) | (with_reducible refine Kd.C_drew ?_))); (case aB => exact ap1); (case aF => exact (fun k_ hk => Kd.fresh' (Kd.R_lt (apAR HO_4.out)) k_ hk)); (case aO => exact (apAR HO556.out)); (case aS => exact (below_size ap1)); (case aL => have := LMc42.out; omega); intro v562 w50 ho hb hg hat; rw [← Ny561.out] at ho; have n0_ := Aside0.mk (Kd.R_after (ok := (fun _ => True)) (apAR HO_4.out) hg hat); have n1_ := Aside0.mk (hb); have n2_ := Aside0.mk ((show Kd.C Kd.string w50 Ao43 y547.length y547 from by rw [Ny547.out]; exact Kd.C_take (m := (x10_2 : Int).toNat) ((Kd.R_reads' (Kd.R_after (ok := (fun _ => True)) (apAR HO_4.out) hg hat)).2.2) KL46.out)); have n3_ := Aside0.mk ((show Kd.C Kd.string w50 A49 y557.length y557 from by rw [Ny557.out, KA49.out]; exact Kd.C_drop (m := (x10_2 : Int).toNat) (c := co43) ((Kd.R_reads' (Kd.R_after (ok := (fun _ => True)) (apAR HO_4.out) hg hat)).2.2) KL49.out ((Kd.R_reads' (Kd.R_after (ok := (fun _ => True)) (apAR HO_4.out) hg hat)).2.1))); have n4_ := Aside0.mk (ho); clear HO_4; clear HB; clear HR550; clear HR560; clear HO556; have HO_4 := n0_; have HB := n1_; have HR550 := n2_; have HR560 := n3_; have HO563 := n4_; clear n0_ n1_ n2_ n3_ n4_; clear ho hb hg hat))
              go_roundg k2
              case measure => have := HK1.out; have := HK2.out; omega
              case rel => exact ⟨(y561), (wrap64 (x5_1 + 1)), ap2, H', ⟨by have := HK1.out; have := HK2.out; omega⟩, ⟨by (with_reducible repeat (first | apply Kd.R_alloc | apply Kd.R_drewN | apply Kd.R_drew)); exact Kd.R_mono HO563.out (fun _ hk => trivial)⟩, ⟨by repeat (first | (with_reducible first | exact HB.out | apply below_alloc | apply pw_below_drewN | apply below_drew1) | exact HB.out)⟩⟩
             ·
              rw [if_neg c42] at H
              exact absurd H (by simp)
            ·
             rw [if_neg c39] at H
             exact absurd H (by simp)
           ·
            rw [if_neg c38] at H
            exact absurd H (by simp)
          ·
           rw [if_neg c37] at H
           exact absurd H (by simp)
         ·
          rw [if_neg c36] at H
          exact absurd H (by simp)
     ·
      rw [if_neg c8] at H
      exact absurd H (by simp)
    ·
     rw [if_neg c7] at H
     have c7b0 := decide_eq_false c7
     clear c7
     have H' := Aside0.mk H
     clear H
     go_wp2
     go_loopg [12, 13] k1 (fun kq v12 v13 w' => ∃ (x12_2 : ByteArray) (x13_2 : Int), v12 = .string x12_2 ∧ v13 = .int .i64 x13_2 ∧ Aside0 (R15Key.l2 kq x4_1 x12_2 x13_2 = some (r1, r2)) ∧ Aside0 (kq ≤ k1) ∧ Aside0 (Kd.R Kd.string 9 w' w.heap.size (fun _ => True) u4 x4_1) ∧ Aside0 (Below w.heap.size w w'))
     case atStart => exact ⟨((⟨#[]⟩ : ByteArray)), (0), ap2, ap2, H', ⟨Nat.le_refl _⟩, ⟨by (with_reducible repeat (first | apply Kd.R_alloc | apply Kd.R_drewN | apply Kd.R_drew)); exact HO_4.out⟩, ⟨by repeat (first | (with_reducible first | exact HB.out | apply below_alloc | apply pw_below_drewN | apply below_drew1) | exact HB.out)⟩⟩
     case round =>
      clear H'
      try clear c1
      try clear c2
      try clear p2
      try clear c3
      try clear q3
      try clear c4
      try clear q4
      try clear p5
      try clear q5
      try clear hx5
      try clear p6
      try clear c7
      try clear c7b0
      try clear c8
      try clear c8b0
      try clear c15
      try clear c16
      try clear c16b0
      try clear c17
      try clear c17b0
      try clear c18
      try clear c19
      try clear c19b0
      try clear c21
      try clear c21b0
      try clear c22
      try clear c22b0
      try clear c22b1
      try clear c23
      try clear c24
      try clear c25
      try clear c25b0
      try clear c26
      try clear c26b0
      try clear c27
      try clear q31
      try clear c34
      try clear q34
      try clear c36
      try clear c36b0
      try clear c36b1
      try clear c37
      try clear c37b0
      try clear c37b1
      try clear c38
      try clear c39
      try clear c40
      try clear c40b0
      try clear c41
      try clear c41b0
      try clear c42
      try clear q46
      try clear c49
      try clear q49
      try clear hx513_0
      try clear hx513_1
      try clear hx516_0
      try clear hx516_1
      try clear hx522_0
      try clear p2
      try clear p5
      try clear p513
      try clear p516
      try clear p522
      try clear q034
      try clear q049
      try clear q31
      try clear q34
      try clear q46
      try clear q49
      try clear q5
      try clear q513
      try clear q516
      try clear q522
      obtain ⟨x12_2, x13_2, rfl, rfl, HA, HK2, HO_4, HB⟩ := hrel
      cases gk with
      | zero => exact absurd HA.out (by simp [R15Key.l2])
      | succ k2 =>
       have H := HA.out
       clear HA
       simp only [R15Key.l2] at H
       by_cases c51 : x13_2 < (x4_1.length : Int)
       ·
        rw [if_pos c51] at H
        have c51b0 := decide_eq_true c51
        clear c51
        by_cases c52 : 0 ≤ x13_2
        ·
         rw [if_pos c52] at H
         have c52b0 := decide_eq_true c52
         clear c52
         by_cases c53 : x12_2.size + (rdOf ByteArray.empty x4_1 x13_2).size ≤ 9223372036854775807
         ·
          rw [if_pos c53] at H
          have c53b0 := eq_true c53
          have c53b1 := decide_eq_true c53
          try have c53b2 : (9223372036854775807 < x12_2.size + (rdOf ByteArray.empty x4_1 x13_2).size) = False := eq_false (Nat.not_lt.2 c53)
          have H' := Aside0.mk H
          clear H
          obtain ⟨Ao54, co54, eo54⟩ := Kd.R_slice HO_4.out
          subst eo54
          have p564 : 0 ≤ (x13_2 : Int) := of_decide_eq_true ap0
          have q564 : x13_2 < (x4_1.length : Int) := of_decide_eq_true ap0
          obtain ⟨ad564, e564, hx564_0⟩ := Kd.at_string (Kd.R_reads' HO_4.out).2.2 x13_2 p564 q564
          cases e564
          replace p564 := eq_true p564
          replace q564 := eq_true q564
          go_wp2
          go_roundg k2
          case measure => have := HK1.out; have := HK2.out; omega
          case rel => exact ⟨(x12_2 ++ (rdOf ByteArray.empty x4_1 x13_2)), (wrap64 (x13_2 + 1)), ap2, ap2, H', ⟨by have := HK1.out; have := HK2.out; omega⟩, ⟨by (with_reducible repeat (first | apply Kd.R_alloc | apply Kd.R_drewN | apply Kd.R_drew)); exact HO_4.out⟩, ⟨by repeat (first | (with_reducible first | exact HB.out | apply below_alloc | apply pw_below_drewN | apply below_drew1) | exact HB.out)⟩⟩
         ·
          rw [if_neg c53] at H
          exact absurd H (by simp)
        ·
         rw [if_neg c52] at H
         exact absurd H (by simp)
       ·
        rw [if_neg c51] at H
        have c51b0 := decide_eq_false c51
        clear c51
        simp only [Option.some.injEq, Prod.mk.injEq] at H
        obtain ⟨rfl, rfl⟩ := H
        obtain ⟨Ao55, co55, eo55⟩ := Kd.R_slice HO_4.out
        subst eo55
        go_wp2
        go_ret2
        exact ⟨by first | rfl | (simp [errW_none, errW_some, bne_nil8, beq_nil8]; done) | (simp [errW_none, errW_some] <;> rfl) | (simp [*, errW_none, errW_some] <;> rfl), by repeat (first | (with_reducible first | exact HB.out | apply below_alloc | apply pw_below_drewN | apply below_drew1) | exact HB.out)⟩
 ·
  replace c3 := Bool.eq_false_iff.mpr c3
  subst c3
  rw [if_neg (show ¬ (false = true) by decide)] at H
  simp only [Option.some.injEq, Prod.mk.injEq] at H
  obtain ⟨rfl, rfl⟩ := H
  go_enter Tryz.func15, Tryz.ntmps15
  go_wp2_with (first | ((with_reducible refine gate_callee (f := 18) rfl ?_); refine goesL_ (some 15) rfl rfl Tryz.func18 (by kernel_rfl) rfl #[.slice A0 l0.length c0] rfl ap3 ?_; (with_reducible refine (R15Rdn.calls k _ _ l0 false _ ?side1 ?side2 A2.out).mono ?_); (case side1 => repeat (first | exact HR0.out | (with_reducible refine Kd.C_alloc ?_ _) | (with_reducible refine Kd.C_drewN ?_ _) | (with_reducible refine Kd.C_drew ?_))); (case side2 => exact HC0.out); rintro e w56 ⟨rfl, hb⟩; refine ⟨_, rfl, ?_⟩; have n0_ := Aside0.mk (below_step ap1 hb); clear HB; have HB := n0_; clear n0_; (try clear hb); (try clear hb2); (try clear hk); (try clear hi)))
  go_ret2
  exact ⟨by first | rfl | (simp [errW_none, errW_some, bne_nil8, beq_nil8]; done) | (simp [errW_none, errW_some] <;> rfl) | (simp [*, errW_none, errW_some] <;> rfl), by repeat (first | (with_reducible first | exact HB.out | apply below_alloc | apply pw_below_drewN | apply below_drew1) | exact HB.out)⟩
def R15Keys.l0 : Nat → List (List (S40)) → List ByteArray → Int → Option (List ByteArray × Int)
 | 0, _, _, _ => none
 | k + 1, x0, x4, x5 => if x5 ≥ 0 then (if 0 ≤ x5 then (if x5 < (x0.length : Int) then ((R15Key.f k (rd_L8 x0 x5)).bind fun bt570 => (if x4.length < 8796093022208 then (R15Keys.l0 k x0 (x4 ++ [bt570.1]) (wrap64 (x5 - 1))) else (none))) else (none)) else (none)) else (some (x4, 0))
def R15Keys.f (k : Nat) (l0 : List (List (S40))) : Option (List ByteArray × Int) := (R15Right.f k l0).bind fun t565 => (if t565 = true then (R15Keys.l0 k l0 (([] : List ByteArray)) (wrap64 ((l0.length : Int) - 1))) else (some (([] : List ByteArray), 4)))
set_option maxHeartbeats 8000000 in
set_option maxRecDepth 100000 in
theorem R15Keys.calls (k : Nat) (A0 : Option Addr) (c0 : Nat) (l0 : List (List (S40))) (r1 : List ByteArray) (r2 : Int) (w : World) (hr0 : Kd.C (Kd.slice 40 k40) w A0 l0.length l0) (hc0 : l0.length ≤ c0) (h : R15Keys.f k l0 = some (r1, r2)) :
  Calls Tryz.prog 10 #[.slice A0 l0.length c0] w fun e w' => ∃ v0_ : Value, e = .returned (.tuple #[v0_, .int .i64 r2]) ∧ Kd.R Kd.string 9 w' w.heap.size (fun _ => True) v0_ r1 ∧ Below w.heap.size w w' := by
 have HR0 := Aside0.mk hr0
 have HC0 := Aside0.mk hc0
 clear hr0 hc0
 have HB := Aside0.mk (Below.refl w.heap.size w)
 have H : ((R15Right.f k l0).bind fun t565 => (if t565 = true then (R15Keys.l0 k l0 (([] : List ByteArray)) (wrap64 ((l0.length : Int) - 1))) else (some (([] : List ByteArray), 4)))) = some (r1, r2) := h
 clear h
 replace H := Option.bind_eq_some_iff.mp H
 obtain ⟨t565, A20, H⟩ := H
 replace H : (if t565 = true then (R15Keys.l0 k l0 (([] : List ByteArray)) (wrap64 ((l0.length : Int) - 1))) else (some (([] : List ByteArray), 4))) = some (r1, r2) := H
 have A2 := Aside0.mk A20
 clear A20
 by_cases c3 : t565 = true
 ·
  subst c3
  rw [if_pos rfl] at H
  obtain ⟨y566, hy566⟩ : ∃ y_ : List ByteArray, y_ = (([] : List ByteArray)) := ⟨_, rfl⟩
  replace H : (R15Keys.l0 k l0 y566 (wrap64 ((l0.length : Int) - 1))) = some (r1, r2) := by first | (rw [hy566]; with_reducible exact H) | (have H2_ := (Option.bind_some _ _).symm.trans H; rw [hy566]; with_reducible exact H2_) | (have H2_ := (Option.bind_some _ _).symm.trans H; with_reducible exact H2_) | with_reducible exact H | (rw [hy566]; exact H) | exact H
  have Ny566 := Aside0.mk hy566
  clear hy566
  have H' := Aside0.mk H
  clear H
  go_enter Tryz.func10, Tryz.ntmps10
  go_wp2_with (first | ((with_reducible refine gate_callee (f := 7) rfl ?_); refine goesL_ (some 9) rfl rfl Tryz.func7 (by kernel_rfl) rfl #[.slice A0 l0.length c0] rfl ap3 ?_; (with_reducible refine (R15Right.calls k _ _ l0 true _ ?side1 ?side2 A2.out).mono ?_); (case side1 => repeat (first | exact HR0.out | (with_reducible refine Kd.C_alloc ?_ _) | (with_reducible refine Kd.C_drewN ?_ _) | (with_reducible refine Kd.C_drew ?_))); (case side2 => exact HC0.out); rintro e w4 ⟨rfl, hb⟩; refine ⟨_, rfl, ?_⟩; have n0_ := Aside0.mk (below_step ap1 hb); clear HB; have HB := n0_; clear n0_; (try clear hb); (try clear hb2); (try clear hk); (try clear hi)) | ((with_reducible refine gate_dst (N := 11) rfl ?_); refine Kd.R_lit Kd.string _ 9 ?hg (N := 11) ?hd (xs := ([] : List ByteArray)) (inner := []) (ok := fun _ => True) (okp := fun _ => True) ?hr ?hp (fun _ hk => hk) trivial (Below.refl _ _) (Nat.le_refl _) (by simp) ?_; (case hd => rfl); (case hg => rfl); (case hr => first | (go_simp; done) | (go_simp; rfl)); (case hp => exact (Reps.none _ _)); intro v567 w5 ho6 hb hg_ hnew_; clear hg_ hnew_; (first | rw [← Ny566.out] at ho6 | (simp only [Int.reduceToNat] at ho6; rw [← Ny566.out] at ho6)); have n0_ := Aside0.mk (Kd.R_lower ho6 (below_size ap1)); have n1_ := Aside0.mk (below_step ap1 hb); clear HB; have HO568 := n0_; have HB := n1_; clear n0_ n1_; clear hb ho6))
  go_loopg [4, 5] k (fun kq v4 v5 w' => ∃ (x4_1 : List ByteArray) (x5_1 : Int), v5 = .int .i64 x5_1 ∧ Aside0 (R15Keys.l0 kq l0 x4_1 x5_1 = some (r1, r2)) ∧ Aside0 (kq ≤ k) ∧ Aside0 (Kd.R Kd.string 9 w' w.heap.size (fun _ => True) v4 x4_1) ∧ Aside0 (Below w.heap.size w w'))
  case atStart => exact ⟨(y566), (wrap64 ((l0.length : Int) - 1)), ap2, H', ⟨Nat.le_refl _⟩, ⟨by (with_reducible repeat (first | apply Kd.R_alloc | apply Kd.R_drewN | apply Kd.R_drew)); exact HO568.out⟩, ⟨by repeat (first | (with_reducible first | exact HB.out | apply below_alloc | apply pw_below_drewN | apply below_drew1) | exact HB.out)⟩⟩
  case round =>
   clear H'
   try clear c1
   try clear p2
   try clear c3
   try clear p6
   obtain ⟨x4_1, x5_1, rfl, HA, HK1, HO_4, HB⟩ := hrel
   cases gk with
   | zero => exact absurd HA.out (by simp [R15Keys.l0])
   | succ k1 =>
    have H := HA.out
    clear HA
    simp only [R15Keys.l0] at H
    by_cases c7 : x5_1 ≥ 0
    ·
     rw [if_pos c7] at H
     have c7b0 := decide_eq_true c7
     clear c7
     by_cases c8 : 0 ≤ x5_1
     ·
      rw [if_pos c8] at H
      have c8b0 := decide_eq_true c8
      clear c8
      by_cases c9 : x5_1 < (l0.length : Int)
      ·
       rw [if_pos c9] at H
       have c9b0 := decide_eq_true c9
       clear c9
       replace H := Option.bind_eq_some_iff.mp H
       obtain ⟨⟨t570, t571⟩, A100, H⟩ := H
       replace H : (if x4_1.length < 8796093022208 then (R15Keys.l0 k1 l0 (x4_1 ++ [t570]) (wrap64 (x5_1 - 1))) else (none)) = some (r1, r2) := H
       have A10 := Aside0.mk A100
       clear A100
       by_cases c11 : x4_1.length < 8796093022208
       ·
        rw [if_pos c11] at H
        have LMc11 := Aside0.mk c11
        clear c11
        obtain ⟨y572, hy572⟩ : ∃ y_ : List ByteArray, y_ = (x4_1 ++ [t570]) := ⟨_, rfl⟩
        replace H : (R15Keys.l0 k1 l0 y572 (wrap64 (x5_1 - 1))) = some (r1, r2) := by first | (rw [hy572]; with_reducible exact H) | (have H2_ := (Option.bind_some _ _).symm.trans H; rw [hy572]; with_reducible exact H2_) | (have H2_ := (Option.bind_some _ _).symm.trans H; with_reducible exact H2_) | with_reducible exact H | (rw [hy572]; exact H) | exact H
        have Ny572 := Aside0.mk hy572
        clear hy572
        have H' := Aside0.mk H
        clear H
        have p569 : 0 ≤ (x5_1 : Int) := of_decide_eq_true ap0
        have q569 : x5_1 < (l0.length : Int) := of_decide_eq_true ap0
        obtain ⟨ad569, A569_0, c569_0, e569, hx569_0, hl569_0, hi569_0⟩ := at_L8 HR0.out x5_1 p569 q569
        cases e569
        replace hx569_0 := (HB.out.cell (World.block_lt_of_cell? w _ hx569_0)).trans hx569_0
        have HR569_0 := Aside0.mk hi569_0
        have HC569_0 := Aside0.mk hl569_0
        clear hi569_0 hl569_0
        replace p569 := eq_true p569
        replace q569 := eq_true q569
        go_wp2_with (first | ((with_reducible refine gate_callee (f := 15) rfl ?_); refine goesL_ (some 24) rfl rfl Tryz.func15 (by kernel_rfl) rfl #[.slice A569_0 (rd_L8 l0 x5_1).length c569_0] rfl ap3 ?_; (with_reducible refine (R15Key.calls k1 _ _ (rd_L8 l0 x5_1) t570 t571 _ ?side1 ?side2 A10.out).mono ?_); (case side1 => repeat (first | exact (Kd.C_below HR569_0.out HB.out) | (with_reducible refine Kd.C_alloc ?_ _) | (with_reducible refine Kd.C_drewN ?_ _) | (with_reducible refine Kd.C_drew ?_))); (case side2 => exact HC569_0.out); rintro e w12 ⟨rfl, hb⟩; refine ⟨_, rfl, ?_⟩; have n0_ := Aside0.mk (Kd.R_below (apAR HO_4.out) hb); have n1_ := Aside0.mk (below_step ap1 hb); clear HO_4; clear HB; have HO_4 := n0_; have HB := n1_; clear n0_ n1_; (try clear hb); (try clear hb2); (try clear hk); (try clear hi)) | ((with_reducible refine gate_builtin (b := .append) (xs := #[.tmp 27, .tmp 29]) rfl ?_); at_builtin; refine Kd.R_append Kd.string (w0 := w) w.heap.size rfl (.tmp 27) (.tmp 29) 28 9 (.string ⟨#[]⟩) 16 rfl Tryz.underlying28 info9 rfl (by decide) (by omega) u4 x4_1 t570 [.string t570] (fun _ => True) (fun _ => False) rfl rfl ?aP (fun _ hk => hk.elim) ?aF ?aO ?aB ?aS ?aL ?_; (case aP => exact rfl); (case aB => exact ap1); (case aF => exact (fun _ _ => trivial)); (case aO => exact (apAR HO_4.out)); (case aS => exact (below_size ap1)); (case aL => have := LMc11.out; omega); intro v573 w13 ho hb hg hat; rw [← Ny572.out] at ho; have n0_ := Aside0.mk (hb); have n1_ := Aside0.mk (ho); clear HB; clear HO_4; have HB := n0_; have HO574 := n1_; clear n0_ n1_; clear ho hb hg hat))
        go_roundg k1
        case measure => have := HK1.out; omega
        case rel => exact ⟨(y572), (wrap64 (x5_1 - 1)), ap2, H', ⟨by have := HK1.out; omega⟩, ⟨by (with_reducible repeat (first | apply Kd.R_alloc | apply Kd.R_drewN | apply Kd.R_drew)); exact HO574.out⟩, ⟨by repeat (first | (with_reducible first | exact HB.out | apply below_alloc | apply pw_below_drewN | apply below_drew1) | exact HB.out)⟩⟩
       ·
        rw [if_neg c11] at H
        exact absurd H (by simp)
      ·
       rw [if_neg c9] at H
       exact absurd H (by simp)
     ·
      rw [if_neg c8] at H
      exact absurd H (by simp)
    ·
     rw [if_neg c7] at H
     have c7b0 := decide_eq_false c7
     clear c7
     simp only [Option.some.injEq, Prod.mk.injEq] at H
     obtain ⟨rfl, rfl⟩ := H
     go_wp2
     go_ret2
     exact ⟨_, by first | rfl | (simp [errW_none, errW_some, bne_nil8, beq_nil8]; done) | (simp [errW_none, errW_some] <;> rfl) | (simp [*, errW_none, errW_some] <;> rfl), by (with_reducible repeat (first | apply Kd.R_alloc | apply Kd.R_drewN | apply Kd.R_drew)); exact HO_4.out, by repeat (first | (with_reducible first | exact HB.out | apply below_alloc | apply pw_below_drewN | apply below_drew1) | exact HB.out)⟩
 ·
  replace c3 := Bool.eq_false_iff.mpr c3
  subst c3
  rw [if_neg (show ¬ (false = true) by decide)] at H
  simp only [Option.some.injEq, Prod.mk.injEq] at H
  obtain ⟨rfl, rfl⟩ := H
  go_enter Tryz.func10, Tryz.ntmps10
  go_wp2_with (first | ((with_reducible refine gate_callee (f := 7) rfl ?_); refine goesL_ (some 9) rfl rfl Tryz.func7 (by kernel_rfl) rfl #[.slice A0 l0.length c0] rfl ap3 ?_; (with_reducible refine (R15Right.calls k _ _ l0 false _ ?side1 ?side2 A2.out).mono ?_); (case side1 => repeat (first | exact HR0.out | (with_reducible refine Kd.C_alloc ?_ _) | (with_reducible refine Kd.C_drewN ?_ _) | (with_reducible refine Kd.C_drew ?_))); (case side2 => exact HC0.out); rintro e w14 ⟨rfl, hb⟩; refine ⟨_, rfl, ?_⟩; have n0_ := Aside0.mk (below_step ap1 hb); clear HB; have HB := n0_; clear n0_; (try clear hb); (try clear hb2); (try clear hk); (try clear hi)))
  go_ret2
  exact ⟨_, by first | rfl | (simp [errW_none, errW_some, bne_nil8, beq_nil8]; done) | (simp [errW_none, errW_some] <;> rfl) | (simp [*, errW_none, errW_some] <;> rfl), by first | exact Kd.R_nil _ _ _ _ _ | exact Kd.N_nil _ _ _ _ _ | exact Kd.V_nil _ _ _ _ _ | exact Kd.Q_nil _ _ _ _ _ | exact Kd.S_nil _ _ _ _ _, by repeat (first | (with_reducible first | exact HB.out | apply below_alloc | apply pw_below_drewN | apply below_drew1) | exact HB.out)⟩
def R15Under.f (k : Nat) (l0 : List (List (S40))) (l1 : List (List (S40))) : Option (Bool) := (R15Keys.f k l0).bind fun bt577 => ((R15Keys.f k l1).bind fun bt581 => (if bt577.2 = 0 then (if bt581.2 = 0 then (if (bt581.1.length : Int) ≤ (bt577.1.length : Int) then (if 0 ≤ (bt581.1.length : Int) then ((R01Same.f k (bt577.1.take ((bt581.1.length : Int) : Int).toNat) bt581.1).bind fun t589 => (some t589)) else (none)) else (some false)) else (some false)) else (some false)))
set_option maxHeartbeats 8000000 in
set_option maxRecDepth 100000 in
theorem R15Under.calls (k : Nat) (A0 : Option Addr) (c0 : Nat) (l0 : List (List (S40))) (A1 : Option Addr) (c1 : Nat) (l1 : List (List (S40))) (r : Bool) (w : World) (hr0 : Kd.C (Kd.slice 40 k40) w A0 l0.length l0) (hc0 : l0.length ≤ c0) (hr1 : Kd.C (Kd.slice 40 k40) w A1 l1.length l1) (hc1 : l1.length ≤ c1) (h : R15Under.f k l0 l1 = some r) :
  Calls Tryz.prog 12 #[.slice A0 l0.length c0, .slice A1 l1.length c1] w fun e w' => e = .returned (.bool r) ∧ Below w.heap.size w w' := by
 have HR0 := Aside0.mk hr0
 have HC0 := Aside0.mk hc0
 clear hr0 hc0
 have HR1 := Aside0.mk hr1
 have HC1 := Aside0.mk hc1
 clear hr1 hc1
 have HB := Aside0.mk (Below.refl w.heap.size w)
 have H : ((R15Keys.f k l0).bind fun bt577 => ((R15Keys.f k l1).bind fun bt581 => (if bt577.2 = 0 then (if bt581.2 = 0 then (if (bt581.1.length : Int) ≤ (bt577.1.length : Int) then (if 0 ≤ (bt581.1.length : Int) then ((R01Same.f k (bt577.1.take ((bt581.1.length : Int) : Int).toNat) bt581.1).bind fun t589 => (some t589)) else (none)) else (some false)) else (some false)) else (some false)))) = some r := h
 clear h
 replace H := Option.bind_eq_some_iff.mp H
 obtain ⟨⟨t577, t578⟩, A30, H⟩ := H
 replace H : ((R15Keys.f k l1).bind fun bt581 => (if t578 = 0 then (if bt581.2 = 0 then (if (bt581.1.length : Int) ≤ (t577.length : Int) then (if 0 ≤ (bt581.1.length : Int) then ((R01Same.f k (t577.take ((bt581.1.length : Int) : Int).toNat) bt581.1).bind fun t589 => (some t589)) else (none)) else (some false)) else (some false)) else (some false))) = some r := H
 have A3 := Aside0.mk A30
 clear A30
 replace H := Option.bind_eq_some_iff.mp H
 obtain ⟨⟨t581, t582⟩, A40, H⟩ := H
 replace H : (if t578 = 0 then (if t582 = 0 then (if (t581.length : Int) ≤ (t577.length : Int) then (if 0 ≤ (t581.length : Int) then ((R01Same.f k (t577.take ((t581.length : Int) : Int).toNat) t581).bind fun t589 => (some t589)) else (none)) else (some false)) else (some false)) else (some false)) = some r := H
 have A4 := Aside0.mk A40
 clear A40
 by_cases c5 : t578 = 0
 ·
  rw [if_pos c5] at H
  have c5b0 : (t578 == 0) = true := beq_iff_eq.mpr c5
  have c5b1 : (t578 != 0) = false := bne_eq_false_iff_eq.mpr c5
  clear c5
  by_cases c6 : t582 = 0
  ·
   rw [if_pos c6] at H
   have c6b0 : (t582 == 0) = true := beq_iff_eq.mpr c6
   have c6b1 : (t582 != 0) = false := bne_eq_false_iff_eq.mpr c6
   clear c6
   by_cases c7 : (t581.length : Int) ≤ (t577.length : Int)
   ·
    rw [if_pos c7] at H
    have c7b0 := decide_eq_true c7
    have c7b1 : decide (t581.length ≤ t577.length) = true := decide_eq_true (Int.ofNat_le.mp c7)
    clear c7
    by_cases c8 : 0 ≤ (t581.length : Int)
    ·
     rw [if_pos c8] at H
     have c8b0 := eq_true c8
     have c8b1 := decide_eq_true c8
     clear c8
     have c9b0 := eq_true (of_decide_eq_true ap0 : (t581.length : Int) ≤ (t577.length : Int))
     obtain ⟨y585, hy585⟩ : ∃ y_ : List ByteArray, y_ = (t577.take ((t581.length : Int) : Int).toNat) := ⟨_, rfl⟩
     replace H : ((R01Same.f k y585 t581).bind fun t589 => (some t589)) = some r := by first | (rw [hy585]; with_reducible exact H) | (have H2_ := (Option.bind_some _ _).symm.trans H; rw [hy585]; with_reducible exact H2_) | (have H2_ := (Option.bind_some _ _).symm.trans H; with_reducible exact H2_) | with_reducible exact H | (rw [hy585]; exact H) | exact H
     have Ny585 := Aside0.mk hy585
     clear hy585
     replace H := Option.bind_eq_some_iff.mp H
     obtain ⟨t589, A100, H⟩ := H
     replace H : (some t589) = some r := H
     have A10 := Aside0.mk A100
     clear A100
     obtain rfl := Option.some.inj H
     go_enter Tryz.func12, Tryz.ntmps12
     go_wp2_with (first | ((with_reducible refine gate_callee (f := 10) rfl ?_); refine goesL_ (some 11) rfl rfl Tryz.func10 (by kernel_rfl) rfl #[.slice A0 l0.length c0] rfl ap3 ?_; (with_reducible refine (R15Keys.calls k _ _ l0 t577 t578 _ ?side1 ?side2 A3.out).mono ?_); (case side1 => repeat (first | exact HR0.out | (with_reducible refine Kd.C_alloc ?_ _) | (with_reducible refine Kd.C_drewN ?_ _) | (with_reducible refine Kd.C_drew ?_))); (case side2 => exact HC0.out); rintro e w11 ⟨v579, rfl, ho0, hb⟩; refine ⟨_, rfl, ?_⟩; have n0_ := Aside0.mk (Kd.R_lower ho0 (below_size ap1)); have n1_ := Aside0.mk (below_step ap1 hb); clear HB; have HO580 := n0_; have HB := n1_; clear n0_ n1_; (try clear hb); (try clear hb2); (try clear hk); (try clear hi); (try clear ho0)) | ((with_reducible refine gate_callee (f := 10) rfl ?_); refine goesL_ (some 16) rfl rfl Tryz.func10 (by kernel_rfl) rfl #[.slice A1 l1.length c1] rfl ap3 ?_; (with_reducible refine (R15Keys.calls k _ _ l1 t581 t582 _ ?side1 ?side2 A4.out).mono ?_); (case side1 => repeat (first | exact (Kd.C_below HR1.out HB.out) | (with_reducible refine Kd.C_alloc ?_ _) | (with_reducible refine Kd.C_drewN ?_ _) | (with_reducible refine Kd.C_drew ?_))); (case side2 => exact HC1.out); rintro e w12 ⟨v583, rfl, ho0, hb⟩; refine ⟨_, rfl, ?_⟩; have n0_ := Aside0.mk (Kd.R_elder' (apAR HO580.out) (Kd.R_base ho0) hb); have n1_ := Aside0.mk (Kd.R_lower (Kd.R_new' ho0 (Kd.R_lt (apAR HO580.out))) (below_size ap1)); have n2_ := Aside0.mk (below_step ap1 hb); clear HO580; clear HB; have HO580 := n0_; have HO584 := n1_; have HB := n2_; clear n0_ n1_ n2_; (try clear hb); (try clear hb2); (try clear hk); (try clear hi); (try clear ho0); obtain ⟨Ao13, co13, eo13⟩ := Kd.R_slice HO584.out; subst eo13; obtain ⟨Ao14, co14, eo14⟩ := Kd.R_slice HO580.out; subst eo14; have q15 : ((t581.length : Int) : Int) ≤ ((t577.length : Int) : Int) := of_decide_eq_true ap0; obtain ⟨i015, hi015, _, hsz15, _⟩ := info_parts info9; have hroom15 : t577.length ≤ co14 := (Kd.R_reads' HO580.out).2.1; have hC15 : Kd.C Kd.string _ Ao14 t577.length t577 := (Kd.R_reads' HO580.out).2.2; have hcut15 := cut_to (P := Tryz.prog) 28 9 .i64 Tryz.underlying28 hi015 Ao14 t577.length co14 (t581.length : Int) (of_decide_eq_true ap0) q15 hroom15; have hr15 := Kd.C_take (m := ((t581.length : Int) : Int).toNat) hC15 (by omega); have hy15 : y585.length = ((t581.length : Int) : Int).toNat := (by rw [Ny585.out, List.length_take]; omega); rw [← Ny585.out] at hr15; rw [← hy15] at hcut15; have HR588 := Aside0.mk hr15; have HC588 := Aside0.mk (show y585.length ≤ co14 from by omega); clear hr15 hC15 hroom15 hi015 hsz15; have KY15 := Aside0.mk hy15; clear hy15; have KL15 := Aside0.mk (show ((t581.length : Int) : Int).toNat ≤ t577.length from by omega); replace q15 := eq_true q15) | (go_at_call 11; (with_reducible refine (R01Same.calls k _ _ y585 _ _ t581 t589 _ ?side1 ?side2 ?side3 ?side4 A10.out).mono ?_); (case side1 => repeat (first | exact (apC HR588.out) | (with_reducible refine Kd.C_alloc ?_ _) | (with_reducible refine Kd.C_drewN ?_ _) | (with_reducible refine Kd.C_drew ?_))); (case side2 => exact HC588.out); (case side3 => repeat (first | exact (Kd.R_reads' HO584.out).2.2 | (with_reducible refine Kd.C_alloc ?_ _) | (with_reducible refine Kd.C_drewN ?_ _) | (with_reducible refine Kd.C_drew ?_))); (case side4 => exact (Kd.R_reads' HO584.out).2.1); rintro e w' ⟨rfl, ⟨nd, rfl⟩⟩))
     go_ret
     exact ⟨by first | rfl | (simp [errW_none, errW_some, bne_nil8, beq_nil8]; done) | (simp [errW_none, errW_some] <;> rfl) | (simp [*, errW_none, errW_some] <;> rfl), by repeat (first | (with_reducible first | exact HB.out | apply below_alloc | apply pw_below_drewN | apply below_drew1) | exact HB.out)⟩
    ·
     rw [if_neg c8] at H
     exact absurd H (by simp)
   ·
    rw [if_neg c7] at H
    have c7b0 := decide_eq_false c7
    have c7b1 : decide (t581.length ≤ t577.length) = false := decide_eq_false (fun h => c7 (Int.ofNat_le.mpr h))
    clear c7
    obtain rfl := Option.some.inj H
    go_enter Tryz.func12, Tryz.ntmps12
    go_wp2_with (first | ((with_reducible refine gate_callee (f := 10) rfl ?_); refine goesL_ (some 11) rfl rfl Tryz.func10 (by kernel_rfl) rfl #[.slice A0 l0.length c0] rfl ap3 ?_; (with_reducible refine (R15Keys.calls k _ _ l0 t577 t578 _ ?side1 ?side2 A3.out).mono ?_); (case side1 => repeat (first | exact HR0.out | (with_reducible refine Kd.C_alloc ?_ _) | (with_reducible refine Kd.C_drewN ?_ _) | (with_reducible refine Kd.C_drew ?_))); (case side2 => exact HC0.out); rintro e w16 ⟨v579, rfl, ho0, hb⟩; refine ⟨_, rfl, ?_⟩; have n0_ := Aside0.mk (Kd.R_lower ho0 (below_size ap1)); have n1_ := Aside0.mk (below_step ap1 hb); clear HB; have HO580 := n0_; have HB := n1_; clear n0_ n1_; (try clear hb); (try clear hb2); (try clear hk); (try clear hi); (try clear ho0)) | ((with_reducible refine gate_callee (f := 10) rfl ?_); refine goesL_ (some 16) rfl rfl Tryz.func10 (by kernel_rfl) rfl #[.slice A1 l1.length c1] rfl ap3 ?_; (with_reducible refine (R15Keys.calls k _ _ l1 t581 t582 _ ?side1 ?side2 A4.out).mono ?_); (case side1 => repeat (first | exact (Kd.C_below HR1.out HB.out) | (with_reducible refine Kd.C_alloc ?_ _) | (with_reducible refine Kd.C_drewN ?_ _) | (with_reducible refine Kd.C_drew ?_))); (case side2 => exact HC1.out); rintro e w17 ⟨v583, rfl, ho0, hb⟩; refine ⟨_, rfl, ?_⟩; have n0_ := Aside0.mk (Kd.R_elder' (apAR HO580.out) (Kd.R_base ho0) hb); have n1_ := Aside0.mk (Kd.R_lower (Kd.R_new' ho0 (Kd.R_lt (apAR HO580.out))) (below_size ap1)); have n2_ := Aside0.mk (below_step ap1 hb); clear HO580; clear HB; have HO580 := n0_; have HO584 := n1_; have HB := n2_; clear n0_ n1_ n2_; (try clear hb); (try clear hb2); (try clear hk); (try clear hi); (try clear ho0); obtain ⟨Ao18, co18, eo18⟩ := Kd.R_slice HO584.out; subst eo18; obtain ⟨Ao19, co19, eo19⟩ := Kd.R_slice HO580.out; subst eo19))
    go_ret
    exact ⟨by first | rfl | (simp [errW_none, errW_some, bne_nil8, beq_nil8]; done) | (simp [errW_none, errW_some] <;> rfl) | (simp [*, errW_none, errW_some] <;> rfl), by repeat (first | (with_reducible first | exact HB.out | apply below_alloc | apply pw_below_drewN | apply below_drew1) | exact HB.out)⟩
  ·
   rw [if_neg c6] at H
   have c6b0 : (t582 == 0) = false := beq_eq_false_iff_ne.mpr c6
   have c6b1 : (t582 != 0) = true := bne_iff_ne.mpr c6
   obtain rfl := Option.some.inj H
   go_enter Tryz.func12, Tryz.ntmps12
   go_wp2_with (first | ((with_reducible refine gate_callee (f := 10) rfl ?_); refine goesL_ (some 11) rfl rfl Tryz.func10 (by kernel_rfl) rfl #[.slice A0 l0.length c0] rfl ap3 ?_; (with_reducible refine (R15Keys.calls k _ _ l0 t577 t578 _ ?side1 ?side2 A3.out).mono ?_); (case side1 => repeat (first | exact HR0.out | (with_reducible refine Kd.C_alloc ?_ _) | (with_reducible refine Kd.C_drewN ?_ _) | (with_reducible refine Kd.C_drew ?_))); (case side2 => exact HC0.out); rintro e w20 ⟨v579, rfl, ho0, hb⟩; refine ⟨_, rfl, ?_⟩; have n0_ := Aside0.mk (Kd.R_lower ho0 (below_size ap1)); have n1_ := Aside0.mk (below_step ap1 hb); clear HB; have HO580 := n0_; have HB := n1_; clear n0_ n1_; (try clear hb); (try clear hb2); (try clear hk); (try clear hi); (try clear ho0)) | ((with_reducible refine gate_callee (f := 10) rfl ?_); refine goesL_ (some 16) rfl rfl Tryz.func10 (by kernel_rfl) rfl #[.slice A1 l1.length c1] rfl ap3 ?_; (with_reducible refine (R15Keys.calls k _ _ l1 t581 t582 _ ?side1 ?side2 A4.out).mono ?_); (case side1 => repeat (first | exact (Kd.C_below HR1.out HB.out) | (with_reducible refine Kd.C_alloc ?_ _) | (with_reducible refine Kd.C_drewN ?_ _) | (with_reducible refine Kd.C_drew ?_))); (case side2 => exact HC1.out); rintro e w21 ⟨v583, rfl, ho0, hb⟩; refine ⟨_, rfl, ?_⟩; have n0_ := Aside0.mk (Kd.R_elder' (apAR HO580.out) (Kd.R_base ho0) hb); have n1_ := Aside0.mk (Kd.R_lower (Kd.R_new' ho0 (Kd.R_lt (apAR HO580.out))) (below_size ap1)); have n2_ := Aside0.mk (below_step ap1 hb); clear HO580; clear HB; have HO580 := n0_; have HO584 := n1_; have HB := n2_; clear n0_ n1_ n2_; (try clear hb); (try clear hb2); (try clear hk); (try clear hi); (try clear ho0)))
   go_ret
   exact ⟨by first | rfl | (simp [errW_none, errW_some, bne_nil8, beq_nil8]; done) | (simp [errW_none, errW_some] <;> rfl) | (simp [*, errW_none, errW_some] <;> rfl), by repeat (first | (with_reducible first | exact HB.out | apply below_alloc | apply pw_below_drewN | apply below_drew1) | exact HB.out)⟩
 ·
  rw [if_neg c5] at H
  have c5b0 : (t578 == 0) = false := beq_eq_false_iff_ne.mpr c5
  have c5b1 : (t578 != 0) = true := bne_iff_ne.mpr c5
  obtain rfl := Option.some.inj H
  go_enter Tryz.func12, Tryz.ntmps12
  go_wp2_with (first | ((with_reducible refine gate_callee (f := 10) rfl ?_); refine goesL_ (some 11) rfl rfl Tryz.func10 (by kernel_rfl) rfl #[.slice A0 l0.length c0] rfl ap3 ?_; (with_reducible refine (R15Keys.calls k _ _ l0 t577 t578 _ ?side1 ?side2 A3.out).mono ?_); (case side1 => repeat (first | exact HR0.out | (with_reducible refine Kd.C_alloc ?_ _) | (with_reducible refine Kd.C_drewN ?_ _) | (with_reducible refine Kd.C_drew ?_))); (case side2 => exact HC0.out); rintro e w22 ⟨v579, rfl, ho0, hb⟩; refine ⟨_, rfl, ?_⟩; have n0_ := Aside0.mk (Kd.R_lower ho0 (below_size ap1)); have n1_ := Aside0.mk (below_step ap1 hb); clear HB; have HO580 := n0_; have HB := n1_; clear n0_ n1_; (try clear hb); (try clear hb2); (try clear hk); (try clear hi); (try clear ho0)) | ((with_reducible refine gate_callee (f := 10) rfl ?_); refine goesL_ (some 16) rfl rfl Tryz.func10 (by kernel_rfl) rfl #[.slice A1 l1.length c1] rfl ap3 ?_; (with_reducible refine (R15Keys.calls k _ _ l1 t581 t582 _ ?side1 ?side2 A4.out).mono ?_); (case side1 => repeat (first | exact (Kd.C_below HR1.out HB.out) | (with_reducible refine Kd.C_alloc ?_ _) | (with_reducible refine Kd.C_drewN ?_ _) | (with_reducible refine Kd.C_drew ?_))); (case side2 => exact HC1.out); rintro e w23 ⟨v583, rfl, ho0, hb⟩; refine ⟨_, rfl, ?_⟩; have n0_ := Aside0.mk (Kd.R_elder' (apAR HO580.out) (Kd.R_base ho0) hb); have n1_ := Aside0.mk (Kd.R_lower (Kd.R_new' ho0 (Kd.R_lt (apAR HO580.out))) (below_size ap1)); have n2_ := Aside0.mk (below_step ap1 hb); clear HO580; clear HB; have HO580 := n0_; have HO584 := n1_; have HB := n2_; clear n0_ n1_ n2_; (try clear hb); (try clear hb2); (try clear hk); (try clear hi); (try clear ho0)))
  go_ret
  exact ⟨by first | rfl | (simp [errW_none, errW_some, bne_nil8, beq_nil8]; done) | (simp [errW_none, errW_some] <;> rfl) | (simp [*, errW_none, errW_some] <;> rfl), by repeat (first | (with_reducible first | exact HB.out | apply below_alloc | apply pw_below_drewN | apply below_drew1) | exact HB.out)⟩
mutual
def L15DnKeys.j0 : Nat → List (List (S40)) → List (List (S40)) → Bool → Option (Bool)
 | 0, _, _, _ => none
 | k + 1, x0, x1, x21 => if x21 = true then (some true) else ((dn_Keys.f k x0).bind fun bt596 => ((R15Keys.f k x0).bind fun bt600 => (if bt596.2 = bt600.2 then ((R01Same.f k bt596.1 bt600.1).bind fun t604 => (if t604 = true then ((dn_Under.f k x0 x1).bind fun t605 => ((R15Under.f k x0 x1).bind fun t606 => (L15DnKeys.j1 k x0 x1 (t605 != t606)))) else (L15DnKeys.j1 k x0 x1 true))) else (L15DnKeys.j1 k x0 x1 true))))
def L15DnKeys.j1 : Nat → List (List (S40)) → List (List (S40)) → Bool → Option (Bool)
 | 0, _, _, _ => none
 | k + 1, x0, x1, x49 => if x49 = true then (some false) else ((dn_Same.f k x0 x1).bind fun t607 => (if (x0.length : Int) = (x1.length : Int) then ((R15Under.f k x0 x1).bind fun t608 => (L15DnKeys.j2 k x0 (t607 != t608))) else (L15DnKeys.j2 k x0 (t607 != false))))
def L15DnKeys.j2 : Nat → List (List (S40)) → Bool → Option (Bool)
 | 0, _, _ => none
 | k + 1, x0, x63 => if x63 = true then (some false) else (L15DnKeys.l0 k x0 0)
def L15DnKeys.l0 : Nat → List (List (S40)) → Int → Option (Bool)
 | 0, _, _ => none
 | k + 1, x0, x9 => if x9 < (x0.length : Int) then (if 0 ≤ x9 then ((dn_Key.f k (rd_L8 x0 x9)).bind fun bt610 => ((R15Key.f k (rd_L8 x0 x9)).bind fun bt613 => (if bt610.1.toList = bt613.1.toList then (if bt610.2 = bt613.2 then (L15DnKeys.l0 k x0 (wrap64 (x9 + 1))) else (some false)) else (some false)))) else (none)) else (some true)
end
def L15DnKeys.f (k : Nat) (l0 : List (List (S40))) (l1 : List (List (S40))) : Option (Bool) := (L15awake.f k).bind fun t593 => (if t593 = true then ((L15Long.f k l0).bind fun t594 => (if t594 = true then (L15DnKeys.j0 k l0 l1 true) else ((L15Long.f k l1).bind fun t595 => (L15DnKeys.j0 k l0 l1 t595)))) else (some false))
set_option maxHeartbeats 8000000 in
set_option maxRecDepth 100000 in
theorem L15DnKeys.calls (k : Nat) (A0 : Option Addr) (c0 : Nat) (l0 : List (List (S40))) (A1 : Option Addr) (c1 : Nat) (l1 : List (List (S40))) (r : Bool) (w : World) (hr0 : Kd.C (Kd.slice 40 k40) w A0 l0.length l0) (hc0 : l0.length ≤ c0) (hr1 : Kd.C (Kd.slice 40 k40) w A1 l1.length l1) (hc1 : l1.length ≤ c1) (hG : Gw w) (h : L15DnKeys.f k l0 l1 = some r) :
  Calls Tryz.prog 4 #[.slice A0 l0.length c0, .slice A1 l1.length c1] w fun e w' => e = .returned (.bool r) ∧ Below w.heap.size w w' := by
 have HR0 := Aside0.mk hr0
 have HC0 := Aside0.mk hc0
 clear hr0 hc0
 have HR1 := Aside0.mk hr1
 have HC1 := Aside0.mk hc1
 clear hr1 hc1
 have HB := Aside0.mk (Below.refl w.heap.size w)
 have HG := Aside0.mk hG
 clear hG
 have H : ((L15awake.f k).bind fun t593 => (if t593 = true then ((L15Long.f k l0).bind fun t594 => (if t594 = true then (L15DnKeys.j0 k l0 l1 true) else ((L15Long.f k l1).bind fun t595 => (L15DnKeys.j0 k l0 l1 t595)))) else (some false))) = some r := h
 clear h
 replace H := Option.bind_eq_some_iff.mp H
 obtain ⟨t593, A30, H⟩ := H
 replace H : (if t593 = true then ((L15Long.f k l0).bind fun t594 => (if t594 = true then (L15DnKeys.j0 k l0 l1 true) else ((L15Long.f k l1).bind fun t595 => (L15DnKeys.j0 k l0 l1 t595)))) else (some false)) = some r := H
 have A3 := Aside0.mk A30
 clear A30
 by_cases c4 : t593 = true
 ·
  subst c4
  rw [if_pos rfl] at H
  have HC5 := Aside0.mk H
  clear H
  go_enter Tryz.func4, Tryz.ntmps4
  go_upto_region 3 with (first | ((with_reducible refine gate_callee (f := 5) rfl ?_); refine goesL_ (some 14) rfl rfl Tryz.func5 (by kernel_rfl) rfl #[] rfl ap3 ?_; (with_reducible refine (L15awake.calls k  true _ ?side1 A3.out).mono ?_); (case side1 => exact ap6); rintro e w6 ⟨rfl, hb⟩; refine ⟨_, rfl, ?_⟩; have n0_ := Aside0.mk (below_step ap1 hb); clear HB; have HB := n0_; clear n0_; (try clear hb); (try clear hb2); (try clear hk); (try clear hi)))
  (try simp only [Act.put, List.setIfInBounds_toArray, List.set_cons_zero, List.set_cons_succ])
  go_cut [21] (fun v21 wc => ∃ (kq : Nat) (x21_4 : Bool), v21 = .bool x21_4 ∧ Aside0 (L15DnKeys.j0 kq l0 l1 x21_4 = some r) ∧ Aside0 (kq ≤ k) ∧ Aside0 (Below w.heap.size w wc))
  case first =>
   have H := HC5.out
   clear HC5
   replace H := Option.bind_eq_some_iff.mp H
   obtain ⟨t594, A70, H⟩ := H
   replace H : (if t594 = true then (L15DnKeys.j0 k l0 l1 true) else ((L15Long.f k l1).bind fun t595 => (L15DnKeys.j0 k l0 l1 t595))) = some r := H
   have A7 := Aside0.mk A70
   clear A70
   by_cases c8 : t594 = true
   ·
    subst c8
    rw [if_pos rfl] at H
    have H' := Aside0.mk H
    clear H
    go_wp2_with (first | ((with_reducible refine gate_callee (f := 6) rfl ?_); refine goesL_ (some 17) rfl rfl Tryz.func6 (by kernel_rfl) rfl #[.slice A0 l0.length c0] rfl ap3 ?_; (with_reducible refine (L15Long.calls k _ _ l0 true _ ?side1 ?side2 A7.out).mono ?_); (case side1 => repeat (first | exact (Kd.C_below HR0.out HB.out) | (with_reducible refine Kd.C_alloc ?_ _) | (with_reducible refine Kd.C_drewN ?_ _) | (with_reducible refine Kd.C_drew ?_))); (case side2 => exact HC0.out); rintro e w' ⟨rfl, ⟨nd, rfl⟩⟩; refine ⟨_, rfl, ?_⟩))
    go_meet
    case rel => exact ⟨_, (true), ap2, H', ⟨by first | omega | exact Nat.le_refl _⟩, ⟨by repeat (first | (with_reducible first | exact HB.out | apply below_alloc | apply pw_below_drewN | apply below_drew1) | exact HB.out)⟩⟩
   ·
    replace c8 := Bool.eq_false_iff.mpr c8
    subst c8
    rw [if_neg (show ¬ (false = true) by decide)] at H
    replace H := Option.bind_eq_some_iff.mp H
    obtain ⟨t595, A90, H⟩ := H
    replace H : (L15DnKeys.j0 k l0 l1 t595) = some r := H
    have A9 := Aside0.mk A90
    clear A90
    have H' := Aside0.mk H
    clear H
    go_wp2_with (first | ((with_reducible refine gate_callee (f := 6) rfl ?_); refine goesL_ (some 17) rfl rfl Tryz.func6 (by kernel_rfl) rfl #[.slice A0 l0.length c0] rfl ap3 ?_; (with_reducible refine (L15Long.calls k _ _ l0 false _ ?side1 ?side2 A7.out).mono ?_); (case side1 => repeat (first | exact (Kd.C_below HR0.out HB.out) | (with_reducible refine Kd.C_alloc ?_ _) | (with_reducible refine Kd.C_drewN ?_ _) | (with_reducible refine Kd.C_drew ?_))); (case side2 => exact HC0.out); rintro e w' ⟨rfl, ⟨nd, rfl⟩⟩; refine ⟨_, rfl, ?_⟩) | (go_at_call 6; (with_reducible refine (L15Long.calls k _ _ l1 t595 _ ?side1 ?side2 A9.out).mono ?_); (case side1 => repeat (first | exact (Kd.C_below HR1.out ap1) | (with_reducible refine Kd.C_alloc ?_ _) | (with_reducible refine Kd.C_drewN ?_ _) | (with_reducible refine Kd.C_drew ?_))); (case side2 => exact HC1.out); rintro e w' ⟨rfl, ⟨nd, rfl⟩⟩))
    go_meet
    case rel => exact ⟨_, (t595), ap2, H', ⟨by first | omega | exact Nat.le_refl _⟩, ⟨by repeat (first | (with_reducible first | exact HB.out | apply below_alloc | apply pw_below_drewN | apply below_drew1) | exact HB.out)⟩⟩
  case rest =>
   clear HC5
   try clear c1
   try clear p2
   try clear c4
   try clear c5
   try clear c6
   try clear c8
   obtain ⟨kq, x21_4, rfl, HA, HJ4, HB⟩ := hcut
   cases kq with
   | zero => exact absurd HA.out (by simp [L15DnKeys.j0])
   | succ kj4 =>
    have H := HA.out
    clear HA
    simp only [L15DnKeys.j0] at H
    by_cases c10 : x21_4 = true
    ·
     subst c10
     rw [if_pos rfl] at H
     obtain rfl := Option.some.inj H
     go_wp2
     go_ret
     exact ⟨by first | rfl | (simp [errW_none, errW_some, bne_nil8, beq_nil8]; done) | (simp [errW_none, errW_some] <;> rfl) | (simp [*, errW_none, errW_some] <;> rfl), by repeat (first | (with_reducible first | exact HB.out | apply below_alloc | apply pw_below_drewN | apply below_drew1) | exact HB.out)⟩
    ·
     replace c10 := Bool.eq_false_iff.mpr c10
     subst c10
     rw [if_neg (show ¬ (false = true) by decide)] at H
     replace H := Option.bind_eq_some_iff.mp H
     obtain ⟨⟨t596, t597⟩, A110, H⟩ := H
     replace H : ((R15Keys.f kj4 l0).bind fun bt600 => (if t597 = bt600.2 then ((R01Same.f kj4 t596 bt600.1).bind fun t604 => (if t604 = true then ((dn_Under.f kj4 l0 l1).bind fun t605 => ((R15Under.f kj4 l0 l1).bind fun t606 => (L15DnKeys.j1 kj4 l0 l1 (t605 != t606)))) else (L15DnKeys.j1 kj4 l0 l1 true))) else (L15DnKeys.j1 kj4 l0 l1 true))) = some r := H
     have A11 := Aside0.mk A110
     clear A110
     replace H := Option.bind_eq_some_iff.mp H
     obtain ⟨⟨t600, t601⟩, A120, H⟩ := H
     replace H : (if t597 = t601 then ((R01Same.f kj4 t596 t600).bind fun t604 => (if t604 = true then ((dn_Under.f kj4 l0 l1).bind fun t605 => ((R15Under.f kj4 l0 l1).bind fun t606 => (L15DnKeys.j1 kj4 l0 l1 (t605 != t606)))) else (L15DnKeys.j1 kj4 l0 l1 true))) else (L15DnKeys.j1 kj4 l0 l1 true)) = some r := H
     have A12 := Aside0.mk A120
     clear A120
     have HC13 := Aside0.mk H
     clear H
     go_upto_region 7 with (first | ((with_reducible refine gate_callee (f := 9) rfl ?_); refine goesL_ (some 24) rfl rfl Tryz.func9 (by kernel_rfl) rfl #[.slice A0 l0.length c0] rfl ap3 ?_; (with_reducible refine (dn_Keys.calls kj4 _ _ l0 t596 t597 _ ?side1 ?side2 ?side3 A11.out).mono ?_); (case side1 => repeat (first | exact (Kd.C_below HR0.out HB.out) | (with_reducible refine Kd.C_alloc ?_ _) | (with_reducible refine Kd.C_drewN ?_ _) | (with_reducible refine Kd.C_drew ?_))); (case side2 => exact HC0.out); (case side3 => exact ap6); rintro e w14 ⟨v598, rfl, ho0, hb⟩; refine ⟨_, rfl, ?_⟩; have n0_ := Aside0.mk (Kd.R_lower ho0 (below_size ap1)); have n1_ := Aside0.mk (below_step ap1 hb); clear HB; have HO599 := n0_; have HB := n1_; clear n0_ n1_; (try clear hb); (try clear hb2); (try clear hk); (try clear hi); (try clear ho0)) | ((with_reducible refine gate_callee (f := 10) rfl ?_); refine goesL_ (some 29) rfl rfl Tryz.func10 (by kernel_rfl) rfl #[.slice A0 l0.length c0] rfl ap3 ?_; (with_reducible refine (R15Keys.calls kj4 _ _ l0 t600 t601 _ ?side1 ?side2 A12.out).mono ?_); (case side1 => repeat (first | exact (Kd.C_below HR0.out HB.out) | (with_reducible refine Kd.C_alloc ?_ _) | (with_reducible refine Kd.C_drewN ?_ _) | (with_reducible refine Kd.C_drew ?_))); (case side2 => exact HC0.out); rintro e w15 ⟨v602, rfl, ho0, hb⟩; refine ⟨_, rfl, ?_⟩; have n0_ := Aside0.mk (Kd.R_elder' (apAR HO599.out) (Kd.R_base ho0) hb); have n1_ := Aside0.mk (Kd.R_lower (Kd.R_new' ho0 (Kd.R_lt (apAR HO599.out))) (below_size ap1)); have n2_ := Aside0.mk (below_step ap1 hb); clear HO599; clear HB; have HO599 := n0_; have HO603 := n1_; have HB := n2_; clear n0_ n1_ n2_; (try clear hb); (try clear hb2); (try clear hk); (try clear hi); (try clear ho0)))
     (try simp only [Act.put, List.setIfInBounds_toArray, List.set_cons_zero, List.set_cons_succ])
     go_cut [49] (fun v49 wc => ∃ (kq : Nat) (x49_12 : Bool), v49 = .bool x49_12 ∧ Aside0 (L15DnKeys.j1 kq l0 l1 x49_12 = some r) ∧ Aside0 (kq ≤ kj4) ∧ Aside0 (Below w.heap.size w wc))
     case first =>
      have H := HC13.out
      clear HC13
      by_cases c16 : t597 = t601
      ·
       rw [if_pos c16] at H
       have c16b0 : (t597 == t601) = true := beq_iff_eq.mpr c16
       have c16b1 : (t597 != t601) = false := bne_eq_false_iff_eq.mpr c16
       clear c16
       (first | rw [c16b0] | (simp only [i64_w, i32_w]; rw [c16b0]) | skip)
       replace H := Option.bind_eq_some_iff.mp H
       obtain ⟨t604, A170, H⟩ := H
       replace H : (if t604 = true then ((dn_Under.f kj4 l0 l1).bind fun t605 => ((R15Under.f kj4 l0 l1).bind fun t606 => (L15DnKeys.j1 kj4 l0 l1 (t605 != t606)))) else (L15DnKeys.j1 kj4 l0 l1 true)) = some r := H
       have A17 := Aside0.mk A170
       clear A170
       by_cases c18 : t604 = true
       ·
        subst c18
        rw [if_pos rfl] at H
        replace H := Option.bind_eq_some_iff.mp H
        obtain ⟨t605, A190, H⟩ := H
        replace H : ((R15Under.f kj4 l0 l1).bind fun t606 => (L15DnKeys.j1 kj4 l0 l1 (t605 != t606))) = some r := H
        have A19 := Aside0.mk A190
        clear A190
        replace H := Option.bind_eq_some_iff.mp H
        obtain ⟨t606, A200, H⟩ := H
        replace H : (L15DnKeys.j1 kj4 l0 l1 (t605 != t606)) = some r := H
        have A20 := Aside0.mk A200
        clear A200
        have H' := Aside0.mk H
        clear H
        obtain ⟨Ao21, co21, eo21⟩ := Kd.R_slice HO599.out
        subst eo21
        obtain ⟨Ao22, co22, eo22⟩ := Kd.R_slice HO603.out
        subst eo22
        go_wp2_with (first | (go_at_call 11; (with_reducible refine (R01Same.calls kj4 _ _ t596 _ _ t600 true _ ?side1 ?side2 ?side3 ?side4 A17.out).mono ?_); (case side1 => repeat (first | exact (Kd.R_reads' HO599.out).2.2 | (with_reducible refine Kd.C_alloc ?_ _) | (with_reducible refine Kd.C_drewN ?_ _) | (with_reducible refine Kd.C_drew ?_))); (case side2 => exact (Kd.R_reads' HO599.out).2.1); (case side3 => repeat (first | exact (Kd.R_reads' HO603.out).2.2 | (with_reducible refine Kd.C_alloc ?_ _) | (with_reducible refine Kd.C_drewN ?_ _) | (with_reducible refine Kd.C_drew ?_))); (case side4 => exact (Kd.R_reads' HO603.out).2.1); rintro e w' ⟨rfl, ⟨nd, rfl⟩⟩) | (go_at_call 8; (with_reducible refine (dn_Under.calls kj4 _ _ l0 _ _ l1 t605 _ ?side1 ?side2 ?side3 ?side4 ?side5 A19.out).mono ?_); (case side1 => repeat (first | exact (Kd.C_below HR0.out ap1) | (with_reducible refine Kd.C_alloc ?_ _) | (with_reducible refine Kd.C_drewN ?_ _) | (with_reducible refine Kd.C_drew ?_))); (case side2 => exact HC0.out); (case side3 => repeat (first | exact (Kd.C_below HR1.out ap1) | (with_reducible refine Kd.C_alloc ?_ _) | (with_reducible refine Kd.C_drewN ?_ _) | (with_reducible refine Kd.C_drew ?_))); (case side4 => exact HC1.out); (case side5 => exact ap6); rintro e w23 ⟨rfl, hb⟩; have n0_ := Aside0.mk (Kd.R_below (apAR HO599.out) hb); have n1_ := Aside0.mk (Kd.R_below (apAR HO603.out) hb); have n2_ := Aside0.mk (below_step ap1 hb); clear HO599; clear HO603; clear HB; have HO599 := n0_; have HO603 := n1_; have HB := n2_; clear n0_ n1_ n2_; (try clear hb); (try clear hb2); (try clear hk); (try clear hi)) | (go_at_call 12; (with_reducible refine (R15Under.calls kj4 _ _ l0 _ _ l1 t606 _ ?side1 ?side2 ?side3 ?side4 A20.out).mono ?_); (case side1 => repeat (first | exact (Kd.C_below HR0.out HB.out) | (with_reducible refine Kd.C_alloc ?_ _) | (with_reducible refine Kd.C_drewN ?_ _) | (with_reducible refine Kd.C_drew ?_))); (case side2 => exact HC0.out); (case side3 => repeat (first | exact (Kd.C_below HR1.out HB.out) | (with_reducible refine Kd.C_alloc ?_ _) | (with_reducible refine Kd.C_drewN ?_ _) | (with_reducible refine Kd.C_drew ?_))); (case side4 => exact HC1.out); rintro e w24 ⟨rfl, hb⟩; have n0_ := Aside0.mk (Kd.R_below (apAR HO599.out) hb); have n1_ := Aside0.mk (Kd.R_below (apAR HO603.out) hb); have n2_ := Aside0.mk (below_step ap1 hb); clear HO599; clear HO603; clear HB; have HO599 := n0_; have HO603 := n1_; have HB := n2_; clear n0_ n1_ n2_; (try clear hb); (try clear hb2); (try clear hk); (try clear hi)))
        first | go_meet | (simp only [c16b0] at *; go_meet)
        case rel => exact ⟨_, ((t605 != t606)), ap2, H', ⟨by have := HJ4.out; first | omega | exact Nat.le_refl _⟩, ⟨by repeat (first | (with_reducible first | exact HB.out | apply below_alloc | apply pw_below_drewN | apply below_drew1) | exact HB.out)⟩⟩
       ·
        replace c18 := Bool.eq_false_iff.mpr c18
        subst c18
        rw [if_neg (show ¬ (false = true) by decide)] at H
        have H' := Aside0.mk H
        clear H
        obtain ⟨Ao25, co25, eo25⟩ := Kd.R_slice HO599.out
        subst eo25
        obtain ⟨Ao26, co26, eo26⟩ := Kd.R_slice HO603.out
        subst eo26
        go_wp2_with (first | (go_at_call 11; (with_reducible refine (R01Same.calls kj4 _ _ t596 _ _ t600 false _ ?side1 ?side2 ?side3 ?side4 A17.out).mono ?_); (case side1 => repeat (first | exact (Kd.R_reads' HO599.out).2.2 | (with_reducible refine Kd.C_alloc ?_ _) | (with_reducible refine Kd.C_drewN ?_ _) | (with_reducible refine Kd.C_drew ?_))); (case side2 => exact (Kd.R_reads' HO599.out).2.1); (case side3 => repeat (first | exact (Kd.R_reads' HO603.out).2.2 | (with_reducible refine Kd.C_alloc ?_ _) | (with_reducible refine Kd.C_drewN ?_ _) | (with_reducible refine Kd.C_drew ?_))); (case side4 => exact (Kd.R_reads' HO603.out).2.1); rintro e w' ⟨rfl, ⟨nd, rfl⟩⟩))
        first | go_meet | (simp only [c16b0] at *; go_meet)
        case rel => exact ⟨_, (true), ap2, H', ⟨by have := HJ4.out; first | omega | exact Nat.le_refl _⟩, ⟨by repeat (first | (with_reducible first | exact HB.out | apply below_alloc | apply pw_below_drewN | apply below_drew1) | exact HB.out)⟩⟩
      ·
       rw [if_neg c16] at H
       have c16b0 : (t597 == t601) = false := beq_eq_false_iff_ne.mpr c16
       have c16b1 : (t597 != t601) = true := bne_iff_ne.mpr c16
       (first | rw [c16b0] | (simp only [i64_w, i32_w]; rw [c16b0]) | skip)
       have H' := Aside0.mk H
       clear H
       go_wp2
       first | go_meet | (simp only [c16b0] at *; go_meet) | (simp only [c16b0] at *; go_meet)
       case rel => exact ⟨_, (true), ap2, H', ⟨by have := HJ4.out; first | omega | exact Nat.le_refl _⟩, ⟨by repeat (first | (with_reducible first | exact HB.out | apply below_alloc | apply pw_below_drewN | apply below_drew1) | exact HB.out)⟩⟩
     case rest =>
      clear HC13
      try clear c1
      try clear p2
      try clear c4
      try clear c5
      try clear c6
      try clear c8
      try clear c9
      try clear c10
      try clear c16
      try clear c16b0
      try clear c16b1
      try clear c18
      try clear p2
      obtain ⟨kq, x49_12, rfl, HA, HJ12, HB⟩ := hcut
      cases kq with
      | zero => exact absurd HA.out (by simp [L15DnKeys.j1])
      | succ kj12 =>
       have H := HA.out
       clear HA
       simp only [L15DnKeys.j1] at H
       by_cases c27 : x49_12 = true
       ·
        subst c27
        rw [if_pos rfl] at H
        obtain rfl := Option.some.inj H
        go_wp2
        go_ret
        exact ⟨by first | rfl | (simp [errW_none, errW_some, bne_nil8, beq_nil8]; done) | (simp [errW_none, errW_some] <;> rfl) | (simp [*, errW_none, errW_some] <;> rfl), by repeat (first | (with_reducible first | exact HB.out | apply below_alloc | apply pw_below_drewN | apply below_drew1) | exact HB.out)⟩
       ·
        replace c27 := Bool.eq_false_iff.mpr c27
        subst c27
        rw [if_neg (show ¬ (false = true) by decide)] at H
        have HC28 := Aside0.mk H
        clear H
        go_upto_region 9 with (fail)
        go_cut [63] (fun v63 wc => ∃ (kq : Nat) (x63_27 : Bool), v63 = .bool x63_27 ∧ Aside0 (L15DnKeys.j2 kq l0 x63_27 = some r) ∧ Aside0 (kq ≤ kj12) ∧ Aside0 (Below w.heap.size w wc))
        case first =>
         have H := HC28.out
         clear HC28
         replace H := Option.bind_eq_some_iff.mp H
         obtain ⟨t607, A290, H⟩ := H
         replace H : (if (l0.length : Int) = (l1.length : Int) then ((R15Under.f kj12 l0 l1).bind fun t608 => (L15DnKeys.j2 kj12 l0 (t607 != t608))) else (L15DnKeys.j2 kj12 l0 (t607 != false))) = some r := H
         have A29 := Aside0.mk A290
         clear A290
         by_cases c30 : (l0.length : Int) = (l1.length : Int)
         ·
          rw [if_pos c30] at H
          have c30b0 : ((l0.length : Int) == (l1.length : Int)) = true := beq_iff_eq.mpr c30
          have c30b1 : ((l0.length : Int) != (l1.length : Int)) = false := bne_eq_false_iff_eq.mpr c30
          have c30b2 : (l0.length == l1.length) = true := by first | simpa using c30 | (simp at c30 ⊢; omega)
          clear c30
          (first | rw [c30b0] | (simp only [i64_w, i32_w]; rw [c30b0]) | skip)
          replace H := Option.bind_eq_some_iff.mp H
          obtain ⟨t608, A310, H⟩ := H
          replace H : (L15DnKeys.j2 kj12 l0 (t607 != t608)) = some r := H
          have A31 := Aside0.mk A310
          clear A310
          have H' := Aside0.mk H
          clear H
          go_wp2_with (first | ((with_reducible refine gate_callee (f := 13) rfl ?_); refine goesL_ (some 52) rfl rfl Tryz.func13 (by kernel_rfl) rfl #[.slice A0 l0.length c0, .slice A1 l1.length c1] rfl ap3 ?_; (with_reducible refine (dn_Same.calls kj12 _ _ l0 _ _ l1 t607 _ ?side1 ?side2 ?side3 ?side4 ?side5 A29.out).mono ?_); (case side1 => repeat (first | exact (Kd.C_below HR0.out HB.out) | (with_reducible refine Kd.C_alloc ?_ _) | (with_reducible refine Kd.C_drewN ?_ _) | (with_reducible refine Kd.C_drew ?_))); (case side2 => exact HC0.out); (case side3 => repeat (first | exact (Kd.C_below HR1.out HB.out) | (with_reducible refine Kd.C_alloc ?_ _) | (with_reducible refine Kd.C_drewN ?_ _) | (with_reducible refine Kd.C_drew ?_))); (case side4 => exact HC1.out); (case side5 => exact ap6); rintro e w32 ⟨rfl, hb⟩; refine ⟨_, rfl, ?_⟩; have n0_ := Aside0.mk (below_step ap1 hb); clear HB; have HB := n0_; clear n0_; (try clear hb); (try clear hb2); (try clear hk); (try clear hi)) | (go_at_call 12; (with_reducible refine (R15Under.calls kj12 _ _ l0 _ _ l1 t608 _ ?side1 ?side2 ?side3 ?side4 A31.out).mono ?_); (case side1 => repeat (first | exact (Kd.C_below HR0.out HB.out) | (with_reducible refine Kd.C_alloc ?_ _) | (with_reducible refine Kd.C_drewN ?_ _) | (with_reducible refine Kd.C_drew ?_))); (case side2 => exact HC0.out); (case side3 => repeat (first | exact (Kd.C_below HR1.out HB.out) | (with_reducible refine Kd.C_alloc ?_ _) | (with_reducible refine Kd.C_drewN ?_ _) | (with_reducible refine Kd.C_drew ?_))); (case side4 => exact HC1.out); rintro e w33 ⟨rfl, hb⟩; have n0_ := Aside0.mk (below_step ap1 hb); clear HB; have HB := n0_; clear n0_; (try clear hb); (try clear hb2); (try clear hk); (try clear hi)))
          first | go_meet | (simp only [c30b0] at *; go_meet) | (simp only [c16b0] at *; go_meet) | (simp only [c16b0] at *; go_meet)
          case rel => exact ⟨_, ((t607 != t608)), ap2, H', ⟨by have := HJ4.out; have := HJ12.out; first | omega | exact Nat.le_refl _⟩, ⟨by repeat (first | (with_reducible first | exact HB.out | apply below_alloc | apply pw_below_drewN | apply below_drew1) | exact HB.out)⟩⟩
         ·
          rw [if_neg c30] at H
          have c30b0 : ((l0.length : Int) == (l1.length : Int)) = false := beq_eq_false_iff_ne.mpr c30
          have c30b1 : ((l0.length : Int) != (l1.length : Int)) = true := bne_iff_ne.mpr c30
          have c30b2 : (l0.length == l1.length) = false := by first | simpa using c30 | (simp at c30 ⊢; omega)
          (first | rw [c30b0] | (simp only [i64_w, i32_w]; rw [c30b0]) | skip)
          have H' := Aside0.mk H
          clear H
          go_wp2_with (first | ((with_reducible refine gate_callee (f := 13) rfl ?_); refine goesL_ (some 52) rfl rfl Tryz.func13 (by kernel_rfl) rfl #[.slice A0 l0.length c0, .slice A1 l1.length c1] rfl ap3 ?_; (with_reducible refine (dn_Same.calls kj12 _ _ l0 _ _ l1 t607 _ ?side1 ?side2 ?side3 ?side4 ?side5 A29.out).mono ?_); (case side1 => repeat (first | exact (Kd.C_below HR0.out HB.out) | (with_reducible refine Kd.C_alloc ?_ _) | (with_reducible refine Kd.C_drewN ?_ _) | (with_reducible refine Kd.C_drew ?_))); (case side2 => exact HC0.out); (case side3 => repeat (first | exact (Kd.C_below HR1.out HB.out) | (with_reducible refine Kd.C_alloc ?_ _) | (with_reducible refine Kd.C_drewN ?_ _) | (with_reducible refine Kd.C_drew ?_))); (case side4 => exact HC1.out); (case side5 => exact ap6); rintro e w34 ⟨rfl, hb⟩; refine ⟨_, rfl, ?_⟩; have n0_ := Aside0.mk (below_step ap1 hb); clear HB; have HB := n0_; clear n0_; (try clear hb); (try clear hb2); (try clear hk); (try clear hi)))
          first | go_meet | (simp only [c30b0] at *; go_meet) | (simp only [c30b0] at *; go_meet) | (simp only [c16b0] at *; go_meet)
          case rel => exact ⟨_, ((t607 != false)), ap2, H', ⟨by have := HJ4.out; have := HJ12.out; first | omega | exact Nat.le_refl _⟩, ⟨by repeat (first | (with_reducible first | exact HB.out | apply below_alloc | apply pw_below_drewN | apply below_drew1) | exact HB.out)⟩⟩
        case rest =>
         clear HC28
         try clear c1
         try clear c2
         try clear p2
         try clear c3
         try clear c4
         try clear c5
         try clear c6
         try clear c8
         try clear c9
         try clear c10
         try clear c13
         try clear c16
         try clear c16b0
         try clear c16b1
         try clear c18
         try clear c27
         try clear c30
         try clear c30b0
         try clear c30b1
         try clear c30b2
         try clear p2
         obtain ⟨kq, x63_27, rfl, HA, HJ27, HB⟩ := hcut
         cases kq with
         | zero => exact absurd HA.out (by simp [L15DnKeys.j2])
         | succ kj27 =>
          have H := HA.out
          clear HA
          simp only [L15DnKeys.j2] at H
          by_cases c35 : x63_27 = true
          ·
           subst c35
           rw [if_pos rfl] at H
           obtain rfl := Option.some.inj H
           go_wp2
           go_ret
           exact ⟨by first | rfl | (simp [errW_none, errW_some, bne_nil8, beq_nil8]; done) | (simp [errW_none, errW_some] <;> rfl) | (simp [*, errW_none, errW_some] <;> rfl), by repeat (first | (with_reducible first | exact HB.out | apply below_alloc | apply pw_below_drewN | apply below_drew1) | exact HB.out)⟩
          ·
           replace c35 := Bool.eq_false_iff.mpr c35
           subst c35
           rw [if_neg (show ¬ (false = true) by decide)] at H
           have H' := Aside0.mk H
           clear H
           go_wp2
           go_loopg [9] kj27 (fun kq v9 w' => ∃ (x9_4 : Int), v9 = .int .i64 x9_4 ∧ Aside0 (L15DnKeys.l0 kq l0 x9_4 = some r) ∧ Aside0 (kq ≤ kj27) ∧ Aside0 (Below w.heap.size w w'))
           case atStart => exact ⟨(0), ap2, H', ⟨Nat.le_refl _⟩, ⟨by repeat (first | (with_reducible first | exact HB.out | apply below_alloc | apply pw_below_drewN | apply below_drew1) | exact HB.out)⟩⟩
           case round =>
            clear H'
            try clear c1
            try clear c2
            try clear p2
            try clear c3
            try clear c4
            try clear c5
            try clear c6
            try clear c8
            try clear c9
            try clear c10
            try clear c13
            try clear c16
            try clear c16b0
            try clear c16b1
            try clear c18
            try clear c27
            try clear c30
            try clear c30b0
            try clear c30b1
            try clear c30b2
            try clear c35
            try clear p2
            obtain ⟨x9_4, rfl, HA, HK4, HB⟩ := hrel
            cases gk with
            | zero => exact absurd HA.out (by simp [L15DnKeys.l0])
            | succ k4 =>
             have H := HA.out
             clear HA
             simp only [L15DnKeys.l0] at H
             by_cases c36 : x9_4 < (l0.length : Int)
             ·
              rw [if_pos c36] at H
              have c36b0 := decide_eq_true c36
              clear c36
              by_cases c37 : 0 ≤ x9_4
              ·
               rw [if_pos c37] at H
               have c37b0 := decide_eq_true c37
               clear c37
               replace H := Option.bind_eq_some_iff.mp H
               obtain ⟨⟨t610, t611⟩, A380, H⟩ := H
               replace H : ((R15Key.f k4 (rd_L8 l0 x9_4)).bind fun bt613 => (if t610.toList = bt613.1.toList then (if t611 = bt613.2 then (L15DnKeys.l0 k4 l0 (wrap64 (x9_4 + 1))) else (some false)) else (some false))) = some r := H
               have A38 := Aside0.mk A380
               clear A380
               replace H := Option.bind_eq_some_iff.mp H
               obtain ⟨⟨t613, t614⟩, A390, H⟩ := H
               replace H : (if t610.toList = t613.toList then (if t611 = t614 then (L15DnKeys.l0 k4 l0 (wrap64 (x9_4 + 1))) else (some false)) else (some false)) = some r := H
               have A39 := Aside0.mk A390
               clear A390
               by_cases c40 : t610.toList = t613.toList
               ·
                rw [if_pos c40] at H
                have c40b0 : (t610.toList == t613.toList) = true := beq_iff_eq.mpr c40
                have c40b1 : (t610.toList != t613.toList) = false := bne_eq_false_iff_eq.mpr c40
                clear c40
                by_cases c41 : t611 = t614
                ·
                 rw [if_pos c41] at H
                 have c41b0 : (t611 == t614) = true := beq_iff_eq.mpr c41
                 have c41b1 : (t611 != t614) = false := bne_eq_false_iff_eq.mpr c41
                 clear c41
                 have H' := Aside0.mk H
                 clear H
                 have p609 : 0 ≤ (x9_4 : Int) := of_decide_eq_true ap0
                 have q609 : x9_4 < (l0.length : Int) := of_decide_eq_true ap0
                 obtain ⟨ad609, A609_0, c609_0, e609, hx609_0, hl609_0, hi609_0⟩ := at_L8 HR0.out x9_4 p609 q609
                 cases e609
                 replace hx609_0 := (HB.out.cell (World.block_lt_of_cell? w _ hx609_0)).trans hx609_0
                 have HR609_0 := Aside0.mk hi609_0
                 have HC609_0 := Aside0.mk hl609_0
                 clear hi609_0 hl609_0
                 replace p609 := eq_true p609
                 replace q609 := eq_true q609
                 go_wp2_with (first | ((with_reducible refine gate_callee (f := 14) rfl ?_); refine goesL_ (some 75) rfl rfl Tryz.func14 (by kernel_rfl) rfl #[.slice A609_0 (rd_L8 l0 x9_4).length c609_0] rfl ap3 ?_; (with_reducible refine (dn_Key.calls k4 _ _ (rd_L8 l0 x9_4) t610 t611 _ ?side1 ?side2 ?side3 A38.out).mono ?_); (case side1 => repeat (first | exact (Kd.C_below HR609_0.out HB.out) | (with_reducible refine Kd.C_alloc ?_ _) | (with_reducible refine Kd.C_drewN ?_ _) | (with_reducible refine Kd.C_drew ?_))); (case side2 => exact HC609_0.out); (case side3 => exact ap6); rintro e w42 ⟨rfl, hb⟩; refine ⟨_, rfl, ?_⟩; have n0_ := Aside0.mk (below_step ap1 hb); clear HB; have HB := n0_; clear n0_; (try clear hb); (try clear hb2); (try clear hk); (try clear hi); have p612 : 0 ≤ (x9_4 : Int) := of_decide_eq_true ap0; have q612 : x9_4 < (l0.length : Int) := of_decide_eq_true ap0; obtain ⟨ad612, A612_0, c612_0, e612, hx612_0, hl612_0, hi612_0⟩ := at_L8 HR0.out x9_4 p612 q612; obtain rfl : ad609 = ad612 := (by injection e612); replace hx612_0 := (HB.out.cell (World.block_lt_of_cell? w _ hx612_0)).trans hx612_0; have HR612_0 := Aside0.mk hi612_0; have HC612_0 := Aside0.mk hl612_0; clear hi612_0 hl612_0; replace p612 := eq_true p612; replace q612 := eq_true q612) | ((with_reducible refine gate_callee (f := 15) rfl ?_); refine goesL_ (some 83) rfl rfl Tryz.func15 (by kernel_rfl) rfl #[.slice A612_0 (rd_L8 l0 x9_4).length c612_0] rfl ap3 ?_; (with_reducible refine (R15Key.calls k4 _ _ (rd_L8 l0 x9_4) t613 t614 _ ?side1 ?side2 A39.out).mono ?_); (case side1 => repeat (first | exact (Kd.C_below HR612_0.out HB.out) | (with_reducible refine Kd.C_alloc ?_ _) | (with_reducible refine Kd.C_drewN ?_ _) | (with_reducible refine Kd.C_drew ?_))); (case side2 => exact HC612_0.out); rintro e w43 ⟨rfl, hb⟩; refine ⟨_, rfl, ?_⟩; have n0_ := Aside0.mk (below_step ap1 hb); clear HB; have HB := n0_; clear n0_; (try clear hb); (try clear hb2); (try clear hk); (try clear hi)))
                 go_roundg k4
                 case measure => have := HJ4.out; have := HJ12.out; have := HJ27.out; have := HK4.out; omega
                 case rel => exact ⟨(wrap64 (x9_4 + 1)), ap2, H', ⟨by have := HJ4.out; have := HJ12.out; have := HJ27.out; have := HK4.out; omega⟩, ⟨by repeat (first | (with_reducible first | exact HB.out | apply below_alloc | apply pw_below_drewN | apply below_drew1) | exact HB.out)⟩⟩
                ·
                 rw [if_neg c41] at H
                 have c41b0 : (t611 == t614) = false := beq_eq_false_iff_ne.mpr c41
                 have c41b1 : (t611 != t614) = true := bne_iff_ne.mpr c41
                 obtain rfl := Option.some.inj H
                 have p609 : 0 ≤ (x9_4 : Int) := of_decide_eq_true ap0
                 have q609 : x9_4 < (l0.length : Int) := of_decide_eq_true ap0
                 obtain ⟨ad609, A609_0, c609_0, e609, hx609_0, hl609_0, hi609_0⟩ := at_L8 HR0.out x9_4 p609 q609
                 cases e609
                 replace hx609_0 := (HB.out.cell (World.block_lt_of_cell? w _ hx609_0)).trans hx609_0
                 have HR609_0 := Aside0.mk hi609_0
                 have HC609_0 := Aside0.mk hl609_0
                 clear hi609_0 hl609_0
                 replace p609 := eq_true p609
                 replace q609 := eq_true q609
                 go_wp2_with (first | ((with_reducible refine gate_callee (f := 14) rfl ?_); refine goesL_ (some 75) rfl rfl Tryz.func14 (by kernel_rfl) rfl #[.slice A609_0 (rd_L8 l0 x9_4).length c609_0] rfl ap3 ?_; (with_reducible refine (dn_Key.calls k4 _ _ (rd_L8 l0 x9_4) t610 t611 _ ?side1 ?side2 ?side3 A38.out).mono ?_); (case side1 => repeat (first | exact (Kd.C_below HR609_0.out HB.out) | (with_reducible refine Kd.C_alloc ?_ _) | (with_reducible refine Kd.C_drewN ?_ _) | (with_reducible refine Kd.C_drew ?_))); (case side2 => exact HC609_0.out); (case side3 => exact ap6); rintro e w44 ⟨rfl, hb⟩; refine ⟨_, rfl, ?_⟩; have n0_ := Aside0.mk (below_step ap1 hb); clear HB; have HB := n0_; clear n0_; (try clear hb); (try clear hb2); (try clear hk); (try clear hi); have p612 : 0 ≤ (x9_4 : Int) := of_decide_eq_true ap0; have q612 : x9_4 < (l0.length : Int) := of_decide_eq_true ap0; obtain ⟨ad612, A612_0, c612_0, e612, hx612_0, hl612_0, hi612_0⟩ := at_L8 HR0.out x9_4 p612 q612; obtain rfl : ad609 = ad612 := (by injection e612); replace hx612_0 := (HB.out.cell (World.block_lt_of_cell? w _ hx612_0)).trans hx612_0; have HR612_0 := Aside0.mk hi612_0; have HC612_0 := Aside0.mk hl612_0; clear hi612_0 hl612_0; replace p612 := eq_true p612; replace q612 := eq_true q612) | ((with_reducible refine gate_callee (f := 15) rfl ?_); refine goesL_ (some 83) rfl rfl Tryz.func15 (by kernel_rfl) rfl #[.slice A612_0 (rd_L8 l0 x9_4).length c612_0] rfl ap3 ?_; (with_reducible refine (R15Key.calls k4 _ _ (rd_L8 l0 x9_4) t613 t614 _ ?side1 ?side2 A39.out).mono ?_); (case side1 => repeat (first | exact (Kd.C_below HR612_0.out HB.out) | (with_reducible refine Kd.C_alloc ?_ _) | (with_reducible refine Kd.C_drewN ?_ _) | (with_reducible refine Kd.C_drew ?_))); (case side2 => exact HC612_0.out); rintro e w45 ⟨rfl, hb⟩; refine ⟨_, rfl, ?_⟩; have n0_ := Aside0.mk (below_step ap1 hb); clear HB; have HB := n0_; clear n0_; (try clear hb); (try clear hb2); (try clear hk); (try clear hi)))
                 go_ret
                 exact ⟨by first | rfl | (simp [errW_none, errW_some, bne_nil8, beq_nil8]; done) | (simp [errW_none, errW_some] <;> rfl) | (simp [*, errW_none, errW_some] <;> rfl), by repeat (first | (with_reducible first | exact HB.out | apply below_alloc | apply pw_below_drewN | apply below_drew1) | exact HB.out)⟩
               ·
                rw [if_neg c40] at H
                have c40b0 : (t610.toList == t613.toList) = false := beq_eq_false_iff_ne.mpr c40
                have c40b1 : (t610.toList != t613.toList) = true := bne_iff_ne.mpr c40
                obtain rfl := Option.some.inj H
                have p609 : 0 ≤ (x9_4 : Int) := of_decide_eq_true ap0
                have q609 : x9_4 < (l0.length : Int) := of_decide_eq_true ap0
                obtain ⟨ad609, A609_0, c609_0, e609, hx609_0, hl609_0, hi609_0⟩ := at_L8 HR0.out x9_4 p609 q609
                cases e609
                replace hx609_0 := (HB.out.cell (World.block_lt_of_cell? w _ hx609_0)).trans hx609_0
                have HR609_0 := Aside0.mk hi609_0
                have HC609_0 := Aside0.mk hl609_0
                clear hi609_0 hl609_0
                replace p609 := eq_true p609
                replace q609 := eq_true q609
                go_wp2_with (first | ((with_reducible refine gate_callee (f := 14) rfl ?_); refine goesL_ (some 75) rfl rfl Tryz.func14 (by kernel_rfl) rfl #[.slice A609_0 (rd_L8 l0 x9_4).length c609_0] rfl ap3 ?_; (with_reducible refine (dn_Key.calls k4 _ _ (rd_L8 l0 x9_4) t610 t611 _ ?side1 ?side2 ?side3 A38.out).mono ?_); (case side1 => repeat (first | exact (Kd.C_below HR609_0.out HB.out) | (with_reducible refine Kd.C_alloc ?_ _) | (with_reducible refine Kd.C_drewN ?_ _) | (with_reducible refine Kd.C_drew ?_))); (case side2 => exact HC609_0.out); (case side3 => exact ap6); rintro e w46 ⟨rfl, hb⟩; refine ⟨_, rfl, ?_⟩; have n0_ := Aside0.mk (below_step ap1 hb); clear HB; have HB := n0_; clear n0_; (try clear hb); (try clear hb2); (try clear hk); (try clear hi); have p612 : 0 ≤ (x9_4 : Int) := of_decide_eq_true ap0; have q612 : x9_4 < (l0.length : Int) := of_decide_eq_true ap0; obtain ⟨ad612, A612_0, c612_0, e612, hx612_0, hl612_0, hi612_0⟩ := at_L8 HR0.out x9_4 p612 q612; obtain rfl : ad609 = ad612 := (by injection e612); replace hx612_0 := (HB.out.cell (World.block_lt_of_cell? w _ hx612_0)).trans hx612_0; have HR612_0 := Aside0.mk hi612_0; have HC612_0 := Aside0.mk hl612_0; clear hi612_0 hl612_0; replace p612 := eq_true p612; replace q612 := eq_true q612) | ((with_reducible refine gate_callee (f := 15) rfl ?_); refine goesL_ (some 83) rfl rfl Tryz.func15 (by kernel_rfl) rfl #[.slice A612_0 (rd_L8 l0 x9_4).length c612_0] rfl ap3 ?_; (with_reducible refine (R15Key.calls k4 _ _ (rd_L8 l0 x9_4) t613 t614 _ ?side1 ?side2 A39.out).mono ?_); (case side1 => repeat (first | exact (Kd.C_below HR612_0.out HB.out) | (with_reducible refine Kd.C_alloc ?_ _) | (with_reducible refine Kd.C_drewN ?_ _) | (with_reducible refine Kd.C_drew ?_))); (case side2 => exact HC612_0.out); rintro e w47 ⟨rfl, hb⟩; refine ⟨_, rfl, ?_⟩; have n0_ := Aside0.mk (below_step ap1 hb); clear HB; have HB := n0_; clear n0_; (try clear hb); (try clear hb2); (try clear hk); (try clear hi)))
                go_ret
                exact ⟨by first | rfl | (simp [errW_none, errW_some, bne_nil8, beq_nil8]; done) | (simp [errW_none, errW_some] <;> rfl) | (simp [*, errW_none, errW_some] <;> rfl), by repeat (first | (with_reducible first | exact HB.out | apply below_alloc | apply pw_below_drewN | apply below_drew1) | exact HB.out)⟩
              ·
               rw [if_neg c37] at H
               exact absurd H (by simp)
             ·
              rw [if_neg c36] at H
              have c36b0 := decide_eq_false c36
              clear c36
              obtain rfl := Option.some.inj H
              go_wp2
              go_ret
              exact ⟨by first | rfl | (simp [errW_none, errW_some, bne_nil8, beq_nil8]; done) | (simp [errW_none, errW_some] <;> rfl) | (simp [*, errW_none, errW_some] <;> rfl), by repeat (first | (with_reducible first | exact HB.out | apply below_alloc | apply pw_below_drewN | apply below_drew1) | exact HB.out)⟩
 ·
  replace c4 := Bool.eq_false_iff.mpr c4
  subst c4
  rw [if_neg (show ¬ (false = true) by decide)] at H
  obtain rfl := Option.some.inj H
  go_enter Tryz.func4, Tryz.ntmps4
  go_wp2_with (first | ((with_reducible refine gate_callee (f := 5) rfl ?_); refine goesL_ (some 14) rfl rfl Tryz.func5 (by kernel_rfl) rfl #[] rfl ap3 ?_; (with_reducible refine (L15awake.calls k  false _ ?side1 A3.out).mono ?_); (case side1 => exact ap6); rintro e w48 ⟨rfl, hb⟩; refine ⟨_, rfl, ?_⟩; have n0_ := Aside0.mk (below_step ap1 hb); clear HB; have HB := n0_; clear n0_; (try clear hb); (try clear hb2); (try clear hk); (try clear hi)))
  go_ret
  exact ⟨by first | rfl | (simp [errW_none, errW_some, bne_nil8, beq_nil8]; done) | (simp [errW_none, errW_some] <;> rfl) | (simp [*, errW_none, errW_some] <;> rfl), by repeat (first | (with_reducible first | exact HB.out | apply below_alloc | apply pw_below_drewN | apply below_drew1) | exact HB.out)⟩
end Go.Proofs.YtkklacijhmoopaaGreatDoor.Print
namespace Go.Proofs.YtkklacijhmoopaaGreatDoor.Print
open Go.RowKit Go.Proofs.YtkklacijhmoopaaGreatDoorW.PrintWords Go.Proofs.YtkklacijhmoopaaGreatDoorW.PrintLast Go.Proofs.YtkklacijhmoopaaGreatDoorW.PrintMore Go.Proofs.YtkklacijhmoopaaGreatDoor.Pure
set_option linter.unusedVariables false
set_option linter.unusedSimpArgs false
theorem swapZ_snoc (l : List UInt8) (c : UInt8) : swapZ 0 [0, 255] (l ++ [c]) = swapZ 0 [0, 255] l ++ (if c = 0 then [0, 255] else [c]) := by simp [swapZ]
theorem swapZ_pre (a b : List UInt8) : (swapZ 0 [0, 255] a).length ≤ (swapZ 0 [0, 255] (a ++ b)).length := by
  unfold swapZ; rw [List.flatMap_append, List.length_append]; omega
theorem tup_l1 (xs : List ByteArray) (hx : xs.length ≤ 1000) (i : Nat) (p : ByteArray) (r : List ByteArray) (hr : xs.drop i = p :: r) (B : List UInt8) (hB : (B ++ part1 p).length ≤ 4096) {o : ByteArray × Int}
    (hnext : Ev (fun k => R01Tuple.l0 k xs (ints (B ++ part1 p)) ((i + 1 : Nat) : Int)) o) :
    ∀ (m j : Nat), p.size - j = m → j ≤ p.size → Ev (fun k => R01Tuple.l1 k xs (ints (B ++ swapZ 0 [0, 255] ((bl p).take j))) (i : Int) (j : Int)) o := by
  have g1 := (rdOf_at hr).1
  have g2 := rdB_at hr
  have hpart : part1 p = swapZ 0 [0, 255] (bl p) ++ [0, 1] := rfl
  have hsz : p.size ≤ 4096 := by
    have h1 : ∀ l : List UInt8, l.length ≤ (swapZ 0 [0, 255] l).length := by
      intro l
      induction l with
      | nil => simp
      | cons c l ih =>
        have : swapZ 0 [0, 255] (c :: l) = (if c = 0 then [0, 255] else [c]) ++ swapZ 0 [0, 255] l := rfl
        rw [this, List.length_append, List.length_cons]
        have h2 : 1 ≤ (if c = 0 then [0, 255] else [c] : List UInt8).length := by split <;> simp
        omega
    have h3 := h1 (bl p)
    rw [bl_length] at h3
    rw [hpart, List.length_append, List.length_append] at hB
    omega
  intro m
  induction m with
  | zero =>
    intro j hm hj
    rw [List.take_of_length_le (by rw [bl_length]; omega)]
    refine Ev.step (fun k => by rw [R01Tuple.l1]) ?_
    rw [g2]
    refine Ev.pos (by omega) (Ev.pos (by omega) (Ev.neg (by omega) ?_))
    refine Ev.step (fun k => by rw [R01Tuple.j2]) ?_
    rw [wsucc (show i ≤ 2000000 by omega)]
    refine Ev.neg (by simp) (Ev.bindc rfl ?_)
    rw [hpart, List.length_append, List.length_append] at hB
    refine Ev.pos (by rw [ints_length, List.length_append]; simp only [List.length_cons, List.length_nil]; omega) ?_
    have e : ints (B ++ swapZ 0 [0, 255] (bl p)) ++ [0, 1] = ints (B ++ part1 p) := by
      rw [hpart, ← List.append_assoc]; exact ints_app _ [0, 1]
    rw [e]; exact hnext
  | succ m ih =>
    intro j hm hj
    have hlt : j < (bl p).length := by rw [bl_length]; omega
    have hi2 := ih (j + 1) (by omega) (by omega)
    have hd : (bl p).drop j = (bl p)[j] :: (bl p).drop (j + 1) := List.drop_eq_getElem_cons hlt
    obtain ⟨_, hbt, _⟩ := drop_cons hd
    rw [List.take_succ_eq_append_getElem hlt, swapZ_snoc] at hi2
    have hle : (B ++ swapZ 0 [0, 255] ((bl p).take j)).length ≤ 4096 := by
      have := swapZ_pre ((bl p).take j) ((bl p).drop j)
      rw [List.take_append_drop] at this
      rw [hpart, List.length_append, List.length_append] at hB
      rw [List.length_append]; omega
    generalize (bl p)[j] = c at *
    refine Ev.step (fun k => by rw [R01Tuple.l1]) ?_
    rw [g2]
    refine Ev.pos (by omega) (Ev.pos (by omega) (Ev.pos (by omega) ?_))
    rw [show decide (((ints (B ++ swapZ 0 [0, 255] ((bl p).take j))).length : Int) ≤ 4096) = true from decide_eq_true (by rw [ints_length]; omega)]
    refine Ev.step (fun k => by rw [R01Tuple.j2]) ?_
    rw [g2, hbt, wsucc (by omega)]
    refine Ev.pos rfl (Ev.pos (by omega) (Ev.pos (by omega) (Ev.pos (by omega) (Ev.pos (by omega) (Ev.pos (by rw [ints_length]; omega) (Ev.bindc rfl ?_))))))
    have e1 : ints (B ++ swapZ 0 [0, 255] ((bl p).take j)) ++ [(c.toNat : Int)] = ints (B ++ swapZ 0 [0, 255] ((bl p).take j) ++ [c]) := ints_app _ [c]
    rw [e1]
    by_cases h0 : c = 0
    · subst h0
      rw [if_pos rfl] at hi2
      refine Ev.pos rfl (Ev.pos (by rw [ints_length, List.length_append]; simp only [List.length_cons, List.length_nil]; omega) ?_)
      rw [show ints (B ++ swapZ 0 [0, 255] ((bl p).take j) ++ [0]) ++ [255] = ints (B ++ (swapZ 0 [0, 255] ((bl p).take j) ++ [0, 255])) by
        rw [show ([255] : List Int) = ints [255] from rfl, ints_app]; simp]
      exact hi2
    · rw [if_neg h0] at hi2
      refine Ev.neg (fun h => h0 ?_) ?_
      · have : c.toNat = 0 := by omega
        exact UInt8.toNat_inj.1 this
      · rw [List.append_assoc]; exact hi2
theorem tup_l0 (xs : List ByteArray) (hx : xs.length ≤ 1000) (hl : (tupOf xs).length ≤ 4096) : ∀ (m i : Nat), xs.length - i = m → i ≤ xs.length → Ev (fun k => R01Tuple.l0 k xs (ints (tupOf (xs.take i))) (i : Int)) (⟨(tupOf xs).toArray⟩, 0) := by
  intro m
  induction m with
  | zero =>
    intro i hm hi
    rw [List.take_of_length_le (by omega)]
    refine Ev.step (fun k => by rw [R01Tuple.l0]) ?_
    refine Ev.neg (by omega) (Ev.neg (by rw [ints_length]; omega) ?_)
    rw [strOfNums_ints]; exact Ev.rfl'
  | succ m ih =>
    intro i hm hi
    cases hr : xs.drop i with
    | nil => have := List.drop_eq_nil_iff.1 hr; omega
    | cons p r =>
      have g1 := (rdOf_at hr).1
      have hi2 := ih (i + 1) (by omega) (by omega)
      rw [take_next hr, tupOf_snoc] at hi2
      have hB : (tupOf (xs.take i) ++ part1 p).length ≤ 4096 := by
        rw [← tupOf_snoc, ← take_next hr]
        have : tupOf xs = tupOf (xs.take (i + 1)) ++ tupOf (xs.drop (i + 1)) := by unfold tupOf; rw [← List.flatMap_append, List.take_append_drop]
        rw [this, List.length_append] at hl; omega
      have := tup_l1 xs hx i p r hr (tupOf (xs.take i)) hB hi2 _ 0 rfl (Nat.zero_le _)
      rw [List.take_zero, show swapZ 0 [0, 255] [] = [] from rfl, List.append_nil] at this
      refine Ev.step (fun k => by rw [R01Tuple.l0]) ?_
      exact Ev.pos (by omega) this
theorem refTup_ev (xs : List ByteArray) (h16 : xs.length ≤ 16) (hl : (tupOf xs).length ≤ 4096) : Ev (fun k => R01Tuple.f k xs) (⟨(tupOf xs).toArray⟩, 0) := by
  unfold R01Tuple.f
  refine Ev.neg (by omega) ?_
  exact tup_l0 xs (by omega) hl _ 0 rfl (Nat.zero_le _)
def lessI : List UInt8 → List UInt8 → Int
  | [], [] => 0
  | [], _ :: _ => -1
  | _ :: _, [] => 1
  | a :: x, b :: y => if a.toNat < b.toNat then -1 else if b.toNat < a.toNat then 1 else lessI x y
theorem lessI_lt : ∀ (x y : List UInt8), lessI x y < 0 ↔ x < y
  | [], [] => by simp [lessI]
  | [], b :: y => by simp [lessI]
  | a :: x, [] => by simp [lessI]
  | a :: x, b :: y => by
    rw [lessI, List.cons_lt_cons_iff]
    by_cases h1 : a.toNat < b.toNat
    · rw [if_pos h1]
      exact ⟨fun _ => .inl (UInt8.lt_iff_toNat_lt.2 h1), fun _ => by omega⟩
    · rw [if_neg h1]
      by_cases h2 : b.toNat < a.toNat
      · rw [if_pos h2]
        refine ⟨fun h => by omega, ?_⟩
        rintro (h | ⟨h, _⟩)
        · exact absurd (UInt8.lt_iff_toNat_lt.1 h) h1
        · subst h; omega
      · rw [if_neg h2]
        have e : a = b := UInt8.toNat_inj.1 (by omega)
        subst e
        rw [lessI_lt x y]
        refine ⟨fun h => .inr ⟨rfl, h⟩, ?_⟩
        rintro (h | ⟨_, h⟩)
        · exact absurd (UInt8.lt_iff_toNat_lt.1 h) h1
        · exact h
theorem less_ev (a b : ByteArray) (ha : a.size ≤ 1000000) (hb : b.size ≤ 1000000) : ∀ (m i : Nat), a.size - i = m → i ≤ a.size → Ev (fun k => R01Less.l0 k a b (i : Int)) (lessI ((bl a).drop i) ((bl b).drop i)) ∨ b.size < i := by
  intro m
  induction m with
  | zero =>
    intro i hm hi
    by_cases hbi : b.size < i
    · exact .inr hbi
    left
    rw [drop_end (s := a) (by omega)]
    refine Ev.step (fun k => by rw [R01Less.l0]) ?_
    refine Ev.neg (by omega) ?_
    refine Ev.step (fun k => by rw [R01Less.j1]) ?_
    refine Ev.neg (by simp) ?_
    cases hb' : (bl b).drop i with
    | nil =>
      have := drop_nil hb'
      exact Ev.neg (by omega) (Ev.neg (by omega) Ev.rfl')
    | cons c r =>
      have := (drop_cons hb').1
      exact Ev.pos (by omega) Ev.rfl'
  | succ m ih =>
    intro i hm hi
    by_cases hbi : b.size < i
    · exact .inr hbi
    left
    cases ha' : (bl a).drop i with
    | nil => have := drop_nil ha'; omega
    | cons c r =>
      obtain ⟨k1, k2, k3⟩ := drop_cons ha'
      refine Ev.step (fun k => by rw [R01Less.l0]) ?_
      refine Ev.pos (by omega) ?_
      cases hb' : (bl b).drop i with
      | nil =>
        have := drop_nil hb'
        rw [show decide ((i : Int) < (b.size : Int)) = false from decide_eq_false (by omega)]
        refine Ev.step (fun k => by rw [R01Less.j1]) ?_
        exact Ev.neg (by simp) (Ev.neg (by omega) (Ev.pos (by omega) Ev.rfl'))
      | cons d q =>
        obtain ⟨l1, l2, l3⟩ := drop_cons hb'
        rw [show decide ((i : Int) < (b.size : Int)) = true from decide_eq_true (by omega)]
        refine Ev.step (fun k => by rw [R01Less.j1]) ?_
        rw [k2, l2, wsucc (by omega), lessI]
        refine Ev.pos rfl (Ev.pos (by omega) (Ev.pos (by omega) (Ev.pos (by omega) ?_)))
        by_cases h1 : c.toNat < d.toNat
        · rw [if_pos h1]; exact Ev.pos (by omega) Ev.rfl'
        · rw [if_neg h1]
          refine Ev.neg (by omega) ?_
          by_cases h2 : d.toNat < c.toNat
          · rw [if_pos h2]; exact Ev.pos (by omega) Ev.rfl'
          · rw [if_neg h2]
            refine Ev.neg (by omega) ?_
            rcases ih (i + 1) (by omega) (by omega) with h | h
            · rw [k3, l3] at h; exact h
            · omega
theorem refLess_ev (a b : ByteArray) (ha : a.size ≤ 1000000) (hb : b.size ≤ 1000000) : Ev (fun k => R01Less.f k a b) (lessI (bl a) (bl b)) := by
  unfold R01Less.f
  rcases less_ev a b ha hb _ 0 rfl (Nat.zero_le _) with h | h
  · rw [List.drop_zero, List.drop_zero] at h; exact h
  · omega
abbrev Srt (ps : List ByteArray) : Prop := (ps.map bl).Pairwise (· ≤ ·)
theorem srt_insert {ps : List ByteArray} (h : Srt ps) (s : ByteArray) (j : Nat) (hj : ∀ x ∈ ps.take j, bl x < bl s) (hn : ∀ x, ps[j]? = some x → ¬ bl x < bl s) : Srt (ps.take j ++ [s] ++ ps.drop j) := by
  have h' : Srt (ps.take j ++ ps.drop j) := by rw [List.take_append_drop]; exact h
  unfold Srt at h' ⊢
  rw [List.map_append, List.pairwise_append] at h'
  obtain ⟨h1, h2, h3⟩ := h'
  rw [List.append_assoc, List.map_append, List.pairwise_append]
  have hd : ∀ x ∈ (ps.drop j).map bl, bl s ≤ x := by
    cases hc : ps.drop j with
    | nil => simp
    | cons y r =>
      have hy : ps[j]? = some y := by
        have := congrArg List.head? hc
        rw [List.head?_drop] at this; simpa using this
      have hsy : bl s ≤ bl y := List.not_lt.1 (hn y hy)
      rw [hc, List.map_cons, List.pairwise_cons] at h2
      intro x hx
      rw [List.map_cons] at hx
      rcases List.mem_cons.1 hx with rfl | hx
      · exact hsy
      · exact List.le_trans hsy (h2.1 x hx)
  refine ⟨h1, ?_, ?_⟩
  · rw [List.map_append, List.pairwise_append]
    refine ⟨by simp, h2, ?_⟩
    intro a ha b hb
    simp only [List.map_cons, List.map_nil, List.mem_singleton] at ha
    subst ha
    exact hd b hb
  · intro a ha b hb
    rw [List.map_append] at hb
    rcases List.mem_append.1 hb with hb | hb
    · simp only [List.map_cons, List.map_nil, List.mem_singleton] at hb
      subst hb
      obtain ⟨x, hx, rfl⟩ := List.mem_map.1 ha
      exact List.le_of_lt (hj x hx)
    · exact h3 a ha b hb
theorem perm_insert (ps : List ByteArray) (s : ByteArray) (j : Nat) : (ps.take j ++ [s] ++ ps.drop j).Perm (ps ++ [s]) := by
  have h1 : (ps.take j ++ [s] ++ ps.drop j).Perm (s :: (ps.take j ++ ps.drop j)) := by
    rw [List.append_assoc]; exact List.perm_middle
  rw [List.take_append_drop] at h1
  exact h1.trans (List.perm_append_singleton s ps).symm
theorem key_ins (l : List AvaS) (hl : l.length ≤ 1000) (i : Nat) (ps : List ByteArray) (hps : ps.length ≤ 1000) (hsz : ∀ x ∈ ps, x.size ≤ 4096) (s : ByteArray) (hs : s.size ≤ 4096) (hS : Srt ps) {o : ByteArray × Int} (hi : i ≤ 1000)
    (hnext : ∀ ps', Srt ps' → ps'.Perm (ps ++ [s]) → Ev (fun k => R15Key.l0 k l ps' ((i + 1 : Nat) : Int)) o) :
    ∀ (m j : Nat), ps.length - j = m → j ≤ ps.length → (∀ x ∈ ps.take j, bl x < bl s) → Ev (fun k => R15Key.l1 k l ps (i : Int) s (j : Int)) o := by
  intro m
  induction m with
  | zero =>
    intro j hm hj hlt
    have hn := hnext (ps.take j ++ [s] ++ ps.drop j) (srt_insert hS s j hlt (fun x hx => by
      have := (List.getElem?_eq_some_iff.1 hx).1; omega)) (perm_insert ps s j)
    refine Ev.step (fun k => by rw [R15Key.l1]) ?_
    rw [wsucc (show i ≤ 2000000 by omega)]
    refine Ev.neg (by omega) (Ev.bindc rfl (Ev.pos (by omega) (Ev.pos (by omega) (Ev.bindc rfl ?_))))
    rw [Int.toNat_natCast]
    refine Ev.pos (by rw [List.length_take]; simp only [List.length_nil]; omega) (Ev.bindc rfl ?_)
    rw [List.nil_append]
    refine Ev.pos (by rw [List.length_take]; omega) (Ev.bindc rfl (Ev.bindc rfl ?_))
    exact Ev.pos (by rw [List.length_append, List.length_take, List.length_drop]; simp only [List.length_cons, List.length_nil]; omega) hn
  | succ m ih =>
    intro j hm hj hlt
    cases hr : ps.drop j with
    | nil => have := List.drop_eq_nil_iff.1 hr; omega
    | cons x r =>
      have g2 := rdB_at hr
      have hx : ps[j]? = some x := by
        have := congrArg List.head? hr
        rw [List.head?_drop] at this; simpa using this
      have hxm : x ∈ ps := List.mem_of_getElem? hx
      have hL := refLess_ev x s (by have := hsz x hxm; omega) (by omega)
      refine Ev.step (fun k => by rw [R15Key.l1]) ?_
      rw [g2, wsucc (show i ≤ 2000000 by omega), wsucc (show j ≤ 2000000 by omega)]
      refine Ev.pos (by omega) (Ev.pos (by omega) (Ev.bind hL ?_))
      by_cases hc : lessI (bl x) (bl s) < 0
      · refine Ev.pos hc (ih (j + 1) (by omega) (by omega) ?_)
        intro y hy
        rw [take_next hr] at hy
        rcases List.mem_append.1 hy with hy | hy
        · exact hlt y hy
        · simp only [List.mem_singleton] at hy
          subst hy
          exact (lessI_lt _ _).1 hc
      · have hn := hnext (ps.take j ++ [s] ++ ps.drop j) (srt_insert hS s j hlt (fun y hy => by
          rw [hx] at hy
          injection hy with hy
          subst hy
          exact fun h => hc ((lessI_lt _ _).2 h))) (perm_insert ps s j)
        refine Ev.neg hc (Ev.bindc rfl (Ev.pos (by omega) (Ev.bindc rfl ?_)))
        rw [Int.toNat_natCast]
        refine Ev.pos (by rw [List.length_take]; simp only [List.length_nil]; omega) (Ev.bindc rfl ?_)
        rw [List.nil_append]
        refine Ev.pos (by rw [List.length_take]; omega) (Ev.bindc rfl (Ev.bindc rfl ?_))
        exact Ev.pos (by rw [List.length_append, List.length_take, List.length_drop]; simp only [List.length_cons, List.length_nil]; omega) hn
end Go.Proofs.YtkklacijhmoopaaGreatDoor.Print
