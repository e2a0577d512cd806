-- laid together by pack.py (a program of this session)
import Derived.Test.YtpklcnpmppaaoaaGreatDoorAAttrOrder2
namespace Go.Proofs.YtpklcnpmppaaoaaGreatDoor.Print
open Go.RowKit Go.Proofs.YtpklcnpmppaaoaaGreatDoorW.PrintWords Go.Proofs.YtpklcnpmppaaoaaGreatDoorW.PrintLast Go.Proofs.YtpklcnpmppaaoaaGreatDoorW.PrintMore
attribute [local go_sem] max2_int min2_int max_two min_two max_three min_three max_four min_four
set_option linter.unusedVariables false
set_option linter.unusedSimpArgs false
set_option maxHeartbeats 8000000 in
set_option maxRecDepth 100000 in
theorem attr_form.calls (k : Nat) (a0_0 : ByteArray) (a0_1 : Int) (a0_2 : Bool) (a1 : ByteArray) (r1 : ByteArray) (r2 : Bool) (w : World) (hG : Gw w) (h : attr_form.f k a0_0 a0_1 a0_2 a1 = some (r1, r2)) :
  Calls Tryz.prog 43 #[.agg #[.string a0_0, .int .i64 a0_1, .bool a0_2], .string a1] w fun e w' => e = .returned (.tuple #[.string r1, .bool r2]) ∧ Below w.heap.size w w' := by
 have hu23 := Tryz.underlying23
 have HB := Aside0.mk (Below.refl w.heap.size w)
 have HG := Aside0.mk hG
 clear hG
 have H : (if a0_1 = 1 then (attr_form.j0 k a1 a0_1 (a0_1 == 1) a0_0 a0_1 a0_2) else (attr_form.j0 k a1 a0_1 (a0_1 == 2) a0_0 a0_1 a0_2)) = some (r1, r2) := h
 clear h
 have HC3 := Aside0.mk H
 clear H
 go_enter Tryz.func43, Tryz.ntmps43
 go_upto_if 16 with (first | ((with_reducible refine gate_dst (N := 2) rfl ?_); refine box_event ?hg (N := 2) ?hd (cs := #[.string a0_0, .int .i64 a0_1, .bool a0_2]) (t := 23) ?hr ?_; (case hd => rfl); (case hg => rfl); (case hr => first | (go_simp; done) | (go_simp; rfl)); intro gb352 hg w4 hbox hb; have n0_ := Aside0.mk (below_step ap1 hb); have n1_ := Aside0.mk (hbox); have n2_ := Aside0.mk ((by rw [hg]; exact (below_size ap1) : w.heap.size ≤ gb352)); have n3_ := Aside0.mk ((by rw [hg]; exact (below_size ap1) : w.heap.size ≤ gb352)); clear HB; have HB := n0_; have BK352 := n1_; have GW352 := n2_; have GE352 := n3_; clear n0_ n1_ n2_ n3_; clear hb hbox hg; have hcz5_0 : w4.cell? ⟨gb352, 0, none⟩ = some (.string a0_0) := (blk_cell BK352.out 0).trans rfl; have hcz5_1 : w4.cell? ⟨gb352, 1, none⟩ = some (.int .i64 a0_1) := (blk_cell BK352.out 1).trans rfl; have hcz5_2 : w4.cell? ⟨gb352, 2, none⟩ = some (.bool a0_2) := (blk_cell BK352.out 2).trans rfl; have hfz5_0 := blk_frozen BK352.out 0; have hfz5_1 := blk_frozen BK352.out 1; have hfz5_2 := blk_frozen BK352.out 2))
 (try simp only [Act.put, List.setIfInBounds_toArray, List.set_cons_zero, List.set_cons_succ])
 go_cut [16] (fun v16 wc => ∃ (kq : Nat) (x16_2 : Bool), v16 = .bool x16_2 ∧ Aside0 (attr_form.j0 kq a1 a0_1 x16_2 a0_0 a0_1 a0_2 = some (r1, r2)) ∧ Aside0 (kq ≤ k) ∧ Aside0 (wc.heap[gb352]? = some (.cells #[.string a0_0, .int .i64 a0_1, .bool a0_2] 23 (0, 0))) ∧ Aside0 (Below w.heap.size w wc))
 case first =>
  have H := HC3.out
  clear HC3
  by_cases c6 : a0_1 = 1
  ·
   rw [if_pos c6] at H
   have c6b0 : (a0_1 == 1) = true := beq_iff_eq.mpr c6
   have c6b1 : (a0_1 != 1) = false := bne_eq_false_iff_eq.mpr c6
   clear c6
   (first | rw [c6b0] | (simp only [i64_w, i32_w]; rw [c6b0]) | skip)
   have H' := Aside0.mk H
   clear H
   go_wp2
   first | go_meet | (simp only [c6b0] at *; go_meet)
   case rel => exact ⟨_, ((a0_1 == 1)), ap2, H', ⟨by first | omega | exact Nat.le_refl _⟩, ⟨by (with_reducible repeat (first | refine blk_drewN ?_ _ | refine blk_drew ?_ | refine blk_alloc ?_ _)); exact BK352.out⟩, ⟨by repeat (first | (with_reducible first | exact HB.out | apply below_alloc | apply pw_below_drewN | apply below_drew1 | refine below_set ?_ GE352.out) | exact HB.out)⟩⟩
  ·
   rw [if_neg c6] at H
   have c6b0 : (a0_1 == 1) = false := beq_eq_false_iff_ne.mpr c6
   have c6b1 : (a0_1 != 1) = true := bne_iff_ne.mpr c6
   (first | rw [c6b0] | (simp only [i64_w, i32_w]; rw [c6b0]) | skip)
   have H' := Aside0.mk H
   clear H
   go_wp2
   first | go_meet | (simp only [c6b0] at *; go_meet) | (simp only [c6b0] at *; go_meet)
   case rel => exact ⟨_, ((a0_1 == 2)), ap2, H', ⟨by first | omega | exact Nat.le_refl _⟩, ⟨by (with_reducible repeat (first | refine blk_drewN ?_ _ | refine blk_drew ?_ | refine blk_alloc ?_ _)); exact BK352.out⟩, ⟨by repeat (first | (with_reducible first | exact HB.out | apply below_alloc | apply pw_below_drewN | apply below_drew1 | refine below_set ?_ GE352.out) | exact HB.out)⟩⟩
 case rest =>
  clear HC3
  try clear p2
  try clear c4
  try clear c6
  try clear c6b0
  try clear c6b1
  try clear hcz5_0
  try clear hcz5_1
  try clear hcz5_2
  try clear hfz5_0
  try clear hfz5_1
  try clear hfz5_2
  obtain ⟨kq, x16_2, rfl, HA, HJ2, BK352, HB⟩ := hcut
  cases kq with
  | zero => exact absurd HA.out (by simp [attr_form.j0])
  | succ kj2 =>
   have H := HA.out
   clear HA
   simp only [attr_form.j0] at H
   by_cases c7 : x16_2 = true
   ·
    subst c7
    rw [if_pos rfl] at H
    replace H := Option.bind_eq_some_iff.mp H
    obtain ⟨⟨t353, t354⟩, A80, H⟩ := H
    replace H : (if t354 = 0 then (some (t353, (t353.toList != ([] : List UInt8)))) else (some (t353, false))) = some (r1, r2) := H
    have A8 := Aside0.mk A80
    clear A80
    by_cases c9 : t354 = 0
    ·
     rw [if_pos c9] at H
     have c9b0 : (t354 == 0) = true := beq_iff_eq.mpr c9
     have c9b1 : (t354 != 0) = false := bne_eq_false_iff_eq.mpr c9
     clear c9
     simp only [Option.some.injEq, Prod.mk.injEq] at H
     obtain ⟨rfl, rfl⟩ := H
     have hcz10_0 : wc.cell? ⟨gb352, 0, none⟩ = some (.string a0_0) := (blk_cell BK352.out 0).trans rfl
     have hcz10_1 : wc.cell? ⟨gb352, 1, none⟩ = some (.int .i64 a0_1) := (blk_cell BK352.out 1).trans rfl
     have hcz10_2 : wc.cell? ⟨gb352, 2, none⟩ = some (.bool a0_2) := (blk_cell BK352.out 2).trans rfl
     have hfz10_0 := blk_frozen BK352.out 0
     have hfz10_1 := blk_frozen BK352.out 1
     have hfz10_2 := blk_frozen BK352.out 2
     go_wp2_with (first | ((with_reducible refine gate_callee (f := 67) rfl ?_); refine goesL_ (some 24) rfl rfl Tryz.func67 (by kernel_rfl) rfl #[.string a1, .bool (a0_1 == 1)] rfl ap3 ?_; (with_reducible refine (prep_Ready.calls kj2 a1 (a0_1 == 1) t353 t354 _ ?side1 A8.out).mono ?_); (case side1 => first | exact HG.out | (refine Gw.below HG.out ?_; repeat (first | (with_reducible first | exact HB.out | apply below_alloc | apply pw_below_drewN | apply below_drew1 | refine below_set ?_ GE352.out) | exact HB.out))); rintro e w11 ⟨rfl, hb⟩; refine ⟨_, rfl, ?_⟩; have n0_ := Aside0.mk (blk_below (g := gb352) (o := .cells #[.string a0_0, .int .i64 a0_1, .bool a0_2] 23 (0, 0)) (apB BK352.out) hb); have n1_ := Aside0.mk (below_step (apG GE352.out) hb); clear BK352; clear HB; have BK352 := n0_; have HB := n1_; clear n0_ n1_; (try clear hb); (try clear hb2); (try clear hk); (try clear hi)))
     go_ret2
     exact ⟨by first | rfl | (simp [errW_none, errW_some, bne_nil8, beq_nil8]; done) | (simp [errW_none, errW_some] <;> rfl) | (simp [*, errW_none, errW_some] <;> rfl), by repeat (first | (with_reducible first | exact HB.out | apply below_alloc | apply pw_below_drewN | apply below_drew1 | refine below_set ?_ GE352.out) | exact HB.out)⟩
    ·
     rw [if_neg c9] at H
     have c9b0 : (t354 == 0) = false := beq_eq_false_iff_ne.mpr c9
     have c9b1 : (t354 != 0) = true := bne_iff_ne.mpr c9
     simp only [Option.some.injEq, Prod.mk.injEq] at H
     obtain ⟨rfl, rfl⟩ := H
     have hcz12_0 : wc.cell? ⟨gb352, 0, none⟩ = some (.string a0_0) := (blk_cell BK352.out 0).trans rfl
     have hcz12_1 : wc.cell? ⟨gb352, 1, none⟩ = some (.int .i64 a0_1) := (blk_cell BK352.out 1).trans rfl
     have hcz12_2 : wc.cell? ⟨gb352, 2, none⟩ = some (.bool a0_2) := (blk_cell BK352.out 2).trans rfl
     have hfz12_0 := blk_frozen BK352.out 0
     have hfz12_1 := blk_frozen BK352.out 1
     have hfz12_2 := blk_frozen BK352.out 2
     go_wp2_with (first | ((with_reducible refine gate_callee (f := 67) rfl ?_); refine goesL_ (some 24) rfl rfl Tryz.func67 (by kernel_rfl) rfl #[.string a1, .bool (a0_1 == 1)] rfl ap3 ?_; (with_reducible refine (prep_Ready.calls kj2 a1 (a0_1 == 1) t353 t354 _ ?side1 A8.out).mono ?_); (case side1 => first | exact HG.out | (refine Gw.below HG.out ?_; repeat (first | (with_reducible first | exact HB.out | apply below_alloc | apply pw_below_drewN | apply below_drew1 | refine below_set ?_ GE352.out) | exact HB.out))); rintro e w13 ⟨rfl, hb⟩; refine ⟨_, rfl, ?_⟩; have n0_ := Aside0.mk (blk_below (g := gb352) (o := .cells #[.string a0_0, .int .i64 a0_1, .bool a0_2] 23 (0, 0)) (apB BK352.out) hb); have n1_ := Aside0.mk (below_step (apG GE352.out) hb); clear BK352; clear HB; have BK352 := n0_; have HB := n1_; clear n0_ n1_; (try clear hb); (try clear hb2); (try clear hk); (try clear hi)))
     go_ret2
     exact ⟨by first | rfl | (simp [errW_none, errW_some, bne_nil8, beq_nil8]; done) | (simp [errW_none, errW_some] <;> rfl) | (simp [*, errW_none, errW_some] <;> rfl), by repeat (first | (with_reducible first | exact HB.out | apply below_alloc | apply pw_below_drewN | apply below_drew1 | refine below_set ?_ GE352.out) | exact HB.out)⟩
   ·
    replace c7 := Bool.eq_false_iff.mpr c7
    subst c7
    rw [if_neg (show ¬ (false = true) by decide)] at H
    by_cases c14 : a0_1 = 7
    ·
     rw [if_pos c14] at H
     have c14b0 : (a0_1 == 7) = true := beq_iff_eq.mpr c14
     have c14b1 : (a0_1 != 7) = false := bne_eq_false_iff_eq.mpr c14
     clear c14
     replace H := Option.bind_eq_some_iff.mp H
     obtain ⟨⟨t355, t356⟩, A150, H⟩ := H
     replace H : (if t356 = 0 then (some (t355, (t355.toList != ([] : List UInt8)))) else (some (t355, false))) = some (r1, r2) := H
     have A15 := Aside0.mk A150
     clear A150
     by_cases c16 : t356 = 0
     ·
      rw [if_pos c16] at H
      have c16b0 : (t356 == 0) = true := beq_iff_eq.mpr c16
      have c16b1 : (t356 != 0) = false := bne_eq_false_iff_eq.mpr c16
      clear c16
      simp only [Option.some.injEq, Prod.mk.injEq] at H
      obtain ⟨rfl, rfl⟩ := H
      go_wp2_with (first | ((with_reducible refine gate_callee (f := 56) rfl ?_); refine goesL_ (some 38) rfl rfl Tryz.func56 (by kernel_rfl) rfl #[.string a1] rfl ap3 ?_; (with_reducible refine (prep_Phone.calls kj2 a1 t355 t356 _ ?side1 A15.out).mono ?_); (case side1 => first | exact HG.out | (refine Gw.below HG.out ?_; repeat (first | (with_reducible first | exact HB.out | apply below_alloc | apply pw_below_drewN | apply below_drew1 | refine below_set ?_ GE352.out) | exact HB.out))); rintro e w17 ⟨rfl, hb⟩; refine ⟨_, rfl, ?_⟩; have n0_ := Aside0.mk (blk_below (g := gb352) (o := .cells #[.string a0_0, .int .i64 a0_1, .bool a0_2] 23 (0, 0)) (apB BK352.out) hb); have n1_ := Aside0.mk (below_step (apG GE352.out) hb); clear BK352; clear HB; have BK352 := n0_; have HB := n1_; clear n0_ n1_; (try clear hb); (try clear hb2); (try clear hk); (try clear hi)))
      go_ret2
      exact ⟨by first | rfl | (simp [errW_none, errW_some, bne_nil8, beq_nil8]; done) | (simp [errW_none, errW_some] <;> rfl) | (simp [*, errW_none, errW_some] <;> rfl), by repeat (first | (with_reducible first | exact HB.out | apply below_alloc | apply pw_below_drewN | apply below_drew1 | refine below_set ?_ GE352.out) | exact HB.out)⟩
     ·
      rw [if_neg c16] at H
      have c16b0 : (t356 == 0) = false := beq_eq_false_iff_ne.mpr c16
      have c16b1 : (t356 != 0) = true := bne_iff_ne.mpr c16
      simp only [Option.some.injEq, Prod.mk.injEq] at H
      obtain ⟨rfl, rfl⟩ := H
      go_wp2_with (first | ((with_reducible refine gate_callee (f := 56) rfl ?_); refine goesL_ (some 38) rfl rfl Tryz.func56 (by kernel_rfl) rfl #[.string a1] rfl ap3 ?_; (with_reducible refine (prep_Phone.calls kj2 a1 t355 t356 _ ?side1 A15.out).mono ?_); (case side1 => first | exact HG.out | (refine Gw.below HG.out ?_; repeat (first | (with_reducible first | exact HB.out | apply below_alloc | apply pw_below_drewN | apply below_drew1 | refine below_set ?_ GE352.out) | exact HB.out))); rintro e w18 ⟨rfl, hb⟩; refine ⟨_, rfl, ?_⟩; have n0_ := Aside0.mk (blk_below (g := gb352) (o := .cells #[.string a0_0, .int .i64 a0_1, .bool a0_2] 23 (0, 0)) (apB BK352.out) hb); have n1_ := Aside0.mk (below_step (apG GE352.out) hb); clear BK352; clear HB; have BK352 := n0_; have HB := n1_; clear n0_ n1_; (try clear hb); (try clear hb2); (try clear hk); (try clear hi)))
      go_ret2
      exact ⟨by first | rfl | (simp [errW_none, errW_some, bne_nil8, beq_nil8]; done) | (simp [errW_none, errW_some] <;> rfl) | (simp [*, errW_none, errW_some] <;> rfl), by repeat (first | (with_reducible first | exact HB.out | apply below_alloc | apply pw_below_drewN | apply below_drew1 | refine below_set ?_ GE352.out) | exact HB.out)⟩
    ·
     rw [if_neg c14] at H
     have c14b0 : (a0_1 == 7) = false := beq_eq_false_iff_ne.mpr c14
     have c14b1 : (a0_1 != 7) = true := bne_iff_ne.mpr c14
     by_cases c19 : a0_1 = 4
     ·
      rw [if_pos c19] at H
      have c19b0 : (a0_1 == 4) = true := beq_iff_eq.mpr c19
      have c19b1 : (a0_1 != 4) = false := bne_eq_false_iff_eq.mpr c19
      clear c19
      replace H := Option.bind_eq_some_iff.mp H
      obtain ⟨t357, A200, H⟩ := H
      replace H : (some (a1, t357)) = some (r1, r2) := H
      have A20 := Aside0.mk A200
      clear A200
      simp only [Option.some.injEq, Prod.mk.injEq] at H
      obtain ⟨rfl, rfl⟩ := H
      go_wp2_with (first | ((with_reducible refine gate_callee (f := 68) rfl ?_); refine goesL_ (some 52) rfl rfl Tryz.func68 (by kernel_rfl) rfl #[.string a1] rfl ap3 ?_; (with_reducible refine (attr_number.calls kj2 a1 t357 _ A20.out).mono ?_); rintro e w' ⟨rfl, ⟨nd, rfl⟩⟩; refine ⟨_, rfl, ?_⟩))
      go_ret2
      exact ⟨by first | rfl | (simp [errW_none, errW_some, bne_nil8, beq_nil8]; done) | (simp [errW_none, errW_some] <;> rfl) | (simp [*, errW_none, errW_some] <;> rfl), by repeat (first | (with_reducible first | exact HB.out | apply below_alloc | apply pw_below_drewN | apply below_drew1 | refine below_set ?_ GE352.out) | exact HB.out)⟩
     ·
      rw [if_neg c19] at H
      have c19b0 : (a0_1 == 4) = false := beq_eq_false_iff_ne.mpr c19
      have c19b1 : (a0_1 != 4) = true := bne_iff_ne.mpr c19
      by_cases c21 : a0_1 = 5
      ·
       rw [if_pos c21] at H
       have c21b0 : (a0_1 == 5) = true := beq_iff_eq.mpr c21
       have c21b1 : (a0_1 != 5) = false := bne_eq_false_iff_eq.mpr c21
       clear c21
       by_cases c22 : a1.toList = ([84, 82, 85, 69] : List UInt8)
       ·
        rw [if_pos c22] at H
        have c22b0 : (a1.toList == ([84, 82, 85, 69] : List UInt8)) = true := beq_iff_eq.mpr c22
        have c22b1 : (a1.toList != ([84, 82, 85, 69] : List UInt8)) = false := bne_eq_false_iff_eq.mpr c22
        clear c22
        simp only [Option.some.injEq, Prod.mk.injEq] at H
        obtain ⟨rfl, rfl⟩ := H
        go_wp2
        go_ret2
        exact ⟨by first | rfl | (simp [errW_none, errW_some, bne_nil8, beq_nil8]; done) | (simp [errW_none, errW_some] <;> rfl) | (simp [*, errW_none, errW_some] <;> rfl), by repeat (first | (with_reducible first | exact HB.out | apply below_alloc | apply pw_below_drewN | apply below_drew1 | refine below_set ?_ GE352.out) | exact HB.out)⟩
       ·
        rw [if_neg c22] at H
        have c22b0 : (a1.toList == ([84, 82, 85, 69] : List UInt8)) = false := beq_eq_false_iff_ne.mpr c22
        have c22b1 : (a1.toList != ([84, 82, 85, 69] : List UInt8)) = true := bne_iff_ne.mpr c22
        simp only [Option.some.injEq, Prod.mk.injEq] at H
        obtain ⟨rfl, rfl⟩ := H
        go_wp2
        go_ret2
        exact ⟨by first | rfl | (simp [errW_none, errW_some, bne_nil8, beq_nil8]; done) | (simp [errW_none, errW_some] <;> rfl) | (simp [*, errW_none, errW_some] <;> rfl), by repeat (first | (with_reducible first | exact HB.out | apply below_alloc | apply pw_below_drewN | apply below_drew1 | refine below_set ?_ GE352.out) | exact HB.out)⟩
      ·
       rw [if_neg c21] at H
       have c21b0 : (a0_1 == 5) = false := beq_eq_false_iff_ne.mpr c21
       have c21b1 : (a0_1 != 5) = true := bne_iff_ne.mpr c21
       by_cases c23 : a0_1 = 6
       ·
        rw [if_pos c23] at H
        have c23b0 : (a0_1 == 6) = true := beq_iff_eq.mpr c23
        have c23b1 : (a0_1 != 6) = false := bne_eq_false_iff_eq.mpr c23
        clear c23
        replace H := Option.bind_eq_some_iff.mp H
        obtain ⟨⟨t358, t359⟩, A240, H⟩ := H
        replace H : ((dn_Keys.f kj2 t358).bind fun bt362 => ((strings_Join.f bt362.1 (⟨#[]⟩ : ByteArray)).bind fun t366 => (if t359 = 0 then (some (t366, (bt362.2 == 0))) else (some (t366, false))))) = some (r1, r2) := H
        have A24 := Aside0.mk A240
        clear A240
        replace H := Option.bind_eq_some_iff.mp H
        obtain ⟨⟨t362, t363⟩, A250, H⟩ := H
        replace H : ((strings_Join.f t362 (⟨#[]⟩ : ByteArray)).bind fun t366 => (if t359 = 0 then (some (t366, (t363 == 0))) else (some (t366, false)))) = some (r1, r2) := H
        have A25 := Aside0.mk A250
        clear A250
        replace H := Option.bind_eq_some_iff.mp H
        obtain ⟨t366, A260, H⟩ := H
        replace H : (if t359 = 0 then (some (t366, (t363 == 0))) else (some (t366, false))) = some (r1, r2) := H
        have A26 := Aside0.mk A260
        clear A260
        by_cases c27 : t359 = 0
        ·
         rw [if_pos c27] at H
         have c27b0 : (t359 == 0) = true := beq_iff_eq.mpr c27
         have c27b1 : (t359 != 0) = false := bne_eq_false_iff_eq.mpr c27
         clear c27
         simp only [Option.some.injEq, Prod.mk.injEq] at H
         obtain ⟨rfl, rfl⟩ := H
         go_wp2_with (first | ((with_reducible refine gate_callee (f := 69) rfl ?_); refine goesL_ (some 66) rfl rfl Tryz.func69 (by kernel_rfl) rfl #[.string a1] rfl ap3 ?_; (with_reducible refine (dn_Parse.calls kj2 a1 t358 t359 _ ?side1 A24.out).mono ?_); (case side1 => first | exact HG.out | (refine Gw.below HG.out ?_; repeat (first | (with_reducible first | exact HB.out | apply below_alloc | apply pw_below_drewN | apply below_drew1 | refine below_set ?_ GE352.out) | exact HB.out))); rintro e w28 ⟨v360, rfl, ho0, hb⟩; refine ⟨_, rfl, ?_⟩; have n0_ := Aside0.mk (Kd.S_lower ho0 (below_size (apG GE352.out))); have n1_ := Aside0.mk (blk_below (g := gb352) (o := .cells #[.string a0_0, .int .i64 a0_1, .bool a0_2] 23 (0, 0)) (apB BK352.out) hb); have n2_ := Aside0.mk (below_step (apG GE352.out) hb); clear BK352; clear HB; have HO361 := n0_; have BK352 := n1_; have HB := n2_; clear n0_ n1_ n2_; (try clear hb); (try clear hb2); (try clear hk); (try clear hi); (try clear ho0); obtain ⟨Ao29, co29, eo29⟩ := Kd.S_slice HO361.out; subst eo29) | ((with_reducible refine gate_callee (f := 70) rfl ?_); refine goesL_ (some 71) rfl rfl Tryz.func70 (by kernel_rfl) rfl #[.slice Ao29 t358.length co29] rfl ap3 ?_; (with_reducible refine (dn_Keys.calls kj2 _ _ t358 t362 t363 _ ?side1 ?side2 ?side3 A25.out).mono ?_); (case side1 => repeat (first | exact (Kd.S_reads' HO361.out).2.2 | (with_reducible refine Kd.C_alloc ?_ _) | (with_reducible refine Kd.C_drewN ?_ _) | (with_reducible refine Kd.C_drew ?_))); (case side2 => exact (Kd.S_reads' HO361.out).2.1); (case side3 => first | exact HG.out | (refine Gw.below HG.out ?_; repeat (first | (with_reducible first | exact HB.out | apply below_alloc | apply pw_below_drewN | apply below_drew1 | refine below_set ?_ GE352.out) | exact HB.out))); rintro e w30 ⟨v364, rfl, ho0, hb⟩; refine ⟨_, rfl, ?_⟩; have n0_ := Aside0.mk (Kd.S_below (apAS HO361.out) hb); have n1_ := Aside0.mk (Kd.R_lower ho0 (below_size (apG GE352.out))); have n2_ := Aside0.mk (blk_below (g := gb352) (o := .cells #[.string a0_0, .int .i64 a0_1, .bool a0_2] 23 (0, 0)) (apB BK352.out) hb); have n3_ := Aside0.mk (below_step (apG GE352.out) hb); clear HO361; clear BK352; clear HB; have HO361 := n0_; have HO365 := n1_; have BK352 := n2_; have HB := n3_; clear n0_ n1_ n2_ n3_; (try clear hb); (try clear hb2); (try clear hk); (try clear hi); (try clear ho0); obtain ⟨Ao31, co31, eo31⟩ := Kd.R_slice HO365.out; subst eo31) | ((with_reducible refine gate_callee (f := 71) rfl ?_); refine goesL_ (some 75) rfl rfl Tryz.func71 (by kernel_rfl) rfl #[.slice Ao31 t362.length co31, .string (⟨#[]⟩ : ByteArray)] rfl ap3 ?_; (with_reducible refine (strings_Join.calls _ _ t362 (⟨#[]⟩ : ByteArray) t366 _ ?side1 ?side2 A26.out).mono ?_); (case side1 => repeat (first | exact (Kd.R_reads' HO365.out).2.2 | (with_reducible refine Kd.C_alloc ?_ _) | (with_reducible refine Kd.C_drewN ?_ _) | (with_reducible refine Kd.C_drew ?_))); (case side2 => exact (Kd.R_reads' HO365.out).2.1); rintro e w32 ⟨rfl, hb⟩; refine ⟨_, rfl, ?_⟩; have n0_ := Aside0.mk (Kd.S_below (apAS HO361.out) hb); have n1_ := Aside0.mk (Kd.R_below (apAR HO365.out) hb); have n2_ := Aside0.mk (blk_below (g := gb352) (o := .cells #[.string a0_0, .int .i64 a0_1, .bool a0_2] 23 (0, 0)) (apB BK352.out) hb); have n3_ := Aside0.mk (below_step (apG GE352.out) hb); clear HO361; clear HO365; clear BK352; clear HB; have HO361 := n0_; have HO365 := n1_; have BK352 := n2_; have HB := n3_; clear n0_ n1_ n2_ n3_; (try clear hb); (try clear hb2); (try clear hk); (try clear hi)))
         go_ret2
         exact ⟨by first | rfl | (simp [errW_none, errW_some, bne_nil8, beq_nil8]; done) | (simp [errW_none, errW_some] <;> rfl) | (simp [*, errW_none, errW_some] <;> rfl), by repeat (first | (with_reducible first | exact HB.out | apply below_alloc | apply pw_below_drewN | apply below_drew1 | refine below_set ?_ GE352.out) | exact HB.out)⟩
        ·
         rw [if_neg c27] at H
         have c27b0 : (t359 == 0) = false := beq_eq_false_iff_ne.mpr c27
         have c27b1 : (t359 != 0) = true := bne_iff_ne.mpr c27
         simp only [Option.some.injEq, Prod.mk.injEq] at H
         obtain ⟨rfl, rfl⟩ := H
         go_wp2_with (first | ((with_reducible refine gate_callee (f := 69) rfl ?_); refine goesL_ (some 66) rfl rfl Tryz.func69 (by kernel_rfl) rfl #[.string a1] rfl ap3 ?_; (with_reducible refine (dn_Parse.calls kj2 a1 t358 t359 _ ?side1 A24.out).mono ?_); (case side1 => first | exact HG.out | (refine Gw.below HG.out ?_; repeat (first | (with_reducible first | exact HB.out | apply below_alloc | apply pw_below_drewN | apply below_drew1 | refine below_set ?_ GE352.out) | exact HB.out))); rintro e w33 ⟨v360, rfl, ho0, hb⟩; refine ⟨_, rfl, ?_⟩; have n0_ := Aside0.mk (Kd.S_lower ho0 (below_size (apG GE352.out))); have n1_ := Aside0.mk (blk_below (g := gb352) (o := .cells #[.string a0_0, .int .i64 a0_1, .bool a0_2] 23 (0, 0)) (apB BK352.out) hb); have n2_ := Aside0.mk (below_step (apG GE352.out) hb); clear BK352; clear HB; have HO361 := n0_; have BK352 := n1_; have HB := n2_; clear n0_ n1_ n2_; (try clear hb); (try clear hb2); (try clear hk); (try clear hi); (try clear ho0); obtain ⟨Ao34, co34, eo34⟩ := Kd.S_slice HO361.out; subst eo34) | ((with_reducible refine gate_callee (f := 70) rfl ?_); refine goesL_ (some 71) rfl rfl Tryz.func70 (by kernel_rfl) rfl #[.slice Ao34 t358.length co34] rfl ap3 ?_; (with_reducible refine (dn_Keys.calls kj2 _ _ t358 t362 t363 _ ?side1 ?side2 ?side3 A25.out).mono ?_); (case side1 => repeat (first | exact (Kd.S_reads' HO361.out).2.2 | (with_reducible refine Kd.C_alloc ?_ _) | (with_reducible refine Kd.C_drewN ?_ _) | (with_reducible refine Kd.C_drew ?_))); (case side2 => exact (Kd.S_reads' HO361.out).2.1); (case side3 => first | exact HG.out | (refine Gw.below HG.out ?_; repeat (first | (with_reducible first | exact HB.out | apply below_alloc | apply pw_below_drewN | apply below_drew1 | refine below_set ?_ GE352.out) | exact HB.out))); rintro e w35 ⟨v364, rfl, ho0, hb⟩; refine ⟨_, rfl, ?_⟩; have n0_ := Aside0.mk (Kd.S_below (apAS HO361.out) hb); have n1_ := Aside0.mk (Kd.R_lower ho0 (below_size (apG GE352.out))); have n2_ := Aside0.mk (blk_below (g := gb352) (o := .cells #[.string a0_0, .int .i64 a0_1, .bool a0_2] 23 (0, 0)) (apB BK352.out) hb); have n3_ := Aside0.mk (below_step (apG GE352.out) hb); clear HO361; clear BK352; clear HB; have HO361 := n0_; have HO365 := n1_; have BK352 := n2_; have HB := n3_; clear n0_ n1_ n2_ n3_; (try clear hb); (try clear hb2); (try clear hk); (try clear hi); (try clear ho0); obtain ⟨Ao36, co36, eo36⟩ := Kd.R_slice HO365.out; subst eo36) | ((with_reducible refine gate_callee (f := 71) rfl ?_); refine goesL_ (some 75) rfl rfl Tryz.func71 (by kernel_rfl) rfl #[.slice Ao36 t362.length co36, .string (⟨#[]⟩ : ByteArray)] rfl ap3 ?_; (with_reducible refine (strings_Join.calls _ _ t362 (⟨#[]⟩ : ByteArray) t366 _ ?side1 ?side2 A26.out).mono ?_); (case side1 => repeat (first | exact (Kd.R_reads' HO365.out).2.2 | (with_reducible refine Kd.C_alloc ?_ _) | (with_reducible refine Kd.C_drewN ?_ _) | (with_reducible refine Kd.C_drew ?_))); (case side2 => exact (Kd.R_reads' HO365.out).2.1); rintro e w37 ⟨rfl, hb⟩; refine ⟨_, rfl, ?_⟩; have n0_ := Aside0.mk (Kd.S_below (apAS HO361.out) hb); have n1_ := Aside0.mk (Kd.R_below (apAR HO365.out) hb); have n2_ := Aside0.mk (blk_below (g := gb352) (o := .cells #[.string a0_0, .int .i64 a0_1, .bool a0_2] 23 (0, 0)) (apB BK352.out) hb); have n3_ := Aside0.mk (below_step (apG GE352.out) hb); clear HO361; clear HO365; clear BK352; clear HB; have HO361 := n0_; have HO365 := n1_; have BK352 := n2_; have HB := n3_; clear n0_ n1_ n2_ n3_; (try clear hb); (try clear hb2); (try clear hk); (try clear hi)))
         go_ret2
         exact ⟨by first | rfl | (simp [errW_none, errW_some, bne_nil8, beq_nil8]; done) | (simp [errW_none, errW_some] <;> rfl) | (simp [*, errW_none, errW_some] <;> rfl), by repeat (first | (with_reducible first | exact HB.out | apply below_alloc | apply pw_below_drewN | apply below_drew1 | refine below_set ?_ GE352.out) | exact HB.out)⟩
       ·
        rw [if_neg c23] at H
        have c23b0 : (a0_1 == 6) = false := beq_eq_false_iff_ne.mpr c23
        have c23b1 : (a0_1 != 6) = true := bne_iff_ne.mpr c23
        simp only [Option.some.injEq, Prod.mk.injEq] at H
        obtain ⟨rfl, rfl⟩ := H
        go_wp2
        go_ret2
        exact ⟨by first | rfl | (simp [errW_none, errW_some, bne_nil8, beq_nil8]; done) | (simp [errW_none, errW_some] <;> rfl) | (simp [*, errW_none, errW_some] <;> rfl), by repeat (first | (with_reducible first | exact HB.out | apply below_alloc | apply pw_below_drewN | apply below_drew1 | refine below_set ?_ GE352.out) | exact HB.out)⟩
def attr_known.f (a0_0 : ByteArray) (a0_1 : Int) (a0_2 : Bool) : Option (Bool) := if a0_1 ≥ 1 then (some (decide (a0_1 ≤ 7))) else (some false)
set_option maxHeartbeats 8000000 in
set_option maxRecDepth 100000 in
theorem attr_known.calls (a0_0 : ByteArray) (a0_1 : Int) (a0_2 : Bool) (r : Bool) (w : World) (h : attr_known.f a0_0 a0_1 a0_2 = some r) :
  Calls Tryz.prog 42 #[.agg #[.string a0_0, .int .i64 a0_1, .bool a0_2]] w fun e w' => e = .returned (.bool r) ∧ Below w.heap.size w w' := by
 have hu23 := Tryz.underlying23
 have HB := Aside0.mk (Below.refl w.heap.size w)
 have H : (if a0_1 ≥ 1 then (some (decide (a0_1 ≤ 7))) else (some false)) = some r := h
 clear h
 by_cases c2 : a0_1 ≥ 1
 ·
  rw [if_pos c2] at H
  have c2b0 := decide_eq_true c2
  clear c2
  obtain rfl := Option.some.inj H
  go_enter Tryz.func42, Tryz.ntmps42
  go_wp2_with (first | ((with_reducible refine gate_dst (N := 1) rfl ?_); refine box_event ?hg (N := 1) ?hd (cs := #[.string a0_0, .int .i64 a0_1, .bool a0_2]) (t := 23) ?hr ?_; (case hd => rfl); (case hg => rfl); (case hr => first | (go_simp; done) | (go_simp; rfl)); intro gb101 hg w3 hbox hb; have n0_ := Aside0.mk (below_step ap1 hb); have n1_ := Aside0.mk (hbox); have n2_ := Aside0.mk ((by rw [hg]; exact (below_size ap1) : w.heap.size ≤ gb101)); have n3_ := Aside0.mk ((by rw [hg]; exact (below_size ap1) : w.heap.size ≤ gb101)); clear HB; have HB := n0_; have BK101 := n1_; have GW101 := n2_; have GE101 := n3_; clear n0_ n1_ n2_ n3_; clear hb hbox hg; have hcz4_0 : w3.cell? ⟨gb101, 0, none⟩ = some (.string a0_0) := (blk_cell BK101.out 0).trans rfl; have hcz4_1 : w3.cell? ⟨gb101, 1, none⟩ = some (.int .i64 a0_1) := (blk_cell BK101.out 1).trans rfl; have hcz4_2 : w3.cell? ⟨gb101, 2, none⟩ = some (.bool a0_2) := (blk_cell BK101.out 2).trans rfl; have hfz4_0 := blk_frozen BK101.out 0; have hfz4_1 := blk_frozen BK101.out 1; have hfz4_2 := blk_frozen BK101.out 2))
  go_ret
  exact ⟨by first | rfl | (simp [errW_none, errW_some, bne_nil8, beq_nil8]; done) | (simp [errW_none, errW_some] <;> rfl) | (simp [*, errW_none, errW_some] <;> rfl), by repeat (first | (with_reducible first | exact HB.out | apply below_alloc | apply pw_below_drewN | apply below_drew1 | refine below_set ?_ GE101.out) | exact HB.out)⟩
 ·
  rw [if_neg c2] at H
  have c2b0 := decide_eq_false c2
  clear c2
  obtain rfl := Option.some.inj H
  go_enter Tryz.func42, Tryz.ntmps42
  go_wp2_with (first | ((with_reducible refine gate_dst (N := 1) rfl ?_); refine box_event ?hg (N := 1) ?hd (cs := #[.string a0_0, .int .i64 a0_1, .bool a0_2]) (t := 23) ?hr ?_; (case hd => rfl); (case hg => rfl); (case hr => first | (go_simp; done) | (go_simp; rfl)); intro gb101 hg w5 hbox hb; have n0_ := Aside0.mk (below_step ap1 hb); have n1_ := Aside0.mk (hbox); have n2_ := Aside0.mk ((by rw [hg]; exact (below_size ap1) : w.heap.size ≤ gb101)); have n3_ := Aside0.mk ((by rw [hg]; exact (below_size ap1) : w.heap.size ≤ gb101)); clear HB; have HB := n0_; have BK101 := n1_; have GW101 := n2_; have GE101 := n3_; clear n0_ n1_ n2_ n3_; clear hb hbox hg; have hcz6_0 : w5.cell? ⟨gb101, 0, none⟩ = some (.string a0_0) := (blk_cell BK101.out 0).trans rfl; have hcz6_1 : w5.cell? ⟨gb101, 1, none⟩ = some (.int .i64 a0_1) := (blk_cell BK101.out 1).trans rfl; have hcz6_2 : w5.cell? ⟨gb101, 2, none⟩ = some (.bool a0_2) := (blk_cell BK101.out 2).trans rfl; have hfz6_0 := blk_frozen BK101.out 0; have hfz6_1 := blk_frozen BK101.out 1; have hfz6_2 := blk_frozen BK101.out 2))
  go_ret
  exact ⟨by first | rfl | (simp [errW_none, errW_some, bne_nil8, beq_nil8]; done) | (simp [errW_none, errW_some] <;> rfl) | (simp [*, errW_none, errW_some] <;> rfl), by repeat (first | (with_reducible first | exact HB.out | apply below_alloc | apply pw_below_drewN | apply below_drew1 | refine below_set ?_ GE101.out) | exact HB.out)⟩
def attr_Normal.f (k : Nat) (a0_0 : ByteArray) (a0_1 : Int) (a0_2 : Bool) (a1 : ByteArray) : Option (ByteArray × Int) := (attr_known.f a0_0 a0_1 a0_2).bind fun t368 => (if t368 = true then (if (a1.size : Int) > 1000 then (some ((⟨#[]⟩ : ByteArray), 5)) else (if a1.toList = ([] : List UInt8) then (some ((⟨#[]⟩ : ByteArray), 4)) else ((attr_form.f k a0_0 a0_1 a0_2 a1).bind fun bt369 => (if bt369.2 = true then (some (bt369.1, 0)) else (some ((⟨#[]⟩ : ByteArray), 4)))))) else (some ((⟨#[]⟩ : ByteArray), 14)))
theorem attr_Normal.mono : ∀ a0 a1 a2 a3 k, LeO (attr_Normal.f k a0 a1 a2 a3) (attr_Normal.f (k + 1) a0 a1 a2 a3) := by
 intro a0 a1 a2 a3 k
 unfold attr_Normal.f
 repeat' first
   | (with_reducible exact attr_form.mono _ _ _ _ _)
   | (with_reducible exact LeO.refl _)
   | (with_reducible exact LeO.none _)
   | (with_reducible refine LeO.ite ?_ ?_)
   | (with_reducible refine LeO.bind ?_ (fun _ => ?_))
set_option maxHeartbeats 8000000 in
set_option maxRecDepth 100000 in
theorem attr_Normal.calls (k : Nat) (a0_0 : ByteArray) (a0_1 : Int) (a0_2 : Bool) (a1 : ByteArray) (r1 : ByteArray) (r2 : Int) (w : World) (hG : Gw w) (h : attr_Normal.f k a0_0 a0_1 a0_2 a1 = some (r1, r2)) :
  Calls Tryz.prog 19 #[.agg #[.string a0_0, .int .i64 a0_1, .bool a0_2], .string a1] w fun e w' => e = .returned (.tuple #[.string r1, .int .i64 r2]) ∧ Below w.heap.size w w' := by
 have hu23 := Tryz.underlying23
 have HB := Aside0.mk (Below.refl w.heap.size w)
 have HG := Aside0.mk hG
 clear hG
 have H : ((attr_known.f a0_0 a0_1 a0_2).bind fun t368 => (if t368 = true then (if (a1.size : Int) > 1000 then (some ((⟨#[]⟩ : ByteArray), 5)) else (if a1.toList = ([] : List UInt8) then (some ((⟨#[]⟩ : ByteArray), 4)) else ((attr_form.f k a0_0 a0_1 a0_2 a1).bind fun bt369 => (if bt369.2 = true then (some (bt369.1, 0)) else (some ((⟨#[]⟩ : ByteArray), 4)))))) else (some ((⟨#[]⟩ : ByteArray), 14)))) = some (r1, r2) := h
 clear h
 replace H := Option.bind_eq_some_iff.mp H
 obtain ⟨t368, A30, H⟩ := H
 replace H : (if t368 = true then (if (a1.size : Int) > 1000 then (some ((⟨#[]⟩ : ByteArray), 5)) else (if a1.toList = ([] : List UInt8) then (some ((⟨#[]⟩ : ByteArray), 4)) else ((attr_form.f k a0_0 a0_1 a0_2 a1).bind fun bt369 => (if bt369.2 = true then (some (bt369.1, 0)) else (some ((⟨#[]⟩ : ByteArray), 4)))))) else (some ((⟨#[]⟩ : ByteArray), 14))) = some (r1, r2) := H
 have A3 := Aside0.mk A30
 clear A30
 by_cases c4 : t368 = true
 ·
  subst c4
  rw [if_pos rfl] at H
  by_cases c5 : (a1.size : Int) > 1000
  ·
   rw [if_pos c5] at H
   have c5b0 := decide_eq_true c5
   have c5b1 : decide (1000 < a1.size) = true := decide_eq_true (by omega)
   clear c5
   simp only [Option.some.injEq, Prod.mk.injEq] at H
   obtain ⟨rfl, rfl⟩ := H
   go_enter Tryz.func19, Tryz.ntmps19
   go_wp2_with (first | ((with_reducible refine gate_dst (N := 2) rfl ?_); refine box_event ?hg (N := 2) ?hd (cs := #[.string a0_0, .int .i64 a0_1, .bool a0_2]) (t := 23) ?hr ?_; (case hd => rfl); (case hg => rfl); (case hr => first | (go_simp; done) | (go_simp; rfl)); intro gb367 hg w6 hbox hb; have n0_ := Aside0.mk (below_step ap1 hb); have n1_ := Aside0.mk (hbox); have n2_ := Aside0.mk ((by rw [hg]; exact (below_size ap1) : w.heap.size ≤ gb367)); have n3_ := Aside0.mk ((by rw [hg]; exact (below_size ap1) : w.heap.size ≤ gb367)); clear HB; have HB := n0_; have BK367 := n1_; have GW367 := n2_; have GE367 := n3_; clear n0_ n1_ n2_ n3_; clear hb hbox hg; have hcz7_0 : w6.cell? ⟨gb367, 0, none⟩ = some (.string a0_0) := (blk_cell BK367.out 0).trans rfl; have hcz7_1 : w6.cell? ⟨gb367, 1, none⟩ = some (.int .i64 a0_1) := (blk_cell BK367.out 1).trans rfl; have hcz7_2 : w6.cell? ⟨gb367, 2, none⟩ = some (.bool a0_2) := (blk_cell BK367.out 2).trans rfl; have hfz7_0 := blk_frozen BK367.out 0; have hfz7_1 := blk_frozen BK367.out 1; have hfz7_2 := blk_frozen BK367.out 2) | ((with_reducible refine gate_callee (f := 42) rfl ?_); refine goesL_ (some 10) rfl rfl Tryz.func42 (by kernel_rfl) rfl #[.agg #[.string a0_0, .int .i64 a0_1, .bool a0_2]] rfl ap3 ?_; (with_reducible refine (attr_known.calls a0_0 a0_1 a0_2 true _ A3.out).mono ?_); rintro e w8 ⟨rfl, hb⟩; refine ⟨_, rfl, ?_⟩; have n0_ := Aside0.mk (blk_below (g := gb367) (o := .cells #[.string a0_0, .int .i64 a0_1, .bool a0_2] 23 (0, 0)) (apB BK367.out) hb); have n1_ := Aside0.mk (below_step (apG GE367.out) hb); clear BK367; clear HB; have BK367 := n0_; have HB := n1_; clear n0_ n1_; (try clear hb); (try clear hb2); (try clear hk); (try clear hi)))
   go_ret2
   exact ⟨by first | rfl | (simp [errW_none, errW_some, bne_nil8, beq_nil8]; done) | (simp [errW_none, errW_some] <;> rfl) | (simp [*, errW_none, errW_some] <;> rfl), by repeat (first | (with_reducible first | exact HB.out | apply below_alloc | apply pw_below_drewN | apply below_drew1 | refine below_set ?_ GE367.out) | exact HB.out)⟩
  ·
   rw [if_neg c5] at H
   have c5b0 := decide_eq_false c5
   have c5b1 : decide (1000 < a1.size) = false := decide_eq_false (by omega)
   clear c5
   by_cases c9 : a1.toList = ([] : List UInt8)
   ·
    rw [if_pos c9] at H
    have c9b0 : (a1.toList == ([] : List UInt8)) = true := beq_iff_eq.mpr c9
    have c9b1 : (a1.toList != ([] : List UInt8)) = false := bne_eq_false_iff_eq.mpr c9
    clear c9
    simp only [Option.some.injEq, Prod.mk.injEq] at H
    obtain ⟨rfl, rfl⟩ := H
    go_enter Tryz.func19, Tryz.ntmps19
    go_wp2_with (first | ((with_reducible refine gate_dst (N := 2) rfl ?_); refine box_event ?hg (N := 2) ?hd (cs := #[.string a0_0, .int .i64 a0_1, .bool a0_2]) (t := 23) ?hr ?_; (case hd => rfl); (case hg => rfl); (case hr => first | (go_simp; done) | (go_simp; rfl)); intro gb367 hg w10 hbox hb; have n0_ := Aside0.mk (below_step ap1 hb); have n1_ := Aside0.mk (hbox); have n2_ := Aside0.mk ((by rw [hg]; exact (below_size ap1) : w.heap.size ≤ gb367)); have n3_ := Aside0.mk ((by rw [hg]; exact (below_size ap1) : w.heap.size ≤ gb367)); clear HB; have HB := n0_; have BK367 := n1_; have GW367 := n2_; have GE367 := n3_; clear n0_ n1_ n2_ n3_; clear hb hbox hg; have hcz11_0 : w10.cell? ⟨gb367, 0, none⟩ = some (.string a0_0) := (blk_cell BK367.out 0).trans rfl; have hcz11_1 : w10.cell? ⟨gb367, 1, none⟩ = some (.int .i64 a0_1) := (blk_cell BK367.out 1).trans rfl; have hcz11_2 : w10.cell? ⟨gb367, 2, none⟩ = some (.bool a0_2) := (blk_cell BK367.out 2).trans rfl; have hfz11_0 := blk_frozen BK367.out 0; have hfz11_1 := blk_frozen BK367.out 1; have hfz11_2 := blk_frozen BK367.out 2) | ((with_reducible refine gate_callee (f := 42) rfl ?_); refine goesL_ (some 10) rfl rfl Tryz.func42 (by kernel_rfl) rfl #[.agg #[.string a0_0, .int .i64 a0_1, .bool a0_2]] rfl ap3 ?_; (with_reducible refine (attr_known.calls a0_0 a0_1 a0_2 true _ A3.out).mono ?_); rintro e w12 ⟨rfl, hb⟩; refine ⟨_, rfl, ?_⟩; have n0_ := Aside0.mk (blk_below (g := gb367) (o := .cells #[.string a0_0, .int .i64 a0_1, .bool a0_2] 23 (0, 0)) (apB BK367.out) hb); have n1_ := Aside0.mk (below_step (apG GE367.out) hb); clear BK367; clear HB; have BK367 := n0_; have HB := n1_; clear n0_ n1_; (try clear hb); (try clear hb2); (try clear hk); (try clear hi)))
    go_ret2
    exact ⟨by first | rfl | (simp [errW_none, errW_some, bne_nil8, beq_nil8]; done) | (simp [errW_none, errW_some] <;> rfl) | (simp [*, errW_none, errW_some] <;> rfl), by repeat (first | (with_reducible first | exact HB.out | apply below_alloc | apply pw_below_drewN | apply below_drew1 | refine below_set ?_ GE367.out) | exact HB.out)⟩
   ·
    rw [if_neg c9] at H
    have c9b0 : (a1.toList == ([] : List UInt8)) = false := beq_eq_false_iff_ne.mpr c9
    have c9b1 : (a1.toList != ([] : List UInt8)) = true := bne_iff_ne.mpr c9
    replace H := Option.bind_eq_some_iff.mp H
    obtain ⟨⟨t369, t370⟩, A130, H⟩ := H
    replace H : (if t370 = true then (some (t369, 0)) else (some ((⟨#[]⟩ : ByteArray), 4))) = some (r1, r2) := H
    have A13 := Aside0.mk A130
    clear A130
    by_cases c14 : t370 = true
    ·
     subst c14
     rw [if_pos rfl] at H
     simp only [Option.some.injEq, Prod.mk.injEq] at H
     obtain ⟨rfl, rfl⟩ := H
     go_enter Tryz.func19, Tryz.ntmps19
     go_wp2_with (first | ((with_reducible refine gate_dst (N := 2) rfl ?_); refine box_event ?hg (N := 2) ?hd (cs := #[.string a0_0, .int .i64 a0_1, .bool a0_2]) (t := 23) ?hr ?_; (case hd => rfl); (case hg => rfl); (case hr => first | (go_simp; done) | (go_simp; rfl)); intro gb367 hg w15 hbox hb; have n0_ := Aside0.mk (below_step ap1 hb); have n1_ := Aside0.mk (hbox); have n2_ := Aside0.mk ((by rw [hg]; exact (below_size ap1) : w.heap.size ≤ gb367)); have n3_ := Aside0.mk ((by rw [hg]; exact (below_size ap1) : w.heap.size ≤ gb367)); clear HB; have HB := n0_; have BK367 := n1_; have GW367 := n2_; have GE367 := n3_; clear n0_ n1_ n2_ n3_; clear hb hbox hg; have hcz16_0 : w15.cell? ⟨gb367, 0, none⟩ = some (.string a0_0) := (blk_cell BK367.out 0).trans rfl; have hcz16_1 : w15.cell? ⟨gb367, 1, none⟩ = some (.int .i64 a0_1) := (blk_cell BK367.out 1).trans rfl; have hcz16_2 : w15.cell? ⟨gb367, 2, none⟩ = some (.bool a0_2) := (blk_cell BK367.out 2).trans rfl; have hfz16_0 := blk_frozen BK367.out 0; have hfz16_1 := blk_frozen BK367.out 1; have hfz16_2 := blk_frozen BK367.out 2) | ((with_reducible refine gate_callee (f := 42) rfl ?_); refine goesL_ (some 10) rfl rfl Tryz.func42 (by kernel_rfl) rfl #[.agg #[.string a0_0, .int .i64 a0_1, .bool a0_2]] rfl ap3 ?_; (with_reducible refine (attr_known.calls a0_0 a0_1 a0_2 true _ A3.out).mono ?_); rintro e w17 ⟨rfl, hb⟩; refine ⟨_, rfl, ?_⟩; have n0_ := Aside0.mk (blk_below (g := gb367) (o := .cells #[.string a0_0, .int .i64 a0_1, .bool a0_2] 23 (0, 0)) (apB BK367.out) hb); have n1_ := Aside0.mk (below_step (apG GE367.out) hb); clear BK367; clear HB; have BK367 := n0_; have HB := n1_; clear n0_ n1_; (try clear hb); (try clear hb2); (try clear hk); (try clear hi); have hcz18_0 : w17.cell? ⟨gb367, 0, none⟩ = some (.string a0_0) := (blk_cell BK367.out 0).trans rfl; have hcz18_1 : w17.cell? ⟨gb367, 1, none⟩ = some (.int .i64 a0_1) := (blk_cell BK367.out 1).trans rfl; have hcz18_2 : w17.cell? ⟨gb367, 2, none⟩ = some (.bool a0_2) := (blk_cell BK367.out 2).trans rfl; have hfz18_0 := blk_frozen BK367.out 0; have hfz18_1 := blk_frozen BK367.out 1; have hfz18_2 := blk_frozen BK367.out 2) | ((with_reducible refine gate_callee (f := 43) rfl ?_); refine goesL_ (some 22) rfl rfl Tryz.func43 (by kernel_rfl) rfl #[.agg #[.string a0_0, .int .i64 a0_1, .bool a0_2], .string a1] rfl ap3 ?_; (with_reducible refine (attr_form.calls k a0_0 a0_1 a0_2 a1 t369 true _ ?side1 A13.out).mono ?_); (case side1 => first | exact HG.out | (refine Gw.below HG.out ?_; repeat (first | (with_reducible first | exact HB.out | apply below_alloc | apply pw_below_drewN | apply below_drew1 | refine below_set ?_ GE367.out) | exact HB.out))); rintro e w19 ⟨rfl, hb⟩; refine ⟨_, rfl, ?_⟩; have n0_ := Aside0.mk (blk_below (g := gb367) (o := .cells #[.string a0_0, .int .i64 a0_1, .bool a0_2] 23 (0, 0)) (apB BK367.out) hb); have n1_ := Aside0.mk (below_step (apG GE367.out) hb); clear BK367; clear HB; have BK367 := n0_; have HB := n1_; clear n0_ n1_; (try clear hb); (try clear hb2); (try clear hk); (try clear hi)))
     go_ret2
     exact ⟨by first | rfl | (simp [errW_none, errW_some, bne_nil8, beq_nil8]; done) | (simp [errW_none, errW_some] <;> rfl) | (simp [*, errW_none, errW_some] <;> rfl), by repeat (first | (with_reducible first | exact HB.out | apply below_alloc | apply pw_below_drewN | apply below_drew1 | refine below_set ?_ GE367.out) | exact HB.out)⟩
    ·
     replace c14 := Bool.eq_false_iff.mpr c14
     subst c14
     rw [if_neg (show ¬ (false = true) by decide)] at H
     simp only [Option.some.injEq, Prod.mk.injEq] at H
     obtain ⟨rfl, rfl⟩ := H
     go_enter Tryz.func19, Tryz.ntmps19
     go_wp2_with (first | ((with_reducible refine gate_dst (N := 2) rfl ?_); refine box_event ?hg (N := 2) ?hd (cs := #[.string a0_0, .int .i64 a0_1, .bool a0_2]) (t := 23) ?hr ?_; (case hd => rfl); (case hg => rfl); (case hr => first | (go_simp; done) | (go_simp; rfl)); intro gb367 hg w20 hbox hb; have n0_ := Aside0.mk (below_step ap1 hb); have n1_ := Aside0.mk (hbox); have n2_ := Aside0.mk ((by rw [hg]; exact (below_size ap1) : w.heap.size ≤ gb367)); have n3_ := Aside0.mk ((by rw [hg]; exact (below_size ap1) : w.heap.size ≤ gb367)); clear HB; have HB := n0_; have BK367 := n1_; have GW367 := n2_; have GE367 := n3_; clear n0_ n1_ n2_ n3_; clear hb hbox hg; have hcz21_0 : w20.cell? ⟨gb367, 0, none⟩ = some (.string a0_0) := (blk_cell BK367.out 0).trans rfl; have hcz21_1 : w20.cell? ⟨gb367, 1, none⟩ = some (.int .i64 a0_1) := (blk_cell BK367.out 1).trans rfl; have hcz21_2 : w20.cell? ⟨gb367, 2, none⟩ = some (.bool a0_2) := (blk_cell BK367.out 2).trans rfl; have hfz21_0 := blk_frozen BK367.out 0; have hfz21_1 := blk_frozen BK367.out 1; have hfz21_2 := blk_frozen BK367.out 2) | ((with_reducible refine gate_callee (f := 42) rfl ?_); refine goesL_ (some 10) rfl rfl Tryz.func42 (by kernel_rfl) rfl #[.agg #[.string a0_0, .int .i64 a0_1, .bool a0_2]] rfl ap3 ?_; (with_reducible refine (attr_known.calls a0_0 a0_1 a0_2 true _ A3.out).mono ?_); rintro e w22 ⟨rfl, hb⟩; refine ⟨_, rfl, ?_⟩; have n0_ := Aside0.mk (blk_below (g := gb367) (o := .cells #[.string a0_0, .int .i64 a0_1, .bool a0_2] 23 (0, 0)) (apB BK367.out) hb); have n1_ := Aside0.mk (below_step (apG GE367.out) hb); clear BK367; clear HB; have BK367 := n0_; have HB := n1_; clear n0_ n1_; (try clear hb); (try clear hb2); (try clear hk); (try clear hi); have hcz23_0 : w22.cell? ⟨gb367, 0, none⟩ = some (.string a0_0) := (blk_cell BK367.out 0).trans rfl; have hcz23_1 : w22.cell? ⟨gb367, 1, none⟩ = some (.int .i64 a0_1) := (blk_cell BK367.out 1).trans rfl; have hcz23_2 : w22.cell? ⟨gb367, 2, none⟩ = some (.bool a0_2) := (blk_cell BK367.out 2).trans rfl; have hfz23_0 := blk_frozen BK367.out 0; have hfz23_1 := blk_frozen BK367.out 1; have hfz23_2 := blk_frozen BK367.out 2) | ((with_reducible refine gate_callee (f := 43) rfl ?_); refine goesL_ (some 22) rfl rfl Tryz.func43 (by kernel_rfl) rfl #[.agg #[.string a0_0, .int .i64 a0_1, .bool a0_2], .string a1] rfl ap3 ?_; (with_reducible refine (attr_form.calls k a0_0 a0_1 a0_2 a1 t369 false _ ?side1 A13.out).mono ?_); (case side1 => first | exact HG.out | (refine Gw.below HG.out ?_; repeat (first | (with_reducible first | exact HB.out | apply below_alloc | apply pw_below_drewN | apply below_drew1 | refine below_set ?_ GE367.out) | exact HB.out))); rintro e w24 ⟨rfl, hb⟩; refine ⟨_, rfl, ?_⟩; have n0_ := Aside0.mk (blk_below (g := gb367) (o := .cells #[.string a0_0, .int .i64 a0_1, .bool a0_2] 23 (0, 0)) (apB BK367.out) hb); have n1_ := Aside0.mk (below_step (apG GE367.out) hb); clear BK367; clear HB; have BK367 := n0_; have HB := n1_; clear n0_ n1_; (try clear hb); (try clear hb2); (try clear hk); (try clear hi)))
     go_ret2
     exact ⟨by first | rfl | (simp [errW_none, errW_some, bne_nil8, beq_nil8]; done) | (simp [errW_none, errW_some] <;> rfl) | (simp [*, errW_none, errW_some] <;> rfl), by repeat (first | (with_reducible first | exact HB.out | apply below_alloc | apply pw_below_drewN | apply below_drew1 | refine below_set ?_ GE367.out) | exact HB.out)⟩
 ·
  replace c4 := Bool.eq_false_iff.mpr c4
  subst c4
  rw [if_neg (show ¬ (false = true) by decide)] at H
  simp only [Option.some.injEq, Prod.mk.injEq] at H
  obtain ⟨rfl, rfl⟩ := H
  go_enter Tryz.func19, Tryz.ntmps19
  go_wp2_with (first | ((with_reducible refine gate_dst (N := 2) rfl ?_); refine box_event ?hg (N := 2) ?hd (cs := #[.string a0_0, .int .i64 a0_1, .bool a0_2]) (t := 23) ?hr ?_; (case hd => rfl); (case hg => rfl); (case hr => first | (go_simp; done) | (go_simp; rfl)); intro gb367 hg w25 hbox hb; have n0_ := Aside0.mk (below_step ap1 hb); have n1_ := Aside0.mk (hbox); have n2_ := Aside0.mk ((by rw [hg]; exact (below_size ap1) : w.heap.size ≤ gb367)); have n3_ := Aside0.mk ((by rw [hg]; exact (below_size ap1) : w.heap.size ≤ gb367)); clear HB; have HB := n0_; have BK367 := n1_; have GW367 := n2_; have GE367 := n3_; clear n0_ n1_ n2_ n3_; clear hb hbox hg; have hcz26_0 : w25.cell? ⟨gb367, 0, none⟩ = some (.string a0_0) := (blk_cell BK367.out 0).trans rfl; have hcz26_1 : w25.cell? ⟨gb367, 1, none⟩ = some (.int .i64 a0_1) := (blk_cell BK367.out 1).trans rfl; have hcz26_2 : w25.cell? ⟨gb367, 2, none⟩ = some (.bool a0_2) := (blk_cell BK367.out 2).trans rfl; have hfz26_0 := blk_frozen BK367.out 0; have hfz26_1 := blk_frozen BK367.out 1; have hfz26_2 := blk_frozen BK367.out 2) | ((with_reducible refine gate_callee (f := 42) rfl ?_); refine goesL_ (some 10) rfl rfl Tryz.func42 (by kernel_rfl) rfl #[.agg #[.string a0_0, .int .i64 a0_1, .bool a0_2]] rfl ap3 ?_; (with_reducible refine (attr_known.calls a0_0 a0_1 a0_2 false _ A3.out).mono ?_); rintro e w27 ⟨rfl, hb⟩; refine ⟨_, rfl, ?_⟩; have n0_ := Aside0.mk (blk_below (g := gb367) (o := .cells #[.string a0_0, .int .i64 a0_1, .bool a0_2] 23 (0, 0)) (apB BK367.out) hb); have n1_ := Aside0.mk (below_step (apG GE367.out) hb); clear BK367; clear HB; have BK367 := n0_; have HB := n1_; clear n0_ n1_; (try clear hb); (try clear hb2); (try clear hk); (try clear hi)))
  go_ret2
  exact ⟨by first | rfl | (simp [errW_none, errW_some, bne_nil8, beq_nil8]; done) | (simp [errW_none, errW_some] <;> rfl) | (simp [*, errW_none, errW_some] <;> rfl), by repeat (first | (with_reducible first | exact HB.out | apply below_alloc | apply pw_below_drewN | apply below_drew1 | refine below_set ?_ GE367.out) | exact HB.out)⟩
end Go.Proofs.YtpklcnpmppaaoaaGreatDoor.Print
namespace Go.Proofs.YtpklcnpmppaaoaaGreatDoor.Print
open Go.RowKit Go.Proofs.YtpklcnpmppaaoaaGreatDoorW.PrintWords Go.Proofs.YtpklcnpmppaaoaaGreatDoorW.PrintLast Go.Proofs.YtpklcnpmppaaoaaGreatDoorW.PrintMore Go.Proofs.YtpklcnpmppaaoaaGreatDoor.Pure
set_option linter.unusedVariables false
set_option linter.unusedSimpArgs false
theorem ext_take (s : ByteArray) (a b : Nat) : bl (s.extract a b) = ((bl s).drop a).take (b - a) := by
  show (s.extract a b).data.toList = _
  rw [ByteArray.data_extract, Array.toList_extract, List.extract_eq_take_drop]
theorem ext_from (s : ByteArray) (a : Nat) : bl (s.extract a s.size) = (bl s).drop a := by
  rw [ext_take]
  exact List.take_of_length_le (by rw [List.length_drop, bl_length]; omega)
theorem ext_to (s : ByteArray) (b : Nat) : bl (s.extract 0 b) = (bl s).take b := by rw [ext_take]; simp
theorem ba_ext {a b : ByteArray} (h : bl a = bl b) : a = b := ByteArray.ext (Array.toList_inj.1 h)
theorem mk_ext {a : ByteArray} {l : List UInt8} (h : bl a = l) : a = mkB l := ba_ext (by rw [h])
theorem tl_bl (s : ByteArray) : s.toList = bl s := Lib.toList_data s
def digs (l : List UInt8) : Bool := l.all fun c => decide (48 ≤ c.toNat ∧ c.toNat ≤ 57)
def digitsOf : List UInt8 → List UInt8
  | [] => []
  | c :: r => if c = 45 then r else c :: r
def numOk (l : List UInt8) : Bool := decide (l = [48]) || (decide (1 ≤ (digitsOf l).length ∧ (digitsOf l).length ≤ 18 ∧ (digitsOf l).head? ≠ some 48) && digs (digitsOf l))
theorem digitsOf_le (l : List UInt8) : (digitsOf l).length ≤ l.length := by
  cases l with
  | nil => simp [digitsOf]
  | cons c r => rw [digitsOf]; split <;> simp
theorem num_loop (s : ByteArray) (hs : s.size ≤ 1000000) : ∀ (m i : Nat), s.size - i = m → i ≤ s.size → Ev (fun k => attr_number.l0 k s (s.size : Int) (i : Int)) (digs ((bl s).drop i)) := by
  intro m
  induction m with
  | zero =>
    intro i hm hi
    rw [drop_end (by omega)]
    refine Ev.step (fun k => by rw [attr_number.l0]) ?_
    exact Ev.neg (by omega) Ev.rfl'
  | succ m ih =>
    intro i hm hi
    cases hr : (bl s).drop i with
    | nil => have := drop_nil hr; omega
    | cons c r =>
      obtain ⟨h1, h2, h3⟩ := drop_cons hr
      have hi2 := ih (i + 1) (by omega) (by omega)
      rw [h3] at hi2
      refine Ev.step (fun k => by rw [attr_number.l0]) ?_
      rw [h2, wsucc (p := i) (by omega)]
      refine Ev.pos (by omega) (Ev.pos (by omega) (Ev.pos (by omega) ?_))
      by_cases c1 : c.toNat < 48
      · refine Ev.pos (by omega) ?_
        rw [show digs (c :: r) = false by simp [digs]; intro h; omega]
        exact Ev.rfl'
      · refine Ev.neg (by omega) ?_
        by_cases c2 : 57 < c.toNat
        · refine Ev.pos (by omega) ?_
          rw [show digs (c :: r) = false by simp [digs]; intro h; omega]
          exact Ev.rfl'
        · refine Ev.neg (by omega) ?_
          rw [show digs (c :: r) = digs r by simp [digs]; omega]
          exact hi2
theorem trim_f (s : ByteArray) (hs : s.size ≤ 1000000) : strings_TrimPrefix.f s (⟨#[45]⟩ : ByteArray) = some (mkB (digitsOf (bl s))) := by
  have e1 : ((⟨#[45]⟩ : ByteArray).size : Int) = 1 := rfl
  have e2 : (⟨#[45]⟩ : ByteArray).toList = [45] := by rw [Lib.toList_data]
  have hl := bl_length s
  unfold strings_TrimPrefix.f stringslite_TrimPrefix.f stringslite_HasPrefix.f
  rw [e1, e2]
  cases hb : bl s with
  | nil =>
    rw [hb] at hl
    simp only [List.length_nil] at hl
    rw [if_neg (by omega), Option.bind_some, if_neg (by simp), Option.bind_some]
    exact congrArg some (mk_ext hb)
  | cons c r =>
    rw [hb] at hl
    simp only [List.length_cons] at hl
    rw [if_pos (by omega), if_pos (by omega), if_pos (by omega), Option.bind_some, tl_bl, ext_to, hb]
    by_cases h : c = 45
    · subst h
      rw [if_pos (by simp), if_pos (by omega), if_pos (by omega), Option.bind_some]
      refine congrArg some (mk_ext ?_)
      rw [ext_from, hb]; rfl
    · rw [if_neg (by simp [h]), Option.bind_some]
      refine congrArg some (mk_ext ?_)
      rw [hb, digitsOf, if_neg h]
theorem bt_zero {s : ByteArray} {c : UInt8} {r : List UInt8} (h : bl s = c :: r) : bt s 0 = (c.toNat : Int) := by
  have := (drop_cons (s := s) (p := 0) (c := c) (r := r) (by rw [List.drop_zero, h])).2.1
  simpa using this
theorem eq48 (c : UInt8) : ((c.toNat : Int) = 48) ↔ c = 48 := by
  rw [show (48 : Int) = ((48 : UInt8).toNat : Int) from rfl]; exact ieq c 48
theorem number_ev (s : ByteArray) (hs : s.size ≤ 1000000) : Ev (fun k => attr_number.f k s) (numOk (bl s)) := by
  unfold attr_number.f
  refine Ev.bindc (trim_f s hs) ?_
  have hsz : (mkB (digitsOf (bl s))).size = (digitsOf (bl s)).length := mkB_size _
  have hls : (digitsOf (bl s)).length ≤ 1000000 := by
    have := bl_length s
    have h2 := digitsOf_le (bl s)
    omega
  have hloop : Ev (fun k => attr_number.l0 k (mkB (digitsOf (bl s))) ((mkB (digitsOf (bl s))).size : Int) 0) (digs (digitsOf (bl s))) := num_loop (mkB (digitsOf (bl s))) (by omega) _ 0 rfl (by omega)
  have hout : ∀ {b : Bool}, b = true → numOk (bl s) = false → Ev (fun k => attr_number.j0 k (mkB (digitsOf (bl s))) b) (numOk (bl s)) := by
    intro b hb h
    rw [h]
    exact Ev.step (fun k => by rw [attr_number.j0]) (Ev.pos hb Ev.rfl')
  have hin : ∀ {b : Bool}, b = false → numOk (bl s) = digs (digitsOf (bl s)) → Ev (fun k => attr_number.j0 k (mkB (digitsOf (bl s))) b) (numOk (bl s)) := by
    intro b hb h
    rw [h]
    exact Ev.step (fun k => by rw [attr_number.j0]) (Ev.neg (by simp [hb]) hloop)
  rw [tl_bl, show bl (mkB (digitsOf (bl s))) = digitsOf (bl s) from rfl, tl_bl]
  by_cases h0 : digitsOf (bl s) = []
  · refine Ev.pos h0 (hout rfl ?_)
    unfold numOk
    rw [h0]
    have : ¬ bl s = [48] := by intro h; rw [h] at h0; simp [digitsOf] at h0
    simp [this]
  · refine Ev.neg h0 ?_
    obtain ⟨d, r, hd⟩ := List.exists_cons_of_ne_nil h0
    rw [hsz]
    by_cases h18 : 18 < (digitsOf (bl s)).length
    · refine Ev.pos (by omega) (hout rfl ?_)
      unfold numOk
      have : ¬ bl s = [48] := by intro h; rw [h] at h18; simp [digitsOf] at h18
      have h2 : ¬ (1 ≤ (digitsOf (bl s)).length ∧ (digitsOf (bl s)).length ≤ 18 ∧ (digitsOf (bl s)).head? ≠ some 48) := by omega
      rw [decide_eq_false this, decide_eq_false h2]; rfl
    · refine Ev.neg (by omega) (Ev.pos (by rw [hd, List.length_cons]; omega) ?_)
      rw [bt_zero (s := mkB (digitsOf (bl s))) (c := d) (r := r) hd]
      have h1 : 1 ≤ (digitsOf (bl s)).length := by rw [hd]; simp
      by_cases h48 : d = 48
      · refine Ev.pos ((eq48 d).2 h48) ?_
        by_cases hz : bl s = [48]
        · refine hin (by simp [hz]) ?_
          unfold numOk
          rw [hz]; rfl
        · refine hout (by simp [hz]) ?_
          unfold numOk
          have h2 : ¬ (1 ≤ (digitsOf (bl s)).length ∧ (digitsOf (bl s)).length ≤ 18 ∧ (digitsOf (bl s)).head? ≠ some 48) := by rw [hd, h48]; simp
          rw [decide_eq_false hz, decide_eq_false h2]; rfl
      · refine Ev.neg (fun h => h48 ((eq48 d).1 h)) (hin rfl ?_)
        unfold numOk
        have hz : ¬ bl s = [48] := by
          intro h
          rw [h] at hd
          simp [digitsOf] at hd
          exact h48 hd.1.symm
        have h2 : 1 ≤ (digitsOf (bl s)).length ∧ (digitsOf (bl s)).length ≤ 18 ∧ (digitsOf (bl s)).head? ≠ some 48 := ⟨h1, by omega, by rw [hd]; simpa using h48⟩
        rw [decide_eq_false hz, decide_eq_true h2]; simp
def lessI : List UInt8 → List UInt8 → Int
  | [], [] => 0
  | [], _ :: _ => -1
  | _ :: _, [] => 1
  | a :: x, b :: y => if a.toNat < b.toNat then -1 else if b.toNat < a.toNat then 1 else lessI x y
theorem lessI_lt : ∀ (x y : List UInt8), lessI x y < 0 ↔ x < y
  | [], [] => by simp [lessI]
  | [], b :: y => by simp [lessI]
  | a :: x, [] => by simp [lessI]
  | a :: x, b :: y => by
    rw [lessI, List.cons_lt_cons_iff]
    by_cases h1 : a.toNat < b.toNat
    · rw [if_pos h1]
      exact ⟨fun _ => .inl (UInt8.lt_iff_toNat_lt.2 h1), fun _ => by omega⟩
    · rw [if_neg h1]
      by_cases h2 : b.toNat < a.toNat
      · rw [if_pos h2]
        refine ⟨fun h => by omega, ?_⟩
        rintro (h | ⟨h, _⟩)
        · exact absurd (UInt8.lt_iff_toNat_lt.1 h) h1
        · subst h; omega
      · rw [if_neg h2]
        have e : a = b := UInt8.toNat_inj.1 (by omega)
        subst e
        rw [lessI_lt x y]
        refine ⟨fun h => .inr ⟨rfl, h⟩, ?_⟩
        rintro (h | ⟨_, h⟩)
        · exact absurd (UInt8.lt_iff_toNat_lt.1 h) h1
        · exact h
theorem tupV_len (a : AvaS) : (tupV a).size ≤ 4096 := tupB_len _
end Go.Proofs.YtpklcnpmppaaoaaGreatDoor.Print
namespace Go.Proofs.YtpklcnpmppaaoaaGreatDoor.Print
open Go.RowKit Go.Proofs.YtpklcnpmppaaoaaGreatDoorW.PrintWords Go.Proofs.YtpklcnpmppaaoaaGreatDoorW.PrintLast Go.Proofs.YtpklcnpmppaaoaaGreatDoorW.PrintMore
attribute [local go_sem] max2_int min2_int max_two min_two max_three min_three max_four min_four
set_option linter.unusedVariables false
set_option linter.unusedSimpArgs false
def attr_piece.f (k : Nat) (a0_0 : ByteArray) (a0_1 : Int) (a0_2 : Bool) (a1 : ByteArray) : Option (ByteArray × Int) := if a0_1 = 7 then ((prep_Phone.f k a1).bind fun bt427 => (some (bt427.1, bt427.2))) else ((prep_Map.f a1 (a0_1 == 1)).bind fun bt429 => (some (bt429.1, bt429.2)))
theorem attr_piece.mono : ∀ a0 a1 a2 a3 k, LeO (attr_piece.f k a0 a1 a2 a3) (attr_piece.f (k + 1) a0 a1 a2 a3) := by
 intro a0 a1 a2 a3 k
 unfold attr_piece.f
 repeat' first
   | (with_reducible exact prep_Phone.mono _ _)
   | (with_reducible exact LeO.refl _)
   | (with_reducible exact LeO.none _)
   | (with_reducible refine LeO.ite ?_ ?_)
   | (with_reducible refine LeO.bind ?_ (fun _ => ?_))
set_option maxHeartbeats 8000000 in
set_option maxRecDepth 100000 in
theorem attr_piece.calls (k : Nat) (a0_0 : ByteArray) (a0_1 : Int) (a0_2 : Bool) (a1 : ByteArray) (r1 : ByteArray) (r2 : Int) (w : World) (hG : Gw w) (h : attr_piece.f k a0_0 a0_1 a0_2 a1 = some (r1, r2)) :
  Calls Tryz.prog 33 #[.agg #[.string a0_0, .int .i64 a0_1, .bool a0_2], .string a1] w fun e w' => e = .returned (.tuple #[.string r1, .int .i64 r2]) ∧ Below w.heap.size w w' := by
 have hu23 := Tryz.underlying23
 have HB := Aside0.mk (Below.refl w.heap.size w)
 have HG := Aside0.mk hG
 clear hG
 have H : (if a0_1 = 7 then ((prep_Phone.f k a1).bind fun bt427 => (some (bt427.1, bt427.2))) else ((prep_Map.f a1 (a0_1 == 1)).bind fun bt429 => (some (bt429.1, bt429.2)))) = some (r1, r2) := h
 clear h
 by_cases c3 : a0_1 = 7
 ·
  rw [if_pos c3] at H
  have c3b0 : (a0_1 == 7) = true := beq_iff_eq.mpr c3
  have c3b1 : (a0_1 != 7) = false := bne_eq_false_iff_eq.mpr c3
  clear c3
  replace H := Option.bind_eq_some_iff.mp H
  obtain ⟨⟨t427, t428⟩, A40, H⟩ := H
  replace H : (some (t427, t428)) = some (r1, r2) := H
  have A4 := Aside0.mk A40
  clear A40
  simp only [Option.some.injEq, Prod.mk.injEq] at H
  obtain ⟨rfl, rfl⟩ := H
  go_enter Tryz.func33, Tryz.ntmps33
  go_wp2_with (first | ((with_reducible refine gate_dst (N := 2) rfl ?_); refine box_event ?hg (N := 2) ?hd (cs := #[.string a0_0, .int .i64 a0_1, .bool a0_2]) (t := 23) ?hr ?_; (case hd => rfl); (case hg => rfl); (case hr => first | (go_simp; done) | (go_simp; rfl)); intro gb426 hg w5 hbox hb; have n0_ := Aside0.mk (below_step ap1 hb); have n1_ := Aside0.mk (hbox); have n2_ := Aside0.mk ((by rw [hg]; exact (below_size ap1) : w.heap.size ≤ gb426)); have n3_ := Aside0.mk ((by rw [hg]; exact (below_size ap1) : w.heap.size ≤ gb426)); clear HB; have HB := n0_; have BK426 := n1_; have GW426 := n2_; have GE426 := n3_; clear n0_ n1_ n2_ n3_; clear hb hbox hg; have hcz6_0 : w5.cell? ⟨gb426, 0, none⟩ = some (.string a0_0) := (blk_cell BK426.out 0).trans rfl; have hcz6_1 : w5.cell? ⟨gb426, 1, none⟩ = some (.int .i64 a0_1) := (blk_cell BK426.out 1).trans rfl; have hcz6_2 : w5.cell? ⟨gb426, 2, none⟩ = some (.bool a0_2) := (blk_cell BK426.out 2).trans rfl; have hfz6_0 := blk_frozen BK426.out 0; have hfz6_1 := blk_frozen BK426.out 1; have hfz6_2 := blk_frozen BK426.out 2) | ((with_reducible refine gate_callee (f := 56) rfl ?_); refine goesL_ (some 10) rfl rfl Tryz.func56 (by kernel_rfl) rfl #[.string a1] rfl ap3 ?_; (with_reducible refine (prep_Phone.calls k a1 t427 t428 _ ?side1 A4.out).mono ?_); (case side1 => first | exact HG.out | (refine Gw.below HG.out ?_; repeat (first | (with_reducible first | exact HB.out | apply below_alloc | apply pw_below_drewN | apply below_drew1 | refine below_set ?_ GE426.out) | exact HB.out))); rintro e w7 ⟨rfl, hb⟩; refine ⟨_, rfl, ?_⟩; have n0_ := Aside0.mk (blk_below (g := gb426) (o := .cells #[.string a0_0, .int .i64 a0_1, .bool a0_2] 23 (0, 0)) (apB BK426.out) hb); have n1_ := Aside0.mk (below_step (apG GE426.out) hb); clear BK426; clear HB; have BK426 := n0_; have HB := n1_; clear n0_ n1_; (try clear hb); (try clear hb2); (try clear hk); (try clear hi)))
  go_ret2
  exact ⟨by first | rfl | (simp [errW_none, errW_some, bne_nil8, beq_nil8]; done) | (simp [errW_none, errW_some] <;> rfl) | (simp [*, errW_none, errW_some] <;> rfl), by repeat (first | (with_reducible first | exact HB.out | apply below_alloc | apply pw_below_drewN | apply below_drew1 | refine below_set ?_ GE426.out) | exact HB.out)⟩
 ·
  rw [if_neg c3] at H
  have c3b0 : (a0_1 == 7) = false := beq_eq_false_iff_ne.mpr c3
  have c3b1 : (a0_1 != 7) = true := bne_iff_ne.mpr c3
  replace H := Option.bind_eq_some_iff.mp H
  obtain ⟨⟨t429, t430⟩, A80, H⟩ := H
  replace H : (some (t429, t430)) = some (r1, r2) := H
  have A8 := Aside0.mk A80
  clear A80
  simp only [Option.some.injEq, Prod.mk.injEq] at H
  obtain ⟨rfl, rfl⟩ := H
  go_enter Tryz.func33, Tryz.ntmps33
  go_wp2_with (first | ((with_reducible refine gate_dst (N := 2) rfl ?_); refine box_event ?hg (N := 2) ?hd (cs := #[.string a0_0, .int .i64 a0_1, .bool a0_2]) (t := 23) ?hr ?_; (case hd => rfl); (case hg => rfl); (case hr => first | (go_simp; done) | (go_simp; rfl)); intro gb426 hg w9 hbox hb; have n0_ := Aside0.mk (below_step ap1 hb); have n1_ := Aside0.mk (hbox); have n2_ := Aside0.mk ((by rw [hg]; exact (below_size ap1) : w.heap.size ≤ gb426)); have n3_ := Aside0.mk ((by rw [hg]; exact (below_size ap1) : w.heap.size ≤ gb426)); clear HB; have HB := n0_; have BK426 := n1_; have GW426 := n2_; have GE426 := n3_; clear n0_ n1_ n2_ n3_; clear hb hbox hg; have hcz10_0 : w9.cell? ⟨gb426, 0, none⟩ = some (.string a0_0) := (blk_cell BK426.out 0).trans rfl; have hcz10_1 : w9.cell? ⟨gb426, 1, none⟩ = some (.int .i64 a0_1) := (blk_cell BK426.out 1).trans rfl; have hcz10_2 : w9.cell? ⟨gb426, 2, none⟩ = some (.bool a0_2) := (blk_cell BK426.out 2).trans rfl; have hfz10_0 := blk_frozen BK426.out 0; have hfz10_1 := blk_frozen BK426.out 1; have hfz10_2 := blk_frozen BK426.out 2) | ((with_reducible refine gate_callee (f := 57) rfl ?_); refine goesL_ (some 17) rfl rfl Tryz.func57 (by kernel_rfl) rfl #[.string a1, .bool (a0_1 == 1)] rfl ap3 ?_; (with_reducible refine (prep_Map.calls a1 (a0_1 == 1) t429 t430 _ A8.out).mono ?_); rintro e w11 ⟨rfl, hb⟩; refine ⟨_, rfl, ?_⟩; have n0_ := Aside0.mk (blk_below (g := gb426) (o := .cells #[.string a0_0, .int .i64 a0_1, .bool a0_2] 23 (0, 0)) (apB BK426.out) hb); have n1_ := Aside0.mk (below_step (apG GE426.out) hb); clear BK426; clear HB; have BK426 := n0_; have HB := n1_; clear n0_ n1_; (try clear hb); (try clear hb2); (try clear hk); (try clear hi)))
  go_ret2
  exact ⟨by first | rfl | (simp [errW_none, errW_some, bne_nil8, beq_nil8]; done) | (simp [errW_none, errW_some] <;> rfl) | (simp [*, errW_none, errW_some] <;> rfl), by repeat (first | (with_reducible first | exact HB.out | apply below_alloc | apply pw_below_drewN | apply below_drew1 | refine below_set ?_ GE426.out) | exact HB.out)⟩
end Go.Proofs.YtpklcnpmppaaoaaGreatDoor.Print
namespace Go.Proofs.YtpklcnpmppaaoaaGreatDoor.Print
open Go.RowKit Go.Proofs.YtpklcnpmppaaoaaGreatDoorW.PrintWords Go.Proofs.YtpklcnpmppaaoaaGreatDoorW.PrintLast Go.Proofs.YtpklcnpmppaaoaaGreatDoorW.PrintMore Go.Proofs.YtpklcnpmppaaoaaGreatDoor.Pure
set_option linter.unusedVariables false
set_option linter.unusedSimpArgs false
theorem enc_is (z : UInt8) (hz : z.toNat < 128) : Lib.encodeRune (z.toNat : Int) = [z] := by
  unfold Lib.encodeRune
  rw [Lib.encodeRuneZ_one (by omega) (by omega)]
  simp only [List.map_cons, List.map_nil, Int.toNat_natCast]
  congr 1
  apply UInt8.toNat_inj.1
  rw [u8s _ (by omega)]
theorem enc_low (z : UInt8) (hz : z.toNat < 128) (r : Int) (h : r ≠ (z.toNat : Int)) : ∀ c ∈ Lib.encodeRune r, c ≠ z := by
  by_cases h1 : 0 ≤ r ∧ r ≤ 127
  · unfold Lib.encodeRune
    rw [Lib.encodeRuneZ_one h1.1 h1.2]
    intro c hc
    simp only [List.map_cons, List.map_nil, List.mem_singleton] at hc
    subst hc
    intro h2
    have := congrArg UInt8.toNat h2
    rw [u8s _ (by omega)] at this
    omega
  · have hall : ∀ q : List Int, (∀ x ∈ q, 128 ≤ x ∧ x < 256) → ∀ c ∈ q.map (fun x => x.toNat.toUInt8), c ≠ z := by
      intro q hq c hc h2
      obtain ⟨x, hx, rfl⟩ := List.mem_map.1 hc
      have := hq x hx
      have h3 := congrArg UInt8.toNat h2
      rw [u8s _ (by omega)] at h3
      omega
    unfold Lib.encodeRune
    by_cases h2 : 128 ≤ r ∧ r ≤ 2047
    · rw [Lib.encodeRuneZ_two h2.1 h2.2]
      exact hall _ (by simp; omega)
    by_cases h3 : (2048 ≤ r ∧ r < 55296) ∨ (57343 < r ∧ r ≤ 65535)
    · rw [Lib.encodeRuneZ_three h3]
      exact hall _ (by simp; omega)
    by_cases h4 : 65536 ≤ r ∧ r ≤ 1114111
    · rw [Lib.encodeRuneZ_four h4.1 h4.2]
      exact hall _ (by simp; omega)
    · rw [Lib.encodeRuneZ_bad (by omega)]
      exact hall _ (by simp)
theorem swapZ_nil (z : UInt8) : ∀ l : List UInt8, swapZ z [] l = l.filter (· != z)
  | [] => rfl
  | c :: l => by
    have ih := swapZ_nil z l
    show (if c = z then [] else [c]) ++ swapZ z [] l = _
    rw [ih]
    by_cases h : c = z
    · simp [h]
    · simp [h]
theorem filt_enc (z : UInt8) (hz : z.toNat < 128) : ∀ l : List Int, (encAll l).filter (· != z) = encAll (l.filter (· != (z.toNat : Int)))
  | [] => rfl
  | r :: l => by
    have ih := filt_enc z hz l
    rw [encAll_cons, List.filter_append, ih]
    by_cases h : r = (z.toNat : Int)
    · subst h
      rw [enc_is z hz, List.filter_cons_of_neg (by simp), List.filter_cons_of_neg (by simp)]; rfl
    · rw [List.filter_cons_of_pos (by simpa using h), encAll_cons]
      congr 1
      exact List.filter_eq_self.2 fun c hc => by simpa using enc_low z hz r h c hc
theorem nb_filter (l : List Int) : ∀ b, (sq l b).filter (· != 32) = l.filter (· != 32) := by
  induction l with
  | nil => intro b; rfl
  | cons x r ih =>
    intro b
    rw [sq]
    split
    · rename_i h
      rw [List.filter_cons, List.filter_cons, ih]
    · rename_i h
      rw [ih]
      have hx : x = 32 := by
        by_cases h2 : x = 32
        · exact h2
        · exact absurd (Or.inl h2) h
      rw [List.filter_cons_of_neg (by simp [hx])]
def phoneL (m : List Int) : List Int := (m.filter (· != 32)).filter (· != 45)
def phoneOf (s : ByteArray) : Option (List UInt8) := (runesN s s.size 0).map fun l => encAll (phoneL (l.filterMap (mapRune true)))
def ansOf : Option (List UInt8) → ByteArray × Int
  | some t => (mkB t, 0)
  | none => (⟨#[]⟩, 19)
theorem repl_f (z : UInt8) (L : List UInt8) (h : L.length ≤ 1000000) : strings_ReplaceAll.f (mkB L) (⟨#[z]⟩ : ByteArray) (⟨#[]⟩ : ByteArray) = some (mkB (L.filter (· != z))) := by
  unfold strings_ReplaceAll.f
  rw [if_pos (by rw [mkB_size]; exact h), if_pos (show 1 ≤ (⟨#[z]⟩ : ByteArray).size from Nat.le_refl _), if_pos (show (⟨#[]⟩ : ByteArray).size ≤ 1000 by decide)]
  have : Lib.replaceAll (mkB L).data.toList (⟨#[z]⟩ : ByteArray).data.toList (⟨#[]⟩ : ByteArray).data.toList = swapZ z [] L := replaceAll_z z [] _ (by simp)
  rw [this, swapZ_nil]
theorem phone_ev (s : ByteArray) (hs : s.size ≤ 100000) : Ev (fun k => prep_Phone.f k s) (ansOf (phoneOf s)) := by
  unfold prep_Phone.f
  have hr := ready_ev s hs true
  unfold phoneOf
  unfold readyOf at hr
  cases h : runesN s s.size 0 with
  | none =>
    rw [h] at hr
    exact Ev.bind hr (Ev.neg (show ¬ ((19 : Int) = 0) by decide) Ev.rfl')
  | some l =>
    rw [h] at hr
    simp only [Option.map_some] at hr
    obtain ⟨_, hll⟩ := runesN_le s _ _ l h
    have hfl : (l.filterMap (mapRune true)).length ≤ s.size := Nat.le_trans (List.length_filterMap_le _ _) hll
    have hsl := sq_len (l.filterMap (mapRune true)) false
    have hel := encAll_length (sq (l.filterMap (mapRune true)) false)
    refine Ev.bind hr (Ev.pos (show (0 : Int) = 0 from rfl) (Ev.bindc (repl_f 32 _ (by omega)) (Ev.bindc (repl_f 45 _ ?_) ?_)))
    · have := List.length_filter_le (fun x : UInt8 => x != 32) (encAll (sq (l.filterMap (mapRune true)) false))
      omega
    · have e1 := filt_enc 32 (by decide) (sq (l.filterMap (mapRune true)) false)
      have e2 := filt_enc 45 (by decide) ((sq (l.filterMap (mapRune true)) false).filter (· != 32))
      have e3 := nb_filter (l.filterMap (mapRune true)) false
      refine Ev.const fun k => ?_
      show some (mkB _, 0) = some (mkB _, 0)
      rw [e1]
      rw [show ((32 : UInt8).toNat : Int) = 32 from rfl, show ((45 : UInt8).toNat : Int) = 45 from rfl] at *
      rw [e2, e3]; rfl
end Go.Proofs.YtpklcnpmppaaoaaGreatDoor.Print
namespace Go.Proofs.YtpklcnpmppaaoaaGreatDoor.Print
open Go.RowKit Go.Proofs.YtpklcnpmppaaoaaGreatDoorW.PrintWords Go.Proofs.YtpklcnpmppaaoaaGreatDoorW.PrintLast Go.Proofs.YtpklcnpmppaaoaaGreatDoorW.PrintMore
attribute [local go_sem] max2_int min2_int max_two min_two max_three min_three max_four min_four
set_option linter.unusedVariables false
set_option linter.unusedSimpArgs false
def attr_both.f (k : Nat) (a0_0 : ByteArray) (a0_1 : Int) (a0_2 : Bool) (a1 : ByteArray) (a2 : ByteArray) : Option (ByteArray × ByteArray × Int) := (attr_Normal.f k a0_0 a0_1 a0_2 a1).bind fun bt372 => (if bt372.2 = 0 then ((attr_Normal.f k a0_0 a0_1 a0_2 a2).bind fun bt374 => (if bt374.2 = 0 then (some (bt372.1, bt374.1, 0)) else (some ((⟨#[]⟩ : ByteArray), (⟨#[]⟩ : ByteArray), bt374.2)))) else (some ((⟨#[]⟩ : ByteArray), (⟨#[]⟩ : ByteArray), bt372.2)))
theorem attr_both.mono : ∀ a0 a1 a2 a3 a4 k, LeO (attr_both.f k a0 a1 a2 a3 a4) (attr_both.f (k + 1) a0 a1 a2 a3 a4) := by
 intro a0 a1 a2 a3 a4 k
 unfold attr_both.f
 repeat' first
   | (with_reducible exact attr_Normal.mono _ _ _ _ _)
   | (with_reducible exact LeO.refl _)
   | (with_reducible exact LeO.none _)
   | (with_reducible refine LeO.ite ?_ ?_)
   | (with_reducible refine LeO.bind ?_ (fun _ => ?_))
set_option maxHeartbeats 8000000 in
set_option maxRecDepth 100000 in
theorem attr_both.calls (k : Nat) (a0_0 : ByteArray) (a0_1 : Int) (a0_2 : Bool) (a1 : ByteArray) (a2 : ByteArray) (r1 : ByteArray) (r2 : ByteArray) (r3 : Int) (w : World) (hG : Gw w) (h : attr_both.f k a0_0 a0_1 a0_2 a1 a2 = some (r1, r2, r3)) :
  Calls Tryz.prog 25 #[.agg #[.string a0_0, .int .i64 a0_1, .bool a0_2], .string a1, .string a2] w fun e w' => e = .returned (.tuple #[.string r1, .string r2, .int .i64 r3]) ∧ Below w.heap.size w w' := by
 have hu23 := Tryz.underlying23
 have HB := Aside0.mk (Below.refl w.heap.size w)
 have HG := Aside0.mk hG
 clear hG
 have H : ((attr_Normal.f k a0_0 a0_1 a0_2 a1).bind fun bt372 => (if bt372.2 = 0 then ((attr_Normal.f k a0_0 a0_1 a0_2 a2).bind fun bt374 => (if bt374.2 = 0 then (some (bt372.1, bt374.1, 0)) else (some ((⟨#[]⟩ : ByteArray), (⟨#[]⟩ : ByteArray), bt374.2)))) else (some ((⟨#[]⟩ : ByteArray), (⟨#[]⟩ : ByteArray), bt372.2)))) = some (r1, r2, r3) := h
 clear h
 replace H := Option.bind_eq_some_iff.mp H
 obtain ⟨⟨t372, t373⟩, A40, H⟩ := H
 replace H : (if t373 = 0 then ((attr_Normal.f k a0_0 a0_1 a0_2 a2).bind fun bt374 => (if bt374.2 = 0 then (some (t372, bt374.1, 0)) else (some ((⟨#[]⟩ : ByteArray), (⟨#[]⟩ : ByteArray), bt374.2)))) else (some ((⟨#[]⟩ : ByteArray), (⟨#[]⟩ : ByteArray), t373))) = some (r1, r2, r3) := H
 have A4 := Aside0.mk A40
 clear A40
 by_cases c5 : t373 = 0
 ·
  rw [if_pos c5] at H
  have c5b0 : (t373 == 0) = true := beq_iff_eq.mpr c5
  have c5b1 : (t373 != 0) = false := bne_eq_false_iff_eq.mpr c5
  clear c5
  replace H := Option.bind_eq_some_iff.mp H
  obtain ⟨⟨t374, t375⟩, A60, H⟩ := H
  replace H : (if t375 = 0 then (some (t372, t374, 0)) else (some ((⟨#[]⟩ : ByteArray), (⟨#[]⟩ : ByteArray), t375))) = some (r1, r2, r3) := H
  have A6 := Aside0.mk A60
  clear A60
  by_cases c7 : t375 = 0
  ·
   rw [if_pos c7] at H
   have c7b0 : (t375 == 0) = true := beq_iff_eq.mpr c7
   have c7b1 : (t375 != 0) = false := bne_eq_false_iff_eq.mpr c7
   clear c7
   simp only [Option.some.injEq, Prod.mk.injEq] at H
   obtain ⟨rfl, rfl, rfl⟩ := H
   go_enter Tryz.func25, Tryz.ntmps25
   go_wp2_with (first | ((with_reducible refine gate_dst (N := 3) rfl ?_); refine box_event ?hg (N := 3) ?hd (cs := #[.string a0_0, .int .i64 a0_1, .bool a0_2]) (t := 23) ?hr ?_; (case hd => rfl); (case hg => rfl); (case hr => first | (go_simp; done) | (go_simp; rfl)); intro gb371 hg w8 hbox hb; have n0_ := Aside0.mk (below_step ap1 hb); have n1_ := Aside0.mk (hbox); have n2_ := Aside0.mk ((by rw [hg]; exact (below_size ap1) : w.heap.size ≤ gb371)); have n3_ := Aside0.mk ((by rw [hg]; exact (below_size ap1) : w.heap.size ≤ gb371)); clear HB; have HB := n0_; have BK371 := n1_; have GW371 := n2_; have GE371 := n3_; clear n0_ n1_ n2_ n3_; clear hb hbox hg; have hcz9_0 : w8.cell? ⟨gb371, 0, none⟩ = some (.string a0_0) := (blk_cell BK371.out 0).trans rfl; have hcz9_1 : w8.cell? ⟨gb371, 1, none⟩ = some (.int .i64 a0_1) := (blk_cell BK371.out 1).trans rfl; have hcz9_2 : w8.cell? ⟨gb371, 2, none⟩ = some (.bool a0_2) := (blk_cell BK371.out 2).trans rfl; have hfz9_0 := blk_frozen BK371.out 0; have hfz9_1 := blk_frozen BK371.out 1; have hfz9_2 := blk_frozen BK371.out 2) | ((with_reducible refine gate_callee (f := 19) rfl ?_); refine goesL_ (some 15) rfl rfl Tryz.func19 (by kernel_rfl) rfl #[.agg #[.string a0_0, .int .i64 a0_1, .bool a0_2], .string a1] rfl ap3 ?_; (with_reducible refine (attr_Normal.calls k a0_0 a0_1 a0_2 a1 t372 t373 _ ?side1 A4.out).mono ?_); (case side1 => first | exact HG.out | (refine Gw.below HG.out ?_; repeat (first | (with_reducible first | exact HB.out | apply below_alloc | apply pw_below_drewN | apply below_drew1 | refine below_set ?_ GE371.out) | exact HB.out))); rintro e w10 ⟨rfl, hb⟩; refine ⟨_, rfl, ?_⟩; have n0_ := Aside0.mk (blk_below (g := gb371) (o := .cells #[.string a0_0, .int .i64 a0_1, .bool a0_2] 23 (0, 0)) (apB BK371.out) hb); have n1_ := Aside0.mk (below_step (apG GE371.out) hb); clear BK371; clear HB; have BK371 := n0_; have HB := n1_; clear n0_ n1_; (try clear hb); (try clear hb2); (try clear hk); (try clear hi); have hcz11_0 : w10.cell? ⟨gb371, 0, none⟩ = some (.string a0_0) := (blk_cell BK371.out 0).trans rfl; have hcz11_1 : w10.cell? ⟨gb371, 1, none⟩ = some (.int .i64 a0_1) := (blk_cell BK371.out 1).trans rfl; have hcz11_2 : w10.cell? ⟨gb371, 2, none⟩ = some (.bool a0_2) := (blk_cell BK371.out 2).trans rfl; have hfz11_0 := blk_frozen BK371.out 0; have hfz11_1 := blk_frozen BK371.out 1; have hfz11_2 := blk_frozen BK371.out 2) | ((with_reducible refine gate_callee (f := 19) rfl ?_); refine goesL_ (some 24) rfl rfl Tryz.func19 (by kernel_rfl) rfl #[.agg #[.string a0_0, .int .i64 a0_1, .bool a0_2], .string a2] rfl ap3 ?_; (with_reducible refine (attr_Normal.calls k a0_0 a0_1 a0_2 a2 t374 t375 _ ?side1 A6.out).mono ?_); (case side1 => first | exact HG.out | (refine Gw.below HG.out ?_; repeat (first | (with_reducible first | exact HB.out | apply below_alloc | apply pw_below_drewN | apply below_drew1 | refine below_set ?_ GE371.out) | exact HB.out))); rintro e w12 ⟨rfl, hb⟩; refine ⟨_, rfl, ?_⟩; have n0_ := Aside0.mk (blk_below (g := gb371) (o := .cells #[.string a0_0, .int .i64 a0_1, .bool a0_2] 23 (0, 0)) (apB BK371.out) hb); have n1_ := Aside0.mk (below_step (apG GE371.out) hb); clear BK371; clear HB; have BK371 := n0_; have HB := n1_; clear n0_ n1_; (try clear hb); (try clear hb2); (try clear hk); (try clear hi)))
   go_ret3
   exact ⟨by first | rfl | (simp [errW_none, errW_some, bne_nil8, beq_nil8]; done) | (simp [errW_none, errW_some] <;> rfl) | (simp [*, errW_none, errW_some] <;> rfl), by repeat (first | (with_reducible first | exact HB.out | apply below_alloc | apply pw_below_drewN | apply below_drew1 | refine below_set ?_ GE371.out) | exact HB.out)⟩
  ·
   rw [if_neg c7] at H
   have c7b0 : (t375 == 0) = false := beq_eq_false_iff_ne.mpr c7
   have c7b1 : (t375 != 0) = true := bne_iff_ne.mpr c7
   simp only [Option.some.injEq, Prod.mk.injEq] at H
   obtain ⟨rfl, rfl, rfl⟩ := H
   go_enter Tryz.func25, Tryz.ntmps25
   go_wp2_with (first | ((with_reducible refine gate_dst (N := 3) rfl ?_); refine box_event ?hg (N := 3) ?hd (cs := #[.string a0_0, .int .i64 a0_1, .bool a0_2]) (t := 23) ?hr ?_; (case hd => rfl); (case hg => rfl); (case hr => first | (go_simp; done) | (go_simp; rfl)); intro gb371 hg w13 hbox hb; have n0_ := Aside0.mk (below_step ap1 hb); have n1_ := Aside0.mk (hbox); have n2_ := Aside0.mk ((by rw [hg]; exact (below_size ap1) : w.heap.size ≤ gb371)); have n3_ := Aside0.mk ((by rw [hg]; exact (below_size ap1) : w.heap.size ≤ gb371)); clear HB; have HB := n0_; have BK371 := n1_; have GW371 := n2_; have GE371 := n3_; clear n0_ n1_ n2_ n3_; clear hb hbox hg; have hcz14_0 : w13.cell? ⟨gb371, 0, none⟩ = some (.string a0_0) := (blk_cell BK371.out 0).trans rfl; have hcz14_1 : w13.cell? ⟨gb371, 1, none⟩ = some (.int .i64 a0_1) := (blk_cell BK371.out 1).trans rfl; have hcz14_2 : w13.cell? ⟨gb371, 2, none⟩ = some (.bool a0_2) := (blk_cell BK371.out 2).trans rfl; have hfz14_0 := blk_frozen BK371.out 0; have hfz14_1 := blk_frozen BK371.out 1; have hfz14_2 := blk_frozen BK371.out 2) | ((with_reducible refine gate_callee (f := 19) rfl ?_); refine goesL_ (some 15) rfl rfl Tryz.func19 (by kernel_rfl) rfl #[.agg #[.string a0_0, .int .i64 a0_1, .bool a0_2], .string a1] rfl ap3 ?_; (with_reducible refine (attr_Normal.calls k a0_0 a0_1 a0_2 a1 t372 t373 _ ?side1 A4.out).mono ?_); (case side1 => first | exact HG.out | (refine Gw.below HG.out ?_; repeat (first | (with_reducible first | exact HB.out | apply below_alloc | apply pw_below_drewN | apply below_drew1 | refine below_set ?_ GE371.out) | exact HB.out))); rintro e w15 ⟨rfl, hb⟩; refine ⟨_, rfl, ?_⟩; have n0_ := Aside0.mk (blk_below (g := gb371) (o := .cells #[.string a0_0, .int .i64 a0_1, .bool a0_2] 23 (0, 0)) (apB BK371.out) hb); have n1_ := Aside0.mk (below_step (apG GE371.out) hb); clear BK371; clear HB; have BK371 := n0_; have HB := n1_; clear n0_ n1_; (try clear hb); (try clear hb2); (try clear hk); (try clear hi); have hcz16_0 : w15.cell? ⟨gb371, 0, none⟩ = some (.string a0_0) := (blk_cell BK371.out 0).trans rfl; have hcz16_1 : w15.cell? ⟨gb371, 1, none⟩ = some (.int .i64 a0_1) := (blk_cell BK371.out 1).trans rfl; have hcz16_2 : w15.cell? ⟨gb371, 2, none⟩ = some (.bool a0_2) := (blk_cell BK371.out 2).trans rfl; have hfz16_0 := blk_frozen BK371.out 0; have hfz16_1 := blk_frozen BK371.out 1; have hfz16_2 := blk_frozen BK371.out 2) | ((with_reducible refine gate_callee (f := 19) rfl ?_); refine goesL_ (some 24) rfl rfl Tryz.func19 (by kernel_rfl) rfl #[.agg #[.string a0_0, .int .i64 a0_1, .bool a0_2], .string a2] rfl ap3 ?_; (with_reducible refine (attr_Normal.calls k a0_0 a0_1 a0_2 a2 t374 t375 _ ?side1 A6.out).mono ?_); (case side1 => first | exact HG.out | (refine Gw.below HG.out ?_; repeat (first | (with_reducible first | exact HB.out | apply below_alloc | apply pw_below_drewN | apply below_drew1 | refine below_set ?_ GE371.out) | exact HB.out))); rintro e w17 ⟨rfl, hb⟩; refine ⟨_, rfl, ?_⟩; have n0_ := Aside0.mk (blk_below (g := gb371) (o := .cells #[.string a0_0, .int .i64 a0_1, .bool a0_2] 23 (0, 0)) (apB BK371.out) hb); have n1_ := Aside0.mk (below_step (apG GE371.out) hb); clear BK371; clear HB; have BK371 := n0_; have HB := n1_; clear n0_ n1_; (try clear hb); (try clear hb2); (try clear hk); (try clear hi)))
   go_ret3
   exact ⟨by first | rfl | (simp [errW_none, errW_some, bne_nil8, beq_nil8]; done) | (simp [errW_none, errW_some] <;> rfl) | (simp [*, errW_none, errW_some] <;> rfl), by repeat (first | (with_reducible first | exact HB.out | apply below_alloc | apply pw_below_drewN | apply below_drew1 | refine below_set ?_ GE371.out) | exact HB.out)⟩
 ·
  rw [if_neg c5] at H
  have c5b0 : (t373 == 0) = false := beq_eq_false_iff_ne.mpr c5
  have c5b1 : (t373 != 0) = true := bne_iff_ne.mpr c5
  simp only [Option.some.injEq, Prod.mk.injEq] at H
  obtain ⟨rfl, rfl, rfl⟩ := H
  go_enter Tryz.func25, Tryz.ntmps25
  go_wp2_with (first | ((with_reducible refine gate_dst (N := 3) rfl ?_); refine box_event ?hg (N := 3) ?hd (cs := #[.string a0_0, .int .i64 a0_1, .bool a0_2]) (t := 23) ?hr ?_; (case hd => rfl); (case hg => rfl); (case hr => first | (go_simp; done) | (go_simp; rfl)); intro gb371 hg w18 hbox hb; have n0_ := Aside0.mk (below_step ap1 hb); have n1_ := Aside0.mk (hbox); have n2_ := Aside0.mk ((by rw [hg]; exact (below_size ap1) : w.heap.size ≤ gb371)); have n3_ := Aside0.mk ((by rw [hg]; exact (below_size ap1) : w.heap.size ≤ gb371)); clear HB; have HB := n0_; have BK371 := n1_; have GW371 := n2_; have GE371 := n3_; clear n0_ n1_ n2_ n3_; clear hb hbox hg; have hcz19_0 : w18.cell? ⟨gb371, 0, none⟩ = some (.string a0_0) := (blk_cell BK371.out 0).trans rfl; have hcz19_1 : w18.cell? ⟨gb371, 1, none⟩ = some (.int .i64 a0_1) := (blk_cell BK371.out 1).trans rfl; have hcz19_2 : w18.cell? ⟨gb371, 2, none⟩ = some (.bool a0_2) := (blk_cell BK371.out 2).trans rfl; have hfz19_0 := blk_frozen BK371.out 0; have hfz19_1 := blk_frozen BK371.out 1; have hfz19_2 := blk_frozen BK371.out 2) | ((with_reducible refine gate_callee (f := 19) rfl ?_); refine goesL_ (some 15) rfl rfl Tryz.func19 (by kernel_rfl) rfl #[.agg #[.string a0_0, .int .i64 a0_1, .bool a0_2], .string a1] rfl ap3 ?_; (with_reducible refine (attr_Normal.calls k a0_0 a0_1 a0_2 a1 t372 t373 _ ?side1 A4.out).mono ?_); (case side1 => first | exact HG.out | (refine Gw.below HG.out ?_; repeat (first | (with_reducible first | exact HB.out | apply below_alloc | apply pw_below_drewN | apply below_drew1 | refine below_set ?_ GE371.out) | exact HB.out))); rintro e w20 ⟨rfl, hb⟩; refine ⟨_, rfl, ?_⟩; have n0_ := Aside0.mk (blk_below (g := gb371) (o := .cells #[.string a0_0, .int .i64 a0_1, .bool a0_2] 23 (0, 0)) (apB BK371.out) hb); have n1_ := Aside0.mk (below_step (apG GE371.out) hb); clear BK371; clear HB; have BK371 := n0_; have HB := n1_; clear n0_ n1_; (try clear hb); (try clear hb2); (try clear hk); (try clear hi)))
  go_ret3
  exact ⟨by first | rfl | (simp [errW_none, errW_some, bne_nil8, beq_nil8]; done) | (simp [errW_none, errW_some] <;> rfl) | (simp [*, errW_none, errW_some] <;> rfl), by repeat (first | (with_reducible first | exact HB.out | apply below_alloc | apply pw_below_drewN | apply below_drew1 | refine below_set ?_ GE371.out) | exact HB.out)⟩
def attr_Equal.f (k : Nat) (a0_0 : ByteArray) (a0_1 : Int) (a0_2 : Bool) (a1 : ByteArray) (a2 : ByteArray) : Option (Bool × Int) := (attr_both.f k a0_0 a0_1 a0_2 a1 a2).bind fun bt377 => (if bt377.2.2 = 0 then (some ((bt377.1.toList == bt377.2.1.toList), bt377.2.2)) else (some (false, bt377.2.2)))
theorem attr_Equal.mono : ∀ a0 a1 a2 a3 a4 k, LeO (attr_Equal.f k a0 a1 a2 a3 a4) (attr_Equal.f (k + 1) a0 a1 a2 a3 a4) := by
 intro a0 a1 a2 a3 a4 k
 unfold attr_Equal.f
 repeat' first
   | (with_reducible exact attr_both.mono _ _ _ _ _ _)
   | (with_reducible exact LeO.refl _)
   | (with_reducible exact LeO.none _)
   | (with_reducible refine LeO.ite ?_ ?_)
   | (with_reducible refine LeO.bind ?_ (fun _ => ?_))
set_option maxHeartbeats 8000000 in
set_option maxRecDepth 100000 in
theorem attr_Equal.calls (k : Nat) (a0_0 : ByteArray) (a0_1 : Int) (a0_2 : Bool) (a1 : ByteArray) (a2 : ByteArray) (r1 : Bool) (r2 : Int) (w : World) (hG : Gw w) (h : attr_Equal.f k a0_0 a0_1 a0_2 a1 a2 = some (r1, r2)) :
  Calls Tryz.prog 10 #[.agg #[.string a0_0, .int .i64 a0_1, .bool a0_2], .string a1, .string a2] w fun e w' => e = .returned (.tuple #[.bool r1, .int .i64 r2]) ∧ Below w.heap.size w w' := by
 have hu23 := Tryz.underlying23
 have HB := Aside0.mk (Below.refl w.heap.size w)
 have HG := Aside0.mk hG
 clear hG
 have H : ((attr_both.f k a0_0 a0_1 a0_2 a1 a2).bind fun bt377 => (if bt377.2.2 = 0 then (some ((bt377.1.toList == bt377.2.1.toList), bt377.2.2)) else (some (false, bt377.2.2)))) = some (r1, r2) := h
 clear h
 replace H := Option.bind_eq_some_iff.mp H
 obtain ⟨⟨t377, t378, t379⟩, A40, H⟩ := H
 replace H : (if t379 = 0 then (some ((t377.toList == t378.toList), t379)) else (some (false, t379))) = some (r1, r2) := H
 have A4 := Aside0.mk A40
 clear A40
 by_cases c5 : t379 = 0
 ·
  rw [if_pos c5] at H
  have c5b0 : (t379 == 0) = true := beq_iff_eq.mpr c5
  have c5b1 : (t379 != 0) = false := bne_eq_false_iff_eq.mpr c5
  clear c5
  simp only [Option.some.injEq, Prod.mk.injEq] at H
  obtain ⟨rfl, rfl⟩ := H
  go_enter Tryz.func10, Tryz.ntmps10
  go_wp2_with (first | ((with_reducible refine gate_dst (N := 3) rfl ?_); refine box_event ?hg (N := 3) ?hd (cs := #[.string a0_0, .int .i64 a0_1, .bool a0_2]) (t := 23) ?hr ?_; (case hd => rfl); (case hg => rfl); (case hr => first | (go_simp; done) | (go_simp; rfl)); intro gb376 hg w6 hbox hb; have n0_ := Aside0.mk (below_step ap1 hb); have n1_ := Aside0.mk (hbox); have n2_ := Aside0.mk ((by rw [hg]; exact (below_size ap1) : w.heap.size ≤ gb376)); have n3_ := Aside0.mk ((by rw [hg]; exact (below_size ap1) : w.heap.size ≤ gb376)); clear HB; have HB := n0_; have BK376 := n1_; have GW376 := n2_; have GE376 := n3_; clear n0_ n1_ n2_ n3_; clear hb hbox hg; have hcz7_0 : w6.cell? ⟨gb376, 0, none⟩ = some (.string a0_0) := (blk_cell BK376.out 0).trans rfl; have hcz7_1 : w6.cell? ⟨gb376, 1, none⟩ = some (.int .i64 a0_1) := (blk_cell BK376.out 1).trans rfl; have hcz7_2 : w6.cell? ⟨gb376, 2, none⟩ = some (.bool a0_2) := (blk_cell BK376.out 2).trans rfl; have hfz7_0 := blk_frozen BK376.out 0; have hfz7_1 := blk_frozen BK376.out 1; have hfz7_2 := blk_frozen BK376.out 2) | ((with_reducible refine gate_callee (f := 25) rfl ?_); refine goesL_ (some 15) rfl rfl Tryz.func25 (by kernel_rfl) rfl #[.agg #[.string a0_0, .int .i64 a0_1, .bool a0_2], .string a1, .string a2] rfl ap3 ?_; (with_reducible refine (attr_both.calls k a0_0 a0_1 a0_2 a1 a2 t377 t378 t379 _ ?side1 A4.out).mono ?_); (case side1 => first | exact HG.out | (refine Gw.below HG.out ?_; repeat (first | (with_reducible first | exact HB.out | apply below_alloc | apply pw_below_drewN | apply below_drew1 | refine below_set ?_ GE376.out) | exact HB.out))); rintro e w8 ⟨rfl, hb⟩; refine ⟨_, rfl, ?_⟩; have n0_ := Aside0.mk (blk_below (g := gb376) (o := .cells #[.string a0_0, .int .i64 a0_1, .bool a0_2] 23 (0, 0)) (apB BK376.out) hb); have n1_ := Aside0.mk (below_step (apG GE376.out) hb); clear BK376; clear HB; have BK376 := n0_; have HB := n1_; clear n0_ n1_; (try clear hb); (try clear hb2); (try clear hk); (try clear hi)))
  go_ret2
  exact ⟨by first | rfl | (simp [errW_none, errW_some, bne_nil8, beq_nil8]; done) | (simp [errW_none, errW_some] <;> rfl) | (simp [*, errW_none, errW_some] <;> rfl), by repeat (first | (with_reducible first | exact HB.out | apply below_alloc | apply pw_below_drewN | apply below_drew1 | refine below_set ?_ GE376.out) | exact HB.out)⟩
 ·
  rw [if_neg c5] at H
  have c5b0 : (t379 == 0) = false := beq_eq_false_iff_ne.mpr c5
  have c5b1 : (t379 != 0) = true := bne_iff_ne.mpr c5
  simp only [Option.some.injEq, Prod.mk.injEq] at H
  obtain ⟨rfl, rfl⟩ := H
  go_enter Tryz.func10, Tryz.ntmps10
  go_wp2_with (first | ((with_reducible refine gate_dst (N := 3) rfl ?_); refine box_event ?hg (N := 3) ?hd (cs := #[.string a0_0, .int .i64 a0_1, .bool a0_2]) (t := 23) ?hr ?_; (case hd => rfl); (case hg => rfl); (case hr => first | (go_simp; done) | (go_simp; rfl)); intro gb376 hg w9 hbox hb; have n0_ := Aside0.mk (below_step ap1 hb); have n1_ := Aside0.mk (hbox); have n2_ := Aside0.mk ((by rw [hg]; exact (below_size ap1) : w.heap.size ≤ gb376)); have n3_ := Aside0.mk ((by rw [hg]; exact (below_size ap1) : w.heap.size ≤ gb376)); clear HB; have HB := n0_; have BK376 := n1_; have GW376 := n2_; have GE376 := n3_; clear n0_ n1_ n2_ n3_; clear hb hbox hg; have hcz10_0 : w9.cell? ⟨gb376, 0, none⟩ = some (.string a0_0) := (blk_cell BK376.out 0).trans rfl; have hcz10_1 : w9.cell? ⟨gb376, 1, none⟩ = some (.int .i64 a0_1) := (blk_cell BK376.out 1).trans rfl; have hcz10_2 : w9.cell? ⟨gb376, 2, none⟩ = some (.bool a0_2) := (blk_cell BK376.out 2).trans rfl; have hfz10_0 := blk_frozen BK376.out 0; have hfz10_1 := blk_frozen BK376.out 1; have hfz10_2 := blk_frozen BK376.out 2) | ((with_reducible refine gate_callee (f := 25) rfl ?_); refine goesL_ (some 15) rfl rfl Tryz.func25 (by kernel_rfl) rfl #[.agg #[.string a0_0, .int .i64 a0_1, .bool a0_2], .string a1, .string a2] rfl ap3 ?_; (with_reducible refine (attr_both.calls k a0_0 a0_1 a0_2 a1 a2 t377 t378 t379 _ ?side1 A4.out).mono ?_); (case side1 => first | exact HG.out | (refine Gw.below HG.out ?_; repeat (first | (with_reducible first | exact HB.out | apply below_alloc | apply pw_below_drewN | apply below_drew1 | refine below_set ?_ GE376.out) | exact HB.out))); rintro e w11 ⟨rfl, hb⟩; refine ⟨_, rfl, ?_⟩; have n0_ := Aside0.mk (blk_below (g := gb376) (o := .cells #[.string a0_0, .int .i64 a0_1, .bool a0_2] 23 (0, 0)) (apB BK376.out) hb); have n1_ := Aside0.mk (below_step (apG GE376.out) hb); clear BK376; clear HB; have BK376 := n0_; have HB := n1_; clear n0_ n1_; (try clear hb); (try clear hb2); (try clear hk); (try clear hi)))
  go_ret2
  exact ⟨by first | rfl | (simp [errW_none, errW_some, bne_nil8, beq_nil8]; done) | (simp [errW_none, errW_some] <;> rfl) | (simp [*, errW_none, errW_some] <;> rfl), by repeat (first | (with_reducible first | exact HB.out | apply below_alloc | apply pw_below_drewN | apply below_drew1 | refine below_set ?_ GE376.out) | exact HB.out)⟩
def attr_Check.f (k : Nat) (a0_0 : ByteArray) (a0_1 : Int) (a0_2 : Bool) (a1 : ByteArray) : Option (Int) := (attr_Normal.f k a0_0 a0_1 a0_2 a1).bind fun bt875 => (some bt875.2)
set_option maxHeartbeats 8000000 in
set_option maxRecDepth 100000 in
theorem attr_Check.calls (k : Nat) (a0_0 : ByteArray) (a0_1 : Int) (a0_2 : Bool) (a1 : ByteArray) (r : Int) (w : World) (hG : Gw w) (h : attr_Check.f k a0_0 a0_1 a0_2 a1 = some r) :
  Calls Tryz.prog 21 #[.agg #[.string a0_0, .int .i64 a0_1, .bool a0_2], .string a1] w fun e w' => e = .returned (.int .i64 r) ∧ Below w.heap.size w w' := by
 have hu23 := Tryz.underlying23
 have HB := Aside0.mk (Below.refl w.heap.size w)
 have HG := Aside0.mk hG
 clear hG
 have H : ((attr_Normal.f k a0_0 a0_1 a0_2 a1).bind fun bt875 => (some bt875.2)) = some r := h
 clear h
 replace H := Option.bind_eq_some_iff.mp H
 obtain ⟨⟨t875, t876⟩, A30, H⟩ := H
 replace H : (some t876) = some r := H
 have A3 := Aside0.mk A30
 clear A30
 obtain rfl := Option.some.inj H
 go_enter Tryz.func21, Tryz.ntmps21
 go_wp2_with (first | ((with_reducible refine gate_dst (N := 2) rfl ?_); refine box_event ?hg (N := 2) ?hd (cs := #[.string a0_0, .int .i64 a0_1, .bool a0_2]) (t := 23) ?hr ?_; (case hd => rfl); (case hg => rfl); (case hr => first | (go_simp; done) | (go_simp; rfl)); intro gb874 hg w4 hbox hb; have n0_ := Aside0.mk (below_step ap1 hb); have n1_ := Aside0.mk (hbox); have n2_ := Aside0.mk ((by rw [hg]; exact (below_size ap1) : w.heap.size ≤ gb874)); have n3_ := Aside0.mk ((by rw [hg]; exact (below_size ap1) : w.heap.size ≤ gb874)); clear HB; have HB := n0_; have BK874 := n1_; have GW874 := n2_; have GE874 := n3_; clear n0_ n1_ n2_ n3_; clear hb hbox hg; have hcz5_0 : w4.cell? ⟨gb874, 0, none⟩ = some (.string a0_0) := (blk_cell BK874.out 0).trans rfl; have hcz5_1 : w4.cell? ⟨gb874, 1, none⟩ = some (.int .i64 a0_1) := (blk_cell BK874.out 1).trans rfl; have hcz5_2 : w4.cell? ⟨gb874, 2, none⟩ = some (.bool a0_2) := (blk_cell BK874.out 2).trans rfl; have hfz5_0 := blk_frozen BK874.out 0; have hfz5_1 := blk_frozen BK874.out 1; have hfz5_2 := blk_frozen BK874.out 2) | ((with_reducible refine gate_callee (f := 19) rfl ?_); refine goesL_ (some 10) rfl rfl Tryz.func19 (by kernel_rfl) rfl #[.agg #[.string a0_0, .int .i64 a0_1, .bool a0_2], .string a1] rfl ap3 ?_; (with_reducible refine (attr_Normal.calls k a0_0 a0_1 a0_2 a1 t875 t876 _ ?side1 A3.out).mono ?_); (case side1 => first | exact HG.out | (refine Gw.below HG.out ?_; repeat (first | (with_reducible first | exact HB.out | apply below_alloc | apply pw_below_drewN | apply below_drew1 | refine below_set ?_ GE874.out) | exact HB.out))); rintro e w6 ⟨rfl, hb⟩; refine ⟨_, rfl, ?_⟩; have n0_ := Aside0.mk (blk_below (g := gb874) (o := .cells #[.string a0_0, .int .i64 a0_1, .bool a0_2] 23 (0, 0)) (apB BK874.out) hb); have n1_ := Aside0.mk (below_step (apG GE874.out) hb); clear BK874; clear HB; have BK874 := n0_; have HB := n1_; clear n0_ n1_; (try clear hb); (try clear hb2); (try clear hk); (try clear hi)))
 go_ret
 exact ⟨by first | rfl | (simp [errW_none, errW_some, bne_nil8, beq_nil8]; done) | (simp [errW_none, errW_some] <;> rfl) | (simp [*, errW_none, errW_some] <;> rfl), by repeat (first | (with_reducible first | exact HB.out | apply below_alloc | apply pw_below_drewN | apply below_drew1 | refine below_set ?_ GE874.out) | exact HB.out)⟩
end Go.Proofs.YtpklcnpmppaaoaaGreatDoor.Print
namespace Go.Proofs.YtpklcnpmppaaoaaGreatDoor.Print
open Go.RowKit Go.Proofs.YtpklcnpmppaaoaaGreatDoorW.PrintWords Go.Proofs.YtpklcnpmppaaoaaGreatDoorW.PrintLast Go.Proofs.YtpklcnpmppaaoaaGreatDoorW.PrintMore Go.Proofs.YtpklcnpmppaaoaaGreatDoor.Pure
set_option linter.unusedVariables false
set_option linter.unusedSimpArgs false
def nameOf (s : ByteArray) : List (List AvaS) × Int :=
  if 1000 < s.size then ([], 5) else if (bl s).dropWhile (· == 32) = [] then ([], 0) else
    match (signs (bl s)).bind fun L => goP L [] [] [] with
    | none => ([], 4)
    | some N => if nameOk (mkN N) = true then (mkN N, 0) else ([], 4)
theorem dnparse_ev (s : ByteArray) (hs : s.size ≤ 100000) : Ev (fun k => dn_Parse.f k s) (nameOf s) := by
  obtain ⟨p1, p2, p3, p4⟩ := parse_ev s hs
  unfold nameOf
  by_cases h : 1000 < s.size
  · rw [if_pos h]; exact p1 h
  · rw [if_neg h]
    by_cases hb : (bl s).dropWhile (· == 32) = []
    · rw [if_pos hb]; exact p2 (by omega) hb
    · rw [if_neg hb]
      cases hg : ((signs (bl s)).bind fun L => goP L [] [] []) with
      | none => exact p3 (by omega) hb hg
      | some N =>
        obtain ⟨z1, z2, z3⟩ := sz_mk (Nat.le_refl _) (read_short hs hg)
        exact p4 (by omega) hb N _ hg (right_ev (mkN N) z1 z2)
theorem nameOf_ok (s : ByteArray) (hs : s.size ≤ 100000) : nameOk (nameOf s).1 = true ∧ (nameOf s).1.length ≤ 1000000 ∧ szN (nameOf s).1 := by
  have h0 : nameOk [] = true ∧ ([] : List (List AvaS)).length ≤ 1000000 ∧ szN [] := ⟨rfl, by simp, by simp [szN]⟩
  unfold nameOf
  by_cases h : 1000 < s.size
  · rw [if_pos h]; exact h0
  · rw [if_neg h]
    by_cases hb : (bl s).dropWhile (· == 32) = []
    · rw [if_pos hb]; exact h0
    · rw [if_neg hb]
      cases hg : ((signs (bl s)).bind fun L => goP L [] [] []) with
      | none => exact h0
      | some N =>
        obtain ⟨z1, z2, z3⟩ := sz_mk (Nat.le_refl _) (read_short hs hg)
        dsimp only
        by_cases hn : nameOk (mkN N) = true
        · rw [if_pos hn]; exact ⟨hn, z1, z2⟩
        · rw [if_neg hn]; exact h0
def keysB (s : ByteArray) : ByteArray := mkB ((keysOf (nameOf s).1).map bl).flatten
theorem keyOf_len (l : List AvaS) (h : l.length ≤ 4) : (keyOf l).size ≤ 16384 := by
  unfold keyOf
  rw [show ∀ q : List UInt8, (⟨q.toArray⟩ : ByteArray).size = q.length from mkB_size]
  have h2 := sortB_size (l.map tupV) (fun x hx => by
    obtain ⟨a, _, rfl⟩ := List.mem_map.1 hx
    exact tupV_len a)
  have h3 := flat_len 4096 _ h2
  rw [List.length_map, sortB_len, List.length_map] at h3
  omega
theorem keysOf_join {n : List (List AvaS)} (hn : nameOk n = true) : (keysOf n).length ≤ 12 ∧ ((keysOf n).map bl).flatten.length ≤ 200000 := by
  obtain ⟨h1, h2⟩ := nameOk_sz hn
  have hl := keysOf_len n
  refine ⟨by omega, ?_⟩
  have h3 := flat_len 16384 ((keysOf n).map bl) (fun x hx => by
    obtain ⟨y, hy, rfl⟩ := List.mem_map.1 hx
    obtain ⟨a, ha, rfl⟩ := List.mem_map.1 hy
    rw [bl_length]
    exact keyOf_len a (h2 a (List.mem_reverse.1 ha)))
  rw [List.length_map, hl] at h3
  omega
theorem join_keys {n : List (List AvaS)} (hn : nameOk n = true) : strings_Join.f (keysOf n) (⟨#[]⟩ : ByteArray) = some (mkB ((keysOf n).map bl).flatten) := by
  obtain ⟨h1, h2⟩ := keysOf_join hn
  unfold strings_Join.f
  rw [joinB_none, if_pos (by omega), if_pos (by omega)]
def trueB : List UInt8 := [84, 82, 85, 69]
def falseB : List UInt8 := [70, 65, 76, 83, 69]
def someT : Option (List UInt8) → ByteArray × Bool
  | some u => (mkB u, decide (u ≠ []))
  | none => (⟨#[]⟩, false)
def formOf (t : Int) (s : ByteArray) : ByteArray × Bool :=
  if t = 1 ∨ t = 2 then someT (readyOf (t == 1) s)
  else if t = 7 then someT (phoneOf s)
  else if t = 4 then (s, numOk (bl s))
  else if t = 5 then (s, decide (bl s = trueB ∨ bl s = falseB))
  else if t = 6 then (keysB s, (nameOf s).2 == 0)
  else (s, true)
theorem someT_ev {F : Nat → Option (ByteArray × Int)} {o : Option (List UInt8)} (h : Ev F (ansOf o)) : Ev (fun k => (F k).bind fun bt => if bt.2 = 0 then some (bt.1, (bt.1.toList != ([] : List UInt8))) else some (bt.1, false)) (someT o) := by
  refine Ev.bind h ?_
  cases o with
  | none => exact Ev.neg (show ¬ ((19 : Int) = 0) by decide) Ev.rfl'
  | some u =>
    refine Ev.pos (show (0 : Int) = 0 from rfl) (Ev.const fun k => ?_)
    show some (mkB u, (mkB u).toList != []) = some (mkB u, decide (u ≠ []))
    rw [tl_bl]
    show some (mkB u, u != []) = _
    cases u <;> simp
theorem ready_ans (s : ByteArray) (hs : s.size ≤ 100000) (fold : Bool) : Ev (fun k => prep_Ready.f k s fold) (ansOf (readyOf fold s)) := by
  have h := ready_ev s hs fold
  cases hr : readyOf fold s <;> rw [hr] at h <;> exact h
theorem form_ev (n : ByteArray) (t : Int) (b : Bool) (s : ByteArray) (hs : s.size ≤ 100000) : Ev (fun k => attr_form.f k n t b s) (formOf t s) := by
  have hj : ∀ {q : Bool}, q = decide (t = 1 ∨ t = 2) → Ev (fun k => attr_form.j0 k s t q n t b) (formOf t s) := by
    intro q hq
    unfold formOf
    refine Ev.step (fun k => by rw [attr_form.j0]) ?_
    by_cases h12 : t = 1 ∨ t = 2
    · rw [if_pos h12]
      exact Ev.pos (by rw [hq]; exact decide_eq_true h12) (someT_ev (ready_ans s hs _))
    · rw [if_neg h12]
      refine Ev.neg (by rw [hq]; simpa using h12) ?_
      by_cases h7 : t = 7
      · rw [if_pos h7]; exact Ev.pos h7 (someT_ev (phone_ev s hs))
      · rw [if_neg h7]
        refine Ev.neg h7 ?_
        by_cases h4 : t = 4
        · rw [if_pos h4]; exact Ev.pos h4 (Ev.bind (number_ev s (by omega)) Ev.rfl')
        · rw [if_neg h4]
          refine Ev.neg h4 ?_
          by_cases h5 : t = 5
          · rw [if_pos h5]
            refine Ev.pos h5 ?_
            rw [tl_bl]
            by_cases ht : bl s = trueB
            · rw [decide_eq_true (Or.inl ht)]
              exact Ev.pos ht Ev.rfl'
            · refine Ev.neg ht (Ev.const fun k => ?_)
              by_cases hf : bl s = falseB
              · rw [decide_eq_true (Or.inr hf), hf]; rfl
              · rw [decide_eq_false (by simp [ht, hf])]
                rw [show (bl s == ([70, 65, 76, 83, 69] : List UInt8)) = false from beq_eq_false_iff_ne.2 hf]
          · rw [if_neg h5]
            refine Ev.neg h5 ?_
            by_cases h6 : t = 6
            · rw [if_pos h6]
              obtain ⟨k1, k2, k3⟩ := nameOf_ok s hs
              have hk := keys_ev (nameOf s).1 k2 k3
              rw [if_pos k1] at hk
              refine Ev.pos h6 (Ev.bind (dnparse_ev s hs) (Ev.bind hk (Ev.bindc (join_keys k1) ?_)))
              by_cases h0 : (nameOf s).2 = 0
              · rw [h0]; exact Ev.pos rfl Ev.rfl'
              · rw [beq_eq_false_iff_ne.2 h0]; exact Ev.neg h0 Ev.rfl'
            · rw [if_neg h6]; exact Ev.neg h6 Ev.rfl'
  unfold attr_form.f
  by_cases h1 : t = 1
  · exact Ev.pos h1 (hj (by rw [decide_eq_true (Or.inl h1), h1]; rfl))
  · refine Ev.neg h1 (hj ?_)
    by_cases h2 : t = 2
    · rw [decide_eq_true (Or.inr h2), h2]; rfl
    · rw [decide_eq_false (by simp [h1, h2])]; exact beq_eq_false_iff_ne.2 h2
def normOf (t : Int) (s : ByteArray) : ByteArray × Int :=
  if t < 1 ∨ 7 < t then (⟨#[]⟩, 14) else if 1000 < s.size then (⟨#[]⟩, 5) else if s.size = 0 then (⟨#[]⟩, 4) else if (formOf t s).2 = true then ((formOf t s).1, 0) else (⟨#[]⟩, 4)
theorem sz0 (s : ByteArray) : bl s = [] ↔ s.size = 0 := by
  rw [← bl_length]; exact List.length_eq_zero_iff.symm
theorem normal_ev (n : ByteArray) (t : Int) (b : Bool) (s : ByteArray) : Ev (fun k => attr_Normal.f k n t b s) (normOf t s) := by
  unfold attr_Normal.f normOf attr_known.f
  by_cases ht : t < 1 ∨ 7 < t
  · rw [if_pos ht]
    by_cases h1 : t ≥ 1
    · rw [if_pos h1]
      refine Ev.bindc (u := decide (t ≤ 7)) rfl (Ev.neg (by simp; omega) Ev.rfl')
    · rw [if_neg h1]
      exact Ev.bindc (u := false) rfl (Ev.neg (by simp) Ev.rfl')
  · rw [if_neg ht, if_pos (by omega)]
    refine Ev.bindc (u := decide (t ≤ 7)) rfl (Ev.pos (by simp; omega) ?_)
    by_cases h5 : 1000 < s.size
    · rw [if_pos h5]; exact Ev.pos (by omega) Ev.rfl'
    · rw [if_neg h5]
      refine Ev.neg (by omega) ?_
      rw [tl_bl]
      by_cases h0 : s.size = 0
      · rw [if_pos h0]; exact Ev.pos ((sz0 s).2 h0) Ev.rfl'
      · rw [if_neg h0]
        refine Ev.neg (fun h => h0 ((sz0 s).1 h)) (Ev.bind (form_ev n t b s (by omega)) ?_)
        by_cases hf : (formOf t s).2 = true
        · refine Ev.pos hf ?_; rw [if_pos hf]; exact Ev.rfl'
        · refine Ev.neg hf ?_; rw [if_neg hf]; exact Ev.rfl'
theorem check_ev (n : ByteArray) (t : Int) (b : Bool) (s : ByteArray) : Ev (fun k => attr_Check.f k n t b s) (normOf t s).2 := by
  unfold attr_Check.f
  exact Ev.bind (normal_ev n t b s) Ev.rfl'
def bothOf (t : Int) (x y : ByteArray) : ByteArray × ByteArray × Int :=
  if (normOf t x).2 = 0 then (if (normOf t y).2 = 0 then ((normOf t x).1, (normOf t y).1, 0) else (⟨#[]⟩, ⟨#[]⟩, (normOf t y).2)) else (⟨#[]⟩, ⟨#[]⟩, (normOf t x).2)
theorem both_ev (n : ByteArray) (t : Int) (b : Bool) (x y : ByteArray) : Ev (fun k => attr_both.f k n t b x y) (bothOf t x y) := by
  unfold attr_both.f bothOf
  refine Ev.bind (normal_ev n t b x) ?_
  by_cases h : (normOf t x).2 = 0
  · refine Ev.pos h (Ev.bind (normal_ev n t b y) ?_)
    rw [if_pos h]
    by_cases h2 : (normOf t y).2 = 0
    · refine Ev.pos h2 ?_; rw [if_pos h2]; exact Ev.rfl'
    · refine Ev.neg h2 ?_; rw [if_neg h2]; exact Ev.rfl'
  · refine Ev.neg h ?_; rw [if_neg h]; exact Ev.rfl'
def eqOf (t : Int) (x y : ByteArray) : Bool × Int :=
  if (normOf t x).2 = 0 then (if (normOf t y).2 = 0 then (decide ((normOf t x).1 = (normOf t y).1), 0) else (false, (normOf t y).2)) else (false, (normOf t x).2)
theorem beq_tl (a b : ByteArray) : (a.toList == b.toList) = decide (a = b) := by
  by_cases h : a = b
  · subst h; simp
  · rw [decide_eq_false h]
    exact beq_eq_false_iff_ne.2 fun h2 => h (ba_ext (by rw [← tl_bl, ← tl_bl]; exact h2))
theorem aequal_ev (n : ByteArray) (t : Int) (b : Bool) (x y : ByteArray) : Ev (fun k => attr_Equal.f k n t b x y) (eqOf t x y) := by
  unfold attr_Equal.f
  refine Ev.bind (both_ev n t b x y) ?_
  unfold eqOf bothOf
  by_cases h : (normOf t x).2 = 0
  · simp only [h, if_true]
    by_cases h2 : (normOf t y).2 = 0
    · simp only [h2, if_true]
      refine Ev.const fun k => ?_
      rw [beq_tl]
    · simp only [h2, if_false]
      exact Ev.rfl'
  · simp only [h, if_false]
    exact Ev.rfl'
end Go.Proofs.YtpklcnpmppaaoaaGreatDoor.Print
namespace Go.Proofs
open Go.Shelf
def Tryz.laysC172_ren : Go.Shelf.Ren := ⟨fun | 172 => 26 | 244 => 50 | 245 => 51 | 247 => 77 | 279 => 78 | 280 => 79 | 281 => 80 | 282 => 81 | 287 => 108 | 316 => 109 | 171 => 111 | 205 => 110 | 321 => 130 | 322 => 131 | 243 => 132 | 246 => 152 | 283 => 172 | 284 => 173 | 285 => 174 | 286 => 175 | 129 => 171 | 317 => 182 | 318 => 183 | 319 => 184 | 320 => 185 | 337 => 187 | 338 => 188 | n => n, fun | 9 => 9 | 3 => 3 | 75 => 50 | 76 => 51 | 4 => 4 | 5 => 5 | 167 => 101 | 37 => 82 | 0 => 0 | 85 => 102 | 2 => 2 | 168 => 104 | 53 => 128 | 175 => 129 | 46 => 68 | 210 => 132 | 127 => 137 | 145 => 147 | 143 => 145 | 21 => 21 | 171 => 177 | 173 => 179 | 212 => 192 | 51 => 152 | 20 => 20 | 213 => 193 | 232 => 196 | 233 => 197 | 80 => 112 | n => n, fun | 15 => 2 | 16 => 3 | 17 => 6 | 18 => 7 | 19 => 8 | n => n⟩
theorem Tryz.laysC172 : Go.Proofs.LaysC.n172 Tryz.prog Tryz.laysC172_ren := {
  mixed := by kernel_rfl
  f129 := Tryz.func171.trans (congrArg some (by kernel_rfl))
  f171 := Tryz.func111.trans (congrArg some (by kernel_rfl))
  f172 := Tryz.func26.trans (congrArg some (by kernel_rfl))
  f205 := Tryz.func110.trans (congrArg some (by kernel_rfl))
  f243 := Tryz.func132.trans (congrArg some (by kernel_rfl))
  f244 := Tryz.func50.trans (congrArg some (by kernel_rfl))
  f245 := Tryz.func51.trans (congrArg some (by kernel_rfl))
  f246 := Tryz.func152.trans (congrArg some (by kernel_rfl))
  f247 := Tryz.func77.trans (congrArg some (by kernel_rfl))
  f279 := Tryz.func78.trans (congrArg some (by kernel_rfl))
  f280 := Tryz.func79.trans (congrArg some (by kernel_rfl))
  f281 := Tryz.func80.trans (congrArg some (by kernel_rfl))
  f282 := Tryz.func81.trans (congrArg some (by kernel_rfl))
  f283 := Tryz.func172.trans (congrArg some (by kernel_rfl))
  f284 := Tryz.func173.trans (congrArg some (by kernel_rfl))
  f285 := Tryz.func174.trans (congrArg some (by kernel_rfl))
  f286 := Tryz.func175.trans (congrArg some (by kernel_rfl))
  f287 := Tryz.func108.trans (congrArg some (by kernel_rfl))
  f316 := Tryz.func109.trans (congrArg some (by kernel_rfl))
  f317 := Tryz.func182.trans (congrArg some (by kernel_rfl))
  f318 := Tryz.func183.trans (congrArg some (by kernel_rfl))
  f319 := Tryz.func184.trans (congrArg some (by kernel_rfl))
  f320 := Tryz.func185.trans (congrArg some (by kernel_rfl))
  f321 := Tryz.func130.trans (congrArg some (by kernel_rfl))
  f322 := Tryz.func131.trans (congrArg some (by kernel_rfl))
  f337 := Tryz.func187.trans (congrArg some (by kernel_rfl))
  f338 := Tryz.func188.trans (congrArg some (by kernel_rfl))
  t0 := Tryz.underlying0
  a0 := Tryz.isAgg0
  z0 := Tryz.sizeOf0
  v0 := Tryz.zeroValue0
  t2 := Tryz.underlying2
  a2 := Tryz.isAgg2
  z2 := Tryz.sizeOf2
  v2 := Tryz.zeroValue2
  t3 := Tryz.underlying3
  a3 := Tryz.isAgg3
  z3 := Tryz.sizeOf3
  v3 := Tryz.zeroValue3
  t4 := Tryz.underlying4
  a4 := Tryz.isAgg4
  z4 := Tryz.sizeOf4
  v4 := Tryz.zeroValue4
  t5 := Tryz.underlying5
  a5 := Tryz.isAgg5
  z5 := Tryz.sizeOf5
  v5 := Tryz.zeroValue5
  t9 := Tryz.underlying9
  a9 := Tryz.isAgg9
  z9 := Tryz.sizeOf9
  v9 := Tryz.zeroValue9
  t20 := Tryz.underlying20
  a20 := Tryz.isAgg20
  z20 := Tryz.sizeOf20
  v20 := Tryz.zeroValue20
  t21 := Tryz.underlying21
  a21 := Tryz.isAgg21
  z21 := Tryz.sizeOf21
  v21 := Tryz.zeroValue21
  t37 := Tryz.underlying82
  a37 := Tryz.isAgg82
  z37 := Tryz.sizeOf82
  v37 := Tryz.zeroValue82
  t46 := Tryz.underlying68
  a46 := Tryz.isAgg68
  z46 := Tryz.sizeOf68
  v46 := Tryz.zeroValue68
  t51 := Tryz.underlying152
  a51 := Tryz.isAgg152
  z51 := Tryz.sizeOf152
  v51 := Tryz.zeroValue152
  t53 := Tryz.underlying128
  a53 := Tryz.isAgg128
  z53 := Tryz.sizeOf128
  v53 := Tryz.zeroValue128
  t75 := Tryz.underlying50
  a75 := Tryz.isAgg50
  z75 := Tryz.sizeOf50
  v75 := Tryz.zeroValue50
  t76 := Tryz.underlying51
  a76 := Tryz.isAgg51
  z76 := Tryz.sizeOf51
  v76 := Tryz.zeroValue51
  t85 := Tryz.underlying102
  a85 := Tryz.isAgg102
  z85 := Tryz.sizeOf102
  v85 := Tryz.zeroValue102
  t127 := Tryz.underlying137
  a127 := Tryz.isAgg137
  z127 := Tryz.sizeOf137
  v127 := Tryz.zeroValue137
  t143 := Tryz.underlying145
  a143 := Tryz.isAgg145
  z143 := Tryz.sizeOf145
  v143 := Tryz.zeroValue145
  t145 := Tryz.underlying147
  a145 := Tryz.isAgg147
  z145 := Tryz.sizeOf147
  v145 := Tryz.zeroValue147
  t167 := Tryz.underlying101
  a167 := Tryz.isAgg101
  z167 := Tryz.sizeOf101
  v167 := Tryz.zeroValue101
  t168 := Tryz.underlying104
  a168 := Tryz.isAgg104
  z168 := Tryz.sizeOf104
  v168 := Tryz.zeroValue104
  t171 := Tryz.underlying177
  a171 := Tryz.isAgg177
  z171 := Tryz.sizeOf177
  v171 := Tryz.zeroValue177
  t173 := Tryz.underlying179
  a173 := Tryz.isAgg179
  z173 := Tryz.sizeOf179
  v173 := Tryz.zeroValue179
  t175 := Tryz.underlying129
  a175 := Tryz.isAgg129
  z175 := Tryz.sizeOf129
  v175 := Tryz.zeroValue129
  t210 := Tryz.underlying132
  a210 := Tryz.isAgg132
  z210 := Tryz.sizeOf132
  v210 := Tryz.zeroValue132
  t212 := Tryz.underlying192
  a212 := Tryz.isAgg192
  z212 := Tryz.sizeOf192
  v212 := Tryz.zeroValue192
  t213 := Tryz.underlying193
  a213 := Tryz.isAgg193
  z213 := Tryz.sizeOf193
  t232 := Tryz.underlying196
  a232 := Tryz.isAgg196
  z232 := Tryz.sizeOf196
  v232 := Tryz.zeroValue196
  t233 := Tryz.underlying197
  a233 := Tryz.isAgg197
  z233 := Tryz.sizeOf197
  v233 := Tryz.zeroValue197
  g15 := by kernel_rfl
  g16 := by kernel_rfl
  g17 := by kernel_rfl
  g18 := by kernel_rfl
  g19 := by kernel_rfl
  t80 := Tryz.underlying112
  a80 := Tryz.isAgg112
  z80 := Tryz.sizeOf112
  v80 := Tryz.zeroValue112
  i0 := by kernel_rfl
  i2 := by kernel_rfl
  i3 := by kernel_rfl
  i4 := by kernel_rfl
  i5 := by kernel_rfl
  i9 := by kernel_rfl
  i20 := by kernel_rfl
  i21 := by kernel_rfl
  i37 := by kernel_rfl
  i46 := by kernel_rfl
  i51 := by kernel_rfl
  i53 := by kernel_rfl
  i75 := by kernel_rfl
  i76 := by kernel_rfl
  i80 := by kernel_rfl
  i85 := by kernel_rfl
  i127 := by kernel_rfl
  i143 := by kernel_rfl
  i145 := by kernel_rfl
  i167 := by kernel_rfl
  i168 := by kernel_rfl
  i171 := by kernel_rfl
  i173 := by kernel_rfl
  i175 := by kernel_rfl
  i210 := by kernel_rfl
  i212 := by kernel_rfl
  i232 := by kernel_rfl
  i233 := by kernel_rfl
  m15 := by kernel_rfl
  m16 := by kernel_rfl
  m17 := by kernel_rfl
  m18 := by kernel_rfl
  m19 := by kernel_rfl
  c0 := by kernel_rfl
  c2 := by kernel_rfl
  c3 := by kernel_rfl
  c4 := by kernel_rfl
  c5 := by kernel_rfl
  c9 := by kernel_rfl
  c20 := by kernel_rfl
  c21 := by kernel_rfl
  c37 := by kernel_rfl
  c46 := by kernel_rfl
  c51 := by kernel_rfl
  c53 := by kernel_rfl
  c75 := by kernel_rfl
  c76 := by kernel_rfl
  c80 := by kernel_rfl
  c85 := by kernel_rfl
  c127 := by kernel_rfl
  c143 := by kernel_rfl
  c145 := by kernel_rfl
  c167 := by kernel_rfl
  c168 := by kernel_rfl
  c171 := by kernel_rfl
  c173 := by kernel_rfl
  c175 := by kernel_rfl
  c210 := by kernel_rfl
  c212 := by kernel_rfl
  c213 := by kernel_rfl
  c232 := by kernel_rfl
  c233 := by kernel_rfl }
open Go.RowKit in
theorem Tryz.strconv_Atoi_ok (s : ByteArray) (hmax : s.size ≤ 9223372036854775806) (v : Int) (h : Lib.atoiAll s.data.toList = .ok v) (w : World) :
    Calls Tryz.prog 26 #[.string s] w fun e w' => e = .returned (.tuple #[.int .i64 v, .nilIface]) ∧ (w' = w ∨ ∃ t, w' = Lib.bytesWorld w 5 t) := Any.strconv_Atoi_ok Tryz.laysC172 s hmax v h w
end Go.Proofs
namespace Go.Proofs.YtpklcnpmppaaoaaGreatDoor.Print
open Go.RowKit Go.Proofs.YtpklcnpmppaaoaaGreatDoorW.PrintWords Go.Proofs.YtpklcnpmppaaoaaGreatDoorW.PrintLast Go.Proofs.YtpklcnpmppaaoaaGreatDoorW.PrintMore
def atoiOf : Lib.NumEnd Int → Option Int
  | .ok v => some v
  | _ => none
def strconv_Atoi_26.f (a0 : ByteArray) : Option (Int × Option Int) := if a0.size ≤ 1000000 then (atoiOf (Lib.atoiAll a0.data.toList)).map fun v => (v, none) else none
theorem strconv_Atoi_26.calls (a0 : ByteArray) (r1 : Int) (r2 : Option Int) (w : World) (h : strconv_Atoi_26.f a0 = some (r1, r2)) :
    Calls Tryz.prog 26 #[.string a0] w fun e w' => e = .returned (.tuple #[.int .i64 r1, errW r2]) ∧ Below w.heap.size w w' := by
  unfold strconv_Atoi_26.f at h
  by_cases c : a0.size ≤ 1000000
  · rw [if_pos c] at h
    obtain ⟨v, hv, h⟩ := Option.map_eq_some_iff.1 h
    simp only [Prod.mk.injEq] at h
    obtain ⟨rfl, rfl⟩ := h
    have h2 : Lib.atoiAll a0.data.toList = .ok v := by
      cases hq : Lib.atoiAll a0.data.toList <;> simp_all [atoiOf]
    refine (Tryz.strconv_Atoi_ok a0 (by omega) v h2 w).mono ?_
    rintro e w' ⟨he, hw⟩
    refine ⟨he, ?_⟩
    rcases hw with rfl | ⟨t, rfl⟩
    · exact Below.refl _ _
    · exact bytes_below (Below.refl _ _) (Nat.le_refl _) _ _
  · rw [if_neg c] at h; cases h
end Go.Proofs.YtpklcnpmppaaoaaGreatDoor.Print
namespace Go.Proofs.YtpklcnpmppaaoaaGreatDoor.Print
open Go.RowKit Go.Proofs.YtpklcnpmppaaoaaGreatDoorW.PrintWords
def strings_Compare.f (a0 a1 : ByteArray) : Option Int := some (Lib.compareBytes a0.data.toList a1.data.toList)
theorem strings_Compare.calls (a0 a1 : ByteArray) (r : Int) (w : World) (h : strings_Compare.f a0 a1 = some r) :
    Calls Tryz.prog 28 #[.string a0, .string a1] w fun e w' => e = .returned (.int .i64 r) ∧ Drawn0 w w' := by
  obtain rfl := Option.some.inj h
  refine (Tryz.strings_Compare a0 a1 w).mono ?_
  rintro e w' ⟨he, rfl⟩
  exact ⟨he, Drawn0.refl _⟩
end Go.Proofs.YtpklcnpmppaaoaaGreatDoor.Print
namespace Go.Proofs.YtpklcnpmppaaoaaGreatDoor.Print
open Go.RowKit Go.Proofs.YtpklcnpmppaaoaaGreatDoorW.PrintWords Go.Proofs.YtpklcnpmppaaoaaGreatDoorW.PrintLast Go.Proofs.YtpklcnpmppaaoaaGreatDoorW.PrintMore
attribute [local go_sem] max2_int min2_int max_two min_two max_three min_three max_four min_four
set_option linter.unusedVariables false
set_option linter.unusedSimpArgs false
def cmp_isNaN_int.f (a0 : Int) : Option (Bool) := some (a0 != a0)
set_option maxHeartbeats 8000000 in
set_option maxRecDepth 100000 in
theorem cmp_isNaN_int.calls (a0 : Int) (r : Bool) (w : World) (h : cmp_isNaN_int.f a0 = some r) :
  Calls Tryz.prog 52 #[.int .i64 a0] w fun e w' => e = .returned (.bool r) ∧ Drawn0 w w' := by
 have H : (some (a0 != a0)) = some r := h
 clear h
 obtain rfl := Option.some.inj H
 go_enter Tryz.func52, Tryz.ntmps52
 go_wp2
 go_ret
 exact ⟨ap2, ap7⟩
def cmp_Compare_int.f (a0 : Int) (a1 : Int) : Option (Int) := (cmp_isNaN_int.f a0).bind fun t414 => ((cmp_isNaN_int.f a1).bind fun t415 => (if t414 = true then (if t415 = true then (some 0) else (some (-1))) else (if t415 = true then (some 1) else (if a0 < a1 then (some (-1)) else (if a0 > a1 then (some 1) else (some 0))))))
set_option maxHeartbeats 8000000 in
set_option maxRecDepth 100000 in
theorem cmp_Compare_int.calls (a0 : Int) (a1 : Int) (r : Int) (w : World) (h : cmp_Compare_int.f a0 a1 = some r) :
  Calls Tryz.prog 27 #[.int .i64 a0, .int .i64 a1] w fun e w' => e = .returned (.int .i64 r) ∧ Drawn0 w w' := by
 have H : ((cmp_isNaN_int.f a0).bind fun t414 => ((cmp_isNaN_int.f a1).bind fun t415 => (if t414 = true then (if t415 = true then (some 0) else (some (-1))) else (if t415 = true then (some 1) else (if a0 < a1 then (some (-1)) else (if a0 > a1 then (some 1) else (some 0))))))) = some r := h
 clear h
 replace H := Option.bind_eq_some_iff.mp H
 obtain ⟨t414, A30, H⟩ := H
 replace H : ((cmp_isNaN_int.f a1).bind fun t415 => (if t414 = true then (if t415 = true then (some 0) else (some (-1))) else (if t415 = true then (some 1) else (if a0 < a1 then (some (-1)) else (if a0 > a1 then (some 1) else (some 0)))))) = some r := H
 have A3 := Aside0.mk A30
 clear A30
 replace H := Option.bind_eq_some_iff.mp H
 obtain ⟨t415, A40, H⟩ := H
 replace H : (if t414 = true then (if t415 = true then (some 0) else (some (-1))) else (if t415 = true then (some 1) else (if a0 < a1 then (some (-1)) else (if a0 > a1 then (some 1) else (some 0))))) = some r := H
 have A4 := Aside0.mk A40
 clear A40
 by_cases c5 : t414 = true
 ·
  subst c5
  rw [if_pos rfl] at H
  by_cases c6 : t415 = true
  ·
   subst c6
   rw [if_pos rfl] at H
   obtain rfl := Option.some.inj H
   go_enter Tryz.func27, Tryz.ntmps27
   go_wp2_with (first | ((with_reducible refine gate_callee (f := 52) rfl ?_); refine goesL_ (some 8) rfl rfl Tryz.func52 (by kernel_rfl) rfl #[.int .i64 a0] rfl ap3 ?_; (with_reducible refine (cmp_isNaN_int.calls a0 true _ A3.out).mono ?_); rintro e w' ⟨rfl, ⟨nd, rfl⟩⟩; refine ⟨_, rfl, ?_⟩) | ((with_reducible refine gate_callee (f := 52) rfl ?_); refine goesL_ (some 10) rfl rfl Tryz.func52 (by kernel_rfl) rfl #[.int .i64 a1] rfl ap3 ?_; (with_reducible refine (cmp_isNaN_int.calls a1 true _ A4.out).mono ?_); rintro e w' ⟨rfl, ⟨nd, rfl⟩⟩; refine ⟨_, rfl, ?_⟩))
   go_ret
   exact ⟨ap2, ap7⟩
  ·
   replace c6 := Bool.eq_false_iff.mpr c6
   subst c6
   rw [if_neg (show ¬ (false = true) by decide)] at H
   obtain rfl := Option.some.inj H
   go_enter Tryz.func27, Tryz.ntmps27
   go_wp2_with (first | ((with_reducible refine gate_callee (f := 52) rfl ?_); refine goesL_ (some 8) rfl rfl Tryz.func52 (by kernel_rfl) rfl #[.int .i64 a0] rfl ap3 ?_; (with_reducible refine (cmp_isNaN_int.calls a0 true _ A3.out).mono ?_); rintro e w' ⟨rfl, ⟨nd, rfl⟩⟩; refine ⟨_, rfl, ?_⟩) | ((with_reducible refine gate_callee (f := 52) rfl ?_); refine goesL_ (some 10) rfl rfl Tryz.func52 (by kernel_rfl) rfl #[.int .i64 a1] rfl ap3 ?_; (with_reducible refine (cmp_isNaN_int.calls a1 false _ A4.out).mono ?_); rintro e w' ⟨rfl, ⟨nd, rfl⟩⟩; refine ⟨_, rfl, ?_⟩))
   go_ret
   exact ⟨ap2, ap7⟩
 ·
  replace c5 := Bool.eq_false_iff.mpr c5
  subst c5
  rw [if_neg (show ¬ (false = true) by decide)] at H
  by_cases c7 : t415 = true
  ·
   subst c7
   rw [if_pos rfl] at H
   obtain rfl := Option.some.inj H
   go_enter Tryz.func27, Tryz.ntmps27
   go_wp2_with (first | ((with_reducible refine gate_callee (f := 52) rfl ?_); refine goesL_ (some 8) rfl rfl Tryz.func52 (by kernel_rfl) rfl #[.int .i64 a0] rfl ap3 ?_; (with_reducible refine (cmp_isNaN_int.calls a0 false _ A3.out).mono ?_); rintro e w' ⟨rfl, ⟨nd, rfl⟩⟩; refine ⟨_, rfl, ?_⟩) | ((with_reducible refine gate_callee (f := 52) rfl ?_); refine goesL_ (some 10) rfl rfl Tryz.func52 (by kernel_rfl) rfl #[.int .i64 a1] rfl ap3 ?_; (with_reducible refine (cmp_isNaN_int.calls a1 true _ A4.out).mono ?_); rintro e w' ⟨rfl, ⟨nd, rfl⟩⟩; refine ⟨_, rfl, ?_⟩))
   go_ret
   exact ⟨ap2, ap7⟩
  ·
   replace c7 := Bool.eq_false_iff.mpr c7
   subst c7
   rw [if_neg (show ¬ (false = true) by decide)] at H
   by_cases c8 : a0 < a1
   ·
    rw [if_pos c8] at H
    have c8b0 := decide_eq_true c8
    clear c8
    obtain rfl := Option.some.inj H
    go_enter Tryz.func27, Tryz.ntmps27
    go_wp2_with (first | ((with_reducible refine gate_callee (f := 52) rfl ?_); refine goesL_ (some 8) rfl rfl Tryz.func52 (by kernel_rfl) rfl #[.int .i64 a0] rfl ap3 ?_; (with_reducible refine (cmp_isNaN_int.calls a0 false _ A3.out).mono ?_); rintro e w' ⟨rfl, ⟨nd, rfl⟩⟩; refine ⟨_, rfl, ?_⟩) | ((with_reducible refine gate_callee (f := 52) rfl ?_); refine goesL_ (some 10) rfl rfl Tryz.func52 (by kernel_rfl) rfl #[.int .i64 a1] rfl ap3 ?_; (with_reducible refine (cmp_isNaN_int.calls a1 false _ A4.out).mono ?_); rintro e w' ⟨rfl, ⟨nd, rfl⟩⟩; refine ⟨_, rfl, ?_⟩))
    go_ret
    exact ⟨ap2, ap7⟩
   ·
    rw [if_neg c8] at H
    have c8b0 := decide_eq_false c8
    clear c8
    by_cases c9 : a0 > a1
    ·
     rw [if_pos c9] at H
     have c9b0 := decide_eq_true c9
     clear c9
     obtain rfl := Option.some.inj H
     go_enter Tryz.func27, Tryz.ntmps27
     go_wp2_with (first | ((with_reducible refine gate_callee (f := 52) rfl ?_); refine goesL_ (some 8) rfl rfl Tryz.func52 (by kernel_rfl) rfl #[.int .i64 a0] rfl ap3 ?_; (with_reducible refine (cmp_isNaN_int.calls a0 false _ A3.out).mono ?_); rintro e w' ⟨rfl, ⟨nd, rfl⟩⟩; refine ⟨_, rfl, ?_⟩) | ((with_reducible refine gate_callee (f := 52) rfl ?_); refine goesL_ (some 10) rfl rfl Tryz.func52 (by kernel_rfl) rfl #[.int .i64 a1] rfl ap3 ?_; (with_reducible refine (cmp_isNaN_int.calls a1 false _ A4.out).mono ?_); rintro e w' ⟨rfl, ⟨nd, rfl⟩⟩; refine ⟨_, rfl, ?_⟩))
     go_ret
     exact ⟨ap2, ap7⟩
    ·
     rw [if_neg c9] at H
     have c9b0 := decide_eq_false c9
     clear c9
     obtain rfl := Option.some.inj H
     go_enter Tryz.func27, Tryz.ntmps27
     go_wp2_with (first | ((with_reducible refine gate_callee (f := 52) rfl ?_); refine goesL_ (some 8) rfl rfl Tryz.func52 (by kernel_rfl) rfl #[.int .i64 a0] rfl ap3 ?_; (with_reducible refine (cmp_isNaN_int.calls a0 false _ A3.out).mono ?_); rintro e w' ⟨rfl, ⟨nd, rfl⟩⟩; refine ⟨_, rfl, ?_⟩) | ((with_reducible refine gate_callee (f := 52) rfl ?_); refine goesL_ (some 10) rfl rfl Tryz.func52 (by kernel_rfl) rfl #[.int .i64 a1] rfl ap3 ?_; (with_reducible refine (cmp_isNaN_int.calls a1 false _ A4.out).mono ?_); rintro e w' ⟨rfl, ⟨nd, rfl⟩⟩; refine ⟨_, rfl, ?_⟩))
     go_ret
     exact ⟨ap2, ap7⟩
def attr_Order.j0 : Nat → ByteArray → ByteArray → ByteArray → Int → Bool → Option (Int × Int)
 | 0, _, _, _, _, _ => none
 | k + 1, x1, x2, x417000, x417001, x417002 => (attr_both.f k x417000 x417001 x417002 x1 x2).bind fun bt417 => (if bt417.2.2 = 0 then (if x417001 = 4 then ((strconv_Atoi_26.f bt417.1).bind fun bt420 => ((strconv_Atoi_26.f bt417.2.1).bind fun bt422 => ((cmp_Compare_int.f bt420.1 bt422.1).bind fun t424 => (some (t424, 0))))) else ((strings_Compare.f bt417.1 bt417.2.1).bind fun t425 => (some (t425, 0)))) else (some (0, bt417.2.2)))
def attr_Order.f (k : Nat) (a0_0 : ByteArray) (a0_1 : Int) (a0_2 : Bool) (a1 : ByteArray) (a2 : ByteArray) : Option (Int × Int) := if a0_1 = 1 then (attr_Order.j0 k a1 a2 a0_0 a0_1 a0_2) else (if a0_1 = 2 then (attr_Order.j0 k a1 a2 a0_0 a0_1 a0_2) else (if a0_1 = 4 then (attr_Order.j0 k a1 a2 a0_0 a0_1 a0_2) else (some (0, 20))))
theorem attr_Order.mono_l : ∀ k, (∀ y0 y1 y2 y3 y4, LeO (attr_Order.j0 k y0 y1 y2 y3 y4) (attr_Order.j0 (k + 1) y0 y1 y2 y3 y4))
 | 0 => fun _ _ _ _ _ r h => by simp [attr_Order.j0] at h
 | k + 1 => by
  have ih0 := attr_Order.mono_l k
  ·
   intro y0 y1 y2 y3 y4
   unfold attr_Order.j0
   repeat' first
   | (with_reducible exact ih0 _ _ _ _ _)
   | (with_reducible exact attr_both.mono _ _ _ _ _ _)
   | (with_reducible exact LeO.refl _)
   | (with_reducible exact LeO.none _)
   | (with_reducible refine LeO.ite ?_ ?_)
   | (with_reducible refine LeO.bind ?_ (fun _ => ?_))
theorem attr_Order.mono : ∀ a0 a1 a2 a3 a4 k, LeO (attr_Order.f k a0 a1 a2 a3 a4) (attr_Order.f (k + 1) a0 a1 a2 a3 a4) := by
 intro a0 a1 a2 a3 a4 k
 have ih0 := attr_Order.mono_l k
 unfold attr_Order.f
 repeat' first
   | (with_reducible exact ih0 _ _ _ _ _)
   | (with_reducible exact attr_both.mono _ _ _ _ _ _)
   | (with_reducible exact LeO.refl _)
   | (with_reducible exact LeO.none _)
   | (with_reducible refine LeO.ite ?_ ?_)
   | (with_reducible refine LeO.bind ?_ (fun _ => ?_))
set_option maxHeartbeats 8000000 in
set_option maxRecDepth 100000 in
theorem attr_Order.calls (k : Nat) (a0_0 : ByteArray) (a0_1 : Int) (a0_2 : Bool) (a1 : ByteArray) (a2 : ByteArray) (r1 : Int) (r2 : Int) (w : World) (hG : Gw w) (h : attr_Order.f k a0_0 a0_1 a0_2 a1 a2 = some (r1, r2)) :
  Calls Tryz.prog 12 #[.agg #[.string a0_0, .int .i64 a0_1, .bool a0_2], .string a1, .string a2] w fun e w' => e = .returned (.tuple #[.int .i64 r1, .int .i64 r2]) ∧ Below w.heap.size w w' := by
 have hu23 := Tryz.underlying23
 have HB := Aside0.mk (Below.refl w.heap.size w)
 have HG := Aside0.mk hG
 clear hG
 have H : (if a0_1 = 1 then (attr_Order.j0 k a1 a2 a0_0 a0_1 a0_2) else (if a0_1 = 2 then (attr_Order.j0 k a1 a2 a0_0 a0_1 a0_2) else (if a0_1 = 4 then (attr_Order.j0 k a1 a2 a0_0 a0_1 a0_2) else (some (0, 20))))) = some (r1, r2) := h
 clear h
 have HC4 := Aside0.mk H
 clear H
 go_enter Tryz.func12, Tryz.ntmps12
 go_upto_block 0 with (first | ((with_reducible refine gate_dst (N := 3) rfl ?_); refine box_event ?hg (N := 3) ?hd (cs := #[.string a0_0, .int .i64 a0_1, .bool a0_2]) (t := 23) ?hr ?_; (case hd => rfl); (case hg => rfl); (case hr => first | (go_simp; done) | (go_simp; rfl)); intro gb416 hg w5 hbox hb; have n0_ := Aside0.mk (below_step ap1 hb); have n1_ := Aside0.mk (hbox); have n2_ := Aside0.mk ((by rw [hg]; exact (below_size ap1) : w.heap.size ≤ gb416)); have n3_ := Aside0.mk ((by rw [hg]; exact (below_size ap1) : w.heap.size ≤ gb416)); clear HB; have HB := n0_; have BK416 := n1_; have GW416 := n2_; have GE416 := n3_; clear n0_ n1_ n2_ n3_; clear hb hbox hg; have hcz6_0 : w5.cell? ⟨gb416, 0, none⟩ = some (.string a0_0) := (blk_cell BK416.out 0).trans rfl; have hcz6_1 : w5.cell? ⟨gb416, 1, none⟩ = some (.int .i64 a0_1) := (blk_cell BK416.out 1).trans rfl; have hcz6_2 : w5.cell? ⟨gb416, 2, none⟩ = some (.bool a0_2) := (blk_cell BK416.out 2).trans rfl; have hfz6_0 := blk_frozen BK416.out 0; have hfz6_1 := blk_frozen BK416.out 1; have hfz6_2 := blk_frozen BK416.out 2))
 (try simp only [Act.put, List.setIfInBounds_toArray, List.set_cons_zero, List.set_cons_succ])
 go_cut [] (fun wc => ∃ (kq : Nat), Aside0 (attr_Order.j0 kq a1 a2 a0_0 a0_1 a0_2 = some (r1, r2)) ∧ Aside0 (kq ≤ k) ∧ Aside0 (wc.heap[gb416]? = some (.cells #[.string a0_0, .int .i64 a0_1, .bool a0_2] 23 (0, 0))) ∧ Aside0 (Below w.heap.size w wc))
 case first =>
  have H := HC4.out
  clear HC4
  by_cases c7 : a0_1 = 1
  ·
   rw [if_pos c7] at H
   have c7b0 : (a0_1 == 1) = true := beq_iff_eq.mpr c7
   have c7b1 : (a0_1 != 1) = false := bne_eq_false_iff_eq.mpr c7
   clear c7
   (first | rw [c7b0] | (simp only [i64_w, i32_w]; rw [c7b0]) | skip)
   have H' := Aside0.mk H
   clear H
   go_wp2
   first | go_meet | (simp only [c7b0] at *; go_meet)
   case rel => exact ⟨_, H', ⟨by first | omega | exact Nat.le_refl _⟩, ⟨by (with_reducible repeat (first | refine blk_drewN ?_ _ | refine blk_drew ?_ | refine blk_alloc ?_ _)); exact BK416.out⟩, ⟨by repeat (first | (with_reducible first | exact HB.out | apply below_alloc | apply pw_below_drewN | apply below_drew1 | refine below_set ?_ GE416.out) | exact HB.out)⟩⟩
  ·
   rw [if_neg c7] at H
   have c7b0 : (a0_1 == 1) = false := beq_eq_false_iff_ne.mpr c7
   have c7b1 : (a0_1 != 1) = true := bne_iff_ne.mpr c7
   (first | rw [c7b0] | (simp only [i64_w, i32_w]; rw [c7b0]) | skip)
   by_cases c8 : a0_1 = 2
   ·
    rw [if_pos c8] at H
    have c8b0 : (a0_1 == 2) = true := beq_iff_eq.mpr c8
    have c8b1 : (a0_1 != 2) = false := bne_eq_false_iff_eq.mpr c8
    clear c8
    have H' := Aside0.mk H
    clear H
    go_wp2
    first | go_meet | (simp only [c8b0] at *; go_meet) | (simp only [c7b0] at *; go_meet) | (simp only [c7b0] at *; go_meet)
    case rel => exact ⟨_, H', ⟨by first | omega | exact Nat.le_refl _⟩, ⟨by (with_reducible repeat (first | refine blk_drewN ?_ _ | refine blk_drew ?_ | refine blk_alloc ?_ _)); exact BK416.out⟩, ⟨by repeat (first | (with_reducible first | exact HB.out | apply below_alloc | apply pw_below_drewN | apply below_drew1 | refine below_set ?_ GE416.out) | exact HB.out)⟩⟩
   ·
    rw [if_neg c8] at H
    have c8b0 : (a0_1 == 2) = false := beq_eq_false_iff_ne.mpr c8
    have c8b1 : (a0_1 != 2) = true := bne_iff_ne.mpr c8
    by_cases c9 : a0_1 = 4
    ·
     rw [if_pos c9] at H
     have c9b0 : (a0_1 == 4) = true := beq_iff_eq.mpr c9
     have c9b1 : (a0_1 != 4) = false := bne_eq_false_iff_eq.mpr c9
     clear c9
     have H' := Aside0.mk H
     clear H
     go_wp2
     first | go_meet | (simp only [c9b0] at *; go_meet) | (simp only [c8b0] at *; go_meet) | (simp only [c8b0] at *; go_meet)
     case rel => exact ⟨_, H', ⟨by first | omega | exact Nat.le_refl _⟩, ⟨by (with_reducible repeat (first | refine blk_drewN ?_ _ | refine blk_drew ?_ | refine blk_alloc ?_ _)); exact BK416.out⟩, ⟨by repeat (first | (with_reducible first | exact HB.out | apply below_alloc | apply pw_below_drewN | apply below_drew1 | refine below_set ?_ GE416.out) | exact HB.out)⟩⟩
    ·
     rw [if_neg c9] at H
     have c9b0 : (a0_1 == 4) = false := beq_eq_false_iff_ne.mpr c9
     have c9b1 : (a0_1 != 4) = true := bne_iff_ne.mpr c9
     simp only [Option.some.injEq, Prod.mk.injEq] at H
     obtain ⟨rfl, rfl⟩ := H
     go_wp2
     go_ret2
     exact ⟨by first | rfl | (simp [errW_none, errW_some, bne_nil8, beq_nil8]; done) | (simp [errW_none, errW_some] <;> rfl) | (simp [*, errW_none, errW_some] <;> rfl), by repeat (first | (with_reducible first | exact HB.out | apply below_alloc | apply pw_below_drewN | apply below_drew1 | refine below_set ?_ GE416.out) | exact HB.out)⟩
 case rest =>
  clear HC4
  try clear c1
  try clear p2
  try clear c7
  try clear c7b0
  try clear c7b1
  try clear c8
  try clear c8b0
  try clear c8b1
  try clear c9
  try clear c9b0
  try clear c9b1
  try clear hcz6_0
  try clear hcz6_1
  try clear hcz6_2
  try clear hfz6_0
  try clear hfz6_1
  try clear hfz6_2
  obtain ⟨kq, HA, HJ3, BK416, HB⟩ := hcut
  cases kq with
  | zero => exact absurd HA.out (by simp [attr_Order.j0])
  | succ kj3 =>
   have H := HA.out
   clear HA
   simp only [attr_Order.j0] at H
   replace H := Option.bind_eq_some_iff.mp H
   obtain ⟨⟨t417, t418, t419⟩, A100, H⟩ := H
   replace H : (if t419 = 0 then (if a0_1 = 4 then ((strconv_Atoi_26.f t417).bind fun bt420 => ((strconv_Atoi_26.f t418).bind fun bt422 => ((cmp_Compare_int.f bt420.1 bt422.1).bind fun t424 => (some (t424, 0))))) else ((strings_Compare.f t417 t418).bind fun t425 => (some (t425, 0)))) else (some (0, t419))) = some (r1, r2) := H
   have A10 := Aside0.mk A100
   clear A100
   by_cases c11 : t419 = 0
   ·
    rw [if_pos c11] at H
    have c11b0 : (t419 == 0) = true := beq_iff_eq.mpr c11
    have c11b1 : (t419 != 0) = false := bne_eq_false_iff_eq.mpr c11
    clear c11
    by_cases c12 : a0_1 = 4
    ·
     rw [if_pos c12] at H
     have c12b0 : (a0_1 == 4) = true := beq_iff_eq.mpr c12
     have c12b1 : (a0_1 != 4) = false := bne_eq_false_iff_eq.mpr c12
     clear c12
     replace H := Option.bind_eq_some_iff.mp H
     obtain ⟨⟨t420, t421⟩, A130, H⟩ := H
     replace H : ((strconv_Atoi_26.f t418).bind fun bt422 => ((cmp_Compare_int.f t420 bt422.1).bind fun t424 => (some (t424, 0)))) = some (r1, r2) := H
     have A13 := Aside0.mk A130
     clear A130
     replace H := Option.bind_eq_some_iff.mp H
     obtain ⟨⟨t422, t423⟩, A140, H⟩ := H
     replace H : ((cmp_Compare_int.f t420 t422).bind fun t424 => (some (t424, 0))) = some (r1, r2) := H
     have A14 := Aside0.mk A140
     clear A140
     replace H := Option.bind_eq_some_iff.mp H
     obtain ⟨t424, A150, H⟩ := H
     replace H : (some (t424, 0)) = some (r1, r2) := H
     have A15 := Aside0.mk A150
     clear A150
     simp only [Option.some.injEq, Prod.mk.injEq] at H
     obtain ⟨rfl, rfl⟩ := H
     have hcz16_0 : wc.cell? ⟨gb416, 0, none⟩ = some (.string a0_0) := (blk_cell BK416.out 0).trans rfl
     have hcz16_1 : wc.cell? ⟨gb416, 1, none⟩ = some (.int .i64 a0_1) := (blk_cell BK416.out 1).trans rfl
     have hcz16_2 : wc.cell? ⟨gb416, 2, none⟩ = some (.bool a0_2) := (blk_cell BK416.out 2).trans rfl
     have hfz16_0 := blk_frozen BK416.out 0
     have hfz16_1 := blk_frozen BK416.out 1
     have hfz16_2 := blk_frozen BK416.out 2
     go_wp2_with (first | ((with_reducible refine gate_callee (f := 25) rfl ?_); refine goesL_ (some 25) rfl rfl Tryz.func25 (by kernel_rfl) rfl #[.agg #[.string a0_0, .int .i64 a0_1, .bool a0_2], .string a1, .string a2] rfl ap3 ?_; (with_reducible refine (attr_both.calls kj3 a0_0 a0_1 a0_2 a1 a2 t417 t418 t419 _ ?side1 A10.out).mono ?_); (case side1 => first | exact HG.out | (refine Gw.below HG.out ?_; repeat (first | (with_reducible first | exact HB.out | apply below_alloc | apply pw_below_drewN | apply below_drew1 | refine below_set ?_ GE416.out) | exact HB.out))); rintro e w17 ⟨rfl, hb⟩; refine ⟨_, rfl, ?_⟩; have n0_ := Aside0.mk (blk_below (g := gb416) (o := .cells #[.string a0_0, .int .i64 a0_1, .bool a0_2] 23 (0, 0)) (apB BK416.out) hb); have n1_ := Aside0.mk (below_step (apG GE416.out) hb); clear BK416; clear HB; have BK416 := n0_; have HB := n1_; clear n0_ n1_; (try clear hb); (try clear hb2); (try clear hk); (try clear hi); have hcz18_0 : w17.cell? ⟨gb416, 0, none⟩ = some (.string a0_0) := (blk_cell BK416.out 0).trans rfl; have hcz18_1 : w17.cell? ⟨gb416, 1, none⟩ = some (.int .i64 a0_1) := (blk_cell BK416.out 1).trans rfl; have hcz18_2 : w17.cell? ⟨gb416, 2, none⟩ = some (.bool a0_2) := (blk_cell BK416.out 2).trans rfl; have hfz18_0 := blk_frozen BK416.out 0; have hfz18_1 := blk_frozen BK416.out 1; have hfz18_2 := blk_frozen BK416.out 2) | ((with_reducible refine gate_callee (f := 26) rfl ?_); refine goesL_ (some 37) rfl rfl Tryz.func26 (by kernel_rfl) rfl #[.string t417] rfl ap3 ?_; (with_reducible refine (strconv_Atoi_26.calls t417 t420 t421 _ A13.out).mono ?_); rintro e w19 ⟨rfl, hb⟩; refine ⟨_, rfl, ?_⟩; have n0_ := Aside0.mk (blk_below (g := gb416) (o := .cells #[.string a0_0, .int .i64 a0_1, .bool a0_2] 23 (0, 0)) (apB BK416.out) hb); have n1_ := Aside0.mk (below_step (apG GE416.out) hb); clear BK416; clear HB; have BK416 := n0_; have HB := n1_; clear n0_ n1_; (try clear hb); (try clear hb2); (try clear hk); (try clear hi); (try simp only [errW_none, errW_some])) | ((with_reducible refine gate_callee (f := 26) rfl ?_); refine goesL_ (some 42) rfl rfl Tryz.func26 (by kernel_rfl) rfl #[.string t418] rfl ap3 ?_; (with_reducible refine (strconv_Atoi_26.calls t418 t422 t423 _ A14.out).mono ?_); rintro e w20 ⟨rfl, hb⟩; refine ⟨_, rfl, ?_⟩; have n0_ := Aside0.mk (blk_below (g := gb416) (o := .cells #[.string a0_0, .int .i64 a0_1, .bool a0_2] 23 (0, 0)) (apB BK416.out) hb); have n1_ := Aside0.mk (below_step (apG GE416.out) hb); clear BK416; clear HB; have BK416 := n0_; have HB := n1_; clear n0_ n1_; (try clear hb); (try clear hb2); (try clear hk); (try clear hi); (try simp only [errW_none, errW_some])) | ((with_reducible refine gate_callee (f := 27) rfl ?_); refine goesL_ (some 47) rfl rfl Tryz.func27 (by kernel_rfl) rfl #[.int .i64 t420, .int .i64 t422] rfl ap3 ?_; (with_reducible refine (cmp_Compare_int.calls t420 t422 t424 _ A15.out).mono ?_); rintro e w' ⟨rfl, ⟨nd, rfl⟩⟩; refine ⟨_, rfl, ?_⟩))
     go_ret2
     exact ⟨by first | rfl | (simp [errW_none, errW_some, bne_nil8, beq_nil8]; done) | (simp [errW_none, errW_some] <;> rfl) | (simp [*, errW_none, errW_some] <;> rfl), by repeat (first | (with_reducible first | exact HB.out | apply below_alloc | apply pw_below_drewN | apply below_drew1 | refine below_set ?_ GE416.out) | exact HB.out)⟩
    ·
     rw [if_neg c12] at H
     have c12b0 : (a0_1 == 4) = false := beq_eq_false_iff_ne.mpr c12
     have c12b1 : (a0_1 != 4) = true := bne_iff_ne.mpr c12
     replace H := Option.bind_eq_some_iff.mp H
     obtain ⟨t425, A210, H⟩ := H
     replace H : (some (t425, 0)) = some (r1, r2) := H
     have A21 := Aside0.mk A210
     clear A210
     simp only [Option.some.injEq, Prod.mk.injEq] at H
     obtain ⟨rfl, rfl⟩ := H
     have hcz22_0 : wc.cell? ⟨gb416, 0, none⟩ = some (.string a0_0) := (blk_cell BK416.out 0).trans rfl
     have hcz22_1 : wc.cell? ⟨gb416, 1, none⟩ = some (.int .i64 a0_1) := (blk_cell BK416.out 1).trans rfl
     have hcz22_2 : wc.cell? ⟨gb416, 2, none⟩ = some (.bool a0_2) := (blk_cell BK416.out 2).trans rfl
     have hfz22_0 := blk_frozen BK416.out 0
     have hfz22_1 := blk_frozen BK416.out 1
     have hfz22_2 := blk_frozen BK416.out 2
     go_wp2_with (first | ((with_reducible refine gate_callee (f := 25) rfl ?_); refine goesL_ (some 25) rfl rfl Tryz.func25 (by kernel_rfl) rfl #[.agg #[.string a0_0, .int .i64 a0_1, .bool a0_2], .string a1, .string a2] rfl ap3 ?_; (with_reducible refine (attr_both.calls kj3 a0_0 a0_1 a0_2 a1 a2 t417 t418 t419 _ ?side1 A10.out).mono ?_); (case side1 => first | exact HG.out | (refine Gw.below HG.out ?_; repeat (first | (with_reducible first | exact HB.out | apply below_alloc | apply pw_below_drewN | apply below_drew1 | refine below_set ?_ GE416.out) | exact HB.out))); rintro e w23 ⟨rfl, hb⟩; refine ⟨_, rfl, ?_⟩; have n0_ := Aside0.mk (blk_below (g := gb416) (o := .cells #[.string a0_0, .int .i64 a0_1, .bool a0_2] 23 (0, 0)) (apB BK416.out) hb); have n1_ := Aside0.mk (below_step (apG GE416.out) hb); clear BK416; clear HB; have BK416 := n0_; have HB := n1_; clear n0_ n1_; (try clear hb); (try clear hb2); (try clear hk); (try clear hi); have hcz24_0 : w23.cell? ⟨gb416, 0, none⟩ = some (.string a0_0) := (blk_cell BK416.out 0).trans rfl; have hcz24_1 : w23.cell? ⟨gb416, 1, none⟩ = some (.int .i64 a0_1) := (blk_cell BK416.out 1).trans rfl; have hcz24_2 : w23.cell? ⟨gb416, 2, none⟩ = some (.bool a0_2) := (blk_cell BK416.out 2).trans rfl; have hfz24_0 := blk_frozen BK416.out 0; have hfz24_1 := blk_frozen BK416.out 1; have hfz24_2 := blk_frozen BK416.out 2) | ((with_reducible refine gate_callee (f := 28) rfl ?_); refine goesL_ (some 50) rfl rfl Tryz.func28 (by kernel_rfl) rfl #[.string t417, .string t418] rfl ap3 ?_; (with_reducible refine (strings_Compare.calls t417 t418 t425 _ A21.out).mono ?_); rintro e w' ⟨rfl, ⟨nd, rfl⟩⟩; refine ⟨_, rfl, ?_⟩))
     go_ret2
     exact ⟨by first | rfl | (simp [errW_none, errW_some, bne_nil8, beq_nil8]; done) | (simp [errW_none, errW_some] <;> rfl) | (simp [*, errW_none, errW_some] <;> rfl), by repeat (first | (with_reducible first | exact HB.out | apply below_alloc | apply pw_below_drewN | apply below_drew1 | refine below_set ?_ GE416.out) | exact HB.out)⟩
   ·
    rw [if_neg c11] at H
    have c11b0 : (t419 == 0) = false := beq_eq_false_iff_ne.mpr c11
    have c11b1 : (t419 != 0) = true := bne_iff_ne.mpr c11
    simp only [Option.some.injEq, Prod.mk.injEq] at H
    obtain ⟨rfl, rfl⟩ := H
    have hcz25_0 : wc.cell? ⟨gb416, 0, none⟩ = some (.string a0_0) := (blk_cell BK416.out 0).trans rfl
    have hcz25_1 : wc.cell? ⟨gb416, 1, none⟩ = some (.int .i64 a0_1) := (blk_cell BK416.out 1).trans rfl
    have hcz25_2 : wc.cell? ⟨gb416, 2, none⟩ = some (.bool a0_2) := (blk_cell BK416.out 2).trans rfl
    have hfz25_0 := blk_frozen BK416.out 0
    have hfz25_1 := blk_frozen BK416.out 1
    have hfz25_2 := blk_frozen BK416.out 2
    go_wp2_with (first | ((with_reducible refine gate_callee (f := 25) rfl ?_); refine goesL_ (some 25) rfl rfl Tryz.func25 (by kernel_rfl) rfl #[.agg #[.string a0_0, .int .i64 a0_1, .bool a0_2], .string a1, .string a2] rfl ap3 ?_; (with_reducible refine (attr_both.calls kj3 a0_0 a0_1 a0_2 a1 a2 t417 t418 t419 _ ?side1 A10.out).mono ?_); (case side1 => first | exact HG.out | (refine Gw.below HG.out ?_; repeat (first | (with_reducible first | exact HB.out | apply below_alloc | apply pw_below_drewN | apply below_drew1 | refine below_set ?_ GE416.out) | exact HB.out))); rintro e w26 ⟨rfl, hb⟩; refine ⟨_, rfl, ?_⟩; have n0_ := Aside0.mk (blk_below (g := gb416) (o := .cells #[.string a0_0, .int .i64 a0_1, .bool a0_2] 23 (0, 0)) (apB BK416.out) hb); have n1_ := Aside0.mk (below_step (apG GE416.out) hb); clear BK416; clear HB; have BK416 := n0_; have HB := n1_; clear n0_ n1_; (try clear hb); (try clear hb2); (try clear hk); (try clear hi)))
    go_ret2
    exact ⟨by first | rfl | (simp [errW_none, errW_some, bne_nil8, beq_nil8]; done) | (simp [errW_none, errW_some] <;> rfl) | (simp [*, errW_none, errW_some] <;> rfl), by repeat (first | (with_reducible first | exact HB.out | apply below_alloc | apply pw_below_drewN | apply below_drew1 | refine below_set ?_ GE416.out) | exact HB.out)⟩
end Go.Proofs.YtpklcnpmppaaoaaGreatDoor.Print
namespace Go.Proofs.YtpklcnpmppaaoaaGreatDoor.Print
open Go.RowKit Go.Proofs.YtpklcnpmppaaoaaGreatDoorW.PrintWords Go.Proofs.YtpklcnpmppaaoaaGreatDoorW.PrintLast Go.Proofs.YtpklcnpmppaaoaaGreatDoorW.PrintMore Go.Proofs.YtpklcnpmppaaoaaGreatDoor.Pure
set_option linter.unusedVariables false
set_option linter.unusedSimpArgs false
def dig1 (a : Nat) (c : UInt8) : Nat := a * 10 + (c.toNat - 48)
def dval (a : Nat) (l : List UInt8) : Nat := l.foldl dig1 a
def worthOf : List UInt8 → Int
  | [] => 0
  | c :: r => if c = 45 then -(dval 0 r : Int) else (dval 0 (c :: r) : Int)
theorem digs_cons {c : UInt8} {r : List UInt8} : digs (c :: r) = true ↔ (48 ≤ c.toNat ∧ c.toNat ≤ 57) ∧ digs r = true := by
  unfold digs; rw [List.all_cons, Bool.and_eq_true, decide_eq_true_iff]
theorem dval_cons (a : Nat) (c : UInt8) (r : List UInt8) : dval a (c :: r) = dval (a * 10 + (c.toNat - 48)) r := by
  unfold dval
  rw [List.foldl_cons, dig1]
theorem dval_nil (a : Nat) : dval a [] = a := by unfold dval; rw [List.foldl_nil]
theorem dval_lt : ∀ (l : List UInt8) (a : Nat), digs l = true → dval a l < (a + 1) * 10 ^ l.length
  | [], a, _ => by rw [dval_nil]; simp
  | c :: r, a, h => by
    obtain ⟨⟨h1, h2⟩, h3⟩ := digs_cons.1 h
    have ih := dval_lt r (a * 10 + (c.toNat - 48)) h3
    rw [dval_cons, List.length_cons, Nat.pow_succ]
    have h4 : (a * 10 + (c.toNat - 48) + 1) * 10 ^ r.length ≤ ((a + 1) * 10) * 10 ^ r.length := Nat.mul_le_mul_right _ (by omega)
    have h5 : (a + 1) * (10 ^ r.length * 10) = ((a + 1) * 10) * 10 ^ r.length := by rw [Nat.mul_comm (10 ^ r.length) 10, Nat.mul_assoc]
    omega
theorem uint_digs : ∀ (l : List UInt8) (a : Nat), digs l = true → (a + 1) * 10 ^ l.length ≤ 1000000000000000000 → Lib.parseUint10 a l = .ok (dval a l)
  | [], a, _, _ => by rw [dval_nil]; rfl
  | c :: r, a, h, hb => by
    obtain ⟨⟨h1, h2⟩, h3⟩ := digs_cons.1 h
    rw [List.length_cons, Nat.pow_succ, Nat.mul_comm (10 ^ r.length) 10, ← Nat.mul_assoc] at hb
    have hp : 1 ≤ 10 ^ r.length := Nat.one_le_pow _ _ (by omega)
    have h6 : (a + 1) * 10 * 1 ≤ (a + 1) * 10 * 10 ^ r.length := Nat.mul_le_mul_left _ hp
    have h4 : (a * 10 + (c.toNat - 48) + 1) * 10 ^ r.length ≤ ((a + 1) * 10) * 10 ^ r.length := Nat.mul_le_mul_right _ (by omega)
    rw [Lib.parseUint10, if_pos ⟨h1, h2⟩, if_neg (by omega), if_neg (by omega), uint_digs r _ h3 (by omega), dval_cons]
theorem mag_digs (l : List UInt8) (h : digs l = true) (h1 : 1 ≤ l.length) (h2 : l.length ≤ 18) : Lib.parseMag l = .ok (dval 0 l) ∧ dval 0 l < 1000000000000000000 := by
  have hp : (0 + 1) * 10 ^ l.length ≤ 10 ^ 18 := by rw [Nat.zero_add, Nat.one_mul]; exact Nat.pow_le_pow_right (by omega) h2
  have e : (10 : Nat) ^ 18 = 1000000000000000000 := by decide
  have hv := dval_lt l 0 h
  refine ⟨?_, by omega⟩
  unfold Lib.parseMag
  rw [if_neg (by intro h0; rw [h0] at h1; simp at h1), uint_digs l 0 h (by omega)]
theorem numOk_digs {l : List UInt8} (h : numOk l = true) : 1 ≤ (digitsOf l).length ∧ (digitsOf l).length ≤ 18 ∧ digs (digitsOf l) = true := by
  unfold numOk at h
  rw [Bool.or_eq_true, Bool.and_eq_true] at h
  rcases h with h | ⟨h1, h2⟩
  · have := of_decide_eq_true h
    subst this
    exact ⟨by decide, by decide, by decide⟩
  · have := of_decide_eq_true h1
    exact ⟨this.1, this.2.1, h2⟩
theorem atoi_num {l : List UInt8} (h : numOk l = true) : Lib.atoiAll l = .ok (worthOf l) := by
  obtain ⟨h1, h2, h3⟩ := numOk_digs h
  cases l with
  | nil => simp [digitsOf] at h1
  | cons c r =>
    by_cases h45 : c = 45
    · subst h45
      rw [digitsOf, if_pos rfl] at h1 h2 h3
      obtain ⟨hm, hv⟩ := mag_digs r h3 h1 h2
      have e : (45 : UInt8).toNat = 45 := rfl
      unfold Lib.atoiAll worthOf
      simp only [e]
      rw [if_pos (Or.inr trivial), hm]
      simp only [not_true_eq_false, false_and, if_false, true_and]
      rw [if_neg (by omega)]; simp
    · rw [digitsOf, if_neg h45] at h1 h2 h3
      obtain ⟨hm, hv⟩ := mag_digs (c :: r) h3 h1 h2
      have hc := (digs_cons.1 h3).1
      have hn : ¬ c.toNat = 45 := by omega
      unfold Lib.atoiAll worthOf
      simp only [hn, or_false]
      rw [if_neg (by omega), hm]
      simp only [not_false_eq_true, true_and, false_and, if_false]
      rw [if_neg (by omega), if_neg h45]
def cmpI (a b : Int) : Int := if a < b then -1 else if a > b then 1 else 0
theorem cmp_f (a b : Int) : cmp_Compare_int.f a b = some (cmpI a b) := by
  unfold cmp_Compare_int.f cmp_isNaN_int.f cmpI
  simp only [bne_self_eq_false, Option.bind_some]
  repeat' split
  all_goals first | rfl | (exfalso; simp_all; done) | (exfalso; omega)
theorem cmpB : ∀ a b : List UInt8, Lib.compareBytes a b = lessI a b := by
  intro a
  induction a with
  | nil => intro b; cases b <;> rfl
  | cons x a ih =>
    intro b
    cases b with
    | nil => rfl
    | cons y b =>
      rw [Lib.compareBytes, ih b]
      show _ = if x.toNat < y.toNat then (-1 : Int) else if y.toNat < x.toNat then 1 else lessI a b
      simp only [UInt8.lt_iff_toNat_lt]
theorem norm_num {x : ByteArray} (h : (normOf 4 x).2 = 0) : (normOf 4 x).1 = x ∧ numOk (bl x) = true ∧ x.size ≤ 1000 := by
  unfold normOf at h ⊢
  rw [if_neg (by omega)] at h ⊢
  by_cases h5 : 1000 < x.size
  · rw [if_pos h5] at h; cases h
  · rw [if_neg h5] at h ⊢
    by_cases h0 : x.size = 0
    · rw [if_pos h0] at h; cases h
    · rw [if_neg h0] at h ⊢
      have e : formOf 4 x = (x, numOk (bl x)) := by
        unfold formOf
        rw [if_neg (by omega), if_neg (by omega), if_pos rfl]
      rw [e] at h ⊢
      by_cases hn : numOk (bl x) = true
      · rw [if_pos hn]; exact ⟨rfl, hn, by omega⟩
      · rw [if_neg hn] at h; cases h
theorem atoi_f {x : ByteArray} (h : numOk (bl x) = true) (hs : x.size ≤ 1000) : strconv_Atoi_26.f x = some (worthOf (bl x), none) := by
  unfold strconv_Atoi_26.f
  rw [if_pos (by omega), show Lib.atoiAll x.data.toList = .ok (worthOf (bl x)) from atoi_num h]; rfl
def ordOf (t : Int) (x y : ByteArray) : Int × Int :=
  if t = 1 ∨ t = 2 ∨ t = 4 then (if (normOf t x).2 = 0 then (if (normOf t y).2 = 0 then (if t = 4 then cmpI (worthOf (bl (normOf t x).1)) (worthOf (bl (normOf t y).1)) else lessI (bl (normOf t x).1) (bl (normOf t y).1), 0) else (0, (normOf t y).2)) else (0, (normOf t x).2)) else (0, 20)
theorem order_ev (n : ByteArray) (t : Int) (b : Bool) (x y : ByteArray) : Ev (fun k => attr_Order.f k n t b x y) (ordOf t x y) := by
  have hj : (t = 1 ∨ t = 2 ∨ t = 4) → Ev (fun k => attr_Order.j0 k x y n t b) (ordOf t x y) := by
    intro ht
    unfold ordOf
    rw [if_pos ht]
    refine Ev.step (fun k => by rw [attr_Order.j0]) (Ev.bind (both_ev n t b x y) ?_)
    unfold bothOf
    by_cases h : (normOf t x).2 = 0
    · simp only [h, if_true]
      by_cases h2 : (normOf t y).2 = 0
      · simp only [h2, if_true]
        by_cases h4 : t = 4
        · subst h4
          obtain ⟨e1, n1, s1⟩ := norm_num h
          obtain ⟨e2, n2, s2⟩ := norm_num h2
          rw [e1, e2]
          refine Ev.pos rfl (Ev.bindc (atoi_f n1 s1) (Ev.bindc (atoi_f n2 s2) (Ev.bindc (cmp_f _ _) ?_)))
          rw [if_pos rfl]; exact Ev.rfl'
        · refine Ev.neg h4 (Ev.bindc (u := lessI (bl (normOf t x).1) (bl (normOf t y).1)) ?_ ?_)
          · unfold strings_Compare.f
            exact congrArg some (cmpB _ _)
          · rw [if_neg h4]; exact Ev.rfl'
      · simp only [h2, if_false]; exact Ev.rfl'
    · simp only [h, if_false]; exact Ev.rfl'
  unfold attr_Order.f
  by_cases h1 : t = 1
  · exact Ev.pos h1 (hj (.inl h1))
  · refine Ev.neg h1 ?_
    by_cases h2 : t = 2
    · exact Ev.pos h2 (hj (.inr (.inl h2)))
    · refine Ev.neg h2 ?_
      by_cases h4 : t = 4
      · exact Ev.pos h4 (hj (.inr (.inr h4)))
      · refine Ev.neg h4 ?_
        unfold ordOf
        rw [if_neg (by omega)]; exact Ev.rfl'
end Go.Proofs.YtpklcnpmppaaoaaGreatDoor.Print
namespace Go.Proofs.YtpklcnpmppaaoaaGreatDoor.Print
open Go.RowKit Go.Proofs.YtpklcnpmppaaoaaGreatDoorW.PrintWords Go.Proofs.YtpklcnpmppaaoaaGreatDoorW.PrintLast Go.Proofs.YtpklcnpmppaaoaaGreatDoorW.PrintMore
set_option linter.unusedVariables false
set_option linter.unusedSimpArgs false
def lowB (c : UInt8) : UInt8 := if 65 ≤ c.toNat ∧ c.toNat ≤ 90 then c + 32 else c
def attr_lower.f (a0 : ByteArray) : Option ByteArray := if a0.size ≤ 1000000 then some ⟨(a0.data.toList.map lowB).toArray⟩ else none
def byteVs (l : List UInt8) : List Value := l.map fun b => Value.int .u8 b.toNat
def ConvRow (g : Nat) (l : List UInt8) (w : World) : Prop := ∃ sp : Array Value, w.heap[g]? = some (.cells ((byteVs l).toArray ++ sp) 5 (l.length + sp.size, l.length + sp.size + 1))
theorem ConvRow.cell {g : Nat} {l : List UInt8} {w : World} (h : ConvRow g l w) (i : Nat) (hi : i < l.length) : w.cell? ⟨g, i, none⟩ = some (.int .u8 (l.getD i 0).toNat) := by
  obtain ⟨sp, h⟩ := h
  simp [World.cell?, h, byteVs, Array.getElem?_append, List.getD_eq_getElem?_getD, hi]
theorem ConvRow.frozen {g : Nat} {l : List UInt8} {w : World} (h : ConvRow g l w) (i : Nat) (hi : i < l.length) : w.frozen? ⟨g, i, none⟩ = false := by
  obtain ⟨sp, h⟩ := h
  simp [World.frozen?, h]; omega
theorem ConvRow.lt {g : Nat} {l : List UInt8} {w : World} (h : ConvRow g l w) : g < w.heap.size := by
  obtain ⟨sp, h⟩ := h
  exact blk_lt h
theorem ConvRow.drewN {g : Nat} {l : List UInt8} {w : World} (h : ConvRow g l w) (n : Nat) : ConvRow g l (w.drewN n) := h
theorem ConvRow.set {g : Nat} {l : List UInt8} {w : World} (h : ConvRow g l w) (i : Nat) (b : UInt8) (hi : i < l.length) : ConvRow g (l.set i b) (w.setCell ⟨g, i, none⟩ (.int .u8 b.toNat)) := by
  obtain ⟨sp, h⟩ := h
  refine ⟨sp, ?_⟩
  have e : ((byteVs l).toArray ++ sp).setIfInBounds i (.int .u8 b.toNat) = (byteVs (l.set i b)).toArray ++ sp := by
    rw [Array.setIfInBounds_append_left (by simpa [byteVs] using hi)]
    simp [byteVs, List.map_set]
  simp [World.setCell, h, Array.getElem?_modify, e]
theorem ConvRow.reads {g : Nat} {l : List UInt8} {w : World} (h : ConvRow g l w) (hl : l.length ≤ 9223372036854775807) : ReadsInt w .u8 (some ⟨g, 0, none⟩) l.length (l.map fun b => (b.toNat : Int)) := by
  refine ⟨by simp, hl, fun _ => ⟨_, rfl, fun j hj => ?_⟩⟩
  rw [add_plain, h.cell j hj]
  simp [List.getD_eq_getElem?_getD, List.getElem?_eq_getElem hj]
theorem convRow_new (w : World) (s : ByteArray) : ConvRow w.heap.size s.data.toList (Lib.bytesWorld w 5 s) := by
  refine ⟨Array.replicate (grownCap w s.size 0 5 - s.size) (.int .u8 0), ?_⟩
  rw [Lib.bytesWorld_at_new]
  have e : Lib.bytesCells w 5 s = (byteVs s.data.toList).toArray ++ Array.replicate (grownCap w s.size 0 5 - s.size) (.int .u8 0) := by
    unfold Lib.bytesCells byteVs
    congr 1
    apply Array.ext'
    simp
  rw [e]
  simp [byteVs]
theorem strOfNums_bytes (l : List UInt8) : strOfNums (l.map fun b => (b.toNat : Int)) = ⟨l.toArray⟩ := by
  unfold strOfNums
  congr 1
  apply Array.ext'
  induction l with
  | nil => rfl
  | cons x l ih => simp at ih ⊢; exact ih
def lowAt (l : List UInt8) (k : Nat) : List UInt8 := (l.take k).map lowB ++ l.drop k
theorem lowAt_len (l : List UInt8) (k : Nat) (h : k ≤ l.length) : (lowAt l k).length = l.length := by simp [lowAt]; omega
theorem lowAt_get (l : List UInt8) (k : Nat) (h : k < l.length) : (lowAt l k).getD k 0 = l.getD k 0 := by
  have h1 : ((l.take k).map lowB).length = k := by simp; omega
  unfold lowAt
  rw [List.getD_eq_getElem?_getD, List.getElem?_append_right (by omega), h1, Nat.sub_self, List.getElem?_drop, Nat.add_zero, List.getD_eq_getElem?_getD]
theorem lowAt_step (l : List UInt8) (k : Nat) (h : k < l.length) : (lowAt l k).set k (lowB (l.getD k 0)) = lowAt l (k + 1) := by
  have h1 : ((l.take k).map lowB).length = k := by simp; omega
  unfold lowAt
  have e : l.drop k = l[k] :: l.drop (k + 1) := List.drop_eq_getElem_cons h
  rw [List.set_append_right _ _ (by omega), h1, Nat.sub_self, List.take_succ_eq_append_getElem h, e, List.set_cons_zero, List.map_append, List.append_assoc]
  simp [List.getD_eq_getElem?_getD, h]
theorem lowAt_same (l : List UInt8) (k : Nat) (h : k < l.length) (hc : lowB (l.getD k 0) = l.getD k 0) : lowAt l k = lowAt l (k + 1) := by
  rw [← lowAt_step l k h, hc, ← lowAt_get l k h]
  refine (List.set_getElem_self (i := k) (by rw [lowAt_len _ _ (by omega)]; exact h)).symm.trans ?_
  congr 1
  rw [List.getD_eq_getElem?_getD, List.getElem?_eq_getElem (by rw [lowAt_len _ _ (by omega)]; exact h)]
  rfl
set_option maxHeartbeats 4000000 in
set_option maxRecDepth 1000000 in
theorem attr_lower.calls (a0 : ByteArray) (r : ByteArray) (w : World) (h : attr_lower.f a0 = some r) :
    Calls Tryz.prog 39 #[.string a0] w fun e w' => e = .returned (.string r) ∧ Below w.heap.size w w' := by
  unfold attr_lower.f at h
  by_cases c : a0.size ≤ 1000000
  · rw [if_pos c] at h
    injection h with h
    subst h
    have kb := fun W => print_bytes (P := Tryz.prog) 9 82 5 Tryz.underlying9 Tryz.underlying82 Tryz.underlying5 a0 W
    have hn : a0.data.toList.length = a0.size := data_length a0
    go_enter Tryz.func39, Tryz.ntmps39
    go_wp2
    go_loopw [10] (fun i wr => ∃ (k : Nat), k ≤ a0.size ∧ i = .int .i64 k ∧ Aside0 (ConvRow w.heap.size (lowAt a0.data.toList k) wr) ∧ Aside0 (Below w.heap.size w wr)) (fun i wr => a0.size - (intOf i).toNat)
    case atStart => exact ⟨0, Nat.zero_le _, rfl, ⟨convRow_new w a0⟩, ⟨bytes_below (Below.refl _ _) (Nat.le_refl _) _ _⟩⟩
    case round =>
      obtain ⟨k, hk, rfl, HR, HB⟩ := hrel
      by_cases hlt : k < a0.size
      · have hl := lowAt_len a0.data.toList k (by omega)
        have hc := HR.out.cell k (by omega)
        rw [lowAt_get a0.data.toList k (by omega)] at hc
        have hf := HR.out.frozen k (by omega)
        have HS := fun b => Aside0.mk (HR.out.set k b (by omega))
        generalize hx : a0.data.toList.getD k 0 = x at *
        have hby : (x.toNat : Int) < 256 := by have := x.toNat_lt; omega
        by_cases h1 : 65 ≤ x.toNat
        · by_cases h2 : x.toNat ≤ 90
          · have hlo : lowB x = x + 32 := by unfold lowB; rw [if_pos ⟨h1, h2⟩]
            have h32 : ((x + 32).toNat : Int) = (x.toNat : Int) + 32 := by rw [UInt8.toNat_add]; show (((x.toNat + 32) % 256 : Nat) : Int) = _; omega
            have HS2 := Aside0.mk (show ConvRow w.heap.size (lowAt a0.data.toList (k + 1)) (wr.setCell ⟨w.heap.size, k, none⟩ (.int .u8 ((x.toNat : Int) + 32))) by have := (HS (lowB x)).out; rw [← hx] at this; rw [lowAt_step _ _ (by omega), hx, hlo, h32] at this; exact this)
            clear HS hlo h32
            go_wp2
            go_roundw
            case rel => exact ⟨k + 1, by omega, by go_num, HS2, ⟨below_set HB.out (Nat.le_refl _)⟩⟩
            case measure => simp [intOf]; omega
          · clear HS
            have hlo : lowB x = x := by unfold lowB; rw [if_neg (by omega)]
            go_wp2
            go_roundw
            case rel => exact ⟨k + 1, by omega, by go_num, ⟨by rw [← lowAt_same _ _ (by omega) (by rw [hx]; exact hlo)]; exact HR.out⟩, ⟨HB.out⟩⟩
            case measure => simp [intOf]; omega
        · clear HS
          have hlo : lowB x = x := by unfold lowB; rw [if_neg (by omega)]
          go_wp2
          go_roundw
          case rel => exact ⟨k + 1, by omega, by go_num, ⟨by rw [← lowAt_same _ _ (by omega) (by rw [hx]; exact hlo)]; exact HR.out⟩, ⟨HB.out⟩⟩
          case measure => simp [intOf]; omega
      · obtain rfl : k = a0.size := by omega
        have hl := lowAt_len a0.data.toList a0.size (by omega)
        have e0 : lowAt a0.data.toList a0.size = a0.data.toList.map lowB := by
          unfold lowAt
          rw [List.take_of_length_le (by omega), List.drop_eq_nil_of_le (by omega), List.append_nil]
        have hr := HR.out.reads (by omega)
        rw [hl, hn] at hr
        have kc := string_of_reads (P := Tryz.prog) (src := 82) (dst := 9) (c := grownCap w a0.size 0 5) Tryz.underlying82 Tryz.underlying5 Tryz.underlying9 hr
        rw [strOfNums_bytes, e0] at kc
        clear hr hl e0
        go_wp2
        go_ret
        exact ⟨rfl, HB.out⟩
  · rw [if_neg c] at h; cases h
def findIn : List (ByteArray × Int × Bool) → ByteArray → ByteArray × Int × Bool × Bool
  | [], _ => (⟨#[]⟩, 0, false, false)
  | x :: l, s => if s = x.1 then (x.1, x.2.1, x.2.2, true) else findIn l s
def attr_Find.f (a0 : ByteArray) : Option (ByteArray × Int × Bool × Bool) := (attr_lower.f a0).map (findIn attrTab)
theorem attrTab_len : attrTab.length = 20 := rfl
def attrAt (k : Nat) : ByteArray × Int × Bool := attrTab.getD k default
theorem attrCells_at : ∀ k, k < 20 → attrCells.extract (k * 3) (k * 3 + 3) = #[.string (attrAt k).1, .int .i64 (attrAt k).2.1, .bool (attrAt k).2.2]
  | 0, _ | 1, _ | 2, _ | 3, _ | 4, _ | 5, _ | 6, _ | 7, _ | 8, _ | 9, _ | 10, _ | 11, _ | 12, _ | 13, _ | 14, _ | 15, _ | 16, _ | 17, _ | 18, _ | 19, _ => rfl
  | n + 20, h => absurd h (by omega)
theorem attr_index (k : Nat) (hk : k < 20) (cs : Array Value) (hcs : cs = attrCells) (x : ByteArray × Int × Bool) (hx : attrAt k = x) (W : World) :
    (Instr.index 63 (.agg cs) (.int .i64 (k : Int))).run Tryz.prog W = .ok (.agg #[.string x.1, .int .i64 x.2.1, .bool x.2.2]) W := by
  subst hcs; subst hx
  have h1 : 0 ≤ (k : Int) ∧ (k : Int) < ((20 : Nat) : Int) := by omega
  simp [Instr.index, run_underlying Tryz.underlying63, h1, Tryz.sizeOf23, Tryz.isAgg23, Result.andThen, attrCells_at k hk, go_sem]
  omega
theorem attr_load (W : World) (cs : Array Value) (hcs : cs = attrCells) (t : TypeId) (fr : Nat × Nat) (h : W.heap[0]? = some (.cells attrCells t fr)) : (loadVar 63 ⟨0, 0, none⟩).run Tryz.prog W = .ok (.agg cs) W := by
  subst hcs
  exact run_loadVar_row W _ t _ attrCells fr _ h Tryz.underlying63 rfl (by kernel_rfl)
theorem attr_load_run {a : Act} {o : Oper} {W : World} {cs : Array Value} (ho : o.op = .load 63 (.global 0)) (hk : (loadVar 63 ⟨0, 0, none⟩).run Tryz.prog W = .ok (.agg cs) W) : (execOp a.eval o).run Tryz.prog W = .ok (.value (.agg cs)) W := by
  have he : a.eval (.global 0) = .pointer (some ⟨0, 0, none⟩) := rfl
  unfold execOp
  simp only [ho, he, Instr.loadAt, Instr.sureAddr, Sem.run_bind, Sem.run_pure, Result.andThen_ok, hk]
theorem findIn_at (k : Nat) (hk : k < 20) (s : ByteArray) : findIn (attrTab.drop k) s = if s = (attrAt k).1 then ((attrAt k).1, (attrAt k).2.1, (attrAt k).2.2, true) else findIn (attrTab.drop (k + 1)) s := by
  have h := List.drop_eq_getElem_cons (l := attrTab) (i := k) (by rw [attrTab_len]; exact hk)
  have e : attrAt k = attrTab[k]'(by rw [attrTab_len]; exact hk) := by
    unfold attrAt
    rw [List.getD_eq_getElem?_getD, List.getElem?_eq_getElem (by rw [attrTab_len]; exact hk)]; rfl
  rw [h, findIn, e]
set_option maxHeartbeats 4000000 in
set_option maxRecDepth 1000000 in
theorem attr_Find.calls (a0 : ByteArray) (r1 : ByteArray) (r2 : Int) (r3 : Bool) (r4 : Bool) (w : World) (hG : Gw w) (h : attr_Find.f a0 = some (r1, r2, r3, r4)) :
    Calls Tryz.prog 16 #[.string a0] w fun e w' => e = .returned (.tuple #[.agg #[.string r1, .int .i64 r2, .bool r3], .bool r4]) ∧ Below w.heap.size w w' := by
  obtain ⟨s, h1, h2⟩ := Option.map_eq_some_iff.1 h
  obtain ⟨cs, hcs⟩ : ∃ cs, cs = attrCells := ⟨_, rfl⟩
  have HC := Aside0.mk hcs
  have H1 := Aside0.mk h1
  have H2 := Aside0.mk h2
  have HG := Aside0.mk hG
  have hu23 := Tryz.underlying23
  clear h h1 h2 hG hcs
  have hI : ∀ (k : Nat) (hk : k < 20) (x : ByteArray × Int × Bool) (hx : attrAt k = x) (W : World), (Instr.index 63 (.agg cs) (.int .i64 (k : Int))).run Tryz.prog W = .ok (.agg #[.string x.1, .int .i64 x.2.1, .bool x.2.2]) W := fun k hk x hx W => attr_index k hk cs HC.out x hx W
  have HI := Aside0.mk hI
  clear hI
  go_enter Tryz.func16, Tryz.ntmps16
  go_wp2_with (first | (go_at_call 39; (with_reducible refine (attr_lower.calls _ _ _ H1.out).mono ?_); rintro e w1 ⟨rfl, hb⟩; obtain ⟨t_, fr_, ht_⟩ := ((HG.out.alloc _).below hb).types; have kl := attr_load w1 cs HC.out t_ fr_ ht_; replace hb := Aside0.mk hb; replace kl := Aside0.mk kl; clear ht_) | ((with_reducible refine gate_dst (N := 8) rfl ?_); refine Kd.event_run rfl (attr_load_run rfl kl.out) ?_))
  go_loopw [9] (fun i wr => ∃ (k : Nat), k ≤ 20 ∧ i = .int .i64 k ∧ Aside0 (findIn (attrTab.drop k) s = (r1, r2, r3, r4)) ∧ Aside0 (wr.heap[w.heap.size]? = some (.cells #[.string ⟨#[]⟩, .int .i64 0, .bool false] 23 (0, 0))) ∧ Aside0 (Below w.heap.size w wr)) (fun i wr => 20 - (intOf i).toNat)
  case atStart => exact ⟨0, by omega, rfl, ⟨H2.out⟩, ⟨(hb.out.block _ (blk_lt (blk_new w _))).trans (blk_new w _)⟩, ⟨below_then (below_alloc (Below.refl _ _) _) (Nat.le_of_lt (blk_lt (blk_new w _))) hb.out⟩⟩
  case round =>
    obtain ⟨k, hk, rfl, HF, HBK, HB⟩ := hrel
    have hc0 : wr.cell? ⟨w.heap.size, 0, none⟩ = some (.string ⟨#[]⟩) := (blk_cell HBK.out 0).trans rfl
    have hc1 : wr.cell? ⟨w.heap.size, 1, none⟩ = some (.int .i64 0) := (blk_cell HBK.out 1).trans rfl
    have hc2 : wr.cell? ⟨w.heap.size, 2, none⟩ = some (.bool false) := (blk_cell HBK.out 2).trans rfl
    have hgl := blk_lt HBK.out
    have hgn : ¬ w.heap.size = wr.heap.size := Nat.ne_of_lt hgl
    have hf0 := blk_frozen HBK.out 0
    have hf1 := blk_frozen HBK.out 1
    have hf2 := blk_frozen HBK.out 2
    by_cases hlt : k < 20
    · have hfi := findIn_at k hlt s
      have hI := HI.out k hlt _ rfl
      generalize attrAt k = x at *
      rw [HF.out] at hfi
      by_cases hq : s = x.1
      · rw [if_pos hq] at hfi
        simp only [Prod.mk.injEq] at hfi
        obtain ⟨rfl, rfl, rfl, rfl⟩ := hfi
        subst hq
        clear HF
        go_wp2
        refine bodyPost_ret (results_ct rfl _ _ w.heap.size 23 #[.string x.1, .int .i64 x.2.1, .bool x.2.2] (0, 0) _ rfl (by (with_reducible repeat (first | refine blk_drewN ?_ _ | refine blk_drew ?_ | refine blk_alloc ?_ _)); refine blk_put (cs := #[.string x.1, .int .i64 x.2.1, .bool false]) ?_ 2 _ rfl; (with_reducible repeat (first | refine blk_drewN ?_ _ | refine blk_drew ?_ | refine blk_alloc ?_ _)); refine blk_put (cs := #[.string x.1, .int .i64 0, .bool false]) ?_ 1 _ rfl; (with_reducible repeat (first | refine blk_drewN ?_ _ | refine blk_drew ?_ | refine blk_alloc ?_ _)); refine blk_put (cs := #[.string ⟨#[]⟩, .int .i64 0, .bool false]) ?_ 0 _ rfl; (with_reducible repeat (first | refine blk_drewN ?_ _ | refine blk_drew ?_ | refine blk_alloc ?_ _)); exact HBK.out) Tryz.underlying23 rfl (by kernel_rfl)) rfl ?_
        exact ⟨rfl, by repeat (first | exact HB.out | apply below_alloc | refine below_set ?_ (Nat.le_refl _) | refine below_set ?_ (below_size HB.out))⟩
      · rw [if_neg hq] at hfi
        have HF2 := Aside0.mk hfi.symm
        have hqb : (x.1.toList == s.toList) = false := by
          rw [beq_eq_false_iff_ne]
          intro h
          exact hq (ByteArray.ext (Array.ext' (by rw [Lib.toList_data, Lib.toList_data] at h; exact h.symm)))
        clear HF hfi hq
        go_wp2
        go_roundw
        case rel => exact ⟨k + 1, by omega, by go_num, HF2, ⟨by (with_reducible repeat (first | refine blk_drewN ?_ _ | refine blk_drew ?_ | refine blk_alloc ?_ _)); exact HBK.out⟩, ⟨by repeat (first | exact HB.out | apply below_alloc | refine below_set ?_ (Nat.le_refl _) | refine below_set ?_ (below_size HB.out))⟩⟩
        case measure => simp [intOf]; omega
    · obtain rfl : k = 20 := by omega
      have hE := HF.out
      rw [show attrTab.drop 20 = [] from rfl] at hE
      simp only [findIn, Prod.mk.injEq] at hE
      obtain ⟨rfl, rfl, rfl, rfl⟩ := hE
      go_wp2
      refine bodyPost_ret (results_ct rfl _ _ w.heap.size 23 #[.string ⟨#[]⟩, .int .i64 0, .bool false] (0, 0) _ rfl (by (with_reducible repeat (first | refine blk_drewN ?_ _ | refine blk_drew ?_ | refine blk_alloc ?_ _)); refine blk_put (cs := #[.string ⟨#[]⟩, .int .i64 0, .bool false]) ?_ 2 _ rfl; (with_reducible repeat (first | refine blk_drewN ?_ _ | refine blk_drew ?_ | refine blk_alloc ?_ _)); refine blk_put (cs := #[.string ⟨#[]⟩, .int .i64 0, .bool false]) ?_ 1 _ rfl; (with_reducible repeat (first | refine blk_drewN ?_ _ | refine blk_drew ?_ | refine blk_alloc ?_ _)); refine blk_put (cs := #[.string ⟨#[]⟩, .int .i64 0, .bool false]) ?_ 0 _ rfl; (with_reducible repeat (first | refine blk_drewN ?_ _ | refine blk_drew ?_ | refine blk_alloc ?_ _)); exact HBK.out) Tryz.underlying23 rfl (by kernel_rfl)) rfl ?_
      exact ⟨rfl, by repeat (first | exact HB.out | apply below_alloc | refine below_set ?_ (Nat.le_refl _) | refine below_set ?_ (below_size HB.out))⟩
def idxP (p : ByteArray → Bool) (l : List ByteArray) : Int := match l.findIdx? p with | some i => i | none => -1
theorem idxP_hit (p : ByteArray → Bool) (l : List ByteArray) (k : Nat) (hk : k < l.length) (h0 : ∀ j, j < k → p (l.getD j ByteArray.empty) = false) (h1 : p (l.getD k ByteArray.empty) = true) : idxP p l = k := by
  have e : l.findIdx? p = some k := by
    rw [List.findIdx?_eq_some_iff_getElem]
    refine ⟨hk, ?_, fun j hj => ?_⟩
    · rw [List.getD_eq_getElem?_getD, List.getElem?_eq_getElem hk] at h1; exact h1
    · have := h0 j hj
      rw [List.getD_eq_getElem?_getD, List.getElem?_eq_getElem (by omega)] at this; simpa using this
  unfold idxP; rw [e]
theorem idxP_miss (p : ByteArray → Bool) (l : List ByteArray) (h0 : ∀ j, j < l.length → p (l.getD j ByteArray.empty) = false) : idxP p l = -1 := by
  have e : l.findIdx? p = none := by
    rw [List.findIdx?_eq_none_iff]
    intro x hx
    obtain ⟨j, hj, rfl⟩ := List.getElem_of_mem hx
    have := h0 j hj
    rw [List.getD_eq_getElem?_getD, List.getElem?_eq_getElem hj] at this; exact this
  unfold idxP; rw [e]
theorem idxP_any (p : ByteArray → Bool) (l : List ByteArray) : decide (idxP p l ≥ 0) = l.any p := by
  unfold idxP
  cases h : l.findIdx? p with
  | none =>
    rw [List.findIdx?_eq_none_iff] at h
    have : l.any p = false := by rw [List.any_eq_false]; intro x hx; simp [h x hx]
    simp [this]
  | some i =>
    obtain ⟨hi, hp, _⟩ := List.findIdx?_eq_some_iff_getElem.1 h
    have : l.any p = true := List.any_eq_true.2 ⟨l[i], List.getElem_mem hi, hp⟩
    simp [this]
def Asks (g : Nat) (lb : Array Value) (p : ByteArray → Bool) (w : World) : Prop :=
  ∀ W x, Below w.heap.size w W → Calls Tryz.prog g (#[.string x] ++ lb) W fun e w' => e = .returned (.bool (p x)) ∧ Below W.heap.size W w'
set_option maxHeartbeats 4000000 in
set_option maxRecDepth 1000000 in
theorem idxFunc_calls (A0 : Option Addr) (c0 : Nat) (l0 : List ByteArray) (p : ByteArray → Bool) (g : Nat) (lb : Array Value) (eg : ∀ args w, (callFunc g args).run Tryz.prog w = .ok (.enter g args) w) (w : World) (hr0 : Kd.C Kd.string w A0 l0.length l0) (hp : Asks g lb p w) :
    Calls Tryz.prog 55 #[.slice A0 l0.length c0, .func (.func g) #[] lb] w fun e w' => e = .returned (.int .i64 (idxP p l0)) ∧ Below w.heap.size w w' := by
  have hlm := hr0.2.1
  have HC := Aside0.mk hr0
  have HP := Aside0.mk hp
  clear hr0 hp
  go_enter Tryz.func55, Tryz.ntmps55
  go_wp2
  go_loopw [5, 8] (fun _ i wr => ∃ k : Nat, k ≤ l0.length ∧ i = .int .i64 k ∧ Aside0 (Below w.heap.size w wr) ∧ Aside0 (∀ j, j < k → p (l0.getD j ByteArray.empty) = false)) (fun _ i wr => l0.length - (intOf i).toNat)
  case atStart => exact ⟨0, Nat.zero_le _, rfl, ⟨Below.refl _ _⟩, ⟨fun j hj => absurd hj (Nat.not_lt_zero _)⟩⟩
  case round =>
    obtain ⟨k, hk, rfl, HB, HF⟩ := hrel
    by_cases hlt : k < l0.length
    · obtain ⟨ad, hA, hc⟩ := (Kd.reads_of_C (d := ByteArray.empty) HC.out).at_ (k : Int) (by omega) (by omega)
      have hcw := (HB.out.cell (World.block_lt_of_cell? _ _ hc)).trans hc
      clear hc
      subst hA
      simp only [Int.toNat_natCast, rdOf] at hcw
      generalize hx : l0.getD k ByteArray.empty = x at *
      have HX := Aside0.mk hx
      clear hx
      cases hq : p x with
      | true =>
        have HQ := Aside0.mk hq
        clear hq
        go_wp2_with (go_at_fn g; refine (HP.out _ x (by repeat (first | exact HB.out | apply pw_below_drewN))).mono ?_; rintro e w' ⟨rfl, hb⟩; rw [HQ.out]; replace hb := Aside0.mk hb)
        go_ret
        exact ⟨by rw [idxP_hit p l0 k hlt HF.out (by rw [HX.out]; exact HQ.out)]; rfl, below_step HB.out hb.out⟩
      | false =>
        have HQ := Aside0.mk hq
        clear hq
        go_wp2_with (go_at_fn g; refine (HP.out _ x (by repeat (first | exact HB.out | apply pw_below_drewN))).mono ?_; rintro e w' ⟨rfl, hb⟩; rw [HQ.out]; replace hb := Aside0.mk hb)
        go_roundw
        case rel =>
          refine ⟨k + 1, by omega, by go_num, ⟨below_step HB.out hb.out⟩, ⟨fun j hj => ?_⟩⟩
          by_cases e : j = k
          · subst e; rw [HX.out]; exact HQ.out
          · exact HF.out j (by omega)
        case measure => simp [intOf]; omega
    · obtain rfl : k = l0.length := by omega
      go_wp2
      go_ret
      exact ⟨by rw [idxP_miss p l0 HF.out]; rfl, HB.out⟩
set_option maxHeartbeats 4000000 in
set_option maxRecDepth 1000000 in
theorem conFunc_calls (A0 : Option Addr) (c0 : Nat) (l0 : List ByteArray) (p : ByteArray → Bool) (g : Nat) (lb : Array Value) (eg : ∀ args w, (callFunc g args).run Tryz.prog w = .ok (.enter g args) w) (w : World) (hr0 : Kd.C Kd.string w A0 l0.length l0) (hp : Asks g lb p w) :
    Calls Tryz.prog 32 #[.slice A0 l0.length c0, .func (.func g) #[] lb] w fun e w' => e = .returned (.bool (l0.any p)) ∧ Below w.heap.size w w' := by
  have HI := Aside0.mk (idxFunc_calls A0 c0 l0 p g lb eg w hr0 hp)
  have HA := Aside0.mk (idxP_any p l0)
  clear hr0 hp
  generalize idxP p l0 = i at *
  go_enter Tryz.func32, Tryz.ntmps32
  go_wp2_with (go_at_call 55; (with_reducible refine HI.out.mono ?_); rintro e w' ⟨rfl, hb⟩; replace hb := Aside0.mk hb)
  go_ret
  exact ⟨by rw [← HA.out]; rfl, hb.out⟩
def given (s : ByteArray) : Bool := decide (s ≠ ⟨#[]⟩)
def slices_Concat_string_string.f (a : ByteArray) (l : List ByteArray) (b : ByteArray) : Option (List ByteArray) := if l.length ≤ 1000000 then some (a :: l ++ [b]) else none
def slices_ContainsFunc_string_string.f (l : List ByteArray) : Option Bool := some (l.any given)
theorem given_asks (w : World) : Asks 30 #[] given w := by
  intro W x _
  by_cases h : x = ⟨#[]⟩
  · subst h
    show Calls Tryz.prog 30 #[.string ⟨#[]⟩] W _
    go_enter Tryz.func30, Tryz.ntmps30
    go_wp2
    go_ret
    exact ⟨rfl, Below.refl _ _⟩
  · have e : given x = true := by simp [given, h]
    have e2 : (x.toList != []) = true := by
      rw [Lib.toList_data, bne_nil8]
      cases hd : x.data.toList with
      | nil => exact absurd (ByteArray.ext (Array.toList_eq_nil_iff.1 hd)) h
      | cons a l => rfl
    rw [e]
    clear e h
    show Calls Tryz.prog 30 #[.string x] W _
    go_enter Tryz.func30, Tryz.ntmps30
    go_wp2
    go_ret
    exact ⟨by simp_all, Below.refl _ _⟩
theorem slices_ContainsFunc_string_string.calls (A0 : Option Addr) (c0 : Nat) (l0 : List ByteArray) (r : Bool) (w : World) (hr0 : Kd.C Kd.string w A0 l0.length l0) (hc0 : l0.length ≤ c0) (h : slices_ContainsFunc_string_string.f l0 = some r) :
    Calls Tryz.prog 32 #[.slice A0 l0.length c0, .func (.func 30) #[] #[]] w fun e w' => e = .returned (.bool r) ∧ Below w.heap.size w w' := by
  obtain rfl := Option.some.inj h
  exact conFunc_calls A0 c0 l0 given 30 #[] (enters_of Tryz.func30 (by kernel_rfl) rfl) w hr0 (given_asks w)
theorem run_append_zeros (W : World) (m : Nat) (h0 : 0 < m) (h1 : m ≤ 1000002) :
    (Builtin.append_ #[31, 3] 31 #[.slice none 0 0, .int .i64 m]).run Tryz.prog W =
      .ok (.slice (some ⟨W.heap.size, 0, none⟩) m (grownCap W m 0 9)) (W.drew.alloc (.cells (Builtin.zeroCells #[.string ⟨#[]⟩] m ++ Builtin.zeroCells #[.string ⟨#[]⟩] (grownCap W m 0 9 - m)) 9)) := by
  have hw : IntKind.i64.wrap (m : Int) = (m : Int) := by rw [i64_w]; unfold wrap64; omega
  have hneg : ¬ ((m : Int) < 0) := by omega
  obtain ⟨i, hi, hz, hsz, hby⟩ := info_parts info9
  have hbig : ¬ (281474976710656 < (m : Int) * 16) := by omega
  have hm0 : ¬ m = 0 := by omega
  have hcap := nextslicecap_zero h0
  have hm1 : ¬ (281474976710656 < m * 16) := by omega
  have h63 : ¬ (9223372036854775807 < (m : Int)) := by omega
  simp [Builtin.append_, run_underlying Tryz.underlying31, run_underlying Tryz.underlying3, sizeOf, typeInfo, zeroValue, hi, hz, hsz, hby, hw, hneg, hbig, hm0, hcap, hm1, h63, Question.forced, newRow, grownCap, go_sem]
theorem exec_append {P : Program} {a : Act} {o : Oper} {W w1 : World} {v vs vx : Value} {s x : Operand} {t tx ty : TypeId} (ho : o.op = .call { callee := .builtin .append, args := #[s, x], argTypes := #[t, tx] }) (hty : o.type = ty) (hs : a.eval s = vs) (hx : a.eval x = vx) (h : (Builtin.append_ #[t, tx] ty #[vs, vx]).run P W = .ok v w1) : (execOp a.eval o).run P W = .ok (.value v) w1 := by
  subst hty; subst hs; subst hx
  unfold execOp
  simp only [ho, resolve, invoke, builtin, Sem.run_bind, Sem.run_pure, Result.andThen_ok, List.map_toArray, List.map_cons, List.map_nil, h]
theorem grow_own (W : World) (m : Nat) (h1 : m ≤ 1000002) (cs : Array Value) (hs : cs.size = grownCap W m 0 9) : Kd.R Kd.string 9 (W.alloc (.cells cs 9)).drew W.heap.size (fun _ => True) (.slice (some ⟨W.heap.size, 0, none⟩) 0 (grownCap W m 0 9)) [] := by
  refine Kd.R_of_own (enc := Value.string) (xs := ([] : List ByteArray)) ⟨rfl, .inr ⟨W.heap.size, grownCap W m 0 9, cs, rfl, Nat.le_refl _, ?_, Nat.zero_le _, ?_, ?_, rfl⟩⟩ (fun _ _ => trivial)
  · exact blk_drew (blk_new W _)
  · exact grownCap_le_maxLen W m 0 9 (by unfold maxLen; omega)
  · rw [hs, Nat.mul_one]
set_option maxHeartbeats 4000000 in
set_option maxRecDepth 1000000 in
theorem grow_calls (m : Nat) (h0 : 0 < m) (h1 : m ≤ 1000002) (w : World) :
    Calls Tryz.prog 54 #[.slice none 0 0, .int .i64 m] w fun e w' => ∃ v, e = .returned v ∧ Kd.R Kd.string 9 w' w.heap.size (fun _ => True) v [] ∧ Below w.heap.size w w' := by
  have hm0 : decide ((m : Int) < 0) = false := decide_eq_false (by omega)
  have hm1 : decide ((m : Int) > 0) = true := decide_eq_true (by omega)
  have hm2 : (m : Int) - 0 = m := by omega
  have hm3 : (0 : Int) < (m : Int) := by omega
  have hr := fun W => Aside0.mk (run_append_zeros W m h0 h1)
  go_enter Tryz.func54, Tryz.ntmps54
  go_wp2_with ((with_reducible refine gate_builtin (b := .append) (xs := #[.tmp 20, .tmp 21]) rfl ?_); refine Kd.event_run (v := .slice (some ⟨w.heap.size, 0, none⟩) m (grownCap w m 0 9)) (w1 := w.drew.alloc (.cells (Builtin.zeroCells #[.string ⟨#[]⟩] m ++ Builtin.zeroCells #[.string ⟨#[]⟩] (grownCap w m 0 9 - m)) 9)) rfl ?hx ?_; (case hx => exact exec_append rfl rfl rfl rfl (hr w).out))
  go_ret
  refine ⟨_, rfl, grow_own w m h1 _ ?_, ?_⟩
  · have hge := grownCap_ge w m 0 9
    simp [Builtin.zeroCells]; omega
  · exact (below_alloc (Below.refl _ _) _).trans (below_drew1 (Below.refl _ _))
def parts3 (l1 l2 l3 : List ByteArray) : Nat → List ByteArray
  | 0 => []
  | 1 => l1
  | 2 => l1 ++ l2
  | _ => l1 ++ l2 ++ l3
set_option maxHeartbeats 4000000 in
set_option maxRecDepth 1000000 in
theorem concat_gen (V : World) (g : Nat) (A1 A2 A3 : Option Addr) (c1 c2 c3 : Nat) (l1 l2 l3 : List ByteArray) (h1 : V.cell? ⟨g, 0, none⟩ = some (.slice A1 l1.length c1)) (h2 : V.cell? ⟨g, 1, none⟩ = some (.slice A2 l2.length c2)) (h3 : V.cell? ⟨g, 2, none⟩ = some (.slice A3 l3.length c3))
    (r1 : Kd.C Kd.string V A1 l1.length l1) (r2 : Kd.C Kd.string V A2 l2.length l2) (r3 : Kd.C Kd.string V A3 l3.length l3) (hp : 0 < l1.length) (hs : l1.length + l2.length + l3.length ≤ 1000002) :
    Calls Tryz.prog 31 #[.slice (some ⟨g, 0, none⟩) 3 3] V fun e w' => ∃ v, e = .returned v ∧ Kd.R Kd.string 9 w' V.heap.size (fun _ => True) v (l1 ++ l2 ++ l3) ∧ Below V.heap.size V w' := by
  have R1 := Aside0.mk r1
  have R2 := Aside0.mk r2
  have R3 := Aside0.mk r3
  have HH := Aside0.mk (show ∀ k, k < 3 → ∃ A n c xs, V.cell? ⟨g, k, none⟩ = some (.slice A n c) ∧ n = xs.length ∧ parts3 l1 l2 l3 (k + 1) = parts3 l1 l2 l3 k ++ xs ∧ Kd.C Kd.string V A xs.length xs from fun k hk => by
    rcases (show k = 0 ∨ k = 1 ∨ k = 2 by omega) with rfl | rfl | rfl
    · exact ⟨_, _, _, l1, h1, rfl, rfl, r1⟩
    · exact ⟨_, _, _, l2, h2, rfl, rfl, r2⟩
    · exact ⟨_, _, _, l3, h3, rfl, rfl, r3⟩)
  have HS := Aside0.mk (show ∀ k, k ≤ 3 → (parts3 l1 l2 l3 k).length ≤ 1000002 from fun k hk => by
    rcases (show k = 0 ∨ k = 1 ∨ k = 2 ∨ k = 3 by omega) with rfl | rfl | rfl | rfl <;> simp [parts3] <;> omega)
  have H3 := Aside0.mk (show parts3 l1 l2 l3 3 = l1 ++ l2 ++ l3 from rfl)
  have HP := Aside0.mk (show 0 < (parts3 l1 l2 l3 3).length by simp [parts3]; omega)
  clear r1 r2 r3 h1 h2 h3
  have H0 := Aside0.mk (show parts3 l1 l2 l3 0 = [] from rfl)
  generalize parts3 l1 l2 l3 = ps at *
  go_enter Tryz.func31, Tryz.ntmps31
  go_wp2
  go_loopw [3, 11] (fun s i wr => ∃ k m : Nat, k ≤ 3 ∧ i = .int .i64 k ∧ s = .int .i64 (m : Int) ∧ V = wr ∧ Aside0 (m = (ps k).length)) (fun s i wr => 3 - (intOf i).toNat)
  case atStart => exact ⟨0, 0, by omega, rfl, rfl, rfl, ⟨by rw [H0.out]; rfl⟩⟩
  case round =>
    obtain ⟨k, m, hk, rfl, rfl, rfl, HM⟩ := hrel
    by_cases hlt : k < 3
    · obtain ⟨A, n, c, xs, hc, hn, he, _⟩ := HH.out k hlt
      have hb : m + n ≤ 1000002 := by
        have := HS.out (k + 1) (by omega)
        rw [he, List.length_append] at this
        rw [HM.out, hn]; exact this
      have HM2 := Aside0.mk (show m + n = (ps (k + 1)).length by rw [he, List.length_append, HM.out, hn])
      have hd : decide ((m : Int) + (n : Int) < 0) = false := decide_eq_false (by omega)
      clear he hn HM
      go_wp2
      go_roundw
      case rel => exact ⟨k + 1, m + n, by omega, by go_num, by go_num, by first | trivial | rfl, HM2⟩
      case measure => simp [intOf]; omega
    · obtain rfl : k = 3 := by omega
      have hm0 : 0 < m := by rw [HM.out]; exact HP.out
      have hm1 : m ≤ 1000002 := by rw [HM.out]; exact HS.out 3 (by omega)
      have HG := Aside0.mk (grow_calls m hm0 hm1)
      go_wp2_with (go_at_call 54; (with_reducible refine (HG.out _).mono ?_); rintro e w1 ⟨v0, rfl, ho, hb⟩; replace ho := Aside0.mk ho; replace hb := Aside0.mk hb)
      go_loopw [6, 27] (fun v i wr => ∃ k : Nat, k ≤ 3 ∧ i = .int .i64 k ∧ Aside0 (Kd.R Kd.string 9 wr V.heap.size (fun _ => True) v (ps k)) ∧ Aside0 (Below V.heap.size V wr)) (fun v i wr => 3 - (intOf i).toNat)
      case atStart => exact ⟨0, by omega, rfl, ⟨by rw [H0.out]; exact ho.out⟩, hb⟩
      case round =>
        clear ho hb
        obtain ⟨k, hk, rfl, HO, HB⟩ := hrel
        by_cases hlt : k < 3
        · obtain ⟨A, n, c, xs, hc, rfl, he, HR⟩ := HH.out k hlt
          have hcw := (HB.out.cell (World.block_lt_of_cell? _ _ hc)).trans hc
          clear hc
          have HRw := Aside0.mk (Kd.C_below HR HB.out)
          obtain ⟨ys, hys⟩ : ∃ ys, ys = ps (k + 1) := ⟨_, rfl⟩
          have HE := Aside0.mk (hys.trans he)
          have HY := Aside0.mk hys
          have HL := Aside0.mk (show (ps k).length + xs.length ≤ 1000002 by have := HS.out (k + 1) (by omega); rw [he, List.length_append] at this; exact this)
          clear he HR hys
          go_wp2_with ((with_reducible refine gate_builtin (b := .append) (xs := #[.tmp 31, .tmp 32]) rfl ?_); at_builtin; refine Kd.R_append_row Value.string ByteArray.empty (h1 := fun _ => rfl) (w0 := V) V.heap.size rfl (.tmp 31) (.tmp 32) 31 9 (.string ⟨#[]⟩) 16 rfl Tryz.underlying31 info9 rfl (by omega) u6 (ps k) xs A xs.length c (fun _ => True) rfl rfl ?aF ?aO ?aC ?aB ?aS ?aL ?_; (case aF => exact (fun _ _ => trivial)); (case aO => exact HO.out); (case aC => exact HRw.out); (case aB => exact HB.out); (case aS => exact (below_size HB.out)); (case aL => have := HL.out; omega); intro v350 w12 ho hb hg hat; rw [← HE.out] at ho; replace hb := Aside0.mk hb; replace ho := Aside0.mk ho; clear hg hat)
          go_roundw
          case rel => exact ⟨k + 1, by omega, by go_num, ⟨by rw [← HY.out]; exact ho.out⟩, hb⟩
          case measure => simp [intOf]; omega
        · obtain rfl : k = 3 := by omega
          go_wp2
          go_ret
          exact ⟨_, rfl, by rw [← H3.out]; exact HO.out, HB.out⟩
theorem C_single (W : World) (g : Nat) (a : ByteArray) (t : TypeId) (h : W.heap[g]? = some (.cells #[.string a] t (0, 0))) : Kd.C Kd.string W (some ⟨g, 0, none⟩) [a].length [a] := by
  refine ⟨rfl, by simp, fun _ => ⟨_, rfl, fun j p hj => ?_⟩⟩
  cases j with
  | zero =>
    simp only [List.getElem?_cons_zero, Option.some.injEq] at hj
    subst hj
    refine ⟨[.string a], rfl, rfl, fun i u hi => ?_⟩
    cases i with
    | zero => simp at hi; subst hi; exact (blk_cell h 0).trans rfl
    | succ i => simp at hi
  | succ j => simp at hj
theorem slices_Concat_string_string.calls (a : ByteArray) (A0 : Option Addr) (c0 : Nat) (l0 : List ByteArray) (b : ByteArray) (r : List ByteArray) (W : World) (hr0 : Kd.C Kd.string W A0 l0.length l0) (hc0 : l0.length ≤ c0) (h : slices_Concat_string_string.f a l0 b = some r) :
    Calls Tryz.prog 31 #[.slice (some ⟨W.heap.size + 2, 0, none⟩) 3 3] (((W.alloc (.cells #[.string a] 9)).alloc (.cells #[.string b] 9)).alloc (.cells #[.slice (some ⟨W.heap.size, 0, none⟩) 1 1, .slice A0 l0.length c0, .slice (some ⟨W.heap.size + 1, 0, none⟩) 1 1] 31))
      fun e w' => ∃ v0_ : Value, e = .returned v0_ ∧ Kd.R Kd.string 9 w' W.heap.size (fun _ => True) v0_ r ∧ Below W.heap.size W w' := by
  unfold slices_Concat_string_string.f at h
  by_cases c : l0.length ≤ 1000000
  · rw [if_pos c] at h
    injection h with h
    subst h
    have s1 : (W.alloc (.cells #[.string a] 9)).heap.size = W.heap.size + 1 := World.size_alloc _ _
    have s2 : ((W.alloc (.cells #[.string a] 9)).alloc (.cells #[.string b] 9)).heap.size = W.heap.size + 2 := by rw [World.size_alloc, s1]
    generalize hc3 : (Obj.cells #[.slice (some ⟨W.heap.size, 0, none⟩) 1 1, .slice A0 l0.length c0, .slice (some ⟨W.heap.size + 1, 0, none⟩) 1 1] 31) = o3
    have b3 := blk_new ((W.alloc (.cells #[.string a] 9)).alloc (.cells #[.string b] 9)) o3
    rw [s2, ← hc3] at b3
    have b1 := blk_alloc (blk_alloc (blk_new W (.cells #[.string a] 9)) (.cells #[.string b] 9)) o3
    have b2 := blk_alloc (blk_new (W.alloc (.cells #[.string a] 9)) (.cells #[.string b] 9)) o3
    rw [s1] at b2
    have hB : Below W.heap.size W (((W.alloc (.cells #[.string a] 9)).alloc (.cells #[.string b] 9)).alloc o3) := below_alloc (below_alloc (below_alloc (Below.refl _ _) _) _) _
    rw [hc3] at b3
    generalize ((W.alloc (.cells #[.string a] 9)).alloc (.cells #[.string b] 9)).alloc o3 = V at *
    subst hc3
    refine (concat_gen V (W.heap.size + 2) (some ⟨W.heap.size, 0, none⟩) A0 (some ⟨W.heap.size + 1, 0, none⟩) 1 c0 1 [a] l0 [b] ((blk_cell b3 0).trans rfl) ((blk_cell b3 1).trans rfl) ((blk_cell b3 2).trans rfl) (C_single V _ a 9 b1) (Kd.C_below hr0 hB) (C_single V _ b 9 b2) (by simp) (by simp; omega)).mono ?_
    rintro e w' ⟨v, rfl, ho, hb⟩
    have hs := hB.size
    exact ⟨v, rfl, Kd.R_lower ho hs, below_then hB hs hb⟩
  · rw [if_neg c] at h; cases h
end Go.Proofs.YtpklcnpmppaaoaaGreatDoor.Print
namespace Go.Proofs.YtpklcnpmppaaoaaGreatDoor.Print
open Go.RowKit Go.Proofs.YtpklcnpmppaaoaaGreatDoorW.PrintWords
def strings_Cut.f (a0 a1 : ByteArray) : Option (ByteArray × ByteArray × Bool) :=
  if a0.size ≤ 1000000 then some (⟨(Lib.cut a0.data.toList a1.data.toList).1.toArray⟩, ⟨(Lib.cut a0.data.toList a1.data.toList).2.1.toArray⟩, (Lib.cut a0.data.toList a1.data.toList).2.2) else none
theorem strings_Cut.calls (a0 a1 : ByteArray) (r1 r2 : ByteArray) (r3 : Bool) (w : World) (hG : Gw w) (h : strings_Cut.f a0 a1 = some (r1, r2, r3)) :
    Calls Tryz.prog 36 #[.string a0, .string a1] w fun e w' => e = .returned (.tuple #[.string r1, .string r2, .bool r3]) ∧ Below w.heap.size w w' := by
  unfold strings_Cut.f at h
  by_cases c : a0.size ≤ 1000000
  · rw [if_pos c] at h
    simp only [Option.some.injEq, Prod.mk.injEq] at h
    obtain ⟨rfl, rfl, rfl⟩ := h
    obtain ⟨m, hm⟩ := hG.maxLen
    refine (Tryz.strings_Cut a0 a1 m w (by omega) hm).mono ?_
    rintro e w' ⟨he, hd⟩
    exact ⟨he, Drawn0.below ⟨hd⟩⟩
  · rw [if_neg c] at h; cases h
end Go.Proofs.YtpklcnpmppaaoaaGreatDoor.Print
namespace Go.Proofs.YtpklcnpmppaaoaaGreatDoor.Print
open Go.RowKit Go.Proofs.YtpklcnpmppaaoaaGreatDoorW.PrintWords Go.Proofs.YtpklcnpmppaaoaaGreatDoorW.PrintLast Go.Proofs.YtpklcnpmppaaoaaGreatDoorW.PrintMore
attribute [local go_sem] max2_int min2_int max_two min_two max_three min_three max_four min_four
set_option linter.unusedVariables false
set_option linter.unusedSimpArgs false
def stringslite_CutPrefix.f (a0 : ByteArray) (a1 : ByteArray) : Option (ByteArray × Bool) := (stringslite_HasPrefix.f a0 a1).bind fun t431 => (if t431 = true then (if 0 ≤ (a1.size : Int) then (if (a1.size : Int) ≤ (a0.size : Int) then (some (a0.extract ((a1.size : Int) : Int).toNat a0.size, true)) else (none)) else (none)) else (some (a0, false)))
set_option maxHeartbeats 8000000 in
set_option maxRecDepth 100000 in
theorem stringslite_CutPrefix.calls (a0 : ByteArray) (a1 : ByteArray) (r1 : ByteArray) (r2 : Bool) (w : World) (h : stringslite_CutPrefix.f a0 a1 = some (r1, r2)) :
  Calls Tryz.prog 58 #[.string a0, .string a1] w fun e w' => e = .returned (.tuple #[.string r1, .bool r2]) ∧ Drawn0 w w' := by
 have H : ((stringslite_HasPrefix.f a0 a1).bind fun t431 => (if t431 = true then (if 0 ≤ (a1.size : Int) then (if (a1.size : Int) ≤ (a0.size : Int) then (some (a0.extract ((a1.size : Int) : Int).toNat a0.size, true)) else (none)) else (none)) else (some (a0, false)))) = some (r1, r2) := h
 clear h
 replace H := Option.bind_eq_some_iff.mp H
 obtain ⟨t431, A30, H⟩ := H
 replace H : (if t431 = true then (if 0 ≤ (a1.size : Int) then (if (a1.size : Int) ≤ (a0.size : Int) then (some (a0.extract ((a1.size : Int) : Int).toNat a0.size, true)) else (none)) else (none)) else (some (a0, false))) = some (r1, r2) := H
 have A3 := Aside0.mk A30
 clear A30
 by_cases c4 : t431 = true
 ·
  subst c4
  rw [if_pos rfl] at H
  by_cases c5 : 0 ≤ (a1.size : Int)
  ·
   rw [if_pos c5] at H
   have c5b0 := eq_true c5
   have c5b1 := decide_eq_true c5
   clear c5
   by_cases c6 : (a1.size : Int) ≤ (a0.size : Int)
   ·
    rw [if_pos c6] at H
    have c6b0 := eq_true c6
    have c6b1 := decide_eq_true c6
    clear c6
    simp only [Option.some.injEq, Prod.mk.injEq] at H
    obtain ⟨rfl, rfl⟩ := H
    go_enter Tryz.func58, Tryz.ntmps58
    go_wp2_with (first | ((with_reducible refine gate_callee (f := 90) rfl ?_); refine goesL_ (some 8) rfl rfl Tryz.func90 (by kernel_rfl) rfl #[.string a0, .string a1] rfl ap3 ?_; (with_reducible refine (stringslite_HasPrefix.calls a0 a1 true _ A3.out).mono ?_); rintro e w' ⟨rfl, ⟨nd, rfl⟩⟩; refine ⟨_, rfl, ?_⟩))
    go_ret2
    exact ⟨ap2, ap7⟩
   ·
    rw [if_neg c6] at H
    exact absurd H (by simp)
  ·
   rw [if_neg c5] at H
   exact absurd H (by simp)
 ·
  replace c4 := Bool.eq_false_iff.mpr c4
  subst c4
  rw [if_neg (show ¬ (false = true) by decide)] at H
  simp only [Option.some.injEq, Prod.mk.injEq] at H
  obtain ⟨rfl, rfl⟩ := H
  go_enter Tryz.func58, Tryz.ntmps58
  go_wp2_with (first | ((with_reducible refine gate_callee (f := 90) rfl ?_); refine goesL_ (some 8) rfl rfl Tryz.func90 (by kernel_rfl) rfl #[.string a0, .string a1] rfl ap3 ?_; (with_reducible refine (stringslite_HasPrefix.calls a0 a1 false _ A3.out).mono ?_); rintro e w' ⟨rfl, ⟨nd, rfl⟩⟩; refine ⟨_, rfl, ?_⟩))
  go_ret2
  exact ⟨ap2, ap7⟩
def strings_CutPrefix.f (a0 : ByteArray) (a1 : ByteArray) : Option (ByteArray × Bool) := (stringslite_CutPrefix.f a0 a1).bind fun bt432 => (some (bt432.1, bt432.2))
set_option maxHeartbeats 8000000 in
set_option maxRecDepth 100000 in
theorem strings_CutPrefix.calls (a0 : ByteArray) (a1 : ByteArray) (r1 : ByteArray) (r2 : Bool) (w : World) (h : strings_CutPrefix.f a0 a1 = some (r1, r2)) :
  Calls Tryz.prog 34 #[.string a0, .string a1] w fun e w' => e = .returned (.tuple #[.string r1, .bool r2]) ∧ Drawn0 w w' := by
 have H : ((stringslite_CutPrefix.f a0 a1).bind fun bt432 => (some (bt432.1, bt432.2))) = some (r1, r2) := h
 clear h
 replace H := Option.bind_eq_some_iff.mp H
 obtain ⟨⟨t432, t433⟩, A30, H⟩ := H
 replace H : (some (t432, t433)) = some (r1, r2) := H
 have A3 := Aside0.mk A30
 clear A30
 simp only [Option.some.injEq, Prod.mk.injEq] at H
 obtain ⟨rfl, rfl⟩ := H
 go_enter Tryz.func34, Tryz.ntmps34
 go_wp2_with (first | ((with_reducible refine gate_callee (f := 58) rfl ?_); refine goesL_ (some 8) rfl rfl Tryz.func58 (by kernel_rfl) rfl #[.string a0, .string a1] rfl ap3 ?_; (with_reducible refine (stringslite_CutPrefix.calls a0 a1 t432 t433 _ A3.out).mono ?_); rintro e w' ⟨rfl, ⟨nd, rfl⟩⟩; refine ⟨_, rfl, ?_⟩))
 go_ret2
 exact ⟨ap2, ap7⟩
def stringslite_HasSuffix.f (a0 : ByteArray) (a1 : ByteArray) : Option (Bool) := if (a0.size : Int) ≥ (a1.size : Int) then (if 0 ≤ (wrap64 ((a0.size : Int) - (a1.size : Int))) then (if (wrap64 ((a0.size : Int) - (a1.size : Int))) ≤ (a0.size : Int) then (some ((a0.extract ((wrap64 ((a0.size : Int) - (a1.size : Int))) : Int).toNat a0.size).toList == a1.toList)) else (none)) else (none)) else (some false)
set_option maxHeartbeats 8000000 in
set_option maxRecDepth 100000 in
theorem stringslite_HasSuffix.calls (a0 : ByteArray) (a1 : ByteArray) (r : Bool) (w : World) (h : stringslite_HasSuffix.f a0 a1 = some r) :
  Calls Tryz.prog 91 #[.string a0, .string a1] w fun e w' => e = .returned (.bool r) ∧ Drawn0 w w' := by
 have H : (if (a0.size : Int) ≥ (a1.size : Int) then (if 0 ≤ (wrap64 ((a0.size : Int) - (a1.size : Int))) then (if (wrap64 ((a0.size : Int) - (a1.size : Int))) ≤ (a0.size : Int) then (some ((a0.extract ((wrap64 ((a0.size : Int) - (a1.size : Int))) : Int).toNat a0.size).toList == a1.toList)) else (none)) else (none)) else (some false)) = some r := h
 clear h
 by_cases c3 : (a0.size : Int) ≥ (a1.size : Int)
 ·
  rw [if_pos c3] at H
  have c3b0 := decide_eq_true c3
  have c3b1 : decide (a1.size ≤ a0.size) = true := decide_eq_true (Int.ofNat_le.mp c3)
  clear c3
  obtain ⟨ji4, hji4⟩ : ∃ j_ : Int, (wrap64 ((a0.size : Int) - (a1.size : Int))) = j_ := ⟨_, rfl⟩
  replace H : (if 0 ≤ (ji4) then (if (ji4) ≤ (a0.size : Int) then (some ((a0.extract ((ji4) : Int).toNat a0.size).toList == a1.toList)) else (none)) else (none)) = some r := by first | (rw [hji4] at H; exact H) | (simp only [hji4] at H ⊢; exact H)
  have hji4w : (IntKind.i64.wrap ((a0.size : Int) - (a1.size : Int))) = ji4 := (i64_w _).trans hji4
  by_cases c5 : 0 ≤ (ji4)
  ·
   rw [if_pos c5] at H
   have c5b0 := eq_true c5
   have c5b1 := decide_eq_true c5
   clear c5
   by_cases c6 : (ji4) ≤ (a0.size : Int)
   ·
    rw [if_pos c6] at H
    have c6b0 := eq_true c6
    have c6b1 := decide_eq_true c6
    clear c6
    obtain rfl := Option.some.inj H
    go_enter Tryz.func91, Tryz.ntmps91
    go_wp2
    go_ret
    exact ⟨by first | rfl | (simp; done) | (simp only [← hji4] <;> (first | rfl | simp)) | (simp [*]; done), by repeat (first | exact Drawn0.refl _ | apply Drawn0.step)⟩
   ·
    rw [if_neg c6] at H
    exact absurd H (by simp)
  ·
   rw [if_neg c5] at H
   exact absurd H (by simp)
 ·
  rw [if_neg c3] at H
  have c3b0 := decide_eq_false c3
  have c3b1 : decide (a1.size ≤ a0.size) = false := decide_eq_false (fun h => c3 (Int.ofNat_le.mpr h))
  clear c3
  obtain rfl := Option.some.inj H
  go_enter Tryz.func91, Tryz.ntmps91
  go_wp2
  go_ret
  exact ⟨ap2, ap7⟩
def stringslite_CutSuffix.f (a0 : ByteArray) (a1 : ByteArray) : Option (ByteArray × Bool) := (stringslite_HasSuffix.f a0 a1).bind fun t434 => (if t434 = true then (if 0 ≤ (wrap64 ((a0.size : Int) - (a1.size : Int))) then (if (wrap64 ((a0.size : Int) - (a1.size : Int))) ≤ (a0.size : Int) then (some (a0.extract 0 ((wrap64 ((a0.size : Int) - (a1.size : Int))) : Int).toNat, true)) else (none)) else (none)) else (some (a0, false)))
set_option maxHeartbeats 8000000 in
set_option maxRecDepth 100000 in
theorem stringslite_CutSuffix.calls (a0 : ByteArray) (a1 : ByteArray) (r1 : ByteArray) (r2 : Bool) (w : World) (h : stringslite_CutSuffix.f a0 a1 = some (r1, r2)) :
  Calls Tryz.prog 59 #[.string a0, .string a1] w fun e w' => e = .returned (.tuple #[.string r1, .bool r2]) ∧ Drawn0 w w' := by
 have H : ((stringslite_HasSuffix.f a0 a1).bind fun t434 => (if t434 = true then (if 0 ≤ (wrap64 ((a0.size : Int) - (a1.size : Int))) then (if (wrap64 ((a0.size : Int) - (a1.size : Int))) ≤ (a0.size : Int) then (some (a0.extract 0 ((wrap64 ((a0.size : Int) - (a1.size : Int))) : Int).toNat, true)) else (none)) else (none)) else (some (a0, false)))) = some (r1, r2) := h
 clear h
 replace H := Option.bind_eq_some_iff.mp H
 obtain ⟨t434, A30, H⟩ := H
 replace H : (if t434 = true then (if 0 ≤ (wrap64 ((a0.size : Int) - (a1.size : Int))) then (if (wrap64 ((a0.size : Int) - (a1.size : Int))) ≤ (a0.size : Int) then (some (a0.extract 0 ((wrap64 ((a0.size : Int) - (a1.size : Int))) : Int).toNat, true)) else (none)) else (none)) else (some (a0, false))) = some (r1, r2) := H
 have A3 := Aside0.mk A30
 clear A30
 by_cases c4 : t434 = true
 ·
  subst c4
  rw [if_pos rfl] at H
  obtain ⟨ji5, hji5⟩ : ∃ j_ : Int, (wrap64 ((a0.size : Int) - (a1.size : Int))) = j_ := ⟨_, rfl⟩
  replace H : (if 0 ≤ (ji5) then (if (ji5) ≤ (a0.size : Int) then (some (a0.extract 0 ((ji5) : Int).toNat, true)) else (none)) else (none)) = some (r1, r2) := by first | (rw [hji5] at H; exact H) | (simp only [hji5] at H ⊢; exact H)
  (try rw [hji5] at A3)
  have hji5w : (IntKind.i64.wrap ((a0.size : Int) - (a1.size : Int))) = ji5 := (i64_w _).trans hji5
  by_cases c6 : 0 ≤ (ji5)
  ·
   rw [if_pos c6] at H
   have c6b0 := eq_true c6
   have c6b1 := decide_eq_true c6
   clear c6
   by_cases c7 : (ji5) ≤ (a0.size : Int)
   ·
    rw [if_pos c7] at H
    have c7b0 := eq_true c7
    have c7b1 := decide_eq_true c7
    clear c7
    simp only [Option.some.injEq, Prod.mk.injEq] at H
    obtain ⟨rfl, rfl⟩ := H
    go_enter Tryz.func59, Tryz.ntmps59
    go_wp2_with (first | ((with_reducible refine gate_callee (f := 91) rfl ?_); refine goesL_ (some 8) rfl rfl Tryz.func91 (by kernel_rfl) rfl #[.string a0, .string a1] rfl ap3 ?_; (with_reducible refine (stringslite_HasSuffix.calls a0 a1 true _ A3.out).mono ?_); rintro e w' ⟨rfl, ⟨nd, rfl⟩⟩; refine ⟨_, rfl, ?_⟩))
    go_ret2
    exact ⟨by first | rfl | (simp; done) | (simp only [← hji5] <;> (first | rfl | simp)) | (simp [*]; done), by repeat (first | exact Drawn0.refl _ | apply Drawn0.step)⟩
   ·
    rw [if_neg c7] at H
    exact absurd H (by simp)
  ·
   rw [if_neg c6] at H
   exact absurd H (by simp)
 ·
  replace c4 := Bool.eq_false_iff.mpr c4
  subst c4
  rw [if_neg (show ¬ (false = true) by decide)] at H
  simp only [Option.some.injEq, Prod.mk.injEq] at H
  obtain ⟨rfl, rfl⟩ := H
  go_enter Tryz.func59, Tryz.ntmps59
  go_wp2_with (first | ((with_reducible refine gate_callee (f := 91) rfl ?_); refine goesL_ (some 8) rfl rfl Tryz.func91 (by kernel_rfl) rfl #[.string a0, .string a1] rfl ap3 ?_; (with_reducible refine (stringslite_HasSuffix.calls a0 a1 false _ A3.out).mono ?_); rintro e w' ⟨rfl, ⟨nd, rfl⟩⟩; refine ⟨_, rfl, ?_⟩))
  go_ret2
  exact ⟨ap2, ap7⟩
def strings_CutSuffix.f (a0 : ByteArray) (a1 : ByteArray) : Option (ByteArray × Bool) := (stringslite_CutSuffix.f a0 a1).bind fun bt435 => (some (bt435.1, bt435.2))
set_option maxHeartbeats 8000000 in
set_option maxRecDepth 100000 in
theorem strings_CutSuffix.calls (a0 : ByteArray) (a1 : ByteArray) (r1 : ByteArray) (r2 : Bool) (w : World) (h : strings_CutSuffix.f a0 a1 = some (r1, r2)) :
  Calls Tryz.prog 35 #[.string a0, .string a1] w fun e w' => e = .returned (.tuple #[.string r1, .bool r2]) ∧ Drawn0 w w' := by
 have H : ((stringslite_CutSuffix.f a0 a1).bind fun bt435 => (some (bt435.1, bt435.2))) = some (r1, r2) := h
 clear h
 replace H := Option.bind_eq_some_iff.mp H
 obtain ⟨⟨t435, t436⟩, A30, H⟩ := H
 replace H : (some (t435, t436)) = some (r1, r2) := H
 have A3 := Aside0.mk A30
 clear A30
 simp only [Option.some.injEq, Prod.mk.injEq] at H
 obtain ⟨rfl, rfl⟩ := H
 go_enter Tryz.func35, Tryz.ntmps35
 go_wp2_with (first | ((with_reducible refine gate_callee (f := 59) rfl ?_); refine goesL_ (some 8) rfl rfl Tryz.func59 (by kernel_rfl) rfl #[.string a0, .string a1] rfl ap3 ?_; (with_reducible refine (stringslite_CutSuffix.calls a0 a1 t435 t436 _ A3.out).mono ?_); rintro e w' ⟨rfl, ⟨nd, rfl⟩⟩; refine ⟨_, rfl, ?_⟩))
 go_ret2
 exact ⟨ap2, ap7⟩
mutual
def attr_Part.j0 : Nat → ByteArray → List ByteArray → List ByteArray → Bool → ByteArray → Int → Bool → Option (Bool × Int)
 | 0, _, _, _, _, _, _, _ => none
 | k + 1, x1, x3, x13, x14, x438000, x438001, x438002 => if x14 = true then (if (x3.length : Int) > 8 then (attr_Part.j1 k x1 x13 true x438000 x438001 x438002) else ((slices_ContainsFunc_string_string.f x13).bind fun t441 => (attr_Part.j1 k x1 x13 (!t441) x438000 x438001 x438002))) else (attr_Part.j1 k x1 x13 true x438000 x438001 x438002)
def attr_Part.j1 : Nat → ByteArray → List ByteArray → Bool → ByteArray → Int → Bool → Option (Bool × Int)
 | 0, _, _, _, _, _, _ => none
 | k + 1, x1, x13, x56, x438000, x438001, x438002 => if x56 = true then (some (false, 20)) else ((attr_Normal.f k x438000 x438001 x438002 x1).bind fun bt442 => (if bt442.2 = 0 then (attr_Part.l0 k x13 bt442.1 (x13.length : Int) 0 x438000 x438001 x438002) else (some (false, bt442.2))))
def attr_Part.l0 : Nat → List ByteArray → ByteArray → Int → Int → ByteArray → Int → Bool → Option (Bool × Int)
 | 0, _, _, _, _, _, _, _ => none
 | k + 1, x13, x15, x67, x68, x438000, x438001, x438002 => if x68 < x67 then (if 0 ≤ x68 then (if x68 < (x13.length : Int) then ((attr_piece.f k x438000 x438001 x438002 (rdOf ByteArray.empty x13 x68)).bind fun bt445 => (if bt445.2 = 0 then (attr_Part.l0 k (x13.set (x68 : Int).toNat bt445.1) x15 x67 (wrap64 (x68 + 1)) x438000 x438001 x438002) else (some (false, bt445.2)))) else (none)) else (none)) else (if 0 < (x13.length : Int) then ((strings_CutPrefix.f x15 (rdOf ByteArray.empty x13 0)).bind fun bt449 => (if bt449.2 = true then (if 0 ≤ (wrap64 ((x13.length : Int) - 1)) then (if (wrap64 ((x13.length : Int) - 1)) < (x13.length : Int) then ((strings_CutSuffix.f bt449.1 (rdOf ByteArray.empty x13 (wrap64 ((x13.length : Int) - 1)))).bind fun bt452 => (if 1 ≤ (wrap64 ((x13.length : Int) - 1)) then (if (wrap64 ((x13.length : Int) - 1)) ≤ (x13.length : Int) then ((some ((x13.take ((wrap64 ((x13.length : Int) - 1)) : Int).toNat).drop 1 : List ByteArray)).bind fun y454 => (attr_Part.l1 k bt452.1 bt452.2 y454 (y454.length : Int) 0)) else (none)) else (none))) else (none)) else (none)) else (some (false, 0)))) else (none))
def attr_Part.l1 : Nat → ByteArray → Bool → List ByteArray → Int → Int → Option (Bool × Int)
 | 0, _, _, _, _, _ => none
 | k + 1, x15, x21, x112, x113, x114 => if x114 < x113 then (if 0 ≤ x114 then (if x114 < (x112.length : Int) then (if x21 = true then ((strings_Cut.f x15 (rdOf ByteArray.empty x112 x114)).bind fun bt459 => (attr_Part.l1 k bt459.2.1 bt459.2.2 x112 x113 (wrap64 (x114 + 1)))) else (some (x21, 0))) else (none)) else (none)) else (some (x21, 0))
end
def attr_Part.f (k : Nat) (a0_0 : ByteArray) (a0_1 : Int) (a0_2 : Bool) (a1 : ByteArray) (a2 : ByteArray) (l3 : List ByteArray) (a4 : ByteArray) : Option (Bool × Int) := (slices_Concat_string_string.f a2 l3 a4).bind fun t438 => (if a0_1 = 1 then (attr_Part.j0 k a1 l3 t438 true a0_0 a0_1 a0_2) else (if a0_1 = 2 then (attr_Part.j0 k a1 l3 t438 true a0_0 a0_1 a0_2) else (attr_Part.j0 k a1 l3 t438 (a0_1 == 7) a0_0 a0_1 a0_2)))
theorem attr_Part.mono_l : ∀ k, (∀ y0 y1 y2 y3 y4 y5 y6, LeO (attr_Part.j0 k y0 y1 y2 y3 y4 y5 y6) (attr_Part.j0 (k + 1) y0 y1 y2 y3 y4 y5 y6)) ∧ (∀ y0 y1 y2 y3 y4 y5, LeO (attr_Part.j1 k y0 y1 y2 y3 y4 y5) (attr_Part.j1 (k + 1) y0 y1 y2 y3 y4 y5)) ∧ (∀ y0 y1 y2 y3 y4 y5 y6, LeO (attr_Part.l0 k y0 y1 y2 y3 y4 y5 y6) (attr_Part.l0 (k + 1) y0 y1 y2 y3 y4 y5 y6)) ∧ (∀ y0 y1 y2 y3 y4, LeO (attr_Part.l1 k y0 y1 y2 y3 y4) (attr_Part.l1 (k + 1) y0 y1 y2 y3 y4))
 | 0 => ⟨fun _ _ _ _ _ _ _ r h => by simp [attr_Part.j0] at h, fun _ _ _ _ _ _ r h => by simp [attr_Part.j1] at h, fun _ _ _ _ _ _ _ r h => by simp [attr_Part.l0] at h, fun _ _ _ _ _ r h => by simp [attr_Part.l1] at h⟩
 | k + 1 => by
  obtain ⟨ih0, ih1, ih2, ih3⟩ := attr_Part.mono_l k
  refine ⟨?_, ?_, ?_, ?_⟩
  ·
   intro y0 y1 y2 y3 y4 y5 y6
   unfold attr_Part.j0
   repeat' first
   | (with_reducible exact ih0 _ _ _ _ _ _ _)
   | (with_reducible exact ih1 _ _ _ _ _ _)
   | (with_reducible exact ih2 _ _ _ _ _ _ _)
   | (with_reducible exact ih3 _ _ _ _ _)
   | (with_reducible exact attr_Normal.mono _ _ _ _ _)
   | (with_reducible exact attr_piece.mono _ _ _ _ _)
   | (with_reducible exact LeO.refl _)
   | (with_reducible exact LeO.none _)
   | (with_reducible refine LeO.ite ?_ ?_)
   | (with_reducible refine LeO.bind ?_ (fun _ => ?_))
  ·
   intro y0 y1 y2 y3 y4 y5
   unfold attr_Part.j1
   repeat' first
   | (with_reducible exact ih0 _ _ _ _ _ _ _)
   | (with_reducible exact ih1 _ _ _ _ _ _)
   | (with_reducible exact ih2 _ _ _ _ _ _ _)
   | (with_reducible exact ih3 _ _ _ _ _)
   | (with_reducible exact attr_Normal.mono _ _ _ _ _)
   | (with_reducible exact attr_piece.mono _ _ _ _ _)
   | (with_reducible exact LeO.refl _)
   | (with_reducible exact LeO.none _)
   | (with_reducible refine LeO.ite ?_ ?_)
   | (with_reducible refine LeO.bind ?_ (fun _ => ?_))
  ·
   intro y0 y1 y2 y3 y4 y5 y6
   unfold attr_Part.l0
   repeat' first
   | (with_reducible exact ih0 _ _ _ _ _ _ _)
   | (with_reducible exact ih1 _ _ _ _ _ _)
   | (with_reducible exact ih2 _ _ _ _ _ _ _)
   | (with_reducible exact ih3 _ _ _ _ _)
   | (with_reducible exact attr_Normal.mono _ _ _ _ _)
   | (with_reducible exact attr_piece.mono _ _ _ _ _)
   | (with_reducible exact LeO.refl _)
   | (with_reducible exact LeO.none _)
   | (with_reducible refine LeO.ite ?_ ?_)
   | (with_reducible refine LeO.bind ?_ (fun _ => ?_))
  ·
   intro y0 y1 y2 y3 y4
   unfold attr_Part.l1
   repeat' first
   | (with_reducible exact ih0 _ _ _ _ _ _ _)
   | (with_reducible exact ih1 _ _ _ _ _ _)
   | (with_reducible exact ih2 _ _ _ _ _ _ _)
   | (with_reducible exact ih3 _ _ _ _ _)
   | (with_reducible exact attr_Normal.mono _ _ _ _ _)
   | (with_reducible exact attr_piece.mono _ _ _ _ _)
   | (with_reducible exact LeO.refl _)
   | (with_reducible exact LeO.none _)
   | (with_reducible refine LeO.ite ?_ ?_)
   | (with_reducible refine LeO.bind ?_ (fun _ => ?_))
theorem attr_Part.mono : ∀ a0 a1 a2 a3 a4 a5 a6 k, LeO (attr_Part.f k a0 a1 a2 a3 a4 a5 a6) (attr_Part.f (k + 1) a0 a1 a2 a3 a4 a5 a6) := by
 intro a0 a1 a2 a3 a4 a5 a6 k
 obtain ⟨ih0, ih1, ih2, ih3⟩ := attr_Part.mono_l k
 unfold attr_Part.f
 repeat' first
   | (with_reducible exact ih0 _ _ _ _ _ _ _)
   | (with_reducible exact ih1 _ _ _ _ _ _)
   | (with_reducible exact ih2 _ _ _ _ _ _ _)
   | (with_reducible exact ih3 _ _ _ _ _)
   | (with_reducible exact attr_Normal.mono _ _ _ _ _)
   | (with_reducible exact attr_piece.mono _ _ _ _ _)
   | (with_reducible exact LeO.refl _)
   | (with_reducible exact LeO.none _)
   | (with_reducible refine LeO.ite ?_ ?_)
   | (with_reducible refine LeO.bind ?_ (fun _ => ?_))
set_option maxHeartbeats 8000000 in
set_option maxRecDepth 100000 in
theorem attr_Part.calls (k : Nat) (a0_0 : ByteArray) (a0_1 : Int) (a0_2 : Bool) (a1 : ByteArray) (a2 : ByteArray) (A3 : Option Addr) (c3 : Nat) (l3 : List ByteArray) (a4 : ByteArray) (r1 : Bool) (r2 : Int) (w : World) (hr3 : Kd.C Kd.string w A3 l3.length l3) (hc3 : l3.length ≤ c3) (hG : Gw w) (h : attr_Part.f k a0_0 a0_1 a0_2 a1 a2 l3 a4 = some (r1, r2)) :
  Calls Tryz.prog 14 #[.agg #[.string a0_0, .int .i64 a0_1, .bool a0_2], .string a1, .string a2, .slice A3 l3.length c3, .string a4] w fun e w' => e = .returned (.tuple #[.bool r1, .int .i64 r2]) ∧ Below w.heap.size w w' := by
 have hu23 := Tryz.underlying23
 have HR3 := Aside0.mk hr3
 have HC3 := Aside0.mk hc3
 clear hr3 hc3
 have HB := Aside0.mk (Below.refl w.heap.size w)
 have HG := Aside0.mk hG
 clear hG
 have H : ((slices_Concat_string_string.f a2 l3 a4).bind fun t438 => (if a0_1 = 1 then (attr_Part.j0 k a1 l3 t438 true a0_0 a0_1 a0_2) else (if a0_1 = 2 then (attr_Part.j0 k a1 l3 t438 true a0_0 a0_1 a0_2) else (attr_Part.j0 k a1 l3 t438 (a0_1 == 7) a0_0 a0_1 a0_2)))) = some (r1, r2) := h
 clear h
 replace H := Option.bind_eq_some_iff.mp H
 obtain ⟨t438, A60, H⟩ := H
 replace H : (if a0_1 = 1 then (attr_Part.j0 k a1 l3 t438 true a0_0 a0_1 a0_2) else (if a0_1 = 2 then (attr_Part.j0 k a1 l3 t438 true a0_0 a0_1 a0_2) else (attr_Part.j0 k a1 l3 t438 (a0_1 == 7) a0_0 a0_1 a0_2))) = some (r1, r2) := H
 have A6 := Aside0.mk A60
 clear A60
 have HC7 := Aside0.mk H
 clear H
 go_enter Tryz.func14, Tryz.ntmps14
 go_upto_region 3 with (first | ((with_reducible refine gate_dst (N := 5) rfl ?_); (try (refine gate_guard (by rfl) ?_; dsimp only)); refine box_event ?hg (N := 5) ?hd (cs := #[.string a0_0, .int .i64 a0_1, .bool a0_2]) (t := 23) ?hr ?_; (case hd => rfl); (case hg => rfl); (case hr => first | (go_simp; done) | (go_simp; rfl)); intro gb437 hg w8 hbox hb; have n0_ := Aside0.mk (below_step ap1 hb); have n1_ := Aside0.mk (hbox); have n2_ := Aside0.mk ((by rw [hg]; exact (below_size ap1) : w.heap.size ≤ gb437)); have n3_ := Aside0.mk ((by rw [hg]; exact (below_size ap1) : w.heap.size ≤ gb437)); clear HB; have HB := n0_; have BK437 := n1_; have GW437 := n2_; have GE437 := n3_; clear n0_ n1_ n2_ n3_; clear hb hbox hg) | ((with_reducible refine gate_callee (f := 31) rfl ?_); refine goesL_ (some 30) rfl rfl Tryz.func31 (by kernel_rfl) rfl #[.slice (some ⟨w8.heap.size + 2, 0, none⟩) 3 3] rfl (by first | done | rfl | (go_simp; done) | (go_simp; rfl) | (simp only [World.size_alloc])) ?_; (with_reducible refine (slices_Concat_string_string.calls a2 _ _ l3 a4 t438 w8 ?side1 ?side2 A6.out).mono ?_); (case side1 => repeat (first | exact (Kd.C_below HR3.out HB.out) | (with_reducible refine Kd.C_alloc ?_ _) | (with_reducible refine Kd.C_drewN ?_ _) | (with_reducible refine Kd.C_drew ?_))); (case side2 => exact HC3.out); rintro e w9 ⟨v439, rfl, ho0, hb⟩; refine ⟨_, rfl, ?_⟩; have n0_ := Aside0.mk (Kd.R_lower ho0 (below_size (apG GE437.out))); have n1_ := Aside0.mk (blk_below (g := gb437) (o := .cells #[.string a0_0, .int .i64 a0_1, .bool a0_2] 23 (0, 0)) (apB BK437.out) hb); have n2_ := Aside0.mk (below_step (apG GE437.out) hb); clear BK437; clear HB; have HO440 := n0_; have BK437 := n1_; have HB := n2_; clear n0_ n1_ n2_; (try clear hb); (try clear hb2); (try clear hk); (try clear hi); (try clear ho0)))
 (try simp only [Act.put, List.setIfInBounds_toArray, List.set_cons_zero, List.set_cons_succ])
 go_cut [14] (fun v14 wc => ∃ (kq : Nat) (x14_6 : Bool), v14 = .bool x14_6 ∧ Aside0 (attr_Part.j0 kq a1 l3 t438 x14_6 a0_0 a0_1 a0_2 = some (r1, r2)) ∧ Aside0 (kq ≤ k) ∧ Aside0 (Kd.R Kd.string 9 wc w.heap.size (fun _ => True) v439 t438) ∧ Aside0 (wc.heap[gb437]? = some (.cells #[.string a0_0, .int .i64 a0_1, .bool a0_2] 23 (0, 0))) ∧ Aside0 (Below w.heap.size w wc))
 case first =>
  have H := HC7.out
  clear HC7
  by_cases c10 : a0_1 = 1
  ·
   rw [if_pos c10] at H
   have c10b0 : (a0_1 == 1) = true := beq_iff_eq.mpr c10
   have c10b1 : (a0_1 != 1) = false := bne_eq_false_iff_eq.mpr c10
   clear c10
   (first | rw [c10b0] | (simp only [i64_w, i32_w]; rw [c10b0]) | skip)
   have H' := Aside0.mk H
   clear H
   have hcz11_0 : w9.cell? ⟨gb437, 0, none⟩ = some (.string a0_0) := (blk_cell BK437.out 0).trans rfl
   have hcz11_1 : w9.cell? ⟨gb437, 1, none⟩ = some (.int .i64 a0_1) := (blk_cell BK437.out 1).trans rfl
   have hcz11_2 : w9.cell? ⟨gb437, 2, none⟩ = some (.bool a0_2) := (blk_cell BK437.out 2).trans rfl
   have hfz11_0 := blk_frozen BK437.out 0
   have hfz11_1 := blk_frozen BK437.out 1
   have hfz11_2 := blk_frozen BK437.out 2
   go_wp2
   first | go_meet | (simp only [c10b0] at *; go_meet)
   case rel => exact ⟨_, (true), ap2, H', ⟨by first | omega | exact Nat.le_refl _⟩, ⟨by (with_reducible repeat (first | apply Kd.R_alloc | apply Kd.R_drewN | apply Kd.R_drew)); exact HO440.out⟩, ⟨by (with_reducible repeat (first | refine blk_drewN ?_ _ | refine blk_drew ?_ | refine blk_alloc ?_ _)); exact BK437.out⟩, ⟨by repeat (first | (with_reducible first | exact HB.out | apply below_alloc | apply pw_below_drewN | apply below_drew1 | refine below_set ?_ GE437.out) | exact HB.out)⟩⟩
  ·
   rw [if_neg c10] at H
   have c10b0 : (a0_1 == 1) = false := beq_eq_false_iff_ne.mpr c10
   have c10b1 : (a0_1 != 1) = true := bne_iff_ne.mpr c10
   (first | rw [c10b0] | (simp only [i64_w, i32_w]; rw [c10b0]) | skip)
   by_cases c12 : a0_1 = 2
   ·
    rw [if_pos c12] at H
    have c12b0 : (a0_1 == 2) = true := beq_iff_eq.mpr c12
    have c12b1 : (a0_1 != 2) = false := bne_eq_false_iff_eq.mpr c12
    clear c12
    have H' := Aside0.mk H
    clear H
    have hcz13_0 : w9.cell? ⟨gb437, 0, none⟩ = some (.string a0_0) := (blk_cell BK437.out 0).trans rfl
    have hcz13_1 : w9.cell? ⟨gb437, 1, none⟩ = some (.int .i64 a0_1) := (blk_cell BK437.out 1).trans rfl
    have hcz13_2 : w9.cell? ⟨gb437, 2, none⟩ = some (.bool a0_2) := (blk_cell BK437.out 2).trans rfl
    have hfz13_0 := blk_frozen BK437.out 0
    have hfz13_1 := blk_frozen BK437.out 1
    have hfz13_2 := blk_frozen BK437.out 2
    go_wp2
    first | go_meet | (simp only [c12b0] at *; go_meet) | (simp only [c10b0] at *; go_meet) | (simp only [c10b0] at *; go_meet)
    case rel => exact ⟨_, (true), ap2, H', ⟨by first | omega | exact Nat.le_refl _⟩, ⟨by (with_reducible repeat (first | apply Kd.R_alloc | apply Kd.R_drewN | apply Kd.R_drew)); exact HO440.out⟩, ⟨by (with_reducible repeat (first | refine blk_drewN ?_ _ | refine blk_drew ?_ | refine blk_alloc ?_ _)); exact BK437.out⟩, ⟨by repeat (first | (with_reducible first | exact HB.out | apply below_alloc | apply pw_below_drewN | apply below_drew1 | refine below_set ?_ GE437.out) | exact HB.out)⟩⟩
   ·
    rw [if_neg c12] at H
    have c12b0 : (a0_1 == 2) = false := beq_eq_false_iff_ne.mpr c12
    have c12b1 : (a0_1 != 2) = true := bne_iff_ne.mpr c12
    have H' := Aside0.mk H
    clear H
    have hcz14_0 : w9.cell? ⟨gb437, 0, none⟩ = some (.string a0_0) := (blk_cell BK437.out 0).trans rfl
    have hcz14_1 : w9.cell? ⟨gb437, 1, none⟩ = some (.int .i64 a0_1) := (blk_cell BK437.out 1).trans rfl
    have hcz14_2 : w9.cell? ⟨gb437, 2, none⟩ = some (.bool a0_2) := (blk_cell BK437.out 2).trans rfl
    have hfz14_0 := blk_frozen BK437.out 0
    have hfz14_1 := blk_frozen BK437.out 1
    have hfz14_2 := blk_frozen BK437.out 2
    go_wp2
    first | go_meet | (simp only [c12b0] at *; go_meet) | (simp only [c12b0] at *; go_meet) | (simp only [c10b0] at *; go_meet)
    case rel => exact ⟨_, ((a0_1 == 7)), ap2, H', ⟨by first | omega | exact Nat.le_refl _⟩, ⟨by (with_reducible repeat (first | apply Kd.R_alloc | apply Kd.R_drewN | apply Kd.R_drew)); exact HO440.out⟩, ⟨by (with_reducible repeat (first | refine blk_drewN ?_ _ | refine blk_drew ?_ | refine blk_alloc ?_ _)); exact BK437.out⟩, ⟨by repeat (first | (with_reducible first | exact HB.out | apply below_alloc | apply pw_below_drewN | apply below_drew1 | refine below_set ?_ GE437.out) | exact HB.out)⟩⟩
 case rest =>
  clear HC7
  try clear c1
  try clear p2
  try clear c3
  try clear c10
  try clear c10b0
  try clear c10b1
  try clear c12
  try clear c12b0
  try clear c12b1
  try clear c14
  try clear hcz11_0
  try clear hcz11_1
  try clear hcz11_2
  try clear hcz13_0
  try clear hcz13_1
  try clear hcz13_2
  try clear hcz14_0
  try clear hcz14_1
  try clear hcz14_2
  try clear hfz11_0
  try clear hfz11_1
  try clear hfz11_2
  try clear hfz13_0
  try clear hfz13_1
  try clear hfz13_2
  try clear hfz14_0
  try clear hfz14_1
  try clear hfz14_2
  obtain ⟨kq, x14_6, rfl, HA, HJ6, HO_13, BK437, HB⟩ := hcut
  cases kq with
  | zero => exact absurd HA.out (by simp [attr_Part.j0])
  | succ kj6 =>
   have H := HA.out
   clear HA
   simp only [attr_Part.j0] at H
   have HC15 := Aside0.mk H
   clear H
   go_upto_region 4 with (fail)
   go_cut [56] (fun v56 wc => ∃ (kq : Nat) (x56_14 : Bool), v56 = .bool x56_14 ∧ Aside0 (attr_Part.j1 kq a1 t438 x56_14 a0_0 a0_1 a0_2 = some (r1, r2)) ∧ Aside0 (kq ≤ kj6) ∧ Aside0 (Kd.R Kd.string 9 wc w.heap.size (fun _ => True) v439 t438) ∧ Aside0 (wc.heap[gb437]? = some (.cells #[.string a0_0, .int .i64 a0_1, .bool a0_2] 23 (0, 0))) ∧ Aside0 (Below w.heap.size w wc))
   case first =>
    have H := HC15.out
    clear HC15
    by_cases c16 : x14_6 = true
    ·
     subst c16
     rw [if_pos rfl] at H
     by_cases c17 : (l3.length : Int) > 8
     ·
      rw [if_pos c17] at H
      have c17b0 := decide_eq_true c17
      have c17b1 : decide (8 < l3.length) = true := decide_eq_true (by omega)
      clear c17
      (first | rw [c17b0] | (simp only [i64_w, i32_w]; rw [c17b0]) | skip)
      have H' := Aside0.mk H
      clear H
      go_wp2
      first | go_meet | (simp only [c12b0] at *; go_meet) | (simp only [c12b0] at *; go_meet) | (simp only [c10b0] at *; go_meet)
      case rel => exact ⟨_, (true), ap2, H', ⟨by have := HJ6.out; first | omega | exact Nat.le_refl _⟩, ⟨by (with_reducible repeat (first | apply Kd.R_alloc | apply Kd.R_drewN | apply Kd.R_drew)); exact HO_13.out⟩, ⟨by (with_reducible repeat (first | refine blk_drewN ?_ _ | refine blk_drew ?_ | refine blk_alloc ?_ _)); exact BK437.out⟩, ⟨by repeat (first | (with_reducible first | exact HB.out | apply below_alloc | apply pw_below_drewN | apply below_drew1 | refine below_set ?_ GE437.out) | exact HB.out)⟩⟩
     ·
      rw [if_neg c17] at H
      have c17b0 := decide_eq_false c17
      have c17b1 : decide (8 < l3.length) = false := decide_eq_false (by omega)
      clear c17
      (first | rw [c17b0] | (simp only [i64_w, i32_w]; rw [c17b0]) | skip)
      replace H := Option.bind_eq_some_iff.mp H
      obtain ⟨t441, A180, H⟩ := H
      replace H : (attr_Part.j1 kj6 a1 t438 (!t441) a0_0 a0_1 a0_2) = some (r1, r2) := H
      have A18 := Aside0.mk A180
      clear A180
      have H' := Aside0.mk H
      clear H
      obtain ⟨Ao19, co19, eo19⟩ := Kd.R_slice HO_13.out
      subst eo19
      go_wp2_with (first | (go_at_call 32; (with_reducible refine (slices_ContainsFunc_string_string.calls _ _ t438 t441 _ ?side1 ?side2 A18.out).mono ?_); (case side1 => repeat (first | exact (Kd.R_reads' HO_13.out).2.2 | (with_reducible refine Kd.C_alloc ?_ _) | (with_reducible refine Kd.C_drewN ?_ _) | (with_reducible refine Kd.C_drew ?_))); (case side2 => exact (Kd.R_reads' HO_13.out).2.1); rintro e w20 ⟨rfl, hb⟩; have n0_ := Aside0.mk (Kd.R_below (apAR HO_13.out) hb); have n1_ := Aside0.mk (blk_below (g := gb437) (o := .cells #[.string a0_0, .int .i64 a0_1, .bool a0_2] 23 (0, 0)) (apB BK437.out) hb); have n2_ := Aside0.mk (below_step (apG GE437.out) hb); clear HO_13; clear BK437; clear HB; have HO_13 := n0_; have BK437 := n1_; have HB := n2_; clear n0_ n1_ n2_; (try clear hb); (try clear hb2); (try clear hk); (try clear hi)))
      first | go_meet | (simp only [c12b0] at *; go_meet) | (simp only [c12b0] at *; go_meet) | (simp only [c10b0] at *; go_meet)
      case rel => exact ⟨_, (!t441), ap2, H', ⟨by have := HJ6.out; first | omega | exact Nat.le_refl _⟩, ⟨by (with_reducible repeat (first | apply Kd.R_alloc | apply Kd.R_drewN | apply Kd.R_drew)); exact HO_13.out⟩, ⟨by (with_reducible repeat (first | refine blk_drewN ?_ _ | refine blk_drew ?_ | refine blk_alloc ?_ _)); exact BK437.out⟩, ⟨by repeat (first | (with_reducible first | exact HB.out | apply below_alloc | apply pw_below_drewN | apply below_drew1 | refine below_set ?_ GE437.out) | exact HB.out)⟩⟩
    ·
     replace c16 := Bool.eq_false_iff.mpr c16
     subst c16
     rw [if_neg (show ¬ (false = true) by decide)] at H
     have H' := Aside0.mk H
     clear H
     go_wp2
     first | go_meet | (simp only [c12b0] at *; go_meet) | (simp only [c12b0] at *; go_meet) | (simp only [c10b0] at *; go_meet)
     case rel => exact ⟨_, (true), ap2, H', ⟨by have := HJ6.out; first | omega | exact Nat.le_refl _⟩, ⟨by (with_reducible repeat (first | apply Kd.R_alloc | apply Kd.R_drewN | apply Kd.R_drew)); exact HO_13.out⟩, ⟨by (with_reducible repeat (first | refine blk_drewN ?_ _ | refine blk_drew ?_ | refine blk_alloc ?_ _)); exact BK437.out⟩, ⟨by repeat (first | (with_reducible first | exact HB.out | apply below_alloc | apply pw_below_drewN | apply below_drew1 | refine below_set ?_ GE437.out) | exact HB.out)⟩⟩
   case rest =>
    clear HC15
    try clear c1
    try clear p2
    try clear c3
    try clear c10
    try clear c10b0
    try clear c10b1
    try clear c12
    try clear c12b0
    try clear c12b1
    try clear c14
    try clear c16
    try clear c17
    try clear c17b0
    try clear c17b1
    try clear hcz11_0
    try clear hcz11_1
    try clear hcz11_2
    try clear hcz13_0
    try clear hcz13_1
    try clear hcz13_2
    try clear hcz14_0
    try clear hcz14_1
    try clear hcz14_2
    try clear hfz11_0
    try clear hfz11_1
    try clear hfz11_2
    try clear hfz13_0
    try clear hfz13_1
    try clear hfz13_2
    try clear hfz14_0
    try clear hfz14_1
    try clear hfz14_2
    try clear p2
    obtain ⟨kq, x56_14, rfl, HA, HJ14, HO_13, BK437, HB⟩ := hcut
    cases kq with
    | zero => exact absurd HA.out (by simp [attr_Part.j1])
    | succ kj14 =>
     have H := HA.out
     clear HA
     simp only [attr_Part.j1] at H
     by_cases c21 : x56_14 = true
     ·
      subst c21
      rw [if_pos rfl] at H
      simp only [Option.some.injEq, Prod.mk.injEq] at H
      obtain ⟨rfl, rfl⟩ := H
      go_wp2
      go_ret2
      exact ⟨by first | rfl | (simp [errW_none, errW_some, bne_nil8, beq_nil8]; done) | (simp [errW_none, errW_some] <;> rfl) | (simp [*, errW_none, errW_some] <;> rfl), by repeat (first | (with_reducible first | exact HB.out | apply below_alloc | apply pw_below_drewN | apply below_drew1 | refine below_set ?_ GE437.out) | exact HB.out)⟩
     ·
      replace c21 := Bool.eq_false_iff.mpr c21
      subst c21
      rw [if_neg (show ¬ (false = true) by decide)] at H
      replace H := Option.bind_eq_some_iff.mp H
      obtain ⟨⟨t442, t443⟩, A220, H⟩ := H
      replace H : (if t443 = 0 then (attr_Part.l0 kj14 t438 t442 (t438.length : Int) 0 a0_0 a0_1 a0_2) else (some (false, t443))) = some (r1, r2) := H
      have A22 := Aside0.mk A220
      clear A220
      by_cases c23 : t443 = 0
      ·
       rw [if_pos c23] at H
       have c23b0 : (t443 == 0) = true := beq_iff_eq.mpr c23
       have c23b1 : (t443 != 0) = false := bne_eq_false_iff_eq.mpr c23
       clear c23
       have H' := Aside0.mk H
       clear H
       have hcz24_0 : wc.cell? ⟨gb437, 0, none⟩ = some (.string a0_0) := (blk_cell BK437.out 0).trans rfl
       have hcz24_1 : wc.cell? ⟨gb437, 1, none⟩ = some (.int .i64 a0_1) := (blk_cell BK437.out 1).trans rfl
       have hcz24_2 : wc.cell? ⟨gb437, 2, none⟩ = some (.bool a0_2) := (blk_cell BK437.out 2).trans rfl
       have hfz24_0 := blk_frozen BK437.out 0
       have hfz24_1 := blk_frozen BK437.out 1
       have hfz24_2 := blk_frozen BK437.out 2
       go_wp2_with (first | ((with_reducible refine gate_callee (f := 19) rfl ?_); refine goesL_ (some 60) rfl rfl Tryz.func19 (by kernel_rfl) rfl #[.agg #[.string a0_0, .int .i64 a0_1, .bool a0_2], .string a1] rfl ap3 ?_; (with_reducible refine (attr_Normal.calls kj14 a0_0 a0_1 a0_2 a1 t442 t443 _ ?side1 A22.out).mono ?_); (case side1 => first | exact HG.out | (refine Gw.below HG.out ?_; repeat (first | (with_reducible first | exact HB.out | apply below_alloc | apply pw_below_drewN | apply below_drew1 | refine below_set ?_ GE437.out) | exact HB.out))); rintro e w25 ⟨rfl, hb⟩; refine ⟨_, rfl, ?_⟩; have n0_ := Aside0.mk (Kd.R_below (apAR HO_13.out) hb); have n1_ := Aside0.mk (blk_below (g := gb437) (o := .cells #[.string a0_0, .int .i64 a0_1, .bool a0_2] 23 (0, 0)) (apB BK437.out) hb); have n2_ := Aside0.mk (below_step (apG GE437.out) hb); clear HO_13; clear BK437; clear HB; have HO_13 := n0_; have BK437 := n1_; have HB := n2_; clear n0_ n1_ n2_; (try clear hb); (try clear hb2); (try clear hk); (try clear hi); obtain ⟨Ao26, co26, eo26⟩ := Kd.R_slice HO_13.out; subst eo26))
       go_loopg [68] kj14 (fun kq v68 w' => ∃ (x13_3 : List ByteArray) (x68_3 : Int), v68 = .int .i64 x68_3 ∧ Aside0 (attr_Part.l0 kq x13_3 t442 (t438.length : Int) x68_3 a0_0 a0_1 a0_2 = some (r1, r2)) ∧ Aside0 (kq ≤ kj14) ∧ Aside0 (Kd.R Kd.string 9 w' w.heap.size (fun _ => True) (.slice Ao26 t438.length co26) x13_3) ∧ Aside0 (w'.heap[gb437]? = some (.cells #[.string a0_0, .int .i64 a0_1, .bool a0_2] 23 (0, 0))) ∧ Aside0 (Below w.heap.size w w'))
       case atStart => exact ⟨(t438), (0), ap2, H', ⟨Nat.le_refl _⟩, ⟨by (with_reducible repeat (first | apply Kd.R_alloc | apply Kd.R_drewN | apply Kd.R_drew)); exact HO_13.out⟩, ⟨by (with_reducible repeat (first | refine blk_drewN ?_ _ | refine blk_drew ?_ | refine blk_alloc ?_ _)); exact BK437.out⟩, ⟨by repeat (first | (with_reducible first | exact HB.out | apply below_alloc | apply pw_below_drewN | apply below_drew1 | refine below_set ?_ GE437.out) | exact HB.out)⟩⟩
       case round =>
        clear H'
        try clear c1
        try clear c2
        try clear p2
        try clear c3
        try clear c10
        try clear c10b0
        try clear c10b1
        try clear c12
        try clear c12b0
        try clear c12b1
        try clear c14
        try clear c16
        try clear c17
        try clear c17b0
        try clear c17b1
        try clear c19
        try clear c21
        try clear c23
        try clear c23b0
        try clear c23b1
        try clear hcz11_0
        try clear hcz11_1
        try clear hcz11_2
        try clear hcz13_0
        try clear hcz13_1
        try clear hcz13_2
        try clear hcz14_0
        try clear hcz14_1
        try clear hcz14_2
        try clear hcz24_0
        try clear hcz24_1
        try clear hcz24_2
        try clear hfz11_0
        try clear hfz11_1
        try clear hfz11_2
        try clear hfz13_0
        try clear hfz13_1
        try clear hfz13_2
        try clear hfz14_0
        try clear hfz14_1
        try clear hfz14_2
        try clear hfz24_0
        try clear hfz24_1
        try clear hfz24_2
        try clear p2
        obtain ⟨x13_3, x68_3, rfl, HA, HK3, HO_13, BK437, HB⟩ := hrel
        have hl13_3 := (Kd.R_reads' HO_13.out).1
        rw [hl13_3] at HO_13
        (try simp only [hl13_3])
        (try simp only [hl13_3] at BK437)
        cases gk with
        | zero => exact absurd HA.out (by simp [attr_Part.l0])
        | succ k3 =>
         have H := HA.out
         clear HA
         simp only [attr_Part.l0] at H
         by_cases c27 : x68_3 < (t438.length : Int)
         ·
          rw [if_pos c27] at H
          have c27b0 := decide_eq_true c27
          clear c27
          by_cases c28 : 0 ≤ x68_3
          ·
           rw [if_pos c28] at H
           have c28b0 := decide_eq_true c28
           clear c28
           by_cases c29 : x68_3 < (x13_3.length : Int)
           ·
            rw [if_pos c29] at H
            have c29b0 := decide_eq_true c29
            clear c29
            replace H := Option.bind_eq_some_iff.mp H
            obtain ⟨⟨t445, t446⟩, A300, H⟩ := H
            replace H : (if t446 = 0 then (attr_Part.l0 k3 (x13_3.set (x68_3 : Int).toNat t445) t442 (t438.length : Int) (wrap64 (x68_3 + 1)) a0_0 a0_1 a0_2) else (some (false, t446))) = some (r1, r2) := H
            have A30 := Aside0.mk A300
            clear A300
            by_cases c31 : t446 = 0
            ·
             rw [if_pos c31] at H
             have c31b0 : (t446 == 0) = true := beq_iff_eq.mpr c31
             have c31b1 : (t446 != 0) = false := bne_eq_false_iff_eq.mpr c31
             clear c31
             obtain ⟨y447, hy447⟩ : ∃ y_ : List ByteArray, y_ = (x13_3.set (x68_3 : Int).toNat t445) := ⟨_, rfl⟩
             replace H : (attr_Part.l0 k3 y447 t442 (t438.length : Int) (wrap64 (x68_3 + 1)) a0_0 a0_1 a0_2) = some (r1, r2) := by first | (rw [hy447]; with_reducible exact H) | (have H2_ := (Option.bind_some _ _).symm.trans H; rw [hy447]; with_reducible exact H2_) | (have H2_ := (Option.bind_some _ _).symm.trans H; with_reducible exact H2_) | with_reducible exact H | (rw [hy447]; exact H) | exact H
             have Ny447 := Aside0.mk hy447
             clear hy447
             have H' := Aside0.mk H
             clear H
             have p444 : 0 ≤ (x68_3 : Int) := of_decide_eq_true ap0
             have q444 : x68_3 < (x13_3.length : Int) := of_decide_eq_true ap0
             obtain ⟨ad444, e444, hx444_0⟩ := Kd.at_string (Kd.R_reads' HO_13.out).2.2 x68_3 p444 q444
             cases e444
             replace p444 := eq_true p444
             replace q444 := eq_true q444
             have hcz33_0 : wr.cell? ⟨gb437, 0, none⟩ = some (.string a0_0) := (blk_cell BK437.out 0).trans rfl
             have hcz33_1 : wr.cell? ⟨gb437, 1, none⟩ = some (.int .i64 a0_1) := (blk_cell BK437.out 1).trans rfl
             have hcz33_2 : wr.cell? ⟨gb437, 2, none⟩ = some (.bool a0_2) := (blk_cell BK437.out 2).trans rfl
             have hfz33_0 := blk_frozen BK437.out 0
             have hfz33_1 := blk_frozen BK437.out 1
             have hfz33_2 := blk_frozen BK437.out 2
             go_wp2_with (first | ((with_reducible refine gate_callee (f := 33) rfl ?_); refine goesL_ (some 76) rfl rfl Tryz.func33 (by kernel_rfl) rfl #[.agg #[.string a0_0, .int .i64 a0_1, .bool a0_2], .string (rdOf ByteArray.empty x13_3 x68_3)] rfl ap3 ?_; (with_reducible refine (attr_piece.calls k3 a0_0 a0_1 a0_2 (rdOf ByteArray.empty x13_3 x68_3) t445 t446 _ ?side1 A30.out).mono ?_); (case side1 => first | exact HG.out | (refine Gw.below HG.out ?_; repeat (first | (with_reducible first | exact HB.out | apply below_alloc | apply pw_below_drewN | apply below_drew1 | refine below_set ?_ GE437.out) | exact HB.out))); rintro e w34 ⟨rfl, hb⟩; refine ⟨_, rfl, ?_⟩; have n0_ := Aside0.mk (Kd.R_below (apAR HO_13.out) hb); have n1_ := Aside0.mk (blk_below (g := gb437) (o := .cells #[.string a0_0, .int .i64 a0_1, .bool a0_2] 23 (0, 0)) (apB BK437.out) hb); have n2_ := Aside0.mk (below_step (apG GE437.out) hb); clear HO_13; clear BK437; clear HB; have HO_13 := n0_; have BK437 := n1_; have HB := n2_; clear n0_ n1_ n2_; (try clear hb); (try clear hb2); (try clear hk); (try clear hi); have p32 : 0 ≤ (x68_3 : Int) := of_decide_eq_true ap0; have q32 : (x68_3 : Int) < ((x13_3.length : Int) : Int) := of_decide_eq_true ap0; obtain ⟨go32, co32, eo32, gb32, gl32, cl32, HG32⟩ := Kd.R_form HO_13.out (by omega); (first | cases eo32 | (injection eo32 with ea_ en_ ec_; (first | subst ea_ | (injection ea_ with ea_; subst ea_)); subst ec_; clear en_)); have GB32 := Aside0.mk gb32; have GG32 := Aside0.mk HG32; clear gb32 gl32 HG32; (first | simp only [add_plain] at hx444_0 | skip); obtain ⟨hx32_0, hf32_0⟩ := Kd.R_celln (⟨#[]⟩ : ByteArray) HO_13.out (x68_3 : Int) p32 q32; replace p32 := eq_true p32; replace q32 := eq_true q32; obtain ⟨hy35_, hz35_⟩ := Kd.R_celln (⟨#[]⟩ : ByteArray) HO_13.out (x68_3 : Int) (of_decide_eq_true ap0) (of_decide_eq_true ap0); have HP35 := Kd.R_putg HO_13.out (x68_3 : Int) t445) | ((with_reducible refine gate_store (t := 9) (p := 85) rfl ?_); refine store_event (t := 9) (p := 85) (v := ?vo_w36) (w1 := (w34.setCell ⟨go32, (x68_3 : Int).toNat, none⟩ (.string t445))) ?hg ?ho ?hn ?hr ?_; (case ho => rfl); (case hg => rfl); (case hn => rfl); (case hr => first | (go_simp; done) | (go_simp; rfl)); intro w36 hw; have hg : w34.grownBy w36 (some go32) := (by rw [hw]; exact HP35.2); have hp_ : Kd.R Kd.string 9 w36 w.heap.size (fun _ => True) (.slice (some ⟨go32, 0, none⟩) x13_3.length co26) y447 := (by rw [hw, Ny447.out]; exact HP35.1); clear HP35; have n0_ := Aside0.mk (hp_); have n1_ := Aside0.mk (blk_grown (g := gb437) (o := .cells #[.string a0_0, .int .i64 a0_1, .bool a0_2] 23 (0, 0)) (apB BK437.out) hg (Kd.R_ne HO_13.out BK437.out (by decide))); have n2_ := Aside0.mk ((by rw [hw]; exact below_set (HB.out) GB32.out : Below w.heap.size w w36)); clear HO_13; clear BK437; clear HB; have HO_13 := n0_; have BK437 := n1_; have HB := n2_; clear n0_ n1_ n2_; clear hg hw hp_))
             (try simp only [← hl13_3])
             go_roundg k3
             case measure => have := HJ6.out; have := HJ14.out; have := HK3.out; omega
             case rel => exact ⟨(y447), (wrap64 (x68_3 + 1)), ap2, H', ⟨by have := HJ6.out; have := HJ14.out; have := HK3.out; omega⟩, ⟨by (try simp only [hl13_3]); (with_reducible repeat (first | apply Kd.R_alloc | apply Kd.R_drewN | apply Kd.R_drew)); exact HO_13.out⟩, ⟨by (try simp only [hl13_3]); (with_reducible repeat (first | refine blk_drewN ?_ _ | refine blk_drew ?_ | refine blk_alloc ?_ _)); exact BK437.out⟩, ⟨by repeat (first | (with_reducible first | exact HB.out | apply below_alloc | apply pw_below_drewN | apply below_drew1 | refine below_set ?_ GE437.out) | exact HB.out)⟩⟩
            ·
             rw [if_neg c31] at H
             have c31b0 : (t446 == 0) = false := beq_eq_false_iff_ne.mpr c31
             have c31b1 : (t446 != 0) = true := bne_iff_ne.mpr c31
             simp only [Option.some.injEq, Prod.mk.injEq] at H
             obtain ⟨rfl, rfl⟩ := H
             have p444 : 0 ≤ (x68_3 : Int) := of_decide_eq_true ap0
             have q444 : x68_3 < (x13_3.length : Int) := of_decide_eq_true ap0
             obtain ⟨ad444, e444, hx444_0⟩ := Kd.at_string (Kd.R_reads' HO_13.out).2.2 x68_3 p444 q444
             cases e444
             replace p444 := eq_true p444
             replace q444 := eq_true q444
             have hcz37_0 : wr.cell? ⟨gb437, 0, none⟩ = some (.string a0_0) := (blk_cell BK437.out 0).trans rfl
             have hcz37_1 : wr.cell? ⟨gb437, 1, none⟩ = some (.int .i64 a0_1) := (blk_cell BK437.out 1).trans rfl
             have hcz37_2 : wr.cell? ⟨gb437, 2, none⟩ = some (.bool a0_2) := (blk_cell BK437.out 2).trans rfl
             have hfz37_0 := blk_frozen BK437.out 0
             have hfz37_1 := blk_frozen BK437.out 1
             have hfz37_2 := blk_frozen BK437.out 2
             go_wp2_with (first | ((with_reducible refine gate_callee (f := 33) rfl ?_); refine goesL_ (some 76) rfl rfl Tryz.func33 (by kernel_rfl) rfl #[.agg #[.string a0_0, .int .i64 a0_1, .bool a0_2], .string (rdOf ByteArray.empty x13_3 x68_3)] rfl ap3 ?_; (with_reducible refine (attr_piece.calls k3 a0_0 a0_1 a0_2 (rdOf ByteArray.empty x13_3 x68_3) t445 t446 _ ?side1 A30.out).mono ?_); (case side1 => first | exact HG.out | (refine Gw.below HG.out ?_; repeat (first | (with_reducible first | exact HB.out | apply below_alloc | apply pw_below_drewN | apply below_drew1 | refine below_set ?_ GE437.out) | exact HB.out))); rintro e w38 ⟨rfl, hb⟩; refine ⟨_, rfl, ?_⟩; have n0_ := Aside0.mk (Kd.R_below (apAR HO_13.out) hb); have n1_ := Aside0.mk (blk_below (g := gb437) (o := .cells #[.string a0_0, .int .i64 a0_1, .bool a0_2] 23 (0, 0)) (apB BK437.out) hb); have n2_ := Aside0.mk (below_step (apG GE437.out) hb); clear HO_13; clear BK437; clear HB; have HO_13 := n0_; have BK437 := n1_; have HB := n2_; clear n0_ n1_ n2_; (try clear hb); (try clear hb2); (try clear hk); (try clear hi)))
             go_ret2
             exact ⟨by first | rfl | (simp [errW_none, errW_some, bne_nil8, beq_nil8]; done) | (simp [errW_none, errW_some] <;> rfl) | (simp [*, errW_none, errW_some] <;> rfl), by repeat (first | (with_reducible first | exact HB.out | apply below_alloc | apply pw_below_drewN | apply below_drew1 | refine below_set ?_ GE437.out) | exact HB.out)⟩
           ·
            rw [if_neg c29] at H
            exact absurd H (by simp)
          ·
           rw [if_neg c28] at H
           exact absurd H (by simp)
         ·
          rw [if_neg c27] at H
          have c27b0 := decide_eq_false c27
          have c27b9 : decide (x68_3 < (x13_3.length : Int)) = false := by rw [← hl13_3]; exact c27b0
          have c27b9 : decide (x68_3 < (x13_3.length : Int)) = false := by rw [← hl13_3]; exact c27b0
          have c27b9 : decide (x68_3 < (x13_3.length : Int)) = false := by rw [← hl13_3]; exact c27b0
          clear c27
          by_cases c39 : 0 < (x13_3.length : Int)
          ·
           rw [if_pos c39] at H
           have c39b0 := decide_eq_true c39
           have c39b1 : decide (0 < x13_3.length) = true := decide_eq_true (by omega)
           clear c39
           replace H := Option.bind_eq_some_iff.mp H
           obtain ⟨⟨t449, t450⟩, A400, H⟩ := H
           replace H : (if t450 = true then (if 0 ≤ (wrap64 ((x13_3.length : Int) - 1)) then (if (wrap64 ((x13_3.length : Int) - 1)) < (x13_3.length : Int) then ((strings_CutSuffix.f t449 (rdOf ByteArray.empty x13_3 (wrap64 ((x13_3.length : Int) - 1)))).bind fun bt452 => (if 1 ≤ (wrap64 ((x13_3.length : Int) - 1)) then (if (wrap64 ((x13_3.length : Int) - 1)) ≤ (x13_3.length : Int) then ((some ((x13_3.take ((wrap64 ((x13_3.length : Int) - 1)) : Int).toNat).drop 1 : List ByteArray)).bind fun y454 => (attr_Part.l1 k3 bt452.1 bt452.2 y454 (y454.length : Int) 0)) else (none)) else (none))) else (none)) else (none)) else (some (false, 0))) = some (r1, r2) := H
           have A40 := Aside0.mk A400
           clear A400
           by_cases c41 : t450 = true
           ·
            subst c41
            rw [if_pos rfl] at H
            obtain ⟨ji42, hji42⟩ : ∃ j_ : Int, (wrap64 ((x13_3.length : Int) - 1)) = j_ := ⟨_, rfl⟩
            replace H : (if 0 ≤ (ji42) then (if (ji42) < (x13_3.length : Int) then ((strings_CutSuffix.f t449 (rdOf ByteArray.empty x13_3 (ji42))).bind fun bt452 => (if 1 ≤ (ji42) then (if (ji42) ≤ (x13_3.length : Int) then ((some ((x13_3.take ((ji42) : Int).toNat).drop 1 : List ByteArray)).bind fun y454 => (attr_Part.l1 k3 bt452.1 bt452.2 y454 (y454.length : Int) 0)) else (none)) else (none))) else (none)) else (none)) = some (r1, r2) := by first | (rw [hji42] at H; exact H) | (simp only [hji42] at H ⊢; exact H)
            (try rw [hji42] at A40)
            have hji42w : (IntKind.i64.wrap ((x13_3.length : Int) - 1)) = ji42 := (i64_w _).trans hji42
            by_cases c43 : 0 ≤ (ji42)
            ·
             rw [if_pos c43] at H
             have c43b0 := decide_eq_true c43
             clear c43
             by_cases c44 : (ji42) < (x13_3.length : Int)
             ·
              rw [if_pos c44] at H
              have c44b0 := decide_eq_true c44
              clear c44
              replace H := Option.bind_eq_some_iff.mp H
              obtain ⟨⟨t452, t453⟩, A450, H⟩ := H
              replace H : (if 1 ≤ (ji42) then (if (ji42) ≤ (x13_3.length : Int) then ((some ((x13_3.take ((ji42) : Int).toNat).drop 1 : List ByteArray)).bind fun y454 => (attr_Part.l1 k3 t452 t453 y454 (y454.length : Int) 0)) else (none)) else (none)) = some (r1, r2) := H
              have A45 := Aside0.mk A450
              clear A450
              by_cases c46 : 1 ≤ (ji42)
              ·
               rw [if_pos c46] at H
               have c46b0 := eq_true c46
               have c46b1 := decide_eq_true c46
               clear c46
               by_cases c47 : (ji42) ≤ (x13_3.length : Int)
               ·
                rw [if_pos c47] at H
                have c47b0 := eq_true c47
                have c47b1 := decide_eq_true c47
                clear c47
                obtain ⟨y454, hy454⟩ : ∃ y_ : List ByteArray, y_ = ((x13_3.take ((ji42) : Int).toNat).drop 1) := ⟨_, rfl⟩
                replace H : (attr_Part.l1 k3 t452 t453 y454 (y454.length : Int) 0) = some (r1, r2) := by first | (rw [hy454]; with_reducible exact H) | (have H2_ := (Option.bind_some _ _).symm.trans H; rw [hy454]; with_reducible exact H2_) | (have H2_ := (Option.bind_some _ _).symm.trans H; with_reducible exact H2_) | with_reducible exact H | (rw [hy454]; exact H) | exact H
                have Ny454 := Aside0.mk hy454
                clear hy454
                have H' := Aside0.mk H
                clear H
                have p448 : 0 ≤ (0 : Int) := (by omega)
                have q448 : 0 < (x13_3.length : Int) := of_decide_eq_true ap0
                obtain ⟨ad448, e448, hx448_0⟩ := Kd.at_string (Kd.R_reads' HO_13.out).2.2 0 p448 q448
                cases e448
                have qi448 : (0 < x13_3.length) = True := eq_true (by omega)
                (try rw [show ((0 : Int)).toNat = 0 from rfl] at hx448_0)
                (try rw [Addr.add_zero'] at hx448_0)
                replace p448 := eq_true p448
                replace q448 := eq_true q448
                go_wp2_with (first | ((with_reducible refine gate_callee (f := 34) rfl ?_); refine goesL_ (some 92) rfl rfl Tryz.func34 (by kernel_rfl) rfl #[.string t442, .string (rdOf ByteArray.empty x13_3 0)] rfl ap3 ?_; (with_reducible refine (strings_CutPrefix.calls t442 (rdOf ByteArray.empty x13_3 0) t449 true _ A40.out).mono ?_); rintro e w' ⟨rfl, ⟨nd, rfl⟩⟩; refine ⟨_, rfl, ?_⟩; have p451 : 0 ≤ ((ji42) : Int) := of_decide_eq_true ap0; have q451 : (ji42) < (x13_3.length : Int) := of_decide_eq_true ap0; obtain ⟨ad451, e451, hx451_0⟩ := Kd.at_string (Kd.R_reads' HO_13.out).2.2 (ji42) p451 q451; obtain rfl : ad448 = ad451 := (by injection e451); replace p451 := eq_true p451; replace q451 := eq_true q451) | ((with_reducible refine gate_callee (f := 35) rfl ?_); refine goesL_ (some 105) rfl rfl Tryz.func35 (by kernel_rfl) rfl #[.string t449, .string (rdOf ByteArray.empty x13_3 (ji42))] rfl (by (try simp only [List.map_toArray, List.map_cons, List.map_nil]); first | done | (simp only [hji42]; rfl) | rfl | (simp only [List.length_drop, List.length_take]; rfl)) ?_; (with_reducible refine (strings_CutSuffix.calls t449 (rdOf ByteArray.empty x13_3 (ji42)) t452 t453 _ A45.out).mono ?_); rintro e w' ⟨rfl, ⟨nd, rfl⟩⟩; refine ⟨_, rfl, ?_⟩; have q48 : ((ji42) : Int) ≤ ((x13_3.length : Int) : Int) := of_decide_eq_true ap0; obtain ⟨i048, hi048, _, hsz48, _⟩ := info_parts info9; have hroom48 : x13_3.length ≤ co26 := (Kd.R_reads' HO_13.out).2.1; have hC48 : Kd.C Kd.string _ (some ad448) x13_3.length x13_3 := (Kd.R_reads' HO_13.out).2.2; have ql48 : (1 : Int) ≤ ((ji42) : Int) := of_decide_eq_true ap0; have hcut48 := cut_mid (P := Tryz.prog) 31 9 .i64 .i64 Tryz.underlying31 hi048 1 hsz48 (some ad448) x13_3.length co26 1 (ji42) (by omega) ql48 q48 hroom48; have hr48 := Kd.C_mid (lo := (1 : Int).toNat) (hi := ((ji42) : Int).toNat) (c := co26) hC48 (by omega) (by omega) hroom48; obtain ⟨A48, hA48⟩ : ∃ A1, A1 = (if co26 = (1 : Int).toNat then (some ad448) else ((some ad448) : Option Addr).map (·.add ((1 : Int).toNat * 1))) := ⟨_, rfl⟩; obtain ⟨c48, hc48⟩ : ∃ c1, c1 = co26 - (1 : Int).toNat := ⟨_, rfl⟩; have hy48 : y454.length = ((ji42) : Int).toNat - (1 : Int).toNat := (by rw [Ny454.out, List.length_drop, List.length_take] <;> omega); rw [show ((x13_3).take ((ji42) : Int).toNat).drop (1 : Int).toNat = y454 from Ny454.out.symm] at hr48; replace hr48 : Kd.C Kd.string _ A48 y454.length y454 := (by rw [hA48]; exact hr48); rw [← hy48, ← hA48, ← hc48] at hcut48; have HR457 := Aside0.mk hr48; have HC457 := Aside0.mk (show y454.length ≤ c48 from by rw [hy48, hc48]; exact Nat.sub_le_sub_right (Nat.le_trans (by omega) hroom48) _); clear hr48 hC48 hroom48 hi048 hsz48 hc48; have KY48 := Aside0.mk hy48; have KA48 := Aside0.mk hA48; clear hy48 hA48; have KL48 := Aside0.mk (show ((ji42) : Int).toNat ≤ x13_3.length from by omega); have KM48 := Aside0.mk (show 1 ≤ ((ji42) : Int).toNat from by omega); replace q48 := eq_true q48))
                go_loopg [15, 21, 114] k3 (fun kq v15 v21 v114 w' => ∃ (x15_4 : ByteArray) (x21_4 : Bool) (x114_4 : Int), v15 = .string x15_4 ∧ v21 = .bool x21_4 ∧ v114 = .int .i64 x114_4 ∧ Aside0 (attr_Part.l1 kq x15_4 x21_4 y454 (y454.length : Int) x114_4 = some (r1, r2)) ∧ Aside0 (kq ≤ k3) ∧ Aside0 (w'.heap[gb437]? = some (.cells #[.string a0_0, .int .i64 a0_1, .bool a0_2] 23 (0, 0))) ∧ Aside0 (Kd.C Kd.string w' A48 y454.length y454) ∧ Aside0 (Below w.heap.size w w'))
                case atStart => exact ⟨(t452), (t453), (0), ap2, ap2, ap2, H', ⟨Nat.le_refl _⟩, ⟨by (try simp only [hl13_3]); (with_reducible repeat (first | refine blk_drewN ?_ _ | refine blk_drew ?_ | refine blk_alloc ?_ _)); exact BK437.out⟩, ⟨by repeat (first | (with_reducible exact HR457.out) | (with_reducible refine Kd.C_alloc ?_ _) | (with_reducible refine Kd.C_drewN ?_ _) | (with_reducible refine Kd.C_drew ?_) | exact HR457.out)⟩, ⟨by repeat (first | (with_reducible first | exact HB.out | apply below_alloc | apply pw_below_drewN | apply below_drew1 | refine below_set ?_ GE437.out) | exact HB.out)⟩⟩
                case round =>
                 clear H'
                 try clear c1
                 try clear c2
                 try clear p2
                 try clear c3
                 try clear p3
                 try clear q3
                 try clear hx3
                 try clear c4
                 try clear p4
                 try clear q4
                 try clear hx4
                 try clear qi4
                 try clear p6
                 try clear c10
                 try clear c10b0
                 try clear c10b1
                 try clear c12
                 try clear c12b0
                 try clear c12b1
                 try clear c14
                 try clear c16
                 try clear c17
                 try clear c17b0
                 try clear c17b1
                 try clear c19
                 try clear c21
                 try clear c23
                 try clear c23b0
                 try clear c23b1
                 try clear c27
                 try clear c27b0
                 try clear c28
                 try clear c28b0
                 try clear c29
                 try clear c29b0
                 try clear c31
                 try clear c31b0
                 try clear c31b1
                 try clear p32
                 try clear q32
                 try clear hx32
                 try clear hf32
                 try clear c33
                 try clear c34
                 try clear c35
                 try clear c39
                 try clear c39b0
                 try clear c39b1
                 try clear c41
                 try clear c43
                 try clear c43b0
                 try clear c44
                 try clear c44b0
                 try clear p44
                 try clear q44
                 try clear hx44
                 try clear qi44
                 try clear p45
                 try clear q45
                 try clear hx45
                 try clear c46
                 try clear c46b0
                 try clear c46b1
                 try clear c47
                 try clear c47b0
                 try clear c47b1
                 try clear c48
                 try clear q48
                 try clear hcz11_0
                 try clear hcz11_1
                 try clear hcz11_2
                 try clear hcz13_0
                 try clear hcz13_1
                 try clear hcz13_2
                 try clear hcz14_0
                 try clear hcz14_1
                 try clear hcz14_2
                 try clear hcz24_0
                 try clear hcz24_1
                 try clear hcz24_2
                 try clear hcz33_0
                 try clear hcz33_1
                 try clear hcz33_2
                 try clear hcz37_0
                 try clear hcz37_1
                 try clear hcz37_2
                 try clear hfz11_0
                 try clear hfz11_1
                 try clear hfz11_2
                 try clear hfz13_0
                 try clear hfz13_1
                 try clear hfz13_2
                 try clear hfz14_0
                 try clear hfz14_1
                 try clear hfz14_2
                 try clear hfz24_0
                 try clear hfz24_1
                 try clear hfz24_2
                 try clear hfz33_0
                 try clear hfz33_1
                 try clear hfz33_2
                 try clear hfz37_0
                 try clear hfz37_1
                 try clear hfz37_2
                 try clear hx32_0
                 try clear hx444_0
                 try clear hx448_0
                 try clear hx451_0
                 try clear p2
                 try clear p32
                 try clear p444
                 try clear p448
                 try clear p451
                 try clear q32
                 try clear q444
                 try clear q448
                 try clear q451
                 try clear q48
                 obtain ⟨x15_4, x21_4, x114_4, rfl, rfl, rfl, HA, HK4, BK437, HR457, HB⟩ := hrel
                 cases gk with
                 | zero => exact absurd HA.out (by simp [attr_Part.l1])
                 | succ k4 =>
                  have H := HA.out
                  clear HA
                  simp only [attr_Part.l1] at H
                  by_cases c49 : x114_4 < (y454.length : Int)
                  ·
                   rw [if_pos c49] at H
                   have c49b0 := decide_eq_true c49
                   clear c49
                   by_cases c50 : 0 ≤ x114_4
                   ·
                    rw [if_pos c50] at H
                    have c50b0 := decide_eq_true c50
                    clear c50
                    by_cases c51 : x114_4 < (y454.length : Int)
                    ·
                     rw [if_pos c51] at H
                     have c51b0 := decide_eq_true c51
                     clear c51
                     by_cases c52 : x21_4 = true
                     ·
                      subst c52
                      rw [if_pos rfl] at H
                      replace H := Option.bind_eq_some_iff.mp H
                      obtain ⟨⟨t459, t460, t461⟩, A530, H⟩ := H
                      replace H : (attr_Part.l1 k4 t460 t461 y454 (y454.length : Int) (wrap64 (x114_4 + 1))) = some (r1, r2) := H
                      have A53 := Aside0.mk A530
                      clear A530
                      have H' := Aside0.mk H
                      clear H
                      have p458 : 0 ≤ (x114_4 : Int) := of_decide_eq_true ap0
                      have q458 : x114_4 < (y454.length : Int) := of_decide_eq_true ap0
                      obtain ⟨ad458, e458, hx458_0⟩ := Kd.at_string HR457.out x114_4 p458 q458
                      cases e458
                      try replace hx458_0 := (HB.out.cell (World.block_lt_of_cell? w _ hx458_0)).trans hx458_0
                      replace p458 := eq_true p458
                      replace q458 := eq_true q458
                      go_wp2_with (first | ((with_reducible refine gate_callee (f := 36) rfl ?_); refine goesL_ (some 123) rfl rfl Tryz.func36 (by kernel_rfl) rfl #[.string x15_4, .string (rdOf ByteArray.empty y454 x114_4)] rfl ap3 ?_; (with_reducible refine (strings_Cut.calls x15_4 (rdOf ByteArray.empty y454 x114_4) t459 t460 t461 _ ?side1 A53.out).mono ?_); (case side1 => first | exact HG.out | (refine Gw.below HG.out ?_; repeat (first | (with_reducible first | exact HB.out | apply below_alloc | apply pw_below_drewN | apply below_drew1 | refine below_set ?_ GE437.out) | exact HB.out))); rintro e w54 ⟨rfl, hb⟩; refine ⟨_, rfl, ?_⟩; have n0_ := Aside0.mk (blk_below (g := gb437) (o := .cells #[.string a0_0, .int .i64 a0_1, .bool a0_2] 23 (0, 0)) (apB BK437.out) hb); have n1_ := Aside0.mk (Kd.C_below (apC HR457.out) hb); have n2_ := Aside0.mk (below_step (apG GE437.out) hb); clear BK437; clear HR457; clear HB; have BK437 := n0_; have HR457 := n1_; have HB := n2_; clear n0_ n1_ n2_; (try clear hb); (try clear hb2); (try clear hk); (try clear hi)))
                      go_roundg k4
                      case measure => have := HJ6.out; have := HJ14.out; have := HK3.out; have := HK4.out; omega
                      case rel => exact ⟨(t460), (t461), (wrap64 (x114_4 + 1)), ap2, ap2, ap2, H', ⟨by have := HJ6.out; have := HJ14.out; have := HK3.out; have := HK4.out; omega⟩, ⟨by (try simp only [hl13_3]); (with_reducible repeat (first | refine blk_drewN ?_ _ | refine blk_drew ?_ | refine blk_alloc ?_ _)); exact BK437.out⟩, ⟨by repeat (first | (with_reducible exact HR457.out) | (with_reducible refine Kd.C_alloc ?_ _) | (with_reducible refine Kd.C_drewN ?_ _) | (with_reducible refine Kd.C_drew ?_) | exact HR457.out)⟩, ⟨by repeat (first | (with_reducible first | exact HB.out | apply below_alloc | apply pw_below_drewN | apply below_drew1 | refine below_set ?_ GE437.out) | exact HB.out)⟩⟩
                     ·
                      replace c52 := Bool.eq_false_iff.mpr c52
                      subst c52
                      rw [if_neg (show ¬ (false = true) by decide)] at H
                      simp only [Option.some.injEq, Prod.mk.injEq] at H
                      obtain ⟨rfl, rfl⟩ := H
                      have p458 : 0 ≤ (x114_4 : Int) := of_decide_eq_true ap0
                      have q458 : x114_4 < (y454.length : Int) := of_decide_eq_true ap0
                      obtain ⟨ad458, e458, hx458_0⟩ := Kd.at_string HR457.out x114_4 p458 q458
                      cases e458
                      try replace hx458_0 := (HB.out.cell (World.block_lt_of_cell? w _ hx458_0)).trans hx458_0
                      replace p458 := eq_true p458
                      replace q458 := eq_true q458
                      go_wp2
                      go_ret2
                      exact ⟨by first | rfl | (simp [errW_none, errW_some, bne_nil8, beq_nil8]; done) | (simp [errW_none, errW_some] <;> rfl) | (simp only [← hji42]; first | rfl | (simp [errW_none, errW_some] <;> rfl)) | (simp [*, errW_none, errW_some] <;> rfl), by repeat (first | (with_reducible first | exact HB.out | apply below_alloc | apply pw_below_drewN | apply below_drew1 | refine below_set ?_ GE437.out) | exact HB.out)⟩
                    ·
                     rw [if_neg c51] at H
                     exact absurd H (by simp)
                   ·
                    rw [if_neg c50] at H
                    exact absurd H (by simp)
                  ·
                   rw [if_neg c49] at H
                   have c49b0 := decide_eq_false c49
                   clear c49
                   simp only [Option.some.injEq, Prod.mk.injEq] at H
                   obtain ⟨rfl, rfl⟩ := H
                   go_wp2
                   go_ret2
                   exact ⟨by first | rfl | (simp [errW_none, errW_some, bne_nil8, beq_nil8]; done) | (simp [errW_none, errW_some] <;> rfl) | (simp only [← hji42]; first | rfl | (simp [errW_none, errW_some] <;> rfl)) | (simp [*, errW_none, errW_some] <;> rfl), by repeat (first | (with_reducible first | exact HB.out | apply below_alloc | apply pw_below_drewN | apply below_drew1 | refine below_set ?_ GE437.out) | exact HB.out)⟩
               ·
                rw [if_neg c47] at H
                exact absurd H (by simp)
              ·
               rw [if_neg c46] at H
               exact absurd H (by simp)
             ·
              rw [if_neg c44] at H
              exact absurd H (by simp)
            ·
             rw [if_neg c43] at H
             exact absurd H (by simp)
           ·
            replace c41 := Bool.eq_false_iff.mpr c41
            subst c41
            rw [if_neg (show ¬ (false = true) by decide)] at H
            simp only [Option.some.injEq, Prod.mk.injEq] at H
            obtain ⟨rfl, rfl⟩ := H
            have p448 : 0 ≤ (0 : Int) := (by omega)
            have q448 : 0 < (x13_3.length : Int) := of_decide_eq_true ap0
            obtain ⟨ad448, e448, hx448_0⟩ := Kd.at_string (Kd.R_reads' HO_13.out).2.2 0 p448 q448
            cases e448
            have qi448 : (0 < x13_3.length) = True := eq_true (by omega)
            (try rw [show ((0 : Int)).toNat = 0 from rfl] at hx448_0)
            (try rw [Addr.add_zero'] at hx448_0)
            replace p448 := eq_true p448
            replace q448 := eq_true q448
            go_wp2_with (first | ((with_reducible refine gate_callee (f := 34) rfl ?_); refine goesL_ (some 92) rfl rfl Tryz.func34 (by kernel_rfl) rfl #[.string t442, .string (rdOf ByteArray.empty x13_3 0)] rfl ap3 ?_; (with_reducible refine (strings_CutPrefix.calls t442 (rdOf ByteArray.empty x13_3 0) t449 false _ A40.out).mono ?_); rintro e w' ⟨rfl, ⟨nd, rfl⟩⟩; refine ⟨_, rfl, ?_⟩))
            go_ret2
            exact ⟨by first | rfl | (simp [errW_none, errW_some, bne_nil8, beq_nil8]; done) | (simp [errW_none, errW_some] <;> rfl) | (simp [*, errW_none, errW_some] <;> rfl), by repeat (first | (with_reducible first | exact HB.out | apply below_alloc | apply pw_below_drewN | apply below_drew1 | refine below_set ?_ GE437.out) | exact HB.out)⟩
          ·
           rw [if_neg c39] at H
           exact absurd H (by simp)
      ·
       rw [if_neg c23] at H
       have c23b0 : (t443 == 0) = false := beq_eq_false_iff_ne.mpr c23
       have c23b1 : (t443 != 0) = true := bne_iff_ne.mpr c23
       simp only [Option.some.injEq, Prod.mk.injEq] at H
       obtain ⟨rfl, rfl⟩ := H
       have hcz55_0 : wc.cell? ⟨gb437, 0, none⟩ = some (.string a0_0) := (blk_cell BK437.out 0).trans rfl
       have hcz55_1 : wc.cell? ⟨gb437, 1, none⟩ = some (.int .i64 a0_1) := (blk_cell BK437.out 1).trans rfl
       have hcz55_2 : wc.cell? ⟨gb437, 2, none⟩ = some (.bool a0_2) := (blk_cell BK437.out 2).trans rfl
       have hfz55_0 := blk_frozen BK437.out 0
       have hfz55_1 := blk_frozen BK437.out 1
       have hfz55_2 := blk_frozen BK437.out 2
       go_wp2_with (first | ((with_reducible refine gate_callee (f := 19) rfl ?_); refine goesL_ (some 60) rfl rfl Tryz.func19 (by kernel_rfl) rfl #[.agg #[.string a0_0, .int .i64 a0_1, .bool a0_2], .string a1] rfl ap3 ?_; (with_reducible refine (attr_Normal.calls kj14 a0_0 a0_1 a0_2 a1 t442 t443 _ ?side1 A22.out).mono ?_); (case side1 => first | exact HG.out | (refine Gw.below HG.out ?_; repeat (first | (with_reducible first | exact HB.out | apply below_alloc | apply pw_below_drewN | apply below_drew1 | refine below_set ?_ GE437.out) | exact HB.out))); rintro e w56 ⟨rfl, hb⟩; refine ⟨_, rfl, ?_⟩; have n0_ := Aside0.mk (Kd.R_below (apAR HO_13.out) hb); have n1_ := Aside0.mk (blk_below (g := gb437) (o := .cells #[.string a0_0, .int .i64 a0_1, .bool a0_2] 23 (0, 0)) (apB BK437.out) hb); have n2_ := Aside0.mk (below_step (apG GE437.out) hb); clear HO_13; clear BK437; clear HB; have HO_13 := n0_; have BK437 := n1_; have HB := n2_; clear n0_ n1_ n2_; (try clear hb); (try clear hb2); (try clear hk); (try clear hi)))
       go_ret2
       exact ⟨by first | rfl | (simp [errW_none, errW_some, bne_nil8, beq_nil8]; done) | (simp [errW_none, errW_some] <;> rfl) | (simp [*, errW_none, errW_some] <;> rfl), by repeat (first | (with_reducible first | exact HB.out | apply below_alloc | apply pw_below_drewN | apply below_drew1 | refine below_set ?_ GE437.out) | exact HB.out)⟩
def L16awake.f (k : Nat)  : Option (Bool) := (attr_Find.f (⟨#[67, 78]⟩ : ByteArray)).bind fun bt462 => ((attr_Find.f (⟨#[117, 105, 100, 110, 117, 109, 98, 101, 114]⟩ : ByteArray)).bind fun bt467 => ((attr_Equal.f k bt462.1 bt462.2.1 bt462.2.2.1 (⟨#[65, 110, 110, 32, 32, 66]⟩ : ByteArray) (⟨#[97, 110, 110, 32, 98]⟩ : ByteArray)).bind fun bt472 => ((attr_Order.f k bt467.1 bt467.2.1 bt467.2.2.1 (⟨#[57]⟩ : ByteArray) (⟨#[49, 48]⟩ : ByteArray)).bind fun bt474 => ((attr_Part.f k bt462.1 bt462.2.1 bt462.2.2.1 (⟨#[65, 110, 110, 97, 98, 101, 108]⟩ : ByteArray) (⟨#[97, 110]⟩ : ByteArray) ([] : List ByteArray) (⟨#[101, 108]⟩ : ByteArray)).bind fun bt476 => (if bt462.2.2.2 = true then (if bt467.2.2.2 = true then (if bt472.1 = true then (if bt472.2 = 0 then (if bt474.1 = (-1) then (if bt474.2 = 0 then (if bt476.1 = true then (some (bt476.2 == 0)) else (some false)) else (some false)) else (some false)) else (some false)) else (some false)) else (some false)) else (some false))))))
theorem L16awake.mono : ∀ k, LeO (L16awake.f k ) (L16awake.f (k + 1) ) := by
 intro  k
 unfold L16awake.f
 repeat' first
   | (with_reducible exact attr_Equal.mono _ _ _ _ _ _)
   | (with_reducible exact attr_Order.mono _ _ _ _ _ _)
   | (with_reducible exact attr_Part.mono _ _ _ _ _ _ _ _)
   | (with_reducible exact LeO.refl _)
   | (with_reducible exact LeO.none _)
   | (with_reducible refine LeO.ite ?_ ?_)
   | (with_reducible refine LeO.bind ?_ (fun _ => ?_))
end Go.Proofs.YtpklcnpmppaaoaaGreatDoor.Print
