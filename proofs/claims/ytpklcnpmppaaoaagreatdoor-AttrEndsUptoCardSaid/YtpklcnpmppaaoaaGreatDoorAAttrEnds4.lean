-- laid together by pack.py (a program of this session)
import Derived.Test.YtpklcnpmppaaoaaGreatDoorAAttrEnds3
namespace Go.Proofs.YtpklcnpmppaaoaaGreatDoor.Print
open Go.RowKit Go.Proofs.YtpklcnpmppaaoaaGreatDoorW.PrintWords Go.Proofs.YtpklcnpmppaaoaaGreatDoorW.PrintLast Go.Proofs.YtpklcnpmppaaoaaGreatDoorW.PrintMore
attribute [local go_sem] max2_int min2_int max_two min_two max_three min_three max_four min_four
set_option linter.unusedVariables false
set_option linter.unusedSimpArgs false
set_option maxHeartbeats 8000000 in
set_option maxRecDepth 100000 in
theorem attr_both.calls (k : Nat) (a0_0 : ByteArray) (a0_1 : Int) (a0_2 : Bool) (a1 : ByteArray) (a2 : ByteArray) (r1 : ByteArray) (r2 : ByteArray) (r3 : Int) (w : World) (hG : Gw w) (h : attr_both.f k a0_0 a0_1 a0_2 a1 a2 = some (r1, r2, r3)) :
  Calls Tryz.prog 25 #[.agg #[.string a0_0, .int .i64 a0_1, .bool a0_2], .string a1, .string a2] w fun e w' => e = .returned (.tuple #[.string r1, .string r2, .int .i64 r3]) ∧ Below w.heap.size w w' := by
 have hu23 := Tryz.underlying23
 have HB := Aside0.mk (Below.refl w.heap.size w)
 have HG := Aside0.mk hG
 clear hG
 have H : ((attr_Normal.f k a0_0 a0_1 a0_2 a1).bind fun bt372 => (if bt372.2 = 0 then ((attr_Normal.f k a0_0 a0_1 a0_2 a2).bind fun bt374 => (if bt374.2 = 0 then (some (bt372.1, bt374.1, 0)) else (some ((⟨#[]⟩ : ByteArray), (⟨#[]⟩ : ByteArray), bt374.2)))) else (some ((⟨#[]⟩ : ByteArray), (⟨#[]⟩ : ByteArray), bt372.2)))) = some (r1, r2, r3) := h
 clear h
 replace H := Option.bind_eq_some_iff.mp H
 obtain ⟨⟨t372, t373⟩, A40, H⟩ := H
 replace H : (if t373 = 0 then ((attr_Normal.f k a0_0 a0_1 a0_2 a2).bind fun bt374 => (if bt374.2 = 0 then (some (t372, bt374.1, 0)) else (some ((⟨#[]⟩ : ByteArray), (⟨#[]⟩ : ByteArray), bt374.2)))) else (some ((⟨#[]⟩ : ByteArray), (⟨#[]⟩ : ByteArray), t373))) = some (r1, r2, r3) := H
 have A4 := Aside0.mk A40
 clear A40
 by_cases c5 : t373 = 0
 ·
  rw [if_pos c5] at H
  have c5b0 : (t373 == 0) = true := beq_iff_eq.mpr c5
  have c5b1 : (t373 != 0) = false := bne_eq_false_iff_eq.mpr c5
  clear c5
  replace H := Option.bind_eq_some_iff.mp H
  obtain ⟨⟨t374, t375⟩, A60, H⟩ := H
  replace H : (if t375 = 0 then (some (t372, t374, 0)) else (some ((⟨#[]⟩ : ByteArray), (⟨#[]⟩ : ByteArray), t375))) = some (r1, r2, r3) := H
  have A6 := Aside0.mk A60
  clear A60
  by_cases c7 : t375 = 0
  ·
   rw [if_pos c7] at H
   have c7b0 : (t375 == 0) = true := beq_iff_eq.mpr c7
   have c7b1 : (t375 != 0) = false := bne_eq_false_iff_eq.mpr c7
   clear c7
   simp only [Option.some.injEq, Prod.mk.injEq] at H
   obtain ⟨rfl, rfl, rfl⟩ := H
   go_enter Tryz.func25, Tryz.ntmps25
   go_wp2_with (first | ((with_reducible refine gate_dst (N := 3) rfl ?_); refine box_event ?hg (N := 3) ?hd (cs := #[.string a0_0, .int .i64 a0_1, .bool a0_2]) (t := 23) ?hr ?_; (case hd => rfl); (case hg => rfl); (case hr => first | (go_simp; done) | (go_simp; rfl)); intro gb371 hg w8 hbox hb; have n0_ := Aside0.mk (below_step ap1 hb); have n1_ := Aside0.mk (hbox); have n2_ := Aside0.mk ((by rw [hg]; exact (below_size ap1) : w.heap.size ≤ gb371)); have n3_ := Aside0.mk ((by rw [hg]; exact (below_size ap1) : w.heap.size ≤ gb371)); clear HB; have HB := n0_; have BK371 := n1_; have GW371 := n2_; have GE371 := n3_; clear n0_ n1_ n2_ n3_; clear hb hbox hg; have hcz9_0 : w8.cell? ⟨gb371, 0, none⟩ = some (.string a0_0) := (blk_cell BK371.out 0).trans rfl; have hcz9_1 : w8.cell? ⟨gb371, 1, none⟩ = some (.int .i64 a0_1) := (blk_cell BK371.out 1).trans rfl; have hcz9_2 : w8.cell? ⟨gb371, 2, none⟩ = some (.bool a0_2) := (blk_cell BK371.out 2).trans rfl; have hfz9_0 := blk_frozen BK371.out 0; have hfz9_1 := blk_frozen BK371.out 1; have hfz9_2 := blk_frozen BK371.out 2) | ((with_reducible refine gate_callee (f := 19) rfl ?_); refine goesL_ (some 15) rfl rfl Tryz.func19 (by kernel_rfl) rfl #[.agg #[.string a0_0, .int .i64 a0_1, .bool a0_2], .string a1] rfl ap3 ?_; (with_reducible refine (attr_Normal.calls k a0_0 a0_1 a0_2 a1 t372 t373 _ ?side1 A4.out).mono ?_); (case side1 => first | exact HG.out | (refine Gw.below HG.out ?_; repeat (first | (with_reducible first | exact HB.out | apply below_alloc | apply pw_below_drewN | apply below_drew1 | refine below_set ?_ GE371.out) | exact HB.out))); rintro e w10 ⟨rfl, hb⟩; refine ⟨_, rfl, ?_⟩; have n0_ := Aside0.mk (blk_below (g := gb371) (o := .cells #[.string a0_0, .int .i64 a0_1, .bool a0_2] 23 (0, 0)) (apB BK371.out) hb); have n1_ := Aside0.mk (below_step (apG GE371.out) hb); clear BK371; clear HB; have BK371 := n0_; have HB := n1_; clear n0_ n1_; (try clear hb); (try clear hb2); (try clear hk); (try clear hi); have hcz11_0 : w10.cell? ⟨gb371, 0, none⟩ = some (.string a0_0) := (blk_cell BK371.out 0).trans rfl; have hcz11_1 : w10.cell? ⟨gb371, 1, none⟩ = some (.int .i64 a0_1) := (blk_cell BK371.out 1).trans rfl; have hcz11_2 : w10.cell? ⟨gb371, 2, none⟩ = some (.bool a0_2) := (blk_cell BK371.out 2).trans rfl; have hfz11_0 := blk_frozen BK371.out 0; have hfz11_1 := blk_frozen BK371.out 1; have hfz11_2 := blk_frozen BK371.out 2) | ((with_reducible refine gate_callee (f := 19) rfl ?_); refine goesL_ (some 24) rfl rfl Tryz.func19 (by kernel_rfl) rfl #[.agg #[.string a0_0, .int .i64 a0_1, .bool a0_2], .string a2] rfl ap3 ?_; (with_reducible refine (attr_Normal.calls k a0_0 a0_1 a0_2 a2 t374 t375 _ ?side1 A6.out).mono ?_); (case side1 => first | exact HG.out | (refine Gw.below HG.out ?_; repeat (first | (with_reducible first | exact HB.out | apply below_alloc | apply pw_below_drewN | apply below_drew1 | refine below_set ?_ GE371.out) | exact HB.out))); rintro e w12 ⟨rfl, hb⟩; refine ⟨_, rfl, ?_⟩; have n0_ := Aside0.mk (blk_below (g := gb371) (o := .cells #[.string a0_0, .int .i64 a0_1, .bool a0_2] 23 (0, 0)) (apB BK371.out) hb); have n1_ := Aside0.mk (below_step (apG GE371.out) hb); clear BK371; clear HB; have BK371 := n0_; have HB := n1_; clear n0_ n1_; (try clear hb); (try clear hb2); (try clear hk); (try clear hi)))
   go_ret3
   exact ⟨by first | rfl | (simp [errW_none, errW_some, bne_nil8, beq_nil8]; done) | (simp [errW_none, errW_some] <;> rfl) | (simp [*, errW_none, errW_some] <;> rfl), by repeat (first | (with_reducible first | exact HB.out | apply below_alloc | apply pw_below_drewN | apply below_drew1 | refine below_set ?_ GE371.out) | exact HB.out)⟩
  ·
   rw [if_neg c7] at H
   have c7b0 : (t375 == 0) = false := beq_eq_false_iff_ne.mpr c7
   have c7b1 : (t375 != 0) = true := bne_iff_ne.mpr c7
   simp only [Option.some.injEq, Prod.mk.injEq] at H
   obtain ⟨rfl, rfl, rfl⟩ := H
   go_enter Tryz.func25, Tryz.ntmps25
   go_wp2_with (first | ((with_reducible refine gate_dst (N := 3) rfl ?_); refine box_event ?hg (N := 3) ?hd (cs := #[.string a0_0, .int .i64 a0_1, .bool a0_2]) (t := 23) ?hr ?_; (case hd => rfl); (case hg => rfl); (case hr => first | (go_simp; done) | (go_simp; rfl)); intro gb371 hg w13 hbox hb; have n0_ := Aside0.mk (below_step ap1 hb); have n1_ := Aside0.mk (hbox); have n2_ := Aside0.mk ((by rw [hg]; exact (below_size ap1) : w.heap.size ≤ gb371)); have n3_ := Aside0.mk ((by rw [hg]; exact (below_size ap1) : w.heap.size ≤ gb371)); clear HB; have HB := n0_; have BK371 := n1_; have GW371 := n2_; have GE371 := n3_; clear n0_ n1_ n2_ n3_; clear hb hbox hg; have hcz14_0 : w13.cell? ⟨gb371, 0, none⟩ = some (.string a0_0) := (blk_cell BK371.out 0).trans rfl; have hcz14_1 : w13.cell? ⟨gb371, 1, none⟩ = some (.int .i64 a0_1) := (blk_cell BK371.out 1).trans rfl; have hcz14_2 : w13.cell? ⟨gb371, 2, none⟩ = some (.bool a0_2) := (blk_cell BK371.out 2).trans rfl; have hfz14_0 := blk_frozen BK371.out 0; have hfz14_1 := blk_frozen BK371.out 1; have hfz14_2 := blk_frozen BK371.out 2) | ((with_reducible refine gate_callee (f := 19) rfl ?_); refine goesL_ (some 15) rfl rfl Tryz.func19 (by kernel_rfl) rfl #[.agg #[.string a0_0, .int .i64 a0_1, .bool a0_2], .string a1] rfl ap3 ?_; (with_reducible refine (attr_Normal.calls k a0_0 a0_1 a0_2 a1 t372 t373 _ ?side1 A4.out).mono ?_); (case side1 => first | exact HG.out | (refine Gw.below HG.out ?_; repeat (first | (with_reducible first | exact HB.out | apply below_alloc | apply pw_below_drewN | apply below_drew1 | refine below_set ?_ GE371.out) | exact HB.out))); rintro e w15 ⟨rfl, hb⟩; refine ⟨_, rfl, ?_⟩; have n0_ := Aside0.mk (blk_below (g := gb371) (o := .cells #[.string a0_0, .int .i64 a0_1, .bool a0_2] 23 (0, 0)) (apB BK371.out) hb); have n1_ := Aside0.mk (below_step (apG GE371.out) hb); clear BK371; clear HB; have BK371 := n0_; have HB := n1_; clear n0_ n1_; (try clear hb); (try clear hb2); (try clear hk); (try clear hi); have hcz16_0 : w15.cell? ⟨gb371, 0, none⟩ = some (.string a0_0) := (blk_cell BK371.out 0).trans rfl; have hcz16_1 : w15.cell? ⟨gb371, 1, none⟩ = some (.int .i64 a0_1) := (blk_cell BK371.out 1).trans rfl; have hcz16_2 : w15.cell? ⟨gb371, 2, none⟩ = some (.bool a0_2) := (blk_cell BK371.out 2).trans rfl; have hfz16_0 := blk_frozen BK371.out 0; have hfz16_1 := blk_frozen BK371.out 1; have hfz16_2 := blk_frozen BK371.out 2) | ((with_reducible refine gate_callee (f := 19) rfl ?_); refine goesL_ (some 24) rfl rfl Tryz.func19 (by kernel_rfl) rfl #[.agg #[.string a0_0, .int .i64 a0_1, .bool a0_2], .string a2] rfl ap3 ?_; (with_reducible refine (attr_Normal.calls k a0_0 a0_1 a0_2 a2 t374 t375 _ ?side1 A6.out).mono ?_); (case side1 => first | exact HG.out | (refine Gw.below HG.out ?_; repeat (first | (with_reducible first | exact HB.out | apply below_alloc | apply pw_below_drewN | apply below_drew1 | refine below_set ?_ GE371.out) | exact HB.out))); rintro e w17 ⟨rfl, hb⟩; refine ⟨_, rfl, ?_⟩; have n0_ := Aside0.mk (blk_below (g := gb371) (o := .cells #[.string a0_0, .int .i64 a0_1, .bool a0_2] 23 (0, 0)) (apB BK371.out) hb); have n1_ := Aside0.mk (below_step (apG GE371.out) hb); clear BK371; clear HB; have BK371 := n0_; have HB := n1_; clear n0_ n1_; (try clear hb); (try clear hb2); (try clear hk); (try clear hi)))
   go_ret3
   exact ⟨by first | rfl | (simp [errW_none, errW_some, bne_nil8, beq_nil8]; done) | (simp [errW_none, errW_some] <;> rfl) | (simp [*, errW_none, errW_some] <;> rfl), by repeat (first | (with_reducible first | exact HB.out | apply below_alloc | apply pw_below_drewN | apply below_drew1 | refine below_set ?_ GE371.out) | exact HB.out)⟩
 ·
  rw [if_neg c5] at H
  have c5b0 : (t373 == 0) = false := beq_eq_false_iff_ne.mpr c5
  have c5b1 : (t373 != 0) = true := bne_iff_ne.mpr c5
  simp only [Option.some.injEq, Prod.mk.injEq] at H
  obtain ⟨rfl, rfl, rfl⟩ := H
  go_enter Tryz.func25, Tryz.ntmps25
  go_wp2_with (first | ((with_reducible refine gate_dst (N := 3) rfl ?_); refine box_event ?hg (N := 3) ?hd (cs := #[.string a0_0, .int .i64 a0_1, .bool a0_2]) (t := 23) ?hr ?_; (case hd => rfl); (case hg => rfl); (case hr => first | (go_simp; done) | (go_simp; rfl)); intro gb371 hg w18 hbox hb; have n0_ := Aside0.mk (below_step ap1 hb); have n1_ := Aside0.mk (hbox); have n2_ := Aside0.mk ((by rw [hg]; exact (below_size ap1) : w.heap.size ≤ gb371)); have n3_ := Aside0.mk ((by rw [hg]; exact (below_size ap1) : w.heap.size ≤ gb371)); clear HB; have HB := n0_; have BK371 := n1_; have GW371 := n2_; have GE371 := n3_; clear n0_ n1_ n2_ n3_; clear hb hbox hg; have hcz19_0 : w18.cell? ⟨gb371, 0, none⟩ = some (.string a0_0) := (blk_cell BK371.out 0).trans rfl; have hcz19_1 : w18.cell? ⟨gb371, 1, none⟩ = some (.int .i64 a0_1) := (blk_cell BK371.out 1).trans rfl; have hcz19_2 : w18.cell? ⟨gb371, 2, none⟩ = some (.bool a0_2) := (blk_cell BK371.out 2).trans rfl; have hfz19_0 := blk_frozen BK371.out 0; have hfz19_1 := blk_frozen BK371.out 1; have hfz19_2 := blk_frozen BK371.out 2) | ((with_reducible refine gate_callee (f := 19) rfl ?_); refine goesL_ (some 15) rfl rfl Tryz.func19 (by kernel_rfl) rfl #[.agg #[.string a0_0, .int .i64 a0_1, .bool a0_2], .string a1] rfl ap3 ?_; (with_reducible refine (attr_Normal.calls k a0_0 a0_1 a0_2 a1 t372 t373 _ ?side1 A4.out).mono ?_); (case side1 => first | exact HG.out | (refine Gw.below HG.out ?_; repeat (first | (with_reducible first | exact HB.out | apply below_alloc | apply pw_below_drewN | apply below_drew1 | refine below_set ?_ GE371.out) | exact HB.out))); rintro e w20 ⟨rfl, hb⟩; refine ⟨_, rfl, ?_⟩; have n0_ := Aside0.mk (blk_below (g := gb371) (o := .cells #[.string a0_0, .int .i64 a0_1, .bool a0_2] 23 (0, 0)) (apB BK371.out) hb); have n1_ := Aside0.mk (below_step (apG GE371.out) hb); clear BK371; clear HB; have BK371 := n0_; have HB := n1_; clear n0_ n1_; (try clear hb); (try clear hb2); (try clear hk); (try clear hi)))
  go_ret3
  exact ⟨by first | rfl | (simp [errW_none, errW_some, bne_nil8, beq_nil8]; done) | (simp [errW_none, errW_some] <;> rfl) | (simp [*, errW_none, errW_some] <;> rfl), by repeat (first | (with_reducible first | exact HB.out | apply below_alloc | apply pw_below_drewN | apply below_drew1 | refine below_set ?_ GE371.out) | exact HB.out)⟩
def attr_Equal.f (k : Nat) (a0_0 : ByteArray) (a0_1 : Int) (a0_2 : Bool) (a1 : ByteArray) (a2 : ByteArray) : Option (Bool × Int) := (attr_both.f k a0_0 a0_1 a0_2 a1 a2).bind fun bt377 => (if bt377.2.2 = 0 then (some ((bt377.1.toList == bt377.2.1.toList), bt377.2.2)) else (some (false, bt377.2.2)))
theorem attr_Equal.mono : ∀ a0 a1 a2 a3 a4 k, LeO (attr_Equal.f k a0 a1 a2 a3 a4) (attr_Equal.f (k + 1) a0 a1 a2 a3 a4) := by
 intro a0 a1 a2 a3 a4 k
 unfold attr_Equal.f
 repeat' first
   | (with_reducible exact attr_both.mono _ _ _ _ _ _)
   | (with_reducible exact LeO.refl _)
   | (with_reducible exact LeO.none _)
   | (with_reducible refine LeO.ite ?_ ?_)
   | (with_reducible refine LeO.bind ?_ (fun _ => ?_))
set_option maxHeartbeats 8000000 in
set_option maxRecDepth 100000 in
theorem attr_Equal.calls (k : Nat) (a0_0 : ByteArray) (a0_1 : Int) (a0_2 : Bool) (a1 : ByteArray) (a2 : ByteArray) (r1 : Bool) (r2 : Int) (w : World) (hG : Gw w) (h : attr_Equal.f k a0_0 a0_1 a0_2 a1 a2 = some (r1, r2)) :
  Calls Tryz.prog 10 #[.agg #[.string a0_0, .int .i64 a0_1, .bool a0_2], .string a1, .string a2] w fun e w' => e = .returned (.tuple #[.bool r1, .int .i64 r2]) ∧ Below w.heap.size w w' := by
 have hu23 := Tryz.underlying23
 have HB := Aside0.mk (Below.refl w.heap.size w)
 have HG := Aside0.mk hG
 clear hG
 have H : ((attr_both.f k a0_0 a0_1 a0_2 a1 a2).bind fun bt377 => (if bt377.2.2 = 0 then (some ((bt377.1.toList == bt377.2.1.toList), bt377.2.2)) else (some (false, bt377.2.2)))) = some (r1, r2) := h
 clear h
 replace H := Option.bind_eq_some_iff.mp H
 obtain ⟨⟨t377, t378, t379⟩, A40, H⟩ := H
 replace H : (if t379 = 0 then (some ((t377.toList == t378.toList), t379)) else (some (false, t379))) = some (r1, r2) := H
 have A4 := Aside0.mk A40
 clear A40
 by_cases c5 : t379 = 0
 ·
  rw [if_pos c5] at H
  have c5b0 : (t379 == 0) = true := beq_iff_eq.mpr c5
  have c5b1 : (t379 != 0) = false := bne_eq_false_iff_eq.mpr c5
  clear c5
  simp only [Option.some.injEq, Prod.mk.injEq] at H
  obtain ⟨rfl, rfl⟩ := H
  go_enter Tryz.func10, Tryz.ntmps10
  go_wp2_with (first | ((with_reducible refine gate_dst (N := 3) rfl ?_); refine box_event ?hg (N := 3) ?hd (cs := #[.string a0_0, .int .i64 a0_1, .bool a0_2]) (t := 23) ?hr ?_; (case hd => rfl); (case hg => rfl); (case hr => first | (go_simp; done) | (go_simp; rfl)); intro gb376 hg w6 hbox hb; have n0_ := Aside0.mk (below_step ap1 hb); have n1_ := Aside0.mk (hbox); have n2_ := Aside0.mk ((by rw [hg]; exact (below_size ap1) : w.heap.size ≤ gb376)); have n3_ := Aside0.mk ((by rw [hg]; exact (below_size ap1) : w.heap.size ≤ gb376)); clear HB; have HB := n0_; have BK376 := n1_; have GW376 := n2_; have GE376 := n3_; clear n0_ n1_ n2_ n3_; clear hb hbox hg; have hcz7_0 : w6.cell? ⟨gb376, 0, none⟩ = some (.string a0_0) := (blk_cell BK376.out 0).trans rfl; have hcz7_1 : w6.cell? ⟨gb376, 1, none⟩ = some (.int .i64 a0_1) := (blk_cell BK376.out 1).trans rfl; have hcz7_2 : w6.cell? ⟨gb376, 2, none⟩ = some (.bool a0_2) := (blk_cell BK376.out 2).trans rfl; have hfz7_0 := blk_frozen BK376.out 0; have hfz7_1 := blk_frozen BK376.out 1; have hfz7_2 := blk_frozen BK376.out 2) | ((with_reducible refine gate_callee (f := 25) rfl ?_); refine goesL_ (some 15) rfl rfl Tryz.func25 (by kernel_rfl) rfl #[.agg #[.string a0_0, .int .i64 a0_1, .bool a0_2], .string a1, .string a2] rfl ap3 ?_; (with_reducible refine (attr_both.calls k a0_0 a0_1 a0_2 a1 a2 t377 t378 t379 _ ?side1 A4.out).mono ?_); (case side1 => first | exact HG.out | (refine Gw.below HG.out ?_; repeat (first | (with_reducible first | exact HB.out | apply below_alloc | apply pw_below_drewN | apply below_drew1 | refine below_set ?_ GE376.out) | exact HB.out))); rintro e w8 ⟨rfl, hb⟩; refine ⟨_, rfl, ?_⟩; have n0_ := Aside0.mk (blk_below (g := gb376) (o := .cells #[.string a0_0, .int .i64 a0_1, .bool a0_2] 23 (0, 0)) (apB BK376.out) hb); have n1_ := Aside0.mk (below_step (apG GE376.out) hb); clear BK376; clear HB; have BK376 := n0_; have HB := n1_; clear n0_ n1_; (try clear hb); (try clear hb2); (try clear hk); (try clear hi)))
  go_ret2
  exact ⟨by first | rfl | (simp [errW_none, errW_some, bne_nil8, beq_nil8]; done) | (simp [errW_none, errW_some] <;> rfl) | (simp [*, errW_none, errW_some] <;> rfl), by repeat (first | (with_reducible first | exact HB.out | apply below_alloc | apply pw_below_drewN | apply below_drew1 | refine below_set ?_ GE376.out) | exact HB.out)⟩
 ·
  rw [if_neg c5] at H
  have c5b0 : (t379 == 0) = false := beq_eq_false_iff_ne.mpr c5
  have c5b1 : (t379 != 0) = true := bne_iff_ne.mpr c5
  simp only [Option.some.injEq, Prod.mk.injEq] at H
  obtain ⟨rfl, rfl⟩ := H
  go_enter Tryz.func10, Tryz.ntmps10
  go_wp2_with (first | ((with_reducible refine gate_dst (N := 3) rfl ?_); refine box_event ?hg (N := 3) ?hd (cs := #[.string a0_0, .int .i64 a0_1, .bool a0_2]) (t := 23) ?hr ?_; (case hd => rfl); (case hg => rfl); (case hr => first | (go_simp; done) | (go_simp; rfl)); intro gb376 hg w9 hbox hb; have n0_ := Aside0.mk (below_step ap1 hb); have n1_ := Aside0.mk (hbox); have n2_ := Aside0.mk ((by rw [hg]; exact (below_size ap1) : w.heap.size ≤ gb376)); have n3_ := Aside0.mk ((by rw [hg]; exact (below_size ap1) : w.heap.size ≤ gb376)); clear HB; have HB := n0_; have BK376 := n1_; have GW376 := n2_; have GE376 := n3_; clear n0_ n1_ n2_ n3_; clear hb hbox hg; have hcz10_0 : w9.cell? ⟨gb376, 0, none⟩ = some (.string a0_0) := (blk_cell BK376.out 0).trans rfl; have hcz10_1 : w9.cell? ⟨gb376, 1, none⟩ = some (.int .i64 a0_1) := (blk_cell BK376.out 1).trans rfl; have hcz10_2 : w9.cell? ⟨gb376, 2, none⟩ = some (.bool a0_2) := (blk_cell BK376.out 2).trans rfl; have hfz10_0 := blk_frozen BK376.out 0; have hfz10_1 := blk_frozen BK376.out 1; have hfz10_2 := blk_frozen BK376.out 2) | ((with_reducible refine gate_callee (f := 25) rfl ?_); refine goesL_ (some 15) rfl rfl Tryz.func25 (by kernel_rfl) rfl #[.agg #[.string a0_0, .int .i64 a0_1, .bool a0_2], .string a1, .string a2] rfl ap3 ?_; (with_reducible refine (attr_both.calls k a0_0 a0_1 a0_2 a1 a2 t377 t378 t379 _ ?side1 A4.out).mono ?_); (case side1 => first | exact HG.out | (refine Gw.below HG.out ?_; repeat (first | (with_reducible first | exact HB.out | apply below_alloc | apply pw_below_drewN | apply below_drew1 | refine below_set ?_ GE376.out) | exact HB.out))); rintro e w11 ⟨rfl, hb⟩; refine ⟨_, rfl, ?_⟩; have n0_ := Aside0.mk (blk_below (g := gb376) (o := .cells #[.string a0_0, .int .i64 a0_1, .bool a0_2] 23 (0, 0)) (apB BK376.out) hb); have n1_ := Aside0.mk (below_step (apG GE376.out) hb); clear BK376; clear HB; have BK376 := n0_; have HB := n1_; clear n0_ n1_; (try clear hb); (try clear hb2); (try clear hk); (try clear hi)))
  go_ret2
  exact ⟨by first | rfl | (simp [errW_none, errW_some, bne_nil8, beq_nil8]; done) | (simp [errW_none, errW_some] <;> rfl) | (simp [*, errW_none, errW_some] <;> rfl), by repeat (first | (with_reducible first | exact HB.out | apply below_alloc | apply pw_below_drewN | apply below_drew1 | refine below_set ?_ GE376.out) | exact HB.out)⟩
end Go.Proofs.YtpklcnpmppaaoaaGreatDoor.Print
namespace Go.Proofs.YtpklcnpmppaaoaaGreatDoor.Print
open Go.RowKit Go.Proofs.YtpklcnpmppaaoaaGreatDoorW.PrintWords Go.Proofs.YtpklcnpmppaaoaaGreatDoorW.PrintLast Go.Proofs.YtpklcnpmppaaoaaGreatDoorW.PrintMore Go.Proofs.YtpklcnpmppaaoaaGreatDoor.Pure
set_option linter.unusedVariables false
set_option linter.unusedSimpArgs false
def nameOf (s : ByteArray) : List (List AvaS) × Int :=
  if 1000 < s.size then ([], 5) else if (bl s).dropWhile (· == 32) = [] then ([], 0) else
    match (signs (bl s)).bind fun L => goP L [] [] [] with
    | none => ([], 4)
    | some N => if nameOk (mkN N) = true then (mkN N, 0) else ([], 4)
theorem dnparse_ev (s : ByteArray) (hs : s.size ≤ 100000) : Ev (fun k => dn_Parse.f k s) (nameOf s) := by
  obtain ⟨p1, p2, p3, p4⟩ := parse_ev s hs
  unfold nameOf
  by_cases h : 1000 < s.size
  · rw [if_pos h]; exact p1 h
  · rw [if_neg h]
    by_cases hb : (bl s).dropWhile (· == 32) = []
    · rw [if_pos hb]; exact p2 (by omega) hb
    · rw [if_neg hb]
      cases hg : ((signs (bl s)).bind fun L => goP L [] [] []) with
      | none => exact p3 (by omega) hb hg
      | some N =>
        obtain ⟨z1, z2, z3⟩ := sz_mk (Nat.le_refl _) (read_short hs hg)
        exact p4 (by omega) hb N _ hg (right_ev (mkN N) z1 z2)
theorem nameOf_ok (s : ByteArray) (hs : s.size ≤ 100000) : nameOk (nameOf s).1 = true ∧ (nameOf s).1.length ≤ 1000000 ∧ szN (nameOf s).1 := by
  have h0 : nameOk [] = true ∧ ([] : List (List AvaS)).length ≤ 1000000 ∧ szN [] := ⟨rfl, by simp, by simp [szN]⟩
  unfold nameOf
  by_cases h : 1000 < s.size
  · rw [if_pos h]; exact h0
  · rw [if_neg h]
    by_cases hb : (bl s).dropWhile (· == 32) = []
    · rw [if_pos hb]; exact h0
    · rw [if_neg hb]
      cases hg : ((signs (bl s)).bind fun L => goP L [] [] []) with
      | none => exact h0
      | some N =>
        obtain ⟨z1, z2, z3⟩ := sz_mk (Nat.le_refl _) (read_short hs hg)
        dsimp only
        by_cases hn : nameOk (mkN N) = true
        · rw [if_pos hn]; exact ⟨hn, z1, z2⟩
        · rw [if_neg hn]; exact h0
def keysB (s : ByteArray) : ByteArray := mkB ((keysOf (nameOf s).1).map bl).flatten
theorem keyOf_len (l : List AvaS) (h : l.length ≤ 4) : (keyOf l).size ≤ 16384 := by
  unfold keyOf
  rw [show ∀ q : List UInt8, (⟨q.toArray⟩ : ByteArray).size = q.length from mkB_size]
  have h2 := sortB_size (l.map tupV) (fun x hx => by
    obtain ⟨a, _, rfl⟩ := List.mem_map.1 hx
    exact tupV_len a)
  have h3 := flat_len 4096 _ h2
  rw [List.length_map, sortB_len, List.length_map] at h3
  omega
theorem keysOf_join {n : List (List AvaS)} (hn : nameOk n = true) : (keysOf n).length ≤ 12 ∧ ((keysOf n).map bl).flatten.length ≤ 200000 := by
  obtain ⟨h1, h2⟩ := nameOk_sz hn
  have hl := keysOf_len n
  refine ⟨by omega, ?_⟩
  have h3 := flat_len 16384 ((keysOf n).map bl) (fun x hx => by
    obtain ⟨y, hy, rfl⟩ := List.mem_map.1 hx
    obtain ⟨a, ha, rfl⟩ := List.mem_map.1 hy
    rw [bl_length]
    exact keyOf_len a (h2 a (List.mem_reverse.1 ha)))
  rw [List.length_map, hl] at h3
  omega
theorem join_keys {n : List (List AvaS)} (hn : nameOk n = true) : strings_Join.f (keysOf n) (⟨#[]⟩ : ByteArray) = some (mkB ((keysOf n).map bl).flatten) := by
  obtain ⟨h1, h2⟩ := keysOf_join hn
  unfold strings_Join.f
  rw [joinB_none, if_pos (by omega), if_pos (by omega)]
def trueB : List UInt8 := [84, 82, 85, 69]
def falseB : List UInt8 := [70, 65, 76, 83, 69]
def someT : Option (List UInt8) → ByteArray × Bool
  | some u => (mkB u, decide (u ≠ []))
  | none => (⟨#[]⟩, false)
def formOf (t : Int) (s : ByteArray) : ByteArray × Bool :=
  if t = 1 ∨ t = 2 then someT (readyOf (t == 1) s)
  else if t = 7 then someT (phoneOf s)
  else if t = 4 then (s, numOk (bl s))
  else if t = 5 then (s, decide (bl s = trueB ∨ bl s = falseB))
  else if t = 6 then (keysB s, (nameOf s).2 == 0)
  else (s, true)
theorem someT_ev {F : Nat → Option (ByteArray × Int)} {o : Option (List UInt8)} (h : Ev F (ansOf o)) : Ev (fun k => (F k).bind fun bt => if bt.2 = 0 then some (bt.1, (bt.1.toList != ([] : List UInt8))) else some (bt.1, false)) (someT o) := by
  refine Ev.bind h ?_
  cases o with
  | none => exact Ev.neg (show ¬ ((19 : Int) = 0) by decide) Ev.rfl'
  | some u =>
    refine Ev.pos (show (0 : Int) = 0 from rfl) (Ev.const fun k => ?_)
    show some (mkB u, (mkB u).toList != []) = some (mkB u, decide (u ≠ []))
    rw [tl_bl]
    show some (mkB u, u != []) = _
    cases u <;> simp
theorem ready_ans (s : ByteArray) (hs : s.size ≤ 100000) (fold : Bool) : Ev (fun k => prep_Ready.f k s fold) (ansOf (readyOf fold s)) := by
  have h := ready_ev s hs fold
  cases hr : readyOf fold s <;> rw [hr] at h <;> exact h
theorem form_ev (n : ByteArray) (t : Int) (b : Bool) (s : ByteArray) (hs : s.size ≤ 100000) : Ev (fun k => attr_form.f k n t b s) (formOf t s) := by
  have hj : ∀ {q : Bool}, q = decide (t = 1 ∨ t = 2) → Ev (fun k => attr_form.j0 k s t q n t b) (formOf t s) := by
    intro q hq
    unfold formOf
    refine Ev.step (fun k => by rw [attr_form.j0]) ?_
    by_cases h12 : t = 1 ∨ t = 2
    · rw [if_pos h12]
      exact Ev.pos (by rw [hq]; exact decide_eq_true h12) (someT_ev (ready_ans s hs _))
    · rw [if_neg h12]
      refine Ev.neg (by rw [hq]; simpa using h12) ?_
      by_cases h7 : t = 7
      · rw [if_pos h7]; exact Ev.pos h7 (someT_ev (phone_ev s hs))
      · rw [if_neg h7]
        refine Ev.neg h7 ?_
        by_cases h4 : t = 4
        · rw [if_pos h4]; exact Ev.pos h4 (Ev.bind (number_ev s (by omega)) Ev.rfl')
        · rw [if_neg h4]
          refine Ev.neg h4 ?_
          by_cases h5 : t = 5
          · rw [if_pos h5]
            refine Ev.pos h5 ?_
            rw [tl_bl]
            by_cases ht : bl s = trueB
            · rw [decide_eq_true (Or.inl ht)]
              exact Ev.pos ht Ev.rfl'
            · refine Ev.neg ht (Ev.const fun k => ?_)
              by_cases hf : bl s = falseB
              · rw [decide_eq_true (Or.inr hf), hf]; rfl
              · rw [decide_eq_false (by simp [ht, hf])]
                rw [show (bl s == ([70, 65, 76, 83, 69] : List UInt8)) = false from beq_eq_false_iff_ne.2 hf]
          · rw [if_neg h5]
            refine Ev.neg h5 ?_
            by_cases h6 : t = 6
            · rw [if_pos h6]
              obtain ⟨k1, k2, k3⟩ := nameOf_ok s hs
              have hk := keys_ev (nameOf s).1 k2 k3
              rw [if_pos k1] at hk
              refine Ev.pos h6 (Ev.bind (dnparse_ev s hs) (Ev.bind hk (Ev.bindc (join_keys k1) ?_)))
              by_cases h0 : (nameOf s).2 = 0
              · rw [h0]; exact Ev.pos rfl Ev.rfl'
              · rw [beq_eq_false_iff_ne.2 h0]; exact Ev.neg h0 Ev.rfl'
            · rw [if_neg h6]; exact Ev.neg h6 Ev.rfl'
  unfold attr_form.f
  by_cases h1 : t = 1
  · exact Ev.pos h1 (hj (by rw [decide_eq_true (Or.inl h1), h1]; rfl))
  · refine Ev.neg h1 (hj ?_)
    by_cases h2 : t = 2
    · rw [decide_eq_true (Or.inr h2), h2]; rfl
    · rw [decide_eq_false (by simp [h1, h2])]; exact beq_eq_false_iff_ne.2 h2
def normOf (t : Int) (s : ByteArray) : ByteArray × Int :=
  if t < 1 ∨ 7 < t then (⟨#[]⟩, 14) else if 1000 < s.size then (⟨#[]⟩, 5) else if s.size = 0 then (⟨#[]⟩, 4) else if (formOf t s).2 = true then ((formOf t s).1, 0) else (⟨#[]⟩, 4)
theorem sz0 (s : ByteArray) : bl s = [] ↔ s.size = 0 := by
  rw [← bl_length]; exact List.length_eq_zero_iff.symm
theorem normal_ev (n : ByteArray) (t : Int) (b : Bool) (s : ByteArray) : Ev (fun k => attr_Normal.f k n t b s) (normOf t s) := by
  unfold attr_Normal.f normOf attr_known.f
  by_cases ht : t < 1 ∨ 7 < t
  · rw [if_pos ht]
    by_cases h1 : t ≥ 1
    · rw [if_pos h1]
      refine Ev.bindc (u := decide (t ≤ 7)) rfl (Ev.neg (by simp; omega) Ev.rfl')
    · rw [if_neg h1]
      exact Ev.bindc (u := false) rfl (Ev.neg (by simp) Ev.rfl')
  · rw [if_neg ht, if_pos (by omega)]
    refine Ev.bindc (u := decide (t ≤ 7)) rfl (Ev.pos (by simp; omega) ?_)
    by_cases h5 : 1000 < s.size
    · rw [if_pos h5]; exact Ev.pos (by omega) Ev.rfl'
    · rw [if_neg h5]
      refine Ev.neg (by omega) ?_
      rw [tl_bl]
      by_cases h0 : s.size = 0
      · rw [if_pos h0]; exact Ev.pos ((sz0 s).2 h0) Ev.rfl'
      · rw [if_neg h0]
        refine Ev.neg (fun h => h0 ((sz0 s).1 h)) (Ev.bind (form_ev n t b s (by omega)) ?_)
        by_cases hf : (formOf t s).2 = true
        · refine Ev.pos hf ?_; rw [if_pos hf]; exact Ev.rfl'
        · refine Ev.neg hf ?_; rw [if_neg hf]; exact Ev.rfl'
end Go.Proofs.YtpklcnpmppaaoaaGreatDoor.Print
namespace Go.Proofs.YtpklcnpmppaaoaaGreatDoor.Print
open Go.RowKit Go.Proofs.YtpklcnpmppaaoaaGreatDoorW.PrintWords Go.Proofs.YtpklcnpmppaaoaaGreatDoorW.PrintLast Go.Proofs.YtpklcnpmppaaoaaGreatDoorW.PrintMore
set_option linter.unusedVariables false
set_option linter.unusedSimpArgs false
def idxP (p : ByteArray → Bool) (l : List ByteArray) : Int := match l.findIdx? p with | some i => i | none => -1
theorem idxP_hit (p : ByteArray → Bool) (l : List ByteArray) (k : Nat) (hk : k < l.length) (h0 : ∀ j, j < k → p (l.getD j ByteArray.empty) = false) (h1 : p (l.getD k ByteArray.empty) = true) : idxP p l = k := by
  have e : l.findIdx? p = some k := by
    rw [List.findIdx?_eq_some_iff_getElem]
    refine ⟨hk, ?_, fun j hj => ?_⟩
    · rw [List.getD_eq_getElem?_getD, List.getElem?_eq_getElem hk] at h1; exact h1
    · have := h0 j hj
      rw [List.getD_eq_getElem?_getD, List.getElem?_eq_getElem (by omega)] at this; simpa using this
  unfold idxP; rw [e]
theorem idxP_miss (p : ByteArray → Bool) (l : List ByteArray) (h0 : ∀ j, j < l.length → p (l.getD j ByteArray.empty) = false) : idxP p l = -1 := by
  have e : l.findIdx? p = none := by
    rw [List.findIdx?_eq_none_iff]
    intro x hx
    obtain ⟨j, hj, rfl⟩ := List.getElem_of_mem hx
    have := h0 j hj
    rw [List.getD_eq_getElem?_getD, List.getElem?_eq_getElem hj] at this; exact this
  unfold idxP; rw [e]
theorem idxP_any (p : ByteArray → Bool) (l : List ByteArray) : decide (idxP p l ≥ 0) = l.any p := by
  unfold idxP
  cases h : l.findIdx? p with
  | none =>
    rw [List.findIdx?_eq_none_iff] at h
    have : l.any p = false := by rw [List.any_eq_false]; intro x hx; simp [h x hx]
    simp [this]
  | some i =>
    obtain ⟨hi, hp, _⟩ := List.findIdx?_eq_some_iff_getElem.1 h
    have : l.any p = true := List.any_eq_true.2 ⟨l[i], List.getElem_mem hi, hp⟩
    simp [this]
def Asks (g : Nat) (lb : Array Value) (p : ByteArray → Bool) (w : World) : Prop :=
  ∀ W x, Below w.heap.size w W → Calls Tryz.prog g (#[.string x] ++ lb) W fun e w' => e = .returned (.bool (p x)) ∧ Below W.heap.size W w'
set_option maxHeartbeats 4000000 in
set_option maxRecDepth 1000000 in
theorem idxFunc_calls (A0 : Option Addr) (c0 : Nat) (l0 : List ByteArray) (p : ByteArray → Bool) (g : Nat) (lb : Array Value) (eg : ∀ args w, (callFunc g args).run Tryz.prog w = .ok (.enter g args) w) (w : World) (hr0 : Kd.C Kd.string w A0 l0.length l0) (hp : Asks g lb p w) :
    Calls Tryz.prog 55 #[.slice A0 l0.length c0, .func (.func g) #[] lb] w fun e w' => e = .returned (.int .i64 (idxP p l0)) ∧ Below w.heap.size w w' := by
  have hlm := hr0.2.1
  have HC := Aside0.mk hr0
  have HP := Aside0.mk hp
  clear hr0 hp
  go_enter Tryz.func55, Tryz.ntmps55
  go_wp2
  go_loopw [5, 8] (fun _ i wr => ∃ k : Nat, k ≤ l0.length ∧ i = .int .i64 k ∧ Aside0 (Below w.heap.size w wr) ∧ Aside0 (∀ j, j < k → p (l0.getD j ByteArray.empty) = false)) (fun _ i wr => l0.length - (intOf i).toNat)
  case atStart => exact ⟨0, Nat.zero_le _, rfl, ⟨Below.refl _ _⟩, ⟨fun j hj => absurd hj (Nat.not_lt_zero _)⟩⟩
  case round =>
    obtain ⟨k, hk, rfl, HB, HF⟩ := hrel
    by_cases hlt : k < l0.length
    · obtain ⟨ad, hA, hc⟩ := (Kd.reads_of_C (d := ByteArray.empty) HC.out).at_ (k : Int) (by omega) (by omega)
      have hcw := (HB.out.cell (World.block_lt_of_cell? _ _ hc)).trans hc
      clear hc
      subst hA
      simp only [Int.toNat_natCast, rdOf] at hcw
      generalize hx : l0.getD k ByteArray.empty = x at *
      have HX := Aside0.mk hx
      clear hx
      cases hq : p x with
      | true =>
        have HQ := Aside0.mk hq
        clear hq
        go_wp2_with (go_at_fn g; refine (HP.out _ x (by repeat (first | exact HB.out | apply pw_below_drewN))).mono ?_; rintro e w' ⟨rfl, hb⟩; rw [HQ.out]; replace hb := Aside0.mk hb)
        go_ret
        exact ⟨by rw [idxP_hit p l0 k hlt HF.out (by rw [HX.out]; exact HQ.out)]; rfl, below_step HB.out hb.out⟩
      | false =>
        have HQ := Aside0.mk hq
        clear hq
        go_wp2_with (go_at_fn g; refine (HP.out _ x (by repeat (first | exact HB.out | apply pw_below_drewN))).mono ?_; rintro e w' ⟨rfl, hb⟩; rw [HQ.out]; replace hb := Aside0.mk hb)
        go_roundw
        case rel =>
          refine ⟨k + 1, by omega, by go_num, ⟨below_step HB.out hb.out⟩, ⟨fun j hj => ?_⟩⟩
          by_cases e : j = k
          · subst e; rw [HX.out]; exact HQ.out
          · exact HF.out j (by omega)
        case measure => simp [intOf]; omega
    · obtain rfl : k = l0.length := by omega
      go_wp2
      go_ret
      exact ⟨by rw [idxP_miss p l0 HF.out]; rfl, HB.out⟩
set_option maxHeartbeats 4000000 in
set_option maxRecDepth 1000000 in
theorem conFunc_calls (A0 : Option Addr) (c0 : Nat) (l0 : List ByteArray) (p : ByteArray → Bool) (g : Nat) (lb : Array Value) (eg : ∀ args w, (callFunc g args).run Tryz.prog w = .ok (.enter g args) w) (w : World) (hr0 : Kd.C Kd.string w A0 l0.length l0) (hp : Asks g lb p w) :
    Calls Tryz.prog 32 #[.slice A0 l0.length c0, .func (.func g) #[] lb] w fun e w' => e = .returned (.bool (l0.any p)) ∧ Below w.heap.size w w' := by
  have HI := Aside0.mk (idxFunc_calls A0 c0 l0 p g lb eg w hr0 hp)
  have HA := Aside0.mk (idxP_any p l0)
  clear hr0 hp
  generalize idxP p l0 = i at *
  go_enter Tryz.func32, Tryz.ntmps32
  go_wp2_with (go_at_call 55; (with_reducible refine HI.out.mono ?_); rintro e w' ⟨rfl, hb⟩; replace hb := Aside0.mk hb)
  go_ret
  exact ⟨by rw [← HA.out]; rfl, hb.out⟩
def given (s : ByteArray) : Bool := decide (s ≠ ⟨#[]⟩)
def slices_Concat_string_string.f (a : ByteArray) (l : List ByteArray) (b : ByteArray) : Option (List ByteArray) := if l.length ≤ 1000000 then some (a :: l ++ [b]) else none
def slices_ContainsFunc_string_string.f (l : List ByteArray) : Option Bool := some (l.any given)
theorem given_asks (w : World) : Asks 30 #[] given w := by
  intro W x _
  by_cases h : x = ⟨#[]⟩
  · subst h
    show Calls Tryz.prog 30 #[.string ⟨#[]⟩] W _
    go_enter Tryz.func30, Tryz.ntmps30
    go_wp2
    go_ret
    exact ⟨rfl, Below.refl _ _⟩
  · have e : given x = true := by simp [given, h]
    have e2 : (x.toList != []) = true := by
      rw [Lib.toList_data, bne_nil8]
      cases hd : x.data.toList with
      | nil => exact absurd (ByteArray.ext (Array.toList_eq_nil_iff.1 hd)) h
      | cons a l => rfl
    rw [e]
    clear e h
    show Calls Tryz.prog 30 #[.string x] W _
    go_enter Tryz.func30, Tryz.ntmps30
    go_wp2
    go_ret
    exact ⟨by simp_all, Below.refl _ _⟩
theorem slices_ContainsFunc_string_string.calls (A0 : Option Addr) (c0 : Nat) (l0 : List ByteArray) (r : Bool) (w : World) (hr0 : Kd.C Kd.string w A0 l0.length l0) (hc0 : l0.length ≤ c0) (h : slices_ContainsFunc_string_string.f l0 = some r) :
    Calls Tryz.prog 32 #[.slice A0 l0.length c0, .func (.func 30) #[] #[]] w fun e w' => e = .returned (.bool r) ∧ Below w.heap.size w w' := by
  obtain rfl := Option.some.inj h
  exact conFunc_calls A0 c0 l0 given 30 #[] (enters_of Tryz.func30 (by kernel_rfl) rfl) w hr0 (given_asks w)
theorem run_append_zeros (W : World) (m : Nat) (h0 : 0 < m) (h1 : m ≤ 1000002) :
    (Builtin.append_ #[31, 3] 31 #[.slice none 0 0, .int .i64 m]).run Tryz.prog W =
      .ok (.slice (some ⟨W.heap.size, 0, none⟩) m (grownCap W m 0 9)) (W.drew.alloc (.cells (Builtin.zeroCells #[.string ⟨#[]⟩] m ++ Builtin.zeroCells #[.string ⟨#[]⟩] (grownCap W m 0 9 - m)) 9)) := by
  have hw : IntKind.i64.wrap (m : Int) = (m : Int) := by rw [i64_w]; unfold wrap64; omega
  have hneg : ¬ ((m : Int) < 0) := by omega
  obtain ⟨i, hi, hz, hsz, hby⟩ := info_parts info9
  have hbig : ¬ (281474976710656 < (m : Int) * 16) := by omega
  have hm0 : ¬ m = 0 := by omega
  have hcap := nextslicecap_zero h0
  have hm1 : ¬ (281474976710656 < m * 16) := by omega
  have h63 : ¬ (9223372036854775807 < (m : Int)) := by omega
  simp [Builtin.append_, run_underlying Tryz.underlying31, run_underlying Tryz.underlying3, sizeOf, typeInfo, zeroValue, hi, hz, hsz, hby, hw, hneg, hbig, hm0, hcap, hm1, h63, Question.forced, newRow, grownCap, go_sem]
theorem exec_append {P : Program} {a : Act} {o : Oper} {W w1 : World} {v vs vx : Value} {s x : Operand} {t tx ty : TypeId} (ho : o.op = .call { callee := .builtin .append, args := #[s, x], argTypes := #[t, tx] }) (hty : o.type = ty) (hs : a.eval s = vs) (hx : a.eval x = vx) (h : (Builtin.append_ #[t, tx] ty #[vs, vx]).run P W = .ok v w1) : (execOp a.eval o).run P W = .ok (.value v) w1 := by
  subst hty; subst hs; subst hx
  unfold execOp
  simp only [ho, resolve, invoke, builtin, Sem.run_bind, Sem.run_pure, Result.andThen_ok, List.map_toArray, List.map_cons, List.map_nil, h]
theorem grow_own (W : World) (m : Nat) (h1 : m ≤ 1000002) (cs : Array Value) (hs : cs.size = grownCap W m 0 9) : Kd.R Kd.string 9 (W.alloc (.cells cs 9)).drew W.heap.size (fun _ => True) (.slice (some ⟨W.heap.size, 0, none⟩) 0 (grownCap W m 0 9)) [] := by
  refine Kd.R_of_own (enc := Value.string) (xs := ([] : List ByteArray)) ⟨rfl, .inr ⟨W.heap.size, grownCap W m 0 9, cs, rfl, Nat.le_refl _, ?_, Nat.zero_le _, ?_, ?_, rfl⟩⟩ (fun _ _ => trivial)
  · exact blk_drew (blk_new W _)
  · exact grownCap_le_maxLen W m 0 9 (by unfold maxLen; omega)
  · rw [hs, Nat.mul_one]
set_option maxHeartbeats 4000000 in
set_option maxRecDepth 1000000 in
theorem grow_calls (m : Nat) (h0 : 0 < m) (h1 : m ≤ 1000002) (w : World) :
    Calls Tryz.prog 54 #[.slice none 0 0, .int .i64 m] w fun e w' => ∃ v, e = .returned v ∧ Kd.R Kd.string 9 w' w.heap.size (fun _ => True) v [] ∧ Below w.heap.size w w' := by
  have hm0 : decide ((m : Int) < 0) = false := decide_eq_false (by omega)
  have hm1 : decide ((m : Int) > 0) = true := decide_eq_true (by omega)
  have hm2 : (m : Int) - 0 = m := by omega
  have hm3 : (0 : Int) < (m : Int) := by omega
  have hr := fun W => Aside0.mk (run_append_zeros W m h0 h1)
  go_enter Tryz.func54, Tryz.ntmps54
  go_wp2_with ((with_reducible refine gate_builtin (b := .append) (xs := #[.tmp 20, .tmp 21]) rfl ?_); refine Kd.event_run (v := .slice (some ⟨w.heap.size, 0, none⟩) m (grownCap w m 0 9)) (w1 := w.drew.alloc (.cells (Builtin.zeroCells #[.string ⟨#[]⟩] m ++ Builtin.zeroCells #[.string ⟨#[]⟩] (grownCap w m 0 9 - m)) 9)) rfl ?hx ?_; (case hx => exact exec_append rfl rfl rfl rfl (hr w).out))
  go_ret
  refine ⟨_, rfl, grow_own w m h1 _ ?_, ?_⟩
  · have hge := grownCap_ge w m 0 9
    simp [Builtin.zeroCells]; omega
  · exact (below_alloc (Below.refl _ _) _).trans (below_drew1 (Below.refl _ _))
def parts3 (l1 l2 l3 : List ByteArray) : Nat → List ByteArray
  | 0 => []
  | 1 => l1
  | 2 => l1 ++ l2
  | _ => l1 ++ l2 ++ l3
set_option maxHeartbeats 4000000 in
set_option maxRecDepth 1000000 in
theorem concat_gen (V : World) (g : Nat) (A1 A2 A3 : Option Addr) (c1 c2 c3 : Nat) (l1 l2 l3 : List ByteArray) (h1 : V.cell? ⟨g, 0, none⟩ = some (.slice A1 l1.length c1)) (h2 : V.cell? ⟨g, 1, none⟩ = some (.slice A2 l2.length c2)) (h3 : V.cell? ⟨g, 2, none⟩ = some (.slice A3 l3.length c3))
    (r1 : Kd.C Kd.string V A1 l1.length l1) (r2 : Kd.C Kd.string V A2 l2.length l2) (r3 : Kd.C Kd.string V A3 l3.length l3) (hp : 0 < l1.length) (hs : l1.length + l2.length + l3.length ≤ 1000002) :
    Calls Tryz.prog 31 #[.slice (some ⟨g, 0, none⟩) 3 3] V fun e w' => ∃ v, e = .returned v ∧ Kd.R Kd.string 9 w' V.heap.size (fun _ => True) v (l1 ++ l2 ++ l3) ∧ Below V.heap.size V w' := by
  have R1 := Aside0.mk r1
  have R2 := Aside0.mk r2
  have R3 := Aside0.mk r3
  have HH := Aside0.mk (show ∀ k, k < 3 → ∃ A n c xs, V.cell? ⟨g, k, none⟩ = some (.slice A n c) ∧ n = xs.length ∧ parts3 l1 l2 l3 (k + 1) = parts3 l1 l2 l3 k ++ xs ∧ Kd.C Kd.string V A xs.length xs from fun k hk => by
    rcases (show k = 0 ∨ k = 1 ∨ k = 2 by omega) with rfl | rfl | rfl
    · exact ⟨_, _, _, l1, h1, rfl, rfl, r1⟩
    · exact ⟨_, _, _, l2, h2, rfl, rfl, r2⟩
    · exact ⟨_, _, _, l3, h3, rfl, rfl, r3⟩)
  have HS := Aside0.mk (show ∀ k, k ≤ 3 → (parts3 l1 l2 l3 k).length ≤ 1000002 from fun k hk => by
    rcases (show k = 0 ∨ k = 1 ∨ k = 2 ∨ k = 3 by omega) with rfl | rfl | rfl | rfl <;> simp [parts3] <;> omega)
  have H3 := Aside0.mk (show parts3 l1 l2 l3 3 = l1 ++ l2 ++ l3 from rfl)
  have HP := Aside0.mk (show 0 < (parts3 l1 l2 l3 3).length by simp [parts3]; omega)
  clear r1 r2 r3 h1 h2 h3
  have H0 := Aside0.mk (show parts3 l1 l2 l3 0 = [] from rfl)
  generalize parts3 l1 l2 l3 = ps at *
  go_enter Tryz.func31, Tryz.ntmps31
  go_wp2
  go_loopw [3, 11] (fun s i wr => ∃ k m : Nat, k ≤ 3 ∧ i = .int .i64 k ∧ s = .int .i64 (m : Int) ∧ V = wr ∧ Aside0 (m = (ps k).length)) (fun s i wr => 3 - (intOf i).toNat)
  case atStart => exact ⟨0, 0, by omega, rfl, rfl, rfl, ⟨by rw [H0.out]; rfl⟩⟩
  case round =>
    obtain ⟨k, m, hk, rfl, rfl, rfl, HM⟩ := hrel
    by_cases hlt : k < 3
    · obtain ⟨A, n, c, xs, hc, hn, he, _⟩ := HH.out k hlt
      have hb : m + n ≤ 1000002 := by
        have := HS.out (k + 1) (by omega)
        rw [he, List.length_append] at this
        rw [HM.out, hn]; exact this
      have HM2 := Aside0.mk (show m + n = (ps (k + 1)).length by rw [he, List.length_append, HM.out, hn])
      have hd : decide ((m : Int) + (n : Int) < 0) = false := decide_eq_false (by omega)
      clear he hn HM
      go_wp2
      go_roundw
      case rel => exact ⟨k + 1, m + n, by omega, by go_num, by go_num, by first | trivial | rfl, HM2⟩
      case measure => simp [intOf]; omega
    · obtain rfl : k = 3 := by omega
      have hm0 : 0 < m := by rw [HM.out]; exact HP.out
      have hm1 : m ≤ 1000002 := by rw [HM.out]; exact HS.out 3 (by omega)
      have HG := Aside0.mk (grow_calls m hm0 hm1)
      go_wp2_with (go_at_call 54; (with_reducible refine (HG.out _).mono ?_); rintro e w1 ⟨v0, rfl, ho, hb⟩; replace ho := Aside0.mk ho; replace hb := Aside0.mk hb)
      go_loopw [6, 27] (fun v i wr => ∃ k : Nat, k ≤ 3 ∧ i = .int .i64 k ∧ Aside0 (Kd.R Kd.string 9 wr V.heap.size (fun _ => True) v (ps k)) ∧ Aside0 (Below V.heap.size V wr)) (fun v i wr => 3 - (intOf i).toNat)
      case atStart => exact ⟨0, by omega, rfl, ⟨by rw [H0.out]; exact ho.out⟩, hb⟩
      case round =>
        clear ho hb
        obtain ⟨k, hk, rfl, HO, HB⟩ := hrel
        by_cases hlt : k < 3
        · obtain ⟨A, n, c, xs, hc, rfl, he, HR⟩ := HH.out k hlt
          have hcw := (HB.out.cell (World.block_lt_of_cell? _ _ hc)).trans hc
          clear hc
          have HRw := Aside0.mk (Kd.C_below HR HB.out)
          obtain ⟨ys, hys⟩ : ∃ ys, ys = ps (k + 1) := ⟨_, rfl⟩
          have HE := Aside0.mk (hys.trans he)
          have HY := Aside0.mk hys
          have HL := Aside0.mk (show (ps k).length + xs.length ≤ 1000002 by have := HS.out (k + 1) (by omega); rw [he, List.length_append] at this; exact this)
          clear he HR hys
          go_wp2_with ((with_reducible refine gate_builtin (b := .append) (xs := #[.tmp 31, .tmp 32]) rfl ?_); at_builtin; refine Kd.R_append_row Value.string ByteArray.empty (h1 := fun _ => rfl) (w0 := V) V.heap.size rfl (.tmp 31) (.tmp 32) 31 9 (.string ⟨#[]⟩) 16 rfl Tryz.underlying31 info9 rfl (by omega) u6 (ps k) xs A xs.length c (fun _ => True) rfl rfl ?aF ?aO ?aC ?aB ?aS ?aL ?_; (case aF => exact (fun _ _ => trivial)); (case aO => exact HO.out); (case aC => exact HRw.out); (case aB => exact HB.out); (case aS => exact (below_size HB.out)); (case aL => have := HL.out; omega); intro v350 w12 ho hb hg hat; rw [← HE.out] at ho; replace hb := Aside0.mk hb; replace ho := Aside0.mk ho; clear hg hat)
          go_roundw
          case rel => exact ⟨k + 1, by omega, by go_num, ⟨by rw [← HY.out]; exact ho.out⟩, hb⟩
          case measure => simp [intOf]; omega
        · obtain rfl : k = 3 := by omega
          go_wp2
          go_ret
          exact ⟨_, rfl, by rw [← H3.out]; exact HO.out, HB.out⟩
theorem C_single (W : World) (g : Nat) (a : ByteArray) (t : TypeId) (h : W.heap[g]? = some (.cells #[.string a] t (0, 0))) : Kd.C Kd.string W (some ⟨g, 0, none⟩) [a].length [a] := by
  refine ⟨rfl, by simp, fun _ => ⟨_, rfl, fun j p hj => ?_⟩⟩
  cases j with
  | zero =>
    simp only [List.getElem?_cons_zero, Option.some.injEq] at hj
    subst hj
    refine ⟨[.string a], rfl, rfl, fun i u hi => ?_⟩
    cases i with
    | zero => simp at hi; subst hi; exact (blk_cell h 0).trans rfl
    | succ i => simp at hi
  | succ j => simp at hj
theorem slices_Concat_string_string.calls (a : ByteArray) (A0 : Option Addr) (c0 : Nat) (l0 : List ByteArray) (b : ByteArray) (r : List ByteArray) (W : World) (hr0 : Kd.C Kd.string W A0 l0.length l0) (hc0 : l0.length ≤ c0) (h : slices_Concat_string_string.f a l0 b = some r) :
    Calls Tryz.prog 31 #[.slice (some ⟨W.heap.size + 2, 0, none⟩) 3 3] (((W.alloc (.cells #[.string a] 9)).alloc (.cells #[.string b] 9)).alloc (.cells #[.slice (some ⟨W.heap.size, 0, none⟩) 1 1, .slice A0 l0.length c0, .slice (some ⟨W.heap.size + 1, 0, none⟩) 1 1] 31))
      fun e w' => ∃ v0_ : Value, e = .returned v0_ ∧ Kd.R Kd.string 9 w' W.heap.size (fun _ => True) v0_ r ∧ Below W.heap.size W w' := by
  unfold slices_Concat_string_string.f at h
  by_cases c : l0.length ≤ 1000000
  · rw [if_pos c] at h
    injection h with h
    subst h
    have s1 : (W.alloc (.cells #[.string a] 9)).heap.size = W.heap.size + 1 := World.size_alloc _ _
    have s2 : ((W.alloc (.cells #[.string a] 9)).alloc (.cells #[.string b] 9)).heap.size = W.heap.size + 2 := by rw [World.size_alloc, s1]
    generalize hc3 : (Obj.cells #[.slice (some ⟨W.heap.size, 0, none⟩) 1 1, .slice A0 l0.length c0, .slice (some ⟨W.heap.size + 1, 0, none⟩) 1 1] 31) = o3
    have b3 := blk_new ((W.alloc (.cells #[.string a] 9)).alloc (.cells #[.string b] 9)) o3
    rw [s2, ← hc3] at b3
    have b1 := blk_alloc (blk_alloc (blk_new W (.cells #[.string a] 9)) (.cells #[.string b] 9)) o3
    have b2 := blk_alloc (blk_new (W.alloc (.cells #[.string a] 9)) (.cells #[.string b] 9)) o3
    rw [s1] at b2
    have hB : Below W.heap.size W (((W.alloc (.cells #[.string a] 9)).alloc (.cells #[.string b] 9)).alloc o3) := below_alloc (below_alloc (below_alloc (Below.refl _ _) _) _) _
    rw [hc3] at b3
    generalize ((W.alloc (.cells #[.string a] 9)).alloc (.cells #[.string b] 9)).alloc o3 = V at *
    subst hc3
    refine (concat_gen V (W.heap.size + 2) (some ⟨W.heap.size, 0, none⟩) A0 (some ⟨W.heap.size + 1, 0, none⟩) 1 c0 1 [a] l0 [b] ((blk_cell b3 0).trans rfl) ((blk_cell b3 1).trans rfl) ((blk_cell b3 2).trans rfl) (C_single V _ a 9 b1) (Kd.C_below hr0 hB) (C_single V _ b 9 b2) (by simp) (by simp; omega)).mono ?_
    rintro e w' ⟨v, rfl, ho, hb⟩
    have hs := hB.size
    exact ⟨v, rfl, Kd.R_lower ho hs, below_then hB hs hb⟩
  · rw [if_neg c] at h; cases h
end Go.Proofs.YtpklcnpmppaaoaaGreatDoor.Print
namespace Go.Proofs.YtpklcnpmppaaoaaGreatDoor.Print
open Go.RowKit Go.Proofs.YtpklcnpmppaaoaaGreatDoorW.PrintWords
def strings_Cut.f (a0 a1 : ByteArray) : Option (ByteArray × ByteArray × Bool) :=
  if a0.size ≤ 1000000 then some (⟨(Lib.cut a0.data.toList a1.data.toList).1.toArray⟩, ⟨(Lib.cut a0.data.toList a1.data.toList).2.1.toArray⟩, (Lib.cut a0.data.toList a1.data.toList).2.2) else none
theorem strings_Cut.calls (a0 a1 : ByteArray) (r1 r2 : ByteArray) (r3 : Bool) (w : World) (hG : Gw w) (h : strings_Cut.f a0 a1 = some (r1, r2, r3)) :
    Calls Tryz.prog 36 #[.string a0, .string a1] w fun e w' => e = .returned (.tuple #[.string r1, .string r2, .bool r3]) ∧ Below w.heap.size w w' := by
  unfold strings_Cut.f at h
  by_cases c : a0.size ≤ 1000000
  · rw [if_pos c] at h
    simp only [Option.some.injEq, Prod.mk.injEq] at h
    obtain ⟨rfl, rfl, rfl⟩ := h
    obtain ⟨m, hm⟩ := hG.maxLen
    refine (Tryz.strings_Cut a0 a1 m w (by omega) hm).mono ?_
    rintro e w' ⟨he, hd⟩
    exact ⟨he, Drawn0.below ⟨hd⟩⟩
  · rw [if_neg c] at h; cases h
end Go.Proofs.YtpklcnpmppaaoaaGreatDoor.Print
namespace Go.Proofs.YtpklcnpmppaaoaaGreatDoor.Print
open Go.RowKit Go.Proofs.YtpklcnpmppaaoaaGreatDoorW.PrintWords Go.Proofs.YtpklcnpmppaaoaaGreatDoorW.PrintLast Go.Proofs.YtpklcnpmppaaoaaGreatDoorW.PrintMore
attribute [local go_sem] max2_int min2_int max_two min_two max_three min_three max_four min_four
set_option linter.unusedVariables false
set_option linter.unusedSimpArgs false
def stringslite_CutPrefix.f (a0 : ByteArray) (a1 : ByteArray) : Option (ByteArray × Bool) := (stringslite_HasPrefix.f a0 a1).bind fun t431 => (if t431 = true then (if 0 ≤ (a1.size : Int) then (if (a1.size : Int) ≤ (a0.size : Int) then (some (a0.extract ((a1.size : Int) : Int).toNat a0.size, true)) else (none)) else (none)) else (some (a0, false)))
set_option maxHeartbeats 8000000 in
set_option maxRecDepth 100000 in
theorem stringslite_CutPrefix.calls (a0 : ByteArray) (a1 : ByteArray) (r1 : ByteArray) (r2 : Bool) (w : World) (h : stringslite_CutPrefix.f a0 a1 = some (r1, r2)) :
  Calls Tryz.prog 58 #[.string a0, .string a1] w fun e w' => e = .returned (.tuple #[.string r1, .bool r2]) ∧ Drawn0 w w' := by
 have H : ((stringslite_HasPrefix.f a0 a1).bind fun t431 => (if t431 = true then (if 0 ≤ (a1.size : Int) then (if (a1.size : Int) ≤ (a0.size : Int) then (some (a0.extract ((a1.size : Int) : Int).toNat a0.size, true)) else (none)) else (none)) else (some (a0, false)))) = some (r1, r2) := h
 clear h
 replace H := Option.bind_eq_some_iff.mp H
 obtain ⟨t431, A30, H⟩ := H
 replace H : (if t431 = true then (if 0 ≤ (a1.size : Int) then (if (a1.size : Int) ≤ (a0.size : Int) then (some (a0.extract ((a1.size : Int) : Int).toNat a0.size, true)) else (none)) else (none)) else (some (a0, false))) = some (r1, r2) := H
 have A3 := Aside0.mk A30
 clear A30
 by_cases c4 : t431 = true
 ·
  subst c4
  rw [if_pos rfl] at H
  by_cases c5 : 0 ≤ (a1.size : Int)
  ·
   rw [if_pos c5] at H
   have c5b0 := eq_true c5
   have c5b1 := decide_eq_true c5
   clear c5
   by_cases c6 : (a1.size : Int) ≤ (a0.size : Int)
   ·
    rw [if_pos c6] at H
    have c6b0 := eq_true c6
    have c6b1 := decide_eq_true c6
    clear c6
    simp only [Option.some.injEq, Prod.mk.injEq] at H
    obtain ⟨rfl, rfl⟩ := H
    go_enter Tryz.func58, Tryz.ntmps58
    go_wp2_with (first | ((with_reducible refine gate_callee (f := 90) rfl ?_); refine goesL_ (some 8) rfl rfl Tryz.func90 (by kernel_rfl) rfl #[.string a0, .string a1] rfl ap3 ?_; (with_reducible refine (stringslite_HasPrefix.calls a0 a1 true _ A3.out).mono ?_); rintro e w' ⟨rfl, ⟨nd, rfl⟩⟩; refine ⟨_, rfl, ?_⟩))
    go_ret2
    exact ⟨ap2, ap7⟩
   ·
    rw [if_neg c6] at H
    exact absurd H (by simp)
  ·
   rw [if_neg c5] at H
   exact absurd H (by simp)
 ·
  replace c4 := Bool.eq_false_iff.mpr c4
  subst c4
  rw [if_neg (show ¬ (false = true) by decide)] at H
  simp only [Option.some.injEq, Prod.mk.injEq] at H
  obtain ⟨rfl, rfl⟩ := H
  go_enter Tryz.func58, Tryz.ntmps58
  go_wp2_with (first | ((with_reducible refine gate_callee (f := 90) rfl ?_); refine goesL_ (some 8) rfl rfl Tryz.func90 (by kernel_rfl) rfl #[.string a0, .string a1] rfl ap3 ?_; (with_reducible refine (stringslite_HasPrefix.calls a0 a1 false _ A3.out).mono ?_); rintro e w' ⟨rfl, ⟨nd, rfl⟩⟩; refine ⟨_, rfl, ?_⟩))
  go_ret2
  exact ⟨ap2, ap7⟩
def strings_CutPrefix.f (a0 : ByteArray) (a1 : ByteArray) : Option (ByteArray × Bool) := (stringslite_CutPrefix.f a0 a1).bind fun bt432 => (some (bt432.1, bt432.2))
set_option maxHeartbeats 8000000 in
set_option maxRecDepth 100000 in
theorem strings_CutPrefix.calls (a0 : ByteArray) (a1 : ByteArray) (r1 : ByteArray) (r2 : Bool) (w : World) (h : strings_CutPrefix.f a0 a1 = some (r1, r2)) :
  Calls Tryz.prog 34 #[.string a0, .string a1] w fun e w' => e = .returned (.tuple #[.string r1, .bool r2]) ∧ Drawn0 w w' := by
 have H : ((stringslite_CutPrefix.f a0 a1).bind fun bt432 => (some (bt432.1, bt432.2))) = some (r1, r2) := h
 clear h
 replace H := Option.bind_eq_some_iff.mp H
 obtain ⟨⟨t432, t433⟩, A30, H⟩ := H
 replace H : (some (t432, t433)) = some (r1, r2) := H
 have A3 := Aside0.mk A30
 clear A30
 simp only [Option.some.injEq, Prod.mk.injEq] at H
 obtain ⟨rfl, rfl⟩ := H
 go_enter Tryz.func34, Tryz.ntmps34
 go_wp2_with (first | ((with_reducible refine gate_callee (f := 58) rfl ?_); refine goesL_ (some 8) rfl rfl Tryz.func58 (by kernel_rfl) rfl #[.string a0, .string a1] rfl ap3 ?_; (with_reducible refine (stringslite_CutPrefix.calls a0 a1 t432 t433 _ A3.out).mono ?_); rintro e w' ⟨rfl, ⟨nd, rfl⟩⟩; refine ⟨_, rfl, ?_⟩))
 go_ret2
 exact ⟨ap2, ap7⟩
def stringslite_HasSuffix.f (a0 : ByteArray) (a1 : ByteArray) : Option (Bool) := if (a0.size : Int) ≥ (a1.size : Int) then (if 0 ≤ (wrap64 ((a0.size : Int) - (a1.size : Int))) then (if (wrap64 ((a0.size : Int) - (a1.size : Int))) ≤ (a0.size : Int) then (some ((a0.extract ((wrap64 ((a0.size : Int) - (a1.size : Int))) : Int).toNat a0.size).toList == a1.toList)) else (none)) else (none)) else (some false)
set_option maxHeartbeats 8000000 in
set_option maxRecDepth 100000 in
theorem stringslite_HasSuffix.calls (a0 : ByteArray) (a1 : ByteArray) (r : Bool) (w : World) (h : stringslite_HasSuffix.f a0 a1 = some r) :
  Calls Tryz.prog 91 #[.string a0, .string a1] w fun e w' => e = .returned (.bool r) ∧ Drawn0 w w' := by
 have H : (if (a0.size : Int) ≥ (a1.size : Int) then (if 0 ≤ (wrap64 ((a0.size : Int) - (a1.size : Int))) then (if (wrap64 ((a0.size : Int) - (a1.size : Int))) ≤ (a0.size : Int) then (some ((a0.extract ((wrap64 ((a0.size : Int) - (a1.size : Int))) : Int).toNat a0.size).toList == a1.toList)) else (none)) else (none)) else (some false)) = some r := h
 clear h
 by_cases c3 : (a0.size : Int) ≥ (a1.size : Int)
 ·
  rw [if_pos c3] at H
  have c3b0 := decide_eq_true c3
  have c3b1 : decide (a1.size ≤ a0.size) = true := decide_eq_true (Int.ofNat_le.mp c3)
  clear c3
  obtain ⟨ji4, hji4⟩ : ∃ j_ : Int, (wrap64 ((a0.size : Int) - (a1.size : Int))) = j_ := ⟨_, rfl⟩
  replace H : (if 0 ≤ (ji4) then (if (ji4) ≤ (a0.size : Int) then (some ((a0.extract ((ji4) : Int).toNat a0.size).toList == a1.toList)) else (none)) else (none)) = some r := by first | (rw [hji4] at H; exact H) | (simp only [hji4] at H ⊢; exact H)
  have hji4w : (IntKind.i64.wrap ((a0.size : Int) - (a1.size : Int))) = ji4 := (i64_w _).trans hji4
  by_cases c5 : 0 ≤ (ji4)
  ·
   rw [if_pos c5] at H
   have c5b0 := eq_true c5
   have c5b1 := decide_eq_true c5
   clear c5
   by_cases c6 : (ji4) ≤ (a0.size : Int)
   ·
    rw [if_pos c6] at H
    have c6b0 := eq_true c6
    have c6b1 := decide_eq_true c6
    clear c6
    obtain rfl := Option.some.inj H
    go_enter Tryz.func91, Tryz.ntmps91
    go_wp2
    go_ret
    exact ⟨by first | rfl | (simp; done) | (simp only [← hji4] <;> (first | rfl | simp)) | (simp [*]; done), by repeat (first | exact Drawn0.refl _ | apply Drawn0.step)⟩
   ·
    rw [if_neg c6] at H
    exact absurd H (by simp)
  ·
   rw [if_neg c5] at H
   exact absurd H (by simp)
 ·
  rw [if_neg c3] at H
  have c3b0 := decide_eq_false c3
  have c3b1 : decide (a1.size ≤ a0.size) = false := decide_eq_false (fun h => c3 (Int.ofNat_le.mpr h))
  clear c3
  obtain rfl := Option.some.inj H
  go_enter Tryz.func91, Tryz.ntmps91
  go_wp2
  go_ret
  exact ⟨ap2, ap7⟩
def stringslite_CutSuffix.f (a0 : ByteArray) (a1 : ByteArray) : Option (ByteArray × Bool) := (stringslite_HasSuffix.f a0 a1).bind fun t434 => (if t434 = true then (if 0 ≤ (wrap64 ((a0.size : Int) - (a1.size : Int))) then (if (wrap64 ((a0.size : Int) - (a1.size : Int))) ≤ (a0.size : Int) then (some (a0.extract 0 ((wrap64 ((a0.size : Int) - (a1.size : Int))) : Int).toNat, true)) else (none)) else (none)) else (some (a0, false)))
set_option maxHeartbeats 8000000 in
set_option maxRecDepth 100000 in
theorem stringslite_CutSuffix.calls (a0 : ByteArray) (a1 : ByteArray) (r1 : ByteArray) (r2 : Bool) (w : World) (h : stringslite_CutSuffix.f a0 a1 = some (r1, r2)) :
  Calls Tryz.prog 59 #[.string a0, .string a1] w fun e w' => e = .returned (.tuple #[.string r1, .bool r2]) ∧ Drawn0 w w' := by
 have H : ((stringslite_HasSuffix.f a0 a1).bind fun t434 => (if t434 = true then (if 0 ≤ (wrap64 ((a0.size : Int) - (a1.size : Int))) then (if (wrap64 ((a0.size : Int) - (a1.size : Int))) ≤ (a0.size : Int) then (some (a0.extract 0 ((wrap64 ((a0.size : Int) - (a1.size : Int))) : Int).toNat, true)) else (none)) else (none)) else (some (a0, false)))) = some (r1, r2) := h
 clear h
 replace H := Option.bind_eq_some_iff.mp H
 obtain ⟨t434, A30, H⟩ := H
 replace H : (if t434 = true then (if 0 ≤ (wrap64 ((a0.size : Int) - (a1.size : Int))) then (if (wrap64 ((a0.size : Int) - (a1.size : Int))) ≤ (a0.size : Int) then (some (a0.extract 0 ((wrap64 ((a0.size : Int) - (a1.size : Int))) : Int).toNat, true)) else (none)) else (none)) else (some (a0, false))) = some (r1, r2) := H
 have A3 := Aside0.mk A30
 clear A30
 by_cases c4 : t434 = true
 ·
  subst c4
  rw [if_pos rfl] at H
  obtain ⟨ji5, hji5⟩ : ∃ j_ : Int, (wrap64 ((a0.size : Int) - (a1.size : Int))) = j_ := ⟨_, rfl⟩
  replace H : (if 0 ≤ (ji5) then (if (ji5) ≤ (a0.size : Int) then (some (a0.extract 0 ((ji5) : Int).toNat, true)) else (none)) else (none)) = some (r1, r2) := by first | (rw [hji5] at H; exact H) | (simp only [hji5] at H ⊢; exact H)
  (try rw [hji5] at A3)
  have hji5w : (IntKind.i64.wrap ((a0.size : Int) - (a1.size : Int))) = ji5 := (i64_w _).trans hji5
  by_cases c6 : 0 ≤ (ji5)
  ·
   rw [if_pos c6] at H
   have c6b0 := eq_true c6
   have c6b1 := decide_eq_true c6
   clear c6
   by_cases c7 : (ji5) ≤ (a0.size : Int)
   ·
    rw [if_pos c7] at H
    have c7b0 := eq_true c7
    have c7b1 := decide_eq_true c7
    clear c7
    simp only [Option.some.injEq, Prod.mk.injEq] at H
    obtain ⟨rfl, rfl⟩ := H
    go_enter Tryz.func59, Tryz.ntmps59
    go_wp2_with (first | ((with_reducible refine gate_callee (f := 91) rfl ?_); refine goesL_ (some 8) rfl rfl Tryz.func91 (by kernel_rfl) rfl #[.string a0, .string a1] rfl ap3 ?_; (with_reducible refine (stringslite_HasSuffix.calls a0 a1 true _ A3.out).mono ?_); rintro e w' ⟨rfl, ⟨nd, rfl⟩⟩; refine ⟨_, rfl, ?_⟩))
    go_ret2
    exact ⟨by first | rfl | (simp; done) | (simp only [← hji5] <;> (first | rfl | simp)) | (simp [*]; done), by repeat (first | exact Drawn0.refl _ | apply Drawn0.step)⟩
   ·
    rw [if_neg c7] at H
    exact absurd H (by simp)
  ·
   rw [if_neg c6] at H
   exact absurd H (by simp)
 ·
  replace c4 := Bool.eq_false_iff.mpr c4
  subst c4
  rw [if_neg (show ¬ (false = true) by decide)] at H
  simp only [Option.some.injEq, Prod.mk.injEq] at H
  obtain ⟨rfl, rfl⟩ := H
  go_enter Tryz.func59, Tryz.ntmps59
  go_wp2_with (first | ((with_reducible refine gate_callee (f := 91) rfl ?_); refine goesL_ (some 8) rfl rfl Tryz.func91 (by kernel_rfl) rfl #[.string a0, .string a1] rfl ap3 ?_; (with_reducible refine (stringslite_HasSuffix.calls a0 a1 false _ A3.out).mono ?_); rintro e w' ⟨rfl, ⟨nd, rfl⟩⟩; refine ⟨_, rfl, ?_⟩))
  go_ret2
  exact ⟨ap2, ap7⟩
def strings_CutSuffix.f (a0 : ByteArray) (a1 : ByteArray) : Option (ByteArray × Bool) := (stringslite_CutSuffix.f a0 a1).bind fun bt435 => (some (bt435.1, bt435.2))
set_option maxHeartbeats 8000000 in
set_option maxRecDepth 100000 in
theorem strings_CutSuffix.calls (a0 : ByteArray) (a1 : ByteArray) (r1 : ByteArray) (r2 : Bool) (w : World) (h : strings_CutSuffix.f a0 a1 = some (r1, r2)) :
  Calls Tryz.prog 35 #[.string a0, .string a1] w fun e w' => e = .returned (.tuple #[.string r1, .bool r2]) ∧ Drawn0 w w' := by
 have H : ((stringslite_CutSuffix.f a0 a1).bind fun bt435 => (some (bt435.1, bt435.2))) = some (r1, r2) := h
 clear h
 replace H := Option.bind_eq_some_iff.mp H
 obtain ⟨⟨t435, t436⟩, A30, H⟩ := H
 replace H : (some (t435, t436)) = some (r1, r2) := H
 have A3 := Aside0.mk A30
 clear A30
 simp only [Option.some.injEq, Prod.mk.injEq] at H
 obtain ⟨rfl, rfl⟩ := H
 go_enter Tryz.func35, Tryz.ntmps35
 go_wp2_with (first | ((with_reducible refine gate_callee (f := 59) rfl ?_); refine goesL_ (some 8) rfl rfl Tryz.func59 (by kernel_rfl) rfl #[.string a0, .string a1] rfl ap3 ?_; (with_reducible refine (stringslite_CutSuffix.calls a0 a1 t435 t436 _ A3.out).mono ?_); rintro e w' ⟨rfl, ⟨nd, rfl⟩⟩; refine ⟨_, rfl, ?_⟩))
 go_ret2
 exact ⟨ap2, ap7⟩
mutual
def attr_Part.j0 : Nat → ByteArray → List ByteArray → List ByteArray → Bool → ByteArray → Int → Bool → Option (Bool × Int)
 | 0, _, _, _, _, _, _, _ => none
 | k + 1, x1, x3, x13, x14, x438000, x438001, x438002 => if x14 = true then (if (x3.length : Int) > 8 then (attr_Part.j1 k x1 x13 true x438000 x438001 x438002) else ((slices_ContainsFunc_string_string.f x13).bind fun t441 => (attr_Part.j1 k x1 x13 (!t441) x438000 x438001 x438002))) else (attr_Part.j1 k x1 x13 true x438000 x438001 x438002)
def attr_Part.j1 : Nat → ByteArray → List ByteArray → Bool → ByteArray → Int → Bool → Option (Bool × Int)
 | 0, _, _, _, _, _, _ => none
 | k + 1, x1, x13, x56, x438000, x438001, x438002 => if x56 = true then (some (false, 20)) else ((attr_Normal.f k x438000 x438001 x438002 x1).bind fun bt442 => (if bt442.2 = 0 then (attr_Part.l0 k x13 bt442.1 (x13.length : Int) 0 x438000 x438001 x438002) else (some (false, bt442.2))))
def attr_Part.l0 : Nat → List ByteArray → ByteArray → Int → Int → ByteArray → Int → Bool → Option (Bool × Int)
 | 0, _, _, _, _, _, _, _ => none
 | k + 1, x13, x15, x67, x68, x438000, x438001, x438002 => if x68 < x67 then (if 0 ≤ x68 then (if x68 < (x13.length : Int) then ((attr_piece.f k x438000 x438001 x438002 (rdOf ByteArray.empty x13 x68)).bind fun bt445 => (if bt445.2 = 0 then (attr_Part.l0 k (x13.set (x68 : Int).toNat bt445.1) x15 x67 (wrap64 (x68 + 1)) x438000 x438001 x438002) else (some (false, bt445.2)))) else (none)) else (none)) else (if 0 < (x13.length : Int) then ((strings_CutPrefix.f x15 (rdOf ByteArray.empty x13 0)).bind fun bt449 => (if bt449.2 = true then (if 0 ≤ (wrap64 ((x13.length : Int) - 1)) then (if (wrap64 ((x13.length : Int) - 1)) < (x13.length : Int) then ((strings_CutSuffix.f bt449.1 (rdOf ByteArray.empty x13 (wrap64 ((x13.length : Int) - 1)))).bind fun bt452 => (if 1 ≤ (wrap64 ((x13.length : Int) - 1)) then (if (wrap64 ((x13.length : Int) - 1)) ≤ (x13.length : Int) then ((some ((x13.take ((wrap64 ((x13.length : Int) - 1)) : Int).toNat).drop 1 : List ByteArray)).bind fun y454 => (attr_Part.l1 k bt452.1 bt452.2 y454 (y454.length : Int) 0)) else (none)) else (none))) else (none)) else (none)) else (some (false, 0)))) else (none))
def attr_Part.l1 : Nat → ByteArray → Bool → List ByteArray → Int → Int → Option (Bool × Int)
 | 0, _, _, _, _, _ => none
 | k + 1, x15, x21, x112, x113, x114 => if x114 < x113 then (if 0 ≤ x114 then (if x114 < (x112.length : Int) then (if x21 = true then ((strings_Cut.f x15 (rdOf ByteArray.empty x112 x114)).bind fun bt459 => (attr_Part.l1 k bt459.2.1 bt459.2.2 x112 x113 (wrap64 (x114 + 1)))) else (some (x21, 0))) else (none)) else (none)) else (some (x21, 0))
end
def attr_Part.f (k : Nat) (a0_0 : ByteArray) (a0_1 : Int) (a0_2 : Bool) (a1 : ByteArray) (a2 : ByteArray) (l3 : List ByteArray) (a4 : ByteArray) : Option (Bool × Int) := (slices_Concat_string_string.f a2 l3 a4).bind fun t438 => (if a0_1 = 1 then (attr_Part.j0 k a1 l3 t438 true a0_0 a0_1 a0_2) else (if a0_1 = 2 then (attr_Part.j0 k a1 l3 t438 true a0_0 a0_1 a0_2) else (attr_Part.j0 k a1 l3 t438 (a0_1 == 7) a0_0 a0_1 a0_2)))
theorem attr_Part.mono_l : ∀ k, (∀ y0 y1 y2 y3 y4 y5 y6, LeO (attr_Part.j0 k y0 y1 y2 y3 y4 y5 y6) (attr_Part.j0 (k + 1) y0 y1 y2 y3 y4 y5 y6)) ∧ (∀ y0 y1 y2 y3 y4 y5, LeO (attr_Part.j1 k y0 y1 y2 y3 y4 y5) (attr_Part.j1 (k + 1) y0 y1 y2 y3 y4 y5)) ∧ (∀ y0 y1 y2 y3 y4 y5 y6, LeO (attr_Part.l0 k y0 y1 y2 y3 y4 y5 y6) (attr_Part.l0 (k + 1) y0 y1 y2 y3 y4 y5 y6)) ∧ (∀ y0 y1 y2 y3 y4, LeO (attr_Part.l1 k y0 y1 y2 y3 y4) (attr_Part.l1 (k + 1) y0 y1 y2 y3 y4))
 | 0 => ⟨fun _ _ _ _ _ _ _ r h => by simp [attr_Part.j0] at h, fun _ _ _ _ _ _ r h => by simp [attr_Part.j1] at h, fun _ _ _ _ _ _ _ r h => by simp [attr_Part.l0] at h, fun _ _ _ _ _ r h => by simp [attr_Part.l1] at h⟩
 | k + 1 => by
  obtain ⟨ih0, ih1, ih2, ih3⟩ := attr_Part.mono_l k
  refine ⟨?_, ?_, ?_, ?_⟩
  ·
   intro y0 y1 y2 y3 y4 y5 y6
   unfold attr_Part.j0
   repeat' first
   | (with_reducible exact ih0 _ _ _ _ _ _ _)
   | (with_reducible exact ih1 _ _ _ _ _ _)
   | (with_reducible exact ih2 _ _ _ _ _ _ _)
   | (with_reducible exact ih3 _ _ _ _ _)
   | (with_reducible exact attr_Normal.mono _ _ _ _ _)
   | (with_reducible exact attr_piece.mono _ _ _ _ _)
   | (with_reducible exact LeO.refl _)
   | (with_reducible exact LeO.none _)
   | (with_reducible refine LeO.ite ?_ ?_)
   | (with_reducible refine LeO.bind ?_ (fun _ => ?_))
  ·
   intro y0 y1 y2 y3 y4 y5
   unfold attr_Part.j1
   repeat' first
   | (with_reducible exact ih0 _ _ _ _ _ _ _)
   | (with_reducible exact ih1 _ _ _ _ _ _)
   | (with_reducible exact ih2 _ _ _ _ _ _ _)
   | (with_reducible exact ih3 _ _ _ _ _)
   | (with_reducible exact attr_Normal.mono _ _ _ _ _)
   | (with_reducible exact attr_piece.mono _ _ _ _ _)
   | (with_reducible exact LeO.refl _)
   | (with_reducible exact LeO.none _)
   | (with_reducible refine LeO.ite ?_ ?_)
   | (with_reducible refine LeO.bind ?_ (fun _ => ?_))
  ·
   intro y0 y1 y2 y3 y4 y5 y6
   unfold attr_Part.l0
   repeat' first
   | (with_reducible exact ih0 _ _ _ _ _ _ _)
   | (with_reducible exact ih1 _ _ _ _ _ _)
   | (with_reducible exact ih2 _ _ _ _ _ _ _)
   | (with_reducible exact ih3 _ _ _ _ _)
   | (with_reducible exact attr_Normal.mono _ _ _ _ _)
   | (with_reducible exact attr_piece.mono _ _ _ _ _)
   | (with_reducible exact LeO.refl _)
   | (with_reducible exact LeO.none _)
   | (with_reducible refine LeO.ite ?_ ?_)
   | (with_reducible refine LeO.bind ?_ (fun _ => ?_))
  ·
   intro y0 y1 y2 y3 y4
   unfold attr_Part.l1
   repeat' first
   | (with_reducible exact ih0 _ _ _ _ _ _ _)
   | (with_reducible exact ih1 _ _ _ _ _ _)
   | (with_reducible exact ih2 _ _ _ _ _ _ _)
   | (with_reducible exact ih3 _ _ _ _ _)
   | (with_reducible exact attr_Normal.mono _ _ _ _ _)
   | (with_reducible exact attr_piece.mono _ _ _ _ _)
   | (with_reducible exact LeO.refl _)
   | (with_reducible exact LeO.none _)
   | (with_reducible refine LeO.ite ?_ ?_)
   | (with_reducible refine LeO.bind ?_ (fun _ => ?_))
theorem attr_Part.mono : ∀ a0 a1 a2 a3 a4 a5 a6 k, LeO (attr_Part.f k a0 a1 a2 a3 a4 a5 a6) (attr_Part.f (k + 1) a0 a1 a2 a3 a4 a5 a6) := by
 intro a0 a1 a2 a3 a4 a5 a6 k
 obtain ⟨ih0, ih1, ih2, ih3⟩ := attr_Part.mono_l k
 unfold attr_Part.f
 repeat' first
   | (with_reducible exact ih0 _ _ _ _ _ _ _)
   | (with_reducible exact ih1 _ _ _ _ _ _)
   | (with_reducible exact ih2 _ _ _ _ _ _ _)
   | (with_reducible exact ih3 _ _ _ _ _)
   | (with_reducible exact attr_Normal.mono _ _ _ _ _)
   | (with_reducible exact attr_piece.mono _ _ _ _ _)
   | (with_reducible exact LeO.refl _)
   | (with_reducible exact LeO.none _)
   | (with_reducible refine LeO.ite ?_ ?_)
   | (with_reducible refine LeO.bind ?_ (fun _ => ?_))
set_option maxHeartbeats 8000000 in
set_option maxRecDepth 100000 in
theorem attr_Part.calls (k : Nat) (a0_0 : ByteArray) (a0_1 : Int) (a0_2 : Bool) (a1 : ByteArray) (a2 : ByteArray) (A3 : Option Addr) (c3 : Nat) (l3 : List ByteArray) (a4 : ByteArray) (r1 : Bool) (r2 : Int) (w : World) (hr3 : Kd.C Kd.string w A3 l3.length l3) (hc3 : l3.length ≤ c3) (hG : Gw w) (h : attr_Part.f k a0_0 a0_1 a0_2 a1 a2 l3 a4 = some (r1, r2)) :
  Calls Tryz.prog 14 #[.agg #[.string a0_0, .int .i64 a0_1, .bool a0_2], .string a1, .string a2, .slice A3 l3.length c3, .string a4] w fun e w' => e = .returned (.tuple #[.bool r1, .int .i64 r2]) ∧ Below w.heap.size w w' := by
 have hu23 := Tryz.underlying23
 have HR3 := Aside0.mk hr3
 have HC3 := Aside0.mk hc3
 clear hr3 hc3
 have HB := Aside0.mk (Below.refl w.heap.size w)
 have HG := Aside0.mk hG
 clear hG
 have H : ((slices_Concat_string_string.f a2 l3 a4).bind fun t438 => (if a0_1 = 1 then (attr_Part.j0 k a1 l3 t438 true a0_0 a0_1 a0_2) else (if a0_1 = 2 then (attr_Part.j0 k a1 l3 t438 true a0_0 a0_1 a0_2) else (attr_Part.j0 k a1 l3 t438 (a0_1 == 7) a0_0 a0_1 a0_2)))) = some (r1, r2) := h
 clear h
 replace H := Option.bind_eq_some_iff.mp H
 obtain ⟨t438, A60, H⟩ := H
 replace H : (if a0_1 = 1 then (attr_Part.j0 k a1 l3 t438 true a0_0 a0_1 a0_2) else (if a0_1 = 2 then (attr_Part.j0 k a1 l3 t438 true a0_0 a0_1 a0_2) else (attr_Part.j0 k a1 l3 t438 (a0_1 == 7) a0_0 a0_1 a0_2))) = some (r1, r2) := H
 have A6 := Aside0.mk A60
 clear A60
 have HC7 := Aside0.mk H
 clear H
 go_enter Tryz.func14, Tryz.ntmps14
 go_upto_region 3 with (first | ((with_reducible refine gate_dst (N := 5) rfl ?_); (try (refine gate_guard (by rfl) ?_; dsimp only)); refine box_event ?hg (N := 5) ?hd (cs := #[.string a0_0, .int .i64 a0_1, .bool a0_2]) (t := 23) ?hr ?_; (case hd => rfl); (case hg => rfl); (case hr => first | (go_simp; done) | (go_simp; rfl)); intro gb437 hg w8 hbox hb; have n0_ := Aside0.mk (below_step ap1 hb); have n1_ := Aside0.mk (hbox); have n2_ := Aside0.mk ((by rw [hg]; exact (below_size ap1) : w.heap.size ≤ gb437)); have n3_ := Aside0.mk ((by rw [hg]; exact (below_size ap1) : w.heap.size ≤ gb437)); clear HB; have HB := n0_; have BK437 := n1_; have GW437 := n2_; have GE437 := n3_; clear n0_ n1_ n2_ n3_; clear hb hbox hg) | ((with_reducible refine gate_callee (f := 31) rfl ?_); refine goesL_ (some 30) rfl rfl Tryz.func31 (by kernel_rfl) rfl #[.slice (some ⟨w8.heap.size + 2, 0, none⟩) 3 3] rfl (by first | done | rfl | (go_simp; done) | (go_simp; rfl) | (simp only [World.size_alloc])) ?_; (with_reducible refine (slices_Concat_string_string.calls a2 _ _ l3 a4 t438 w8 ?side1 ?side2 A6.out).mono ?_); (case side1 => repeat (first | exact (Kd.C_below HR3.out HB.out) | (with_reducible refine Kd.C_alloc ?_ _) | (with_reducible refine Kd.C_drewN ?_ _) | (with_reducible refine Kd.C_drew ?_))); (case side2 => exact HC3.out); rintro e w9 ⟨v439, rfl, ho0, hb⟩; refine ⟨_, rfl, ?_⟩; have n0_ := Aside0.mk (Kd.R_lower ho0 (below_size (apG GE437.out))); have n1_ := Aside0.mk (blk_below (g := gb437) (o := .cells #[.string a0_0, .int .i64 a0_1, .bool a0_2] 23 (0, 0)) (apB BK437.out) hb); have n2_ := Aside0.mk (below_step (apG GE437.out) hb); clear BK437; clear HB; have HO440 := n0_; have BK437 := n1_; have HB := n2_; clear n0_ n1_ n2_; (try clear hb); (try clear hb2); (try clear hk); (try clear hi); (try clear ho0)))
 (try simp only [Act.put, List.setIfInBounds_toArray, List.set_cons_zero, List.set_cons_succ])
 go_cut [14] (fun v14 wc => ∃ (kq : Nat) (x14_6 : Bool), v14 = .bool x14_6 ∧ Aside0 (attr_Part.j0 kq a1 l3 t438 x14_6 a0_0 a0_1 a0_2 = some (r1, r2)) ∧ Aside0 (kq ≤ k) ∧ Aside0 (Kd.R Kd.string 9 wc w.heap.size (fun _ => True) v439 t438) ∧ Aside0 (wc.heap[gb437]? = some (.cells #[.string a0_0, .int .i64 a0_1, .bool a0_2] 23 (0, 0))) ∧ Aside0 (Below w.heap.size w wc))
 case first =>
  have H := HC7.out
  clear HC7
  by_cases c10 : a0_1 = 1
  ·
   rw [if_pos c10] at H
   have c10b0 : (a0_1 == 1) = true := beq_iff_eq.mpr c10
   have c10b1 : (a0_1 != 1) = false := bne_eq_false_iff_eq.mpr c10
   clear c10
   (first | rw [c10b0] | (simp only [i64_w, i32_w]; rw [c10b0]) | skip)
   have H' := Aside0.mk H
   clear H
   have hcz11_0 : w9.cell? ⟨gb437, 0, none⟩ = some (.string a0_0) := (blk_cell BK437.out 0).trans rfl
   have hcz11_1 : w9.cell? ⟨gb437, 1, none⟩ = some (.int .i64 a0_1) := (blk_cell BK437.out 1).trans rfl
   have hcz11_2 : w9.cell? ⟨gb437, 2, none⟩ = some (.bool a0_2) := (blk_cell BK437.out 2).trans rfl
   have hfz11_0 := blk_frozen BK437.out 0
   have hfz11_1 := blk_frozen BK437.out 1
   have hfz11_2 := blk_frozen BK437.out 2
   go_wp2
   first | go_meet | (simp only [c10b0] at *; go_meet)
   case rel => exact ⟨_, (true), ap2, H', ⟨by first | omega | exact Nat.le_refl _⟩, ⟨by (with_reducible repeat (first | apply Kd.R_alloc | apply Kd.R_drewN | apply Kd.R_drew)); exact HO440.out⟩, ⟨by (with_reducible repeat (first | refine blk_drewN ?_ _ | refine blk_drew ?_ | refine blk_alloc ?_ _)); exact BK437.out⟩, ⟨by repeat (first | (with_reducible first | exact HB.out | apply below_alloc | apply pw_below_drewN | apply below_drew1 | refine below_set ?_ GE437.out) | exact HB.out)⟩⟩
  ·
   rw [if_neg c10] at H
   have c10b0 : (a0_1 == 1) = false := beq_eq_false_iff_ne.mpr c10
   have c10b1 : (a0_1 != 1) = true := bne_iff_ne.mpr c10
   (first | rw [c10b0] | (simp only [i64_w, i32_w]; rw [c10b0]) | skip)
   by_cases c12 : a0_1 = 2
   ·
    rw [if_pos c12] at H
    have c12b0 : (a0_1 == 2) = true := beq_iff_eq.mpr c12
    have c12b1 : (a0_1 != 2) = false := bne_eq_false_iff_eq.mpr c12
    clear c12
    have H' := Aside0.mk H
    clear H
    have hcz13_0 : w9.cell? ⟨gb437, 0, none⟩ = some (.string a0_0) := (blk_cell BK437.out 0).trans rfl
    have hcz13_1 : w9.cell? ⟨gb437, 1, none⟩ = some (.int .i64 a0_1) := (blk_cell BK437.out 1).trans rfl
    have hcz13_2 : w9.cell? ⟨gb437, 2, none⟩ = some (.bool a0_2) := (blk_cell BK437.out 2).trans rfl
    have hfz13_0 := blk_frozen BK437.out 0
    have hfz13_1 := blk_frozen BK437.out 1
    have hfz13_2 := blk_frozen BK437.out 2
    go_wp2
    first | go_meet | (simp only [c12b0] at *; go_meet) | (simp only [c10b0] at *; go_meet) | (simp only [c10b0] at *; go_meet)
    case rel => exact ⟨_, (true), ap2, H', ⟨by first | omega | exact Nat.le_refl _⟩, ⟨by (with_reducible repeat (first | apply Kd.R_alloc | apply Kd.R_drewN | apply Kd.R_drew)); exact HO440.out⟩, ⟨by (with_reducible repeat (first | refine blk_drewN ?_ _ | refine blk_drew ?_ | refine blk_alloc ?_ _)); exact BK437.out⟩, ⟨by repeat (first | (with_reducible first | exact HB.out | apply below_alloc | apply pw_below_drewN | apply below_drew1 | refine below_set ?_ GE437.out) | exact HB.out)⟩⟩
   ·
    rw [if_neg c12] at H
    have c12b0 : (a0_1 == 2) = false := beq_eq_false_iff_ne.mpr c12
    have c12b1 : (a0_1 != 2) = true := bne_iff_ne.mpr c12
    have H' := Aside0.mk H
    clear H
    have hcz14_0 : w9.cell? ⟨gb437, 0, none⟩ = some (.string a0_0) := (blk_cell BK437.out 0).trans rfl
    have hcz14_1 : w9.cell? ⟨gb437, 1, none⟩ = some (.int .i64 a0_1) := (blk_cell BK437.out 1).trans rfl
    have hcz14_2 : w9.cell? ⟨gb437, 2, none⟩ = some (.bool a0_2) := (blk_cell BK437.out 2).trans rfl
    have hfz14_0 := blk_frozen BK437.out 0
    have hfz14_1 := blk_frozen BK437.out 1
    have hfz14_2 := blk_frozen BK437.out 2
    go_wp2
    first | go_meet | (simp only [c12b0] at *; go_meet) | (simp only [c12b0] at *; go_meet) | (simp only [c10b0] at *; go_meet)
    case rel => exact ⟨_, ((a0_1 == 7)), ap2, H', ⟨by first | omega | exact Nat.le_refl _⟩, ⟨by (with_reducible repeat (first | apply Kd.R_alloc | apply Kd.R_drewN | apply Kd.R_drew)); exact HO440.out⟩, ⟨by (with_reducible repeat (first | refine blk_drewN ?_ _ | refine blk_drew ?_ | refine blk_alloc ?_ _)); exact BK437.out⟩, ⟨by repeat (first | (with_reducible first | exact HB.out | apply below_alloc | apply pw_below_drewN | apply below_drew1 | refine below_set ?_ GE437.out) | exact HB.out)⟩⟩
 case rest =>
  clear HC7
  try clear c1
  try clear p2
  try clear c3
  try clear c10
  try clear c10b0
  try clear c10b1
  try clear c12
  try clear c12b0
  try clear c12b1
  try clear c14
  try clear hcz11_0
  try clear hcz11_1
  try clear hcz11_2
  try clear hcz13_0
  try clear hcz13_1
  try clear hcz13_2
  try clear hcz14_0
  try clear hcz14_1
  try clear hcz14_2
  try clear hfz11_0
  try clear hfz11_1
  try clear hfz11_2
  try clear hfz13_0
  try clear hfz13_1
  try clear hfz13_2
  try clear hfz14_0
  try clear hfz14_1
  try clear hfz14_2
  obtain ⟨kq, x14_6, rfl, HA, HJ6, HO_13, BK437, HB⟩ := hcut
  cases kq with
  | zero => exact absurd HA.out (by simp [attr_Part.j0])
  | succ kj6 =>
   have H := HA.out
   clear HA
   simp only [attr_Part.j0] at H
   have HC15 := Aside0.mk H
   clear H
   go_upto_region 4 with (fail)
   go_cut [56] (fun v56 wc => ∃ (kq : Nat) (x56_14 : Bool), v56 = .bool x56_14 ∧ Aside0 (attr_Part.j1 kq a1 t438 x56_14 a0_0 a0_1 a0_2 = some (r1, r2)) ∧ Aside0 (kq ≤ kj6) ∧ Aside0 (Kd.R Kd.string 9 wc w.heap.size (fun _ => True) v439 t438) ∧ Aside0 (wc.heap[gb437]? = some (.cells #[.string a0_0, .int .i64 a0_1, .bool a0_2] 23 (0, 0))) ∧ Aside0 (Below w.heap.size w wc))
   case first =>
    have H := HC15.out
    clear HC15
    by_cases c16 : x14_6 = true
    ·
     subst c16
     rw [if_pos rfl] at H
     by_cases c17 : (l3.length : Int) > 8
     ·
      rw [if_pos c17] at H
      have c17b0 := decide_eq_true c17
      have c17b1 : decide (8 < l3.length) = true := decide_eq_true (by omega)
      clear c17
      (first | rw [c17b0] | (simp only [i64_w, i32_w]; rw [c17b0]) | skip)
      have H' := Aside0.mk H
      clear H
      go_wp2
      first | go_meet | (simp only [c12b0] at *; go_meet) | (simp only [c12b0] at *; go_meet) | (simp only [c10b0] at *; go_meet)
      case rel => exact ⟨_, (true), ap2, H', ⟨by have := HJ6.out; first | omega | exact Nat.le_refl _⟩, ⟨by (with_reducible repeat (first | apply Kd.R_alloc | apply Kd.R_drewN | apply Kd.R_drew)); exact HO_13.out⟩, ⟨by (with_reducible repeat (first | refine blk_drewN ?_ _ | refine blk_drew ?_ | refine blk_alloc ?_ _)); exact BK437.out⟩, ⟨by repeat (first | (with_reducible first | exact HB.out | apply below_alloc | apply pw_below_drewN | apply below_drew1 | refine below_set ?_ GE437.out) | exact HB.out)⟩⟩
     ·
      rw [if_neg c17] at H
      have c17b0 := decide_eq_false c17
      have c17b1 : decide (8 < l3.length) = false := decide_eq_false (by omega)
      clear c17
      (first | rw [c17b0] | (simp only [i64_w, i32_w]; rw [c17b0]) | skip)
      replace H := Option.bind_eq_some_iff.mp H
      obtain ⟨t441, A180, H⟩ := H
      replace H : (attr_Part.j1 kj6 a1 t438 (!t441) a0_0 a0_1 a0_2) = some (r1, r2) := H
      have A18 := Aside0.mk A180
      clear A180
      have H' := Aside0.mk H
      clear H
      obtain ⟨Ao19, co19, eo19⟩ := Kd.R_slice HO_13.out
      subst eo19
      go_wp2_with (first | (go_at_call 32; (with_reducible refine (slices_ContainsFunc_string_string.calls _ _ t438 t441 _ ?side1 ?side2 A18.out).mono ?_); (case side1 => repeat (first | exact (Kd.R_reads' HO_13.out).2.2 | (with_reducible refine Kd.C_alloc ?_ _) | (with_reducible refine Kd.C_drewN ?_ _) | (with_reducible refine Kd.C_drew ?_))); (case side2 => exact (Kd.R_reads' HO_13.out).2.1); rintro e w20 ⟨rfl, hb⟩; have n0_ := Aside0.mk (Kd.R_below (apAR HO_13.out) hb); have n1_ := Aside0.mk (blk_below (g := gb437) (o := .cells #[.string a0_0, .int .i64 a0_1, .bool a0_2] 23 (0, 0)) (apB BK437.out) hb); have n2_ := Aside0.mk (below_step (apG GE437.out) hb); clear HO_13; clear BK437; clear HB; have HO_13 := n0_; have BK437 := n1_; have HB := n2_; clear n0_ n1_ n2_; (try clear hb); (try clear hb2); (try clear hk); (try clear hi)))
      first | go_meet | (simp only [c12b0] at *; go_meet) | (simp only [c12b0] at *; go_meet) | (simp only [c10b0] at *; go_meet)
      case rel => exact ⟨_, (!t441), ap2, H', ⟨by have := HJ6.out; first | omega | exact Nat.le_refl _⟩, ⟨by (with_reducible repeat (first | apply Kd.R_alloc | apply Kd.R_drewN | apply Kd.R_drew)); exact HO_13.out⟩, ⟨by (with_reducible repeat (first | refine blk_drewN ?_ _ | refine blk_drew ?_ | refine blk_alloc ?_ _)); exact BK437.out⟩, ⟨by repeat (first | (with_reducible first | exact HB.out | apply below_alloc | apply pw_below_drewN | apply below_drew1 | refine below_set ?_ GE437.out) | exact HB.out)⟩⟩
    ·
     replace c16 := Bool.eq_false_iff.mpr c16
     subst c16
     rw [if_neg (show ¬ (false = true) by decide)] at H
     have H' := Aside0.mk H
     clear H
     go_wp2
     first | go_meet | (simp only [c12b0] at *; go_meet) | (simp only [c12b0] at *; go_meet) | (simp only [c10b0] at *; go_meet)
     case rel => exact ⟨_, (true), ap2, H', ⟨by have := HJ6.out; first | omega | exact Nat.le_refl _⟩, ⟨by (with_reducible repeat (first | apply Kd.R_alloc | apply Kd.R_drewN | apply Kd.R_drew)); exact HO_13.out⟩, ⟨by (with_reducible repeat (first | refine blk_drewN ?_ _ | refine blk_drew ?_ | refine blk_alloc ?_ _)); exact BK437.out⟩, ⟨by repeat (first | (with_reducible first | exact HB.out | apply below_alloc | apply pw_below_drewN | apply below_drew1 | refine below_set ?_ GE437.out) | exact HB.out)⟩⟩
   case rest =>
    clear HC15
    try clear c1
    try clear p2
    try clear c3
    try clear c10
    try clear c10b0
    try clear c10b1
    try clear c12
    try clear c12b0
    try clear c12b1
    try clear c14
    try clear c16
    try clear c17
    try clear c17b0
    try clear c17b1
    try clear hcz11_0
    try clear hcz11_1
    try clear hcz11_2
    try clear hcz13_0
    try clear hcz13_1
    try clear hcz13_2
    try clear hcz14_0
    try clear hcz14_1
    try clear hcz14_2
    try clear hfz11_0
    try clear hfz11_1
    try clear hfz11_2
    try clear hfz13_0
    try clear hfz13_1
    try clear hfz13_2
    try clear hfz14_0
    try clear hfz14_1
    try clear hfz14_2
    try clear p2
    obtain ⟨kq, x56_14, rfl, HA, HJ14, HO_13, BK437, HB⟩ := hcut
    cases kq with
    | zero => exact absurd HA.out (by simp [attr_Part.j1])
    | succ kj14 =>
     have H := HA.out
     clear HA
     simp only [attr_Part.j1] at H
     by_cases c21 : x56_14 = true
     ·
      subst c21
      rw [if_pos rfl] at H
      simp only [Option.some.injEq, Prod.mk.injEq] at H
      obtain ⟨rfl, rfl⟩ := H
      go_wp2
      go_ret2
      exact ⟨by first | rfl | (simp [errW_none, errW_some, bne_nil8, beq_nil8]; done) | (simp [errW_none, errW_some] <;> rfl) | (simp [*, errW_none, errW_some] <;> rfl), by repeat (first | (with_reducible first | exact HB.out | apply below_alloc | apply pw_below_drewN | apply below_drew1 | refine below_set ?_ GE437.out) | exact HB.out)⟩
     ·
      replace c21 := Bool.eq_false_iff.mpr c21
      subst c21
      rw [if_neg (show ¬ (false = true) by decide)] at H
      replace H := Option.bind_eq_some_iff.mp H
      obtain ⟨⟨t442, t443⟩, A220, H⟩ := H
      replace H : (if t443 = 0 then (attr_Part.l0 kj14 t438 t442 (t438.length : Int) 0 a0_0 a0_1 a0_2) else (some (false, t443))) = some (r1, r2) := H
      have A22 := Aside0.mk A220
      clear A220
      by_cases c23 : t443 = 0
      ·
       rw [if_pos c23] at H
       have c23b0 : (t443 == 0) = true := beq_iff_eq.mpr c23
       have c23b1 : (t443 != 0) = false := bne_eq_false_iff_eq.mpr c23
       clear c23
       have H' := Aside0.mk H
       clear H
       have hcz24_0 : wc.cell? ⟨gb437, 0, none⟩ = some (.string a0_0) := (blk_cell BK437.out 0).trans rfl
       have hcz24_1 : wc.cell? ⟨gb437, 1, none⟩ = some (.int .i64 a0_1) := (blk_cell BK437.out 1).trans rfl
       have hcz24_2 : wc.cell? ⟨gb437, 2, none⟩ = some (.bool a0_2) := (blk_cell BK437.out 2).trans rfl
       have hfz24_0 := blk_frozen BK437.out 0
       have hfz24_1 := blk_frozen BK437.out 1
       have hfz24_2 := blk_frozen BK437.out 2
       go_wp2_with (first | ((with_reducible refine gate_callee (f := 19) rfl ?_); refine goesL_ (some 60) rfl rfl Tryz.func19 (by kernel_rfl) rfl #[.agg #[.string a0_0, .int .i64 a0_1, .bool a0_2], .string a1] rfl ap3 ?_; (with_reducible refine (attr_Normal.calls kj14 a0_0 a0_1 a0_2 a1 t442 t443 _ ?side1 A22.out).mono ?_); (case side1 => first | exact HG.out | (refine Gw.below HG.out ?_; repeat (first | (with_reducible first | exact HB.out | apply below_alloc | apply pw_below_drewN | apply below_drew1 | refine below_set ?_ GE437.out) | exact HB.out))); rintro e w25 ⟨rfl, hb⟩; refine ⟨_, rfl, ?_⟩; have n0_ := Aside0.mk (Kd.R_below (apAR HO_13.out) hb); have n1_ := Aside0.mk (blk_below (g := gb437) (o := .cells #[.string a0_0, .int .i64 a0_1, .bool a0_2] 23 (0, 0)) (apB BK437.out) hb); have n2_ := Aside0.mk (below_step (apG GE437.out) hb); clear HO_13; clear BK437; clear HB; have HO_13 := n0_; have BK437 := n1_; have HB := n2_; clear n0_ n1_ n2_; (try clear hb); (try clear hb2); (try clear hk); (try clear hi); obtain ⟨Ao26, co26, eo26⟩ := Kd.R_slice HO_13.out; subst eo26))
       go_loopg [68] kj14 (fun kq v68 w' => ∃ (x13_3 : List ByteArray) (x68_3 : Int), v68 = .int .i64 x68_3 ∧ Aside0 (attr_Part.l0 kq x13_3 t442 (t438.length : Int) x68_3 a0_0 a0_1 a0_2 = some (r1, r2)) ∧ Aside0 (kq ≤ kj14) ∧ Aside0 (Kd.R Kd.string 9 w' w.heap.size (fun _ => True) (.slice Ao26 t438.length co26) x13_3) ∧ Aside0 (w'.heap[gb437]? = some (.cells #[.string a0_0, .int .i64 a0_1, .bool a0_2] 23 (0, 0))) ∧ Aside0 (Below w.heap.size w w'))
       case atStart => exact ⟨(t438), (0), ap2, H', ⟨Nat.le_refl _⟩, ⟨by (with_reducible repeat (first | apply Kd.R_alloc | apply Kd.R_drewN | apply Kd.R_drew)); exact HO_13.out⟩, ⟨by (with_reducible repeat (first | refine blk_drewN ?_ _ | refine blk_drew ?_ | refine blk_alloc ?_ _)); exact BK437.out⟩, ⟨by repeat (first | (with_reducible first | exact HB.out | apply below_alloc | apply pw_below_drewN | apply below_drew1 | refine below_set ?_ GE437.out) | exact HB.out)⟩⟩
       case round =>
        clear H'
        try clear c1
        try clear c2
        try clear p2
        try clear c3
        try clear c10
        try clear c10b0
        try clear c10b1
        try clear c12
        try clear c12b0
        try clear c12b1
        try clear c14
        try clear c16
        try clear c17
        try clear c17b0
        try clear c17b1
        try clear c19
        try clear c21
        try clear c23
        try clear c23b0
        try clear c23b1
        try clear hcz11_0
        try clear hcz11_1
        try clear hcz11_2
        try clear hcz13_0
        try clear hcz13_1
        try clear hcz13_2
        try clear hcz14_0
        try clear hcz14_1
        try clear hcz14_2
        try clear hcz24_0
        try clear hcz24_1
        try clear hcz24_2
        try clear hfz11_0
        try clear hfz11_1
        try clear hfz11_2
        try clear hfz13_0
        try clear hfz13_1
        try clear hfz13_2
        try clear hfz14_0
        try clear hfz14_1
        try clear hfz14_2
        try clear hfz24_0
        try clear hfz24_1
        try clear hfz24_2
        try clear p2
        obtain ⟨x13_3, x68_3, rfl, HA, HK3, HO_13, BK437, HB⟩ := hrel
        have hl13_3 := (Kd.R_reads' HO_13.out).1
        rw [hl13_3] at HO_13
        (try simp only [hl13_3])
        (try simp only [hl13_3] at BK437)
        cases gk with
        | zero => exact absurd HA.out (by simp [attr_Part.l0])
        | succ k3 =>
         have H := HA.out
         clear HA
         simp only [attr_Part.l0] at H
         by_cases c27 : x68_3 < (t438.length : Int)
         ·
          rw [if_pos c27] at H
          have c27b0 := decide_eq_true c27
          clear c27
          by_cases c28 : 0 ≤ x68_3
          ·
           rw [if_pos c28] at H
           have c28b0 := decide_eq_true c28
           clear c28
           by_cases c29 : x68_3 < (x13_3.length : Int)
           ·
            rw [if_pos c29] at H
            have c29b0 := decide_eq_true c29
            clear c29
            replace H := Option.bind_eq_some_iff.mp H
            obtain ⟨⟨t445, t446⟩, A300, H⟩ := H
            replace H : (if t446 = 0 then (attr_Part.l0 k3 (x13_3.set (x68_3 : Int).toNat t445) t442 (t438.length : Int) (wrap64 (x68_3 + 1)) a0_0 a0_1 a0_2) else (some (false, t446))) = some (r1, r2) := H
            have A30 := Aside0.mk A300
            clear A300
            by_cases c31 : t446 = 0
            ·
             rw [if_pos c31] at H
             have c31b0 : (t446 == 0) = true := beq_iff_eq.mpr c31
             have c31b1 : (t446 != 0) = false := bne_eq_false_iff_eq.mpr c31
             clear c31
             obtain ⟨y447, hy447⟩ : ∃ y_ : List ByteArray, y_ = (x13_3.set (x68_3 : Int).toNat t445) := ⟨_, rfl⟩
             replace H : (attr_Part.l0 k3 y447 t442 (t438.length : Int) (wrap64 (x68_3 + 1)) a0_0 a0_1 a0_2) = some (r1, r2) := by first | (rw [hy447]; with_reducible exact H) | (have H2_ := (Option.bind_some _ _).symm.trans H; rw [hy447]; with_reducible exact H2_) | (have H2_ := (Option.bind_some _ _).symm.trans H; with_reducible exact H2_) | with_reducible exact H | (rw [hy447]; exact H) | exact H
             have Ny447 := Aside0.mk hy447
             clear hy447
             have H' := Aside0.mk H
             clear H
             have p444 : 0 ≤ (x68_3 : Int) := of_decide_eq_true ap0
             have q444 : x68_3 < (x13_3.length : Int) := of_decide_eq_true ap0
             obtain ⟨ad444, e444, hx444_0⟩ := Kd.at_string (Kd.R_reads' HO_13.out).2.2 x68_3 p444 q444
             cases e444
             replace p444 := eq_true p444
             replace q444 := eq_true q444
             have hcz33_0 : wr.cell? ⟨gb437, 0, none⟩ = some (.string a0_0) := (blk_cell BK437.out 0).trans rfl
             have hcz33_1 : wr.cell? ⟨gb437, 1, none⟩ = some (.int .i64 a0_1) := (blk_cell BK437.out 1).trans rfl
             have hcz33_2 : wr.cell? ⟨gb437, 2, none⟩ = some (.bool a0_2) := (blk_cell BK437.out 2).trans rfl
             have hfz33_0 := blk_frozen BK437.out 0
             have hfz33_1 := blk_frozen BK437.out 1
             have hfz33_2 := blk_frozen BK437.out 2
             go_wp2_with (first | ((with_reducible refine gate_callee (f := 33) rfl ?_); refine goesL_ (some 76) rfl rfl Tryz.func33 (by kernel_rfl) rfl #[.agg #[.string a0_0, .int .i64 a0_1, .bool a0_2], .string (rdOf ByteArray.empty x13_3 x68_3)] rfl ap3 ?_; (with_reducible refine (attr_piece.calls k3 a0_0 a0_1 a0_2 (rdOf ByteArray.empty x13_3 x68_3) t445 t446 _ ?side1 A30.out).mono ?_); (case side1 => first | exact HG.out | (refine Gw.below HG.out ?_; repeat (first | (with_reducible first | exact HB.out | apply below_alloc | apply pw_below_drewN | apply below_drew1 | refine below_set ?_ GE437.out) | exact HB.out))); rintro e w34 ⟨rfl, hb⟩; refine ⟨_, rfl, ?_⟩; have n0_ := Aside0.mk (Kd.R_below (apAR HO_13.out) hb); have n1_ := Aside0.mk (blk_below (g := gb437) (o := .cells #[.string a0_0, .int .i64 a0_1, .bool a0_2] 23 (0, 0)) (apB BK437.out) hb); have n2_ := Aside0.mk (below_step (apG GE437.out) hb); clear HO_13; clear BK437; clear HB; have HO_13 := n0_; have BK437 := n1_; have HB := n2_; clear n0_ n1_ n2_; (try clear hb); (try clear hb2); (try clear hk); (try clear hi); have p32 : 0 ≤ (x68_3 : Int) := of_decide_eq_true ap0; have q32 : (x68_3 : Int) < ((x13_3.length : Int) : Int) := of_decide_eq_true ap0; obtain ⟨go32, co32, eo32, gb32, gl32, cl32, HG32⟩ := Kd.R_form HO_13.out (by omega); (first | cases eo32 | (injection eo32 with ea_ en_ ec_; (first | subst ea_ | (injection ea_ with ea_; subst ea_)); subst ec_; clear en_)); have GB32 := Aside0.mk gb32; have GG32 := Aside0.mk HG32; clear gb32 gl32 HG32; (first | simp only [add_plain] at hx444_0 | skip); obtain ⟨hx32_0, hf32_0⟩ := Kd.R_celln (⟨#[]⟩ : ByteArray) HO_13.out (x68_3 : Int) p32 q32; replace p32 := eq_true p32; replace q32 := eq_true q32; obtain ⟨hy35_, hz35_⟩ := Kd.R_celln (⟨#[]⟩ : ByteArray) HO_13.out (x68_3 : Int) (of_decide_eq_true ap0) (of_decide_eq_true ap0); have HP35 := Kd.R_putg HO_13.out (x68_3 : Int) t445) | ((with_reducible refine gate_store (t := 9) (p := 85) rfl ?_); refine store_event (t := 9) (p := 85) (v := ?vo_w36) (w1 := (w34.setCell ⟨go32, (x68_3 : Int).toNat, none⟩ (.string t445))) ?hg ?ho ?hn ?hr ?_; (case ho => rfl); (case hg => rfl); (case hn => rfl); (case hr => first | (go_simp; done) | (go_simp; rfl)); intro w36 hw; have hg : w34.grownBy w36 (some go32) := (by rw [hw]; exact HP35.2); have hp_ : Kd.R Kd.string 9 w36 w.heap.size (fun _ => True) (.slice (some ⟨go32, 0, none⟩) x13_3.length co26) y447 := (by rw [hw, Ny447.out]; exact HP35.1); clear HP35; have n0_ := Aside0.mk (hp_); have n1_ := Aside0.mk (blk_grown (g := gb437) (o := .cells #[.string a0_0, .int .i64 a0_1, .bool a0_2] 23 (0, 0)) (apB BK437.out) hg (Kd.R_ne HO_13.out BK437.out (by decide))); have n2_ := Aside0.mk ((by rw [hw]; exact below_set (HB.out) GB32.out : Below w.heap.size w w36)); clear HO_13; clear BK437; clear HB; have HO_13 := n0_; have BK437 := n1_; have HB := n2_; clear n0_ n1_ n2_; clear hg hw hp_))
             (try simp only [← hl13_3])
             go_roundg k3
             case measure => have := HJ6.out; have := HJ14.out; have := HK3.out; omega
             case rel => exact ⟨(y447), (wrap64 (x68_3 + 1)), ap2, H', ⟨by have := HJ6.out; have := HJ14.out; have := HK3.out; omega⟩, ⟨by (try simp only [hl13_3]); (with_reducible repeat (first | apply Kd.R_alloc | apply Kd.R_drewN | apply Kd.R_drew)); exact HO_13.out⟩, ⟨by (try simp only [hl13_3]); (with_reducible repeat (first | refine blk_drewN ?_ _ | refine blk_drew ?_ | refine blk_alloc ?_ _)); exact BK437.out⟩, ⟨by repeat (first | (with_reducible first | exact HB.out | apply below_alloc | apply pw_below_drewN | apply below_drew1 | refine below_set ?_ GE437.out) | exact HB.out)⟩⟩
            ·
             rw [if_neg c31] at H
             have c31b0 : (t446 == 0) = false := beq_eq_false_iff_ne.mpr c31
             have c31b1 : (t446 != 0) = true := bne_iff_ne.mpr c31
             simp only [Option.some.injEq, Prod.mk.injEq] at H
             obtain ⟨rfl, rfl⟩ := H
             have p444 : 0 ≤ (x68_3 : Int) := of_decide_eq_true ap0
             have q444 : x68_3 < (x13_3.length : Int) := of_decide_eq_true ap0
             obtain ⟨ad444, e444, hx444_0⟩ := Kd.at_string (Kd.R_reads' HO_13.out).2.2 x68_3 p444 q444
             cases e444
             replace p444 := eq_true p444
             replace q444 := eq_true q444
             have hcz37_0 : wr.cell? ⟨gb437, 0, none⟩ = some (.string a0_0) := (blk_cell BK437.out 0).trans rfl
             have hcz37_1 : wr.cell? ⟨gb437, 1, none⟩ = some (.int .i64 a0_1) := (blk_cell BK437.out 1).trans rfl
             have hcz37_2 : wr.cell? ⟨gb437, 2, none⟩ = some (.bool a0_2) := (blk_cell BK437.out 2).trans rfl
             have hfz37_0 := blk_frozen BK437.out 0
             have hfz37_1 := blk_frozen BK437.out 1
             have hfz37_2 := blk_frozen BK437.out 2
             go_wp2_with (first | ((with_reducible refine gate_callee (f := 33) rfl ?_); refine goesL_ (some 76) rfl rfl Tryz.func33 (by kernel_rfl) rfl #[.agg #[.string a0_0, .int .i64 a0_1, .bool a0_2], .string (rdOf ByteArray.empty x13_3 x68_3)] rfl ap3 ?_; (with_reducible refine (attr_piece.calls k3 a0_0 a0_1 a0_2 (rdOf ByteArray.empty x13_3 x68_3) t445 t446 _ ?side1 A30.out).mono ?_); (case side1 => first | exact HG.out | (refine Gw.below HG.out ?_; repeat (first | (with_reducible first | exact HB.out | apply below_alloc | apply pw_below_drewN | apply below_drew1 | refine below_set ?_ GE437.out) | exact HB.out))); rintro e w38 ⟨rfl, hb⟩; refine ⟨_, rfl, ?_⟩; have n0_ := Aside0.mk (Kd.R_below (apAR HO_13.out) hb); have n1_ := Aside0.mk (blk_below (g := gb437) (o := .cells #[.string a0_0, .int .i64 a0_1, .bool a0_2] 23 (0, 0)) (apB BK437.out) hb); have n2_ := Aside0.mk (below_step (apG GE437.out) hb); clear HO_13; clear BK437; clear HB; have HO_13 := n0_; have BK437 := n1_; have HB := n2_; clear n0_ n1_ n2_; (try clear hb); (try clear hb2); (try clear hk); (try clear hi)))
             go_ret2
             exact ⟨by first | rfl | (simp [errW_none, errW_some, bne_nil8, beq_nil8]; done) | (simp [errW_none, errW_some] <;> rfl) | (simp [*, errW_none, errW_some] <;> rfl), by repeat (first | (with_reducible first | exact HB.out | apply below_alloc | apply pw_below_drewN | apply below_drew1 | refine below_set ?_ GE437.out) | exact HB.out)⟩
           ·
            rw [if_neg c29] at H
            exact absurd H (by simp)
          ·
           rw [if_neg c28] at H
           exact absurd H (by simp)
         ·
          rw [if_neg c27] at H
          have c27b0 := decide_eq_false c27
          have c27b9 : decide (x68_3 < (x13_3.length : Int)) = false := by rw [← hl13_3]; exact c27b0
          have c27b9 : decide (x68_3 < (x13_3.length : Int)) = false := by rw [← hl13_3]; exact c27b0
          have c27b9 : decide (x68_3 < (x13_3.length : Int)) = false := by rw [← hl13_3]; exact c27b0
          clear c27
          by_cases c39 : 0 < (x13_3.length : Int)
          ·
           rw [if_pos c39] at H
           have c39b0 := decide_eq_true c39
           have c39b1 : decide (0 < x13_3.length) = true := decide_eq_true (by omega)
           clear c39
           replace H := Option.bind_eq_some_iff.mp H
           obtain ⟨⟨t449, t450⟩, A400, H⟩ := H
           replace H : (if t450 = true then (if 0 ≤ (wrap64 ((x13_3.length : Int) - 1)) then (if (wrap64 ((x13_3.length : Int) - 1)) < (x13_3.length : Int) then ((strings_CutSuffix.f t449 (rdOf ByteArray.empty x13_3 (wrap64 ((x13_3.length : Int) - 1)))).bind fun bt452 => (if 1 ≤ (wrap64 ((x13_3.length : Int) - 1)) then (if (wrap64 ((x13_3.length : Int) - 1)) ≤ (x13_3.length : Int) then ((some ((x13_3.take ((wrap64 ((x13_3.length : Int) - 1)) : Int).toNat).drop 1 : List ByteArray)).bind fun y454 => (attr_Part.l1 k3 bt452.1 bt452.2 y454 (y454.length : Int) 0)) else (none)) else (none))) else (none)) else (none)) else (some (false, 0))) = some (r1, r2) := H
           have A40 := Aside0.mk A400
           clear A400
           by_cases c41 : t450 = true
           ·
            subst c41
            rw [if_pos rfl] at H
            obtain ⟨ji42, hji42⟩ : ∃ j_ : Int, (wrap64 ((x13_3.length : Int) - 1)) = j_ := ⟨_, rfl⟩
            replace H : (if 0 ≤ (ji42) then (if (ji42) < (x13_3.length : Int) then ((strings_CutSuffix.f t449 (rdOf ByteArray.empty x13_3 (ji42))).bind fun bt452 => (if 1 ≤ (ji42) then (if (ji42) ≤ (x13_3.length : Int) then ((some ((x13_3.take ((ji42) : Int).toNat).drop 1 : List ByteArray)).bind fun y454 => (attr_Part.l1 k3 bt452.1 bt452.2 y454 (y454.length : Int) 0)) else (none)) else (none))) else (none)) else (none)) = some (r1, r2) := by first | (rw [hji42] at H; exact H) | (simp only [hji42] at H ⊢; exact H)
            (try rw [hji42] at A40)
            have hji42w : (IntKind.i64.wrap ((x13_3.length : Int) - 1)) = ji42 := (i64_w _).trans hji42
            by_cases c43 : 0 ≤ (ji42)
            ·
             rw [if_pos c43] at H
             have c43b0 := decide_eq_true c43
             clear c43
             by_cases c44 : (ji42) < (x13_3.length : Int)
             ·
              rw [if_pos c44] at H
              have c44b0 := decide_eq_true c44
              clear c44
              replace H := Option.bind_eq_some_iff.mp H
              obtain ⟨⟨t452, t453⟩, A450, H⟩ := H
              replace H : (if 1 ≤ (ji42) then (if (ji42) ≤ (x13_3.length : Int) then ((some ((x13_3.take ((ji42) : Int).toNat).drop 1 : List ByteArray)).bind fun y454 => (attr_Part.l1 k3 t452 t453 y454 (y454.length : Int) 0)) else (none)) else (none)) = some (r1, r2) := H
              have A45 := Aside0.mk A450
              clear A450
              by_cases c46 : 1 ≤ (ji42)
              ·
               rw [if_pos c46] at H
               have c46b0 := eq_true c46
               have c46b1 := decide_eq_true c46
               clear c46
               by_cases c47 : (ji42) ≤ (x13_3.length : Int)
               ·
                rw [if_pos c47] at H
                have c47b0 := eq_true c47
                have c47b1 := decide_eq_true c47
                clear c47
                obtain ⟨y454, hy454⟩ : ∃ y_ : List ByteArray, y_ = ((x13_3.take ((ji42) : Int).toNat).drop 1) := ⟨_, rfl⟩
                replace H : (attr_Part.l1 k3 t452 t453 y454 (y454.length : Int) 0) = some (r1, r2) := by first | (rw [hy454]; with_reducible exact H) | (have H2_ := (Option.bind_some _ _).symm.trans H; rw [hy454]; with_reducible exact H2_) | (have H2_ := (Option.bind_some _ _).symm.trans H; with_reducible exact H2_) | with_reducible exact H | (rw [hy454]; exact H) | exact H
                have Ny454 := Aside0.mk hy454
                clear hy454
                have H' := Aside0.mk H
                clear H
                have p448 : 0 ≤ (0 : Int) := (by omega)
                have q448 : 0 < (x13_3.length : Int) := of_decide_eq_true ap0
                obtain ⟨ad448, e448, hx448_0⟩ := Kd.at_string (Kd.R_reads' HO_13.out).2.2 0 p448 q448
                cases e448
                have qi448 : (0 < x13_3.length) = True := eq_true (by omega)
                (try rw [show ((0 : Int)).toNat = 0 from rfl] at hx448_0)
                (try rw [Addr.add_zero'] at hx448_0)
                replace p448 := eq_true p448
                replace q448 := eq_true q448
                go_wp2_with (first | ((with_reducible refine gate_callee (f := 34) rfl ?_); refine goesL_ (some 92) rfl rfl Tryz.func34 (by kernel_rfl) rfl #[.string t442, .string (rdOf ByteArray.empty x13_3 0)] rfl ap3 ?_; (with_reducible refine (strings_CutPrefix.calls t442 (rdOf ByteArray.empty x13_3 0) t449 true _ A40.out).mono ?_); rintro e w' ⟨rfl, ⟨nd, rfl⟩⟩; refine ⟨_, rfl, ?_⟩; have p451 : 0 ≤ ((ji42) : Int) := of_decide_eq_true ap0; have q451 : (ji42) < (x13_3.length : Int) := of_decide_eq_true ap0; obtain ⟨ad451, e451, hx451_0⟩ := Kd.at_string (Kd.R_reads' HO_13.out).2.2 (ji42) p451 q451; obtain rfl : ad448 = ad451 := (by injection e451); replace p451 := eq_true p451; replace q451 := eq_true q451) | ((with_reducible refine gate_callee (f := 35) rfl ?_); refine goesL_ (some 105) rfl rfl Tryz.func35 (by kernel_rfl) rfl #[.string t449, .string (rdOf ByteArray.empty x13_3 (ji42))] rfl (by (try simp only [List.map_toArray, List.map_cons, List.map_nil]); first | done | (simp only [hji42]; rfl) | rfl | (simp only [List.length_drop, List.length_take]; rfl)) ?_; (with_reducible refine (strings_CutSuffix.calls t449 (rdOf ByteArray.empty x13_3 (ji42)) t452 t453 _ A45.out).mono ?_); rintro e w' ⟨rfl, ⟨nd, rfl⟩⟩; refine ⟨_, rfl, ?_⟩; have q48 : ((ji42) : Int) ≤ ((x13_3.length : Int) : Int) := of_decide_eq_true ap0; obtain ⟨i048, hi048, _, hsz48, _⟩ := info_parts info9; have hroom48 : x13_3.length ≤ co26 := (Kd.R_reads' HO_13.out).2.1; have hC48 : Kd.C Kd.string _ (some ad448) x13_3.length x13_3 := (Kd.R_reads' HO_13.out).2.2; have ql48 : (1 : Int) ≤ ((ji42) : Int) := of_decide_eq_true ap0; have hcut48 := cut_mid (P := Tryz.prog) 31 9 .i64 .i64 Tryz.underlying31 hi048 1 hsz48 (some ad448) x13_3.length co26 1 (ji42) (by omega) ql48 q48 hroom48; have hr48 := Kd.C_mid (lo := (1 : Int).toNat) (hi := ((ji42) : Int).toNat) (c := co26) hC48 (by omega) (by omega) hroom48; obtain ⟨A48, hA48⟩ : ∃ A1, A1 = (if co26 = (1 : Int).toNat then (some ad448) else ((some ad448) : Option Addr).map (·.add ((1 : Int).toNat * 1))) := ⟨_, rfl⟩; obtain ⟨c48, hc48⟩ : ∃ c1, c1 = co26 - (1 : Int).toNat := ⟨_, rfl⟩; have hy48 : y454.length = ((ji42) : Int).toNat - (1 : Int).toNat := (by rw [Ny454.out, List.length_drop, List.length_take] <;> omega); rw [show ((x13_3).take ((ji42) : Int).toNat).drop (1 : Int).toNat = y454 from Ny454.out.symm] at hr48; replace hr48 : Kd.C Kd.string _ A48 y454.length y454 := (by rw [hA48]; exact hr48); rw [← hy48, ← hA48, ← hc48] at hcut48; have HR457 := Aside0.mk hr48; have HC457 := Aside0.mk (show y454.length ≤ c48 from by rw [hy48, hc48]; exact Nat.sub_le_sub_right (Nat.le_trans (by omega) hroom48) _); clear hr48 hC48 hroom48 hi048 hsz48 hc48; have KY48 := Aside0.mk hy48; have KA48 := Aside0.mk hA48; clear hy48 hA48; have KL48 := Aside0.mk (show ((ji42) : Int).toNat ≤ x13_3.length from by omega); have KM48 := Aside0.mk (show 1 ≤ ((ji42) : Int).toNat from by omega); replace q48 := eq_true q48))
                go_loopg [15, 21, 114] k3 (fun kq v15 v21 v114 w' => ∃ (x15_4 : ByteArray) (x21_4 : Bool) (x114_4 : Int), v15 = .string x15_4 ∧ v21 = .bool x21_4 ∧ v114 = .int .i64 x114_4 ∧ Aside0 (attr_Part.l1 kq x15_4 x21_4 y454 (y454.length : Int) x114_4 = some (r1, r2)) ∧ Aside0 (kq ≤ k3) ∧ Aside0 (w'.heap[gb437]? = some (.cells #[.string a0_0, .int .i64 a0_1, .bool a0_2] 23 (0, 0))) ∧ Aside0 (Kd.C Kd.string w' A48 y454.length y454) ∧ Aside0 (Below w.heap.size w w'))
                case atStart => exact ⟨(t452), (t453), (0), ap2, ap2, ap2, H', ⟨Nat.le_refl _⟩, ⟨by (try simp only [hl13_3]); (with_reducible repeat (first | refine blk_drewN ?_ _ | refine blk_drew ?_ | refine blk_alloc ?_ _)); exact BK437.out⟩, ⟨by repeat (first | (with_reducible exact HR457.out) | (with_reducible refine Kd.C_alloc ?_ _) | (with_reducible refine Kd.C_drewN ?_ _) | (with_reducible refine Kd.C_drew ?_) | exact HR457.out)⟩, ⟨by repeat (first | (with_reducible first | exact HB.out | apply below_alloc | apply pw_below_drewN | apply below_drew1 | refine below_set ?_ GE437.out) | exact HB.out)⟩⟩
                case round =>
                 clear H'
                 try clear c1
                 try clear c2
                 try clear p2
                 try clear c3
                 try clear p3
                 try clear q3
                 try clear hx3
                 try clear c4
                 try clear p4
                 try clear q4
                 try clear hx4
                 try clear qi4
                 try clear p6
                 try clear c10
                 try clear c10b0
                 try clear c10b1
                 try clear c12
                 try clear c12b0
                 try clear c12b1
                 try clear c14
                 try clear c16
                 try clear c17
                 try clear c17b0
                 try clear c17b1
                 try clear c19
                 try clear c21
                 try clear c23
                 try clear c23b0
                 try clear c23b1
                 try clear c27
                 try clear c27b0
                 try clear c28
                 try clear c28b0
                 try clear c29
                 try clear c29b0
                 try clear c31
                 try clear c31b0
                 try clear c31b1
                 try clear p32
                 try clear q32
                 try clear hx32
                 try clear hf32
                 try clear c33
                 try clear c34
                 try clear c35
                 try clear c39
                 try clear c39b0
                 try clear c39b1
                 try clear c41
                 try clear c43
                 try clear c43b0
                 try clear c44
                 try clear c44b0
                 try clear p44
                 try clear q44
                 try clear hx44
                 try clear qi44
                 try clear p45
                 try clear q45
                 try clear hx45
                 try clear c46
                 try clear c46b0
                 try clear c46b1
                 try clear c47
                 try clear c47b0
                 try clear c47b1
                 try clear c48
                 try clear q48
                 try clear hcz11_0
                 try clear hcz11_1
                 try clear hcz11_2
                 try clear hcz13_0
                 try clear hcz13_1
                 try clear hcz13_2
                 try clear hcz14_0
                 try clear hcz14_1
                 try clear hcz14_2
                 try clear hcz24_0
                 try clear hcz24_1
                 try clear hcz24_2
                 try clear hcz33_0
                 try clear hcz33_1
                 try clear hcz33_2
                 try clear hcz37_0
                 try clear hcz37_1
                 try clear hcz37_2
                 try clear hfz11_0
                 try clear hfz11_1
                 try clear hfz11_2
                 try clear hfz13_0
                 try clear hfz13_1
                 try clear hfz13_2
                 try clear hfz14_0
                 try clear hfz14_1
                 try clear hfz14_2
                 try clear hfz24_0
                 try clear hfz24_1
                 try clear hfz24_2
                 try clear hfz33_0
                 try clear hfz33_1
                 try clear hfz33_2
                 try clear hfz37_0
                 try clear hfz37_1
                 try clear hfz37_2
                 try clear hx32_0
                 try clear hx444_0
                 try clear hx448_0
                 try clear hx451_0
                 try clear p2
                 try clear p32
                 try clear p444
                 try clear p448
                 try clear p451
                 try clear q32
                 try clear q444
                 try clear q448
                 try clear q451
                 try clear q48
                 obtain ⟨x15_4, x21_4, x114_4, rfl, rfl, rfl, HA, HK4, BK437, HR457, HB⟩ := hrel
                 cases gk with
                 | zero => exact absurd HA.out (by simp [attr_Part.l1])
                 | succ k4 =>
                  have H := HA.out
                  clear HA
                  simp only [attr_Part.l1] at H
                  by_cases c49 : x114_4 < (y454.length : Int)
                  ·
                   rw [if_pos c49] at H
                   have c49b0 := decide_eq_true c49
                   clear c49
                   by_cases c50 : 0 ≤ x114_4
                   ·
                    rw [if_pos c50] at H
                    have c50b0 := decide_eq_true c50
                    clear c50
                    by_cases c51 : x114_4 < (y454.length : Int)
                    ·
                     rw [if_pos c51] at H
                     have c51b0 := decide_eq_true c51
                     clear c51
                     by_cases c52 : x21_4 = true
                     ·
                      subst c52
                      rw [if_pos rfl] at H
                      replace H := Option.bind_eq_some_iff.mp H
                      obtain ⟨⟨t459, t460, t461⟩, A530, H⟩ := H
                      replace H : (attr_Part.l1 k4 t460 t461 y454 (y454.length : Int) (wrap64 (x114_4 + 1))) = some (r1, r2) := H
                      have A53 := Aside0.mk A530
                      clear A530
                      have H' := Aside0.mk H
                      clear H
                      have p458 : 0 ≤ (x114_4 : Int) := of_decide_eq_true ap0
                      have q458 : x114_4 < (y454.length : Int) := of_decide_eq_true ap0
                      obtain ⟨ad458, e458, hx458_0⟩ := Kd.at_string HR457.out x114_4 p458 q458
                      cases e458
                      try replace hx458_0 := (HB.out.cell (World.block_lt_of_cell? w _ hx458_0)).trans hx458_0
                      replace p458 := eq_true p458
                      replace q458 := eq_true q458
                      go_wp2_with (first | ((with_reducible refine gate_callee (f := 36) rfl ?_); refine goesL_ (some 123) rfl rfl Tryz.func36 (by kernel_rfl) rfl #[.string x15_4, .string (rdOf ByteArray.empty y454 x114_4)] rfl ap3 ?_; (with_reducible refine (strings_Cut.calls x15_4 (rdOf ByteArray.empty y454 x114_4) t459 t460 t461 _ ?side1 A53.out).mono ?_); (case side1 => first | exact HG.out | (refine Gw.below HG.out ?_; repeat (first | (with_reducible first | exact HB.out | apply below_alloc | apply pw_below_drewN | apply below_drew1 | refine below_set ?_ GE437.out) | exact HB.out))); rintro e w54 ⟨rfl, hb⟩; refine ⟨_, rfl, ?_⟩; have n0_ := Aside0.mk (blk_below (g := gb437) (o := .cells #[.string a0_0, .int .i64 a0_1, .bool a0_2] 23 (0, 0)) (apB BK437.out) hb); have n1_ := Aside0.mk (Kd.C_below (apC HR457.out) hb); have n2_ := Aside0.mk (below_step (apG GE437.out) hb); clear BK437; clear HR457; clear HB; have BK437 := n0_; have HR457 := n1_; have HB := n2_; clear n0_ n1_ n2_; (try clear hb); (try clear hb2); (try clear hk); (try clear hi)))
                      go_roundg k4
                      case measure => have := HJ6.out; have := HJ14.out; have := HK3.out; have := HK4.out; omega
                      case rel => exact ⟨(t460), (t461), (wrap64 (x114_4 + 1)), ap2, ap2, ap2, H', ⟨by have := HJ6.out; have := HJ14.out; have := HK3.out; have := HK4.out; omega⟩, ⟨by (try simp only [hl13_3]); (with_reducible repeat (first | refine blk_drewN ?_ _ | refine blk_drew ?_ | refine blk_alloc ?_ _)); exact BK437.out⟩, ⟨by repeat (first | (with_reducible exact HR457.out) | (with_reducible refine Kd.C_alloc ?_ _) | (with_reducible refine Kd.C_drewN ?_ _) | (with_reducible refine Kd.C_drew ?_) | exact HR457.out)⟩, ⟨by repeat (first | (with_reducible first | exact HB.out | apply below_alloc | apply pw_below_drewN | apply below_drew1 | refine below_set ?_ GE437.out) | exact HB.out)⟩⟩
                     ·
                      replace c52 := Bool.eq_false_iff.mpr c52
                      subst c52
                      rw [if_neg (show ¬ (false = true) by decide)] at H
                      simp only [Option.some.injEq, Prod.mk.injEq] at H
                      obtain ⟨rfl, rfl⟩ := H
                      have p458 : 0 ≤ (x114_4 : Int) := of_decide_eq_true ap0
                      have q458 : x114_4 < (y454.length : Int) := of_decide_eq_true ap0
                      obtain ⟨ad458, e458, hx458_0⟩ := Kd.at_string HR457.out x114_4 p458 q458
                      cases e458
                      try replace hx458_0 := (HB.out.cell (World.block_lt_of_cell? w _ hx458_0)).trans hx458_0
                      replace p458 := eq_true p458
                      replace q458 := eq_true q458
                      go_wp2
                      go_ret2
                      exact ⟨by first | rfl | (simp [errW_none, errW_some, bne_nil8, beq_nil8]; done) | (simp [errW_none, errW_some] <;> rfl) | (simp only [← hji42]; first | rfl | (simp [errW_none, errW_some] <;> rfl)) | (simp [*, errW_none, errW_some] <;> rfl), by repeat (first | (with_reducible first | exact HB.out | apply below_alloc | apply pw_below_drewN | apply below_drew1 | refine below_set ?_ GE437.out) | exact HB.out)⟩
                    ·
                     rw [if_neg c51] at H
                     exact absurd H (by simp)
                   ·
                    rw [if_neg c50] at H
                    exact absurd H (by simp)
                  ·
                   rw [if_neg c49] at H
                   have c49b0 := decide_eq_false c49
                   clear c49
                   simp only [Option.some.injEq, Prod.mk.injEq] at H
                   obtain ⟨rfl, rfl⟩ := H
                   go_wp2
                   go_ret2
                   exact ⟨by first | rfl | (simp [errW_none, errW_some, bne_nil8, beq_nil8]; done) | (simp [errW_none, errW_some] <;> rfl) | (simp only [← hji42]; first | rfl | (simp [errW_none, errW_some] <;> rfl)) | (simp [*, errW_none, errW_some] <;> rfl), by repeat (first | (with_reducible first | exact HB.out | apply below_alloc | apply pw_below_drewN | apply below_drew1 | refine below_set ?_ GE437.out) | exact HB.out)⟩
               ·
                rw [if_neg c47] at H
                exact absurd H (by simp)
              ·
               rw [if_neg c46] at H
               exact absurd H (by simp)
             ·
              rw [if_neg c44] at H
              exact absurd H (by simp)
            ·
             rw [if_neg c43] at H
             exact absurd H (by simp)
           ·
            replace c41 := Bool.eq_false_iff.mpr c41
            subst c41
            rw [if_neg (show ¬ (false = true) by decide)] at H
            simp only [Option.some.injEq, Prod.mk.injEq] at H
            obtain ⟨rfl, rfl⟩ := H
            have p448 : 0 ≤ (0 : Int) := (by omega)
            have q448 : 0 < (x13_3.length : Int) := of_decide_eq_true ap0
            obtain ⟨ad448, e448, hx448_0⟩ := Kd.at_string (Kd.R_reads' HO_13.out).2.2 0 p448 q448
            cases e448
            have qi448 : (0 < x13_3.length) = True := eq_true (by omega)
            (try rw [show ((0 : Int)).toNat = 0 from rfl] at hx448_0)
            (try rw [Addr.add_zero'] at hx448_0)
            replace p448 := eq_true p448
            replace q448 := eq_true q448
            go_wp2_with (first | ((with_reducible refine gate_callee (f := 34) rfl ?_); refine goesL_ (some 92) rfl rfl Tryz.func34 (by kernel_rfl) rfl #[.string t442, .string (rdOf ByteArray.empty x13_3 0)] rfl ap3 ?_; (with_reducible refine (strings_CutPrefix.calls t442 (rdOf ByteArray.empty x13_3 0) t449 false _ A40.out).mono ?_); rintro e w' ⟨rfl, ⟨nd, rfl⟩⟩; refine ⟨_, rfl, ?_⟩))
            go_ret2
            exact ⟨by first | rfl | (simp [errW_none, errW_some, bne_nil8, beq_nil8]; done) | (simp [errW_none, errW_some] <;> rfl) | (simp [*, errW_none, errW_some] <;> rfl), by repeat (first | (with_reducible first | exact HB.out | apply below_alloc | apply pw_below_drewN | apply below_drew1 | refine below_set ?_ GE437.out) | exact HB.out)⟩
          ·
           rw [if_neg c39] at H
           exact absurd H (by simp)
      ·
       rw [if_neg c23] at H
       have c23b0 : (t443 == 0) = false := beq_eq_false_iff_ne.mpr c23
       have c23b1 : (t443 != 0) = true := bne_iff_ne.mpr c23
       simp only [Option.some.injEq, Prod.mk.injEq] at H
       obtain ⟨rfl, rfl⟩ := H
       have hcz55_0 : wc.cell? ⟨gb437, 0, none⟩ = some (.string a0_0) := (blk_cell BK437.out 0).trans rfl
       have hcz55_1 : wc.cell? ⟨gb437, 1, none⟩ = some (.int .i64 a0_1) := (blk_cell BK437.out 1).trans rfl
       have hcz55_2 : wc.cell? ⟨gb437, 2, none⟩ = some (.bool a0_2) := (blk_cell BK437.out 2).trans rfl
       have hfz55_0 := blk_frozen BK437.out 0
       have hfz55_1 := blk_frozen BK437.out 1
       have hfz55_2 := blk_frozen BK437.out 2
       go_wp2_with (first | ((with_reducible refine gate_callee (f := 19) rfl ?_); refine goesL_ (some 60) rfl rfl Tryz.func19 (by kernel_rfl) rfl #[.agg #[.string a0_0, .int .i64 a0_1, .bool a0_2], .string a1] rfl ap3 ?_; (with_reducible refine (attr_Normal.calls kj14 a0_0 a0_1 a0_2 a1 t442 t443 _ ?side1 A22.out).mono ?_); (case side1 => first | exact HG.out | (refine Gw.below HG.out ?_; repeat (first | (with_reducible first | exact HB.out | apply below_alloc | apply pw_below_drewN | apply below_drew1 | refine below_set ?_ GE437.out) | exact HB.out))); rintro e w56 ⟨rfl, hb⟩; refine ⟨_, rfl, ?_⟩; have n0_ := Aside0.mk (Kd.R_below (apAR HO_13.out) hb); have n1_ := Aside0.mk (blk_below (g := gb437) (o := .cells #[.string a0_0, .int .i64 a0_1, .bool a0_2] 23 (0, 0)) (apB BK437.out) hb); have n2_ := Aside0.mk (below_step (apG GE437.out) hb); clear HO_13; clear BK437; clear HB; have HO_13 := n0_; have BK437 := n1_; have HB := n2_; clear n0_ n1_ n2_; (try clear hb); (try clear hb2); (try clear hk); (try clear hi)))
       go_ret2
       exact ⟨by first | rfl | (simp [errW_none, errW_some, bne_nil8, beq_nil8]; done) | (simp [errW_none, errW_some] <;> rfl) | (simp [*, errW_none, errW_some] <;> rfl), by repeat (first | (with_reducible first | exact HB.out | apply below_alloc | apply pw_below_drewN | apply below_drew1 | refine below_set ?_ GE437.out) | exact HB.out)⟩
end Go.Proofs.YtpklcnpmppaaoaaGreatDoor.Print
namespace Go.Proofs.YtpklcnpmppaaoaaGreatDoor.Print
open Go.RowKit Go.Proofs.YtpklcnpmppaaoaaGreatDoorW.PrintWords Go.Proofs.YtpklcnpmppaaoaaGreatDoorW.PrintLast Go.Proofs.YtpklcnpmppaaoaaGreatDoorW.PrintMore Go.Proofs.YtpklcnpmppaaoaaGreatDoor.Pure
set_option linter.unusedVariables false
set_option linter.unusedSimpArgs false
def midIn : List UInt8 → List (List UInt8) → Bool
  | _, [] => true
  | S, p :: ps => decide (0 ≤ Lib.index S p) && midIn (S.drop ((Lib.index S p).toNat + p.length)) ps
def preL (s a : List UInt8) : Bool := decide (a.length ≤ s.length ∧ s.take a.length = a)
def sufL (s z : List UInt8) : Bool := decide (z.length ≤ s.length ∧ s.drop (s.length - z.length) = z)
def partL (s a : List UInt8) (mid : List (List UInt8)) (z : List UInt8) : Bool :=
  preL s a && (sufL (s.drop a.length) z && midIn ((s.drop a.length).take (s.length - a.length - z.length)) mid)
theorem beq_dec {α : Type} [BEq α] [LawfulBEq α] [DecidableEq α] (a b : α) : (a == b) = decide (a = b) := by
  by_cases h : a = b
  · rw [decide_eq_true h]; exact beq_iff_eq.2 h
  · rw [decide_eq_false h]; exact beq_eq_false_iff_ne.2 h
theorem cutPre_f (x a : ByteArray) : strings_CutPrefix.f x a = some (if preL (bl x) (bl a) = true then (mkB ((bl x).drop a.size), true) else (x, false)) := by
  have hx := bl_length x
  have ha := bl_length a
  unfold strings_CutPrefix.f stringslite_CutPrefix.f stringslite_HasPrefix.f preL
  by_cases h : a.size ≤ x.size
  · rw [if_pos (by omega), if_pos (by omega), if_pos (by omega), Option.bind_some, tl_bl, tl_bl, ext_to, beq_dec, Int.toNat_natCast, ha]
    by_cases h2 : (bl x).take a.size = bl a
    · rw [if_pos (decide_eq_true h2), if_pos (by omega), if_pos (by omega), Option.bind_some, if_pos (decide_eq_true ⟨by omega, h2⟩)]
      exact congrArg some (Prod.ext (mk_ext (ext_from x a.size)) rfl)
    · rw [if_neg (by simpa using h2), Option.bind_some, if_neg (by simp [h2])]
  · rw [if_neg (by omega), Option.bind_some, if_neg (by simp), Option.bind_some, if_neg (by simp; omega)]
theorem cutSuf_f (x z : ByteArray) (hx2 : x.size ≤ 1000000) (hz2 : z.size ≤ 1000000) : strings_CutSuffix.f x z = some (if sufL (bl x) (bl z) = true then (mkB ((bl x).take (x.size - z.size)), true) else (x, false)) := by
  have hx := bl_length x
  have hz := bl_length z
  unfold strings_CutSuffix.f stringslite_CutSuffix.f stringslite_HasSuffix.f sufL
  by_cases h : z.size ≤ x.size
  · have hw : wrap64 ((x.size : Int) - (z.size : Int)) = ((x.size - z.size : Nat) : Int) := by unfold wrap64; omega
    rw [hw, if_pos (by omega), if_pos (by omega), if_pos (by omega), Option.bind_some, tl_bl, tl_bl, Int.toNat_natCast, ext_from, beq_dec, hx, hz]
    by_cases h2 : (bl x).drop (x.size - z.size) = bl z
    · rw [if_pos (decide_eq_true h2), if_pos (by omega), if_pos (by omega), Option.bind_some, if_pos (decide_eq_true ⟨by omega, h2⟩)]
      exact congrArg some (Prod.ext (mk_ext (ext_to x _)) rfl)
    · rw [if_neg (by simpa using h2), Option.bind_some, if_neg (by simp [h2])]
  · rw [if_neg (by omega), Option.bind_some, if_neg (by simp), Option.bind_some, if_neg (by simp; omega)]
theorem cut_mid_f (x p : ByteArray) (hx : x.size ≤ 1000000) : strings_Cut.f x p = some (if 0 ≤ Lib.index (bl x) (bl p) then (mkB ((bl x).take (Lib.index (bl x) (bl p)).toNat), mkB ((bl x).drop ((Lib.index (bl x) (bl p)).toNat + (bl p).length)), true) else (x, ⟨#[]⟩, false)) := by
  unfold strings_Cut.f
  rw [if_pos hx]
  unfold Lib.cut
  by_cases h : 0 ≤ Lib.index (bl x) (bl p)
  · have h' : 0 ≤ Lib.index x.data.toList p.data.toList := h
    simp only [if_pos h, if_pos h']
  · have h' : ¬ 0 ≤ Lib.index x.data.toList p.data.toList := h
    simp only [if_neg h, if_neg h']
theorem parts_loop (L : List ByteArray) (hL : L.length ≤ 1000000) : ∀ (m i : Nat) (x : ByteArray) (b : Bool), L.length - i = m → i ≤ L.length → x.size ≤ 1000000 →
    Ev (fun k => attr_Part.l1 k x b L (L.length : Int) (i : Int)) (b && midIn (bl x) ((L.drop i).map bl), 0) := by
  intro m
  induction m with
  | zero =>
    intro i x b hm hi hx
    rw [List.drop_eq_nil_of_le (by omega), List.map_nil, midIn, Bool.and_true]
    exact Ev.step (fun k => by rw [attr_Part.l1]) (Ev.neg (by omega) Ev.rfl')
  | succ m ih =>
    intro i x b hm hi hx
    cases hr : L.drop i with
    | nil => have := List.drop_eq_nil_iff.1 hr; omega
    | cons p r =>
      have h3 : L.drop (i + 1) = r := (rdOf_at hr).2.2
      refine Ev.step (fun k => by rw [attr_Part.l1]) (Ev.pos (by omega) (Ev.pos (by omega) (Ev.pos (by omega) ?_)))
      rw [rdB_at hr, wsucc (p := i) (by omega), List.map_cons, midIn]
      cases b with
      | false => exact Ev.neg (by simp) Ev.rfl'
      | true =>
        refine Ev.pos rfl (Ev.bindc (cut_mid_f x p hx) ?_)
        rw [Bool.true_and]
        by_cases h : 0 ≤ Lib.index (bl x) (bl p)
        · have hsz : (mkB ((bl x).drop ((Lib.index (bl x) (bl p)).toNat + (bl p).length))).size ≤ 1000000 := by
            rw [mkB_size, List.length_drop, bl_length]; omega
          have := ih (i + 1) _ true (by omega) (by omega) hsz
          rw [h3, Bool.true_and] at this
          rw [if_pos h, decide_eq_true h, Bool.true_and]
          exact this
        · have := ih (i + 1) (⟨#[]⟩ : ByteArray) false (by omega) (by omega) (Nat.zero_le _)
          rw [Bool.false_and] at this
          rw [if_neg h, decide_eq_false h, Bool.false_and]
          exact this
def piecesOf (t : Int) : List ByteArray → List ByteArray × Int
  | [] => ([], 0)
  | p :: ps => if (pieceOf t p).2 = 0 then (if (piecesOf t ps).2 = 0 then ((pieceOf t p).1 :: (piecesOf t ps).1, 0) else ([], (piecesOf t ps).2)) else ([], (pieceOf t p).2)
def partY (s : ByteArray) (Y : List ByteArray) : Bool := partL (bl s) (bl (rdOf ByteArray.empty Y 0)) (((Y.take (Y.length - 1)).drop 1).map bl) (bl (rdOf ByteArray.empty Y ((Y.length - 1 : Nat) : Int)))
theorem ans_size {o : Option (List UInt8)} {n : Nat} (h : ∀ u, o = some u → u.length ≤ n) : (ansOf o).1.size ≤ n := by
  cases o with
  | none => exact Nat.zero_le _
  | some u => show (mkB u).size ≤ n; rw [mkB_size]; exact h u rfl
theorem piece_size (t : Int) (p : ByteArray) : (pieceOf t p).1.size ≤ 4 * p.size := by
  unfold pieceOf
  split
  · refine ans_size fun u h => ?_
    unfold phoneOf at h
    obtain ⟨l, h1, rfl⟩ := Option.map_eq_some_iff.1 h
    obtain ⟨h2, _⟩ := mapped_ok h1 true
    have a := List.length_filter_le (fun x : Int => x != 32) (l.filterMap (mapRune true))
    have b := List.length_filter_le (fun x : Int => x != 45) ((l.filterMap (mapRune true)).filter (· != 32))
    have c := encAll_length (phoneL (l.filterMap (mapRune true)))
    unfold phoneL at c
    unfold phoneL
    omega
  · refine ans_size fun u h => ?_
    unfold mapOf at h
    obtain ⟨l, h1, rfl⟩ := Option.map_eq_some_iff.1 h
    obtain ⟨h2, _⟩ := mapped_ok h1 (t == 1)
    have c := encAll_length (l.filterMap (mapRune (t == 1)))
    omega
theorem set_take {α : Type} (L : List α) (i : Nat) (x : α) (h : i < L.length) : (L.set i x).take (i + 1) = L.take i ++ [x] := by
  rw [List.take_succ_eq_append_getElem (by simpa using h), List.take_set_of_le (Nat.le_refl _)]
  simp
theorem set_drop {α : Type} (L : List α) (i : Nat) (x : α) : (L.set i x).drop (i + 1) = L.drop (i + 1) := List.drop_set_of_lt (by omega)
theorem pieces_loop (n : ByteArray) (t : Int) (b : Bool) (s : ByteArray) (N : Nat) (hN : N ≤ 1000) {fin : List ByteArray → Bool × Int}
    (hfin : ∀ Y : List ByteArray, Y.length = N → (∀ y ∈ Y, y.size ≤ 400000) → Ev (fun k => attr_Part.l0 k Y s (N : Int) (N : Int) n t b) (fin Y)) :
    ∀ (m i : Nat) (X : List ByteArray), N - i = m → i ≤ N → X.length = N → (∀ y ∈ X.take i, y.size ≤ 400000) → (∀ y ∈ X.drop i, y.size ≤ 100000) →
    Ev (fun k => attr_Part.l0 k X s (N : Int) (i : Int) n t b) (if (piecesOf t (X.drop i)).2 = 0 then fin (X.take i ++ (piecesOf t (X.drop i)).1) else (false, (piecesOf t (X.drop i)).2)) := by
  intro m
  induction m with
  | zero =>
    intro i X hm hi hX h1 h2
    obtain rfl : i = N := by omega
    rw [List.drop_eq_nil_of_le (by omega)]
    show Ev _ (if (0 : Int) = 0 then fin (X.take i ++ []) else _)
    rw [if_pos rfl, List.append_nil, List.take_of_length_le (by omega)]
    exact hfin X hX (by rw [List.take_of_length_le (by omega)] at h1; exact h1)
  | succ m ih =>
    intro i X hm hi hX h1 h2
    cases hr : X.drop i with
    | nil => have := List.drop_eq_nil_iff.1 hr; omega
    | cons p r =>
      have h3 : X.drop (i + 1) = r := (rdOf_at hr).2.2
      have hp : p.size ≤ 100000 := h2 p (by rw [hr]; simp)
      refine Ev.step (fun k => by rw [attr_Part.l0]) (Ev.pos (by omega) (Ev.pos (by omega) (Ev.pos (by omega) ?_)))
      rw [rdB_at hr, wsucc (p := i) (by omega), piecesOf]
      refine Ev.bind (piece_ev n t b p hp) ?_
      by_cases h : (pieceOf t p).2 = 0
      · refine Ev.pos h ?_
        rw [if_pos h, Int.toNat_natCast]
        have hs := piece_size t p
        have := ih (i + 1) (X.set i (pieceOf t p).1) (by omega) (by omega) (by simpa using hX)
          (by
            intro y hy
            rw [set_take X i _ (by omega)] at hy
            rcases List.mem_append.1 hy with hy | hy
            · exact h1 y hy
            · rw [List.mem_singleton] at hy; subst hy; omega)
          (by
            intro y hy
            rw [set_drop] at hy
            exact h2 y (by rw [hr]; rw [h3] at hy; simp [hy]))
        rw [set_drop, h3, set_take X i _ (by omega), List.append_assoc] at this
        by_cases h4 : (piecesOf t r).2 = 0
        · rw [if_pos h4] at this
          rw [if_pos h4]
          exact this
        · rw [if_neg h4] at this
          rw [if_neg h4, if_neg h4]
          exact this
      · refine Ev.neg h ?_
        rw [if_neg h, if_neg h]
        exact Ev.rfl'
theorem fin_ev (n : ByteArray) (t : Int) (b : Bool) (s : ByteArray) (hs : s.size ≤ 1000000) (N : Nat) (h2N : 2 ≤ N) (hN : N ≤ 1000) (Y : List ByteArray) (hY : Y.length = N) (hsz : ∀ y ∈ Y, y.size ≤ 400000) :
    Ev (fun k => attr_Part.l0 k Y s (N : Int) (N : Int) n t b) (partY s Y, 0) := by
  have hw : wrap64 ((Y.length : Int) - 1) = ((Y.length - 1 : Nat) : Int) := by unfold wrap64; omega
  have hz : (rdOf ByteArray.empty Y ((Y.length - 1 : Nat) : Int)).size ≤ 1000000 := by
    have := rdB_at (List.drop_eq_getElem_cons (show Y.length - 1 < Y.length by omega))
    rw [this]
    have := hsz _ (List.getElem_mem (show Y.length - 1 < Y.length by omega))
    omega
  refine Ev.step (fun k => by rw [attr_Part.l0]) (Ev.neg (by omega) (Ev.pos (by omega) (Ev.bindc (cutPre_f s _) ?_)))
  unfold partY partL
  rw [hw]
  generalize rdOf ByteArray.empty Y 0 = a
  generalize rdOf ByteArray.empty Y ((Y.length - 1 : Nat) : Int) = z at hz ⊢
  by_cases hp : preL (bl s) (bl a) = true
  · rw [if_pos hp, hp, Bool.true_and]
    have hsz2 : (mkB ((bl s).drop a.size)).size ≤ 1000000 := by rw [mkB_size, List.length_drop, bl_length]; omega
    have hbs : (mkB ((bl s).drop a.size)).size = s.size - a.size := by rw [mkB_size, List.length_drop, bl_length]
    refine Ev.pos rfl (Ev.pos (by omega) (Ev.pos (by omega) (Ev.bindc (cutSuf_f _ z hsz2 hz) (Ev.pos (by omega) (Ev.pos (by omega) ?_)))))
    refine Ev.bindc (u := (Y.take (Y.length - 1)).drop 1) (by rw [Int.toNat_natCast]) ?_
    have hl : ((Y.take (Y.length - 1)).drop 1).length ≤ 1000000 := by rw [List.length_drop, List.length_take]; omega
    rw [bl_length a, show bl (mkB ((bl s).drop a.size)) = (bl s).drop a.size from rfl]
    by_cases hq : sufL ((bl s).drop a.size) (bl z) = true
    · rw [if_pos hq, hq, Bool.true_and]
      have hsz3 : (mkB (((bl s).drop a.size).take ((mkB ((bl s).drop a.size)).size - z.size))).size ≤ 1000000 := by
        rw [mkB_size, List.length_take, hbs, List.length_drop, bl_length]; omega
      have := parts_loop _ hl _ 0 _ true rfl (Nat.zero_le _) hsz3
      rw [List.drop_zero, Bool.true_and, hbs] at this
      rw [bl_length z, bl_length s, hbs]
      exact this
    · rw [if_neg hq, eq_false_of_ne_true hq, Bool.false_and]
      have := parts_loop _ hl _ 0 (mkB ((bl s).drop a.size)) false rfl (Nat.zero_le _) hsz2
      rw [Bool.false_and] at this
      exact this
  · rw [if_neg hp, eq_false_of_ne_true hp, Bool.false_and]
    exact Ev.neg (by simp) Ev.rfl'
def partOf (t : Int) (v first : ByteArray) (mid : List ByteArray) (last : ByteArray) : Bool × Int :=
  if ¬ (t = 1 ∨ t = 2 ∨ t = 7) ∨ 8 < mid.length ∨ (first :: mid ++ [last]).any given = false then (false, 20)
  else if (normOf t v).2 = 0 then
    (if (piecesOf t (first :: mid ++ [last])).2 = 0 then (partY (normOf t v).1 (piecesOf t (first :: mid ++ [last])).1, 0) else (false, (piecesOf t (first :: mid ++ [last])).2))
  else (false, (normOf t v).2)
theorem someT_size {o : Option (List UInt8)} {n : Nat} (h : ∀ u, o = some u → u.length ≤ n) : (someT o).1.size ≤ n := by
  cases o with
  | none => exact Nat.zero_le _
  | some u => show (mkB u).size ≤ n; rw [mkB_size]; exact h u rfl
theorem norm_size7 {t : Int} (h4 : t = 1 ∨ t = 2 ∨ t = 7) (x : ByteArray) : (normOf t x).1.size ≤ 1000000 := by
  unfold normOf
  split
  · exact Nat.zero_le _
  split
  · exact Nat.zero_le _
  · rename_i h5
    split
    · exact Nat.zero_le _
    · split
      · unfold formOf
        by_cases h12 : t = 1 ∨ t = 2
        · rw [if_pos h12]
          refine someT_size fun u h => ?_
          unfold readyOf at h
          obtain ⟨l, h1, rfl⟩ := Option.map_eq_some_iff.1 h
          obtain ⟨h2, _⟩ := mapped_ok h1 (t == 1)
          have a := sq_len (l.filterMap (mapRune (t == 1))) false
          have b := encAll_length (sq (l.filterMap (mapRune (t == 1))) false)
          omega
        · rw [if_neg h12, if_pos (by omega)]
          refine someT_size fun u h => ?_
          have hp := piece_size 7 x
          unfold pieceOf at hp
          rw [if_pos rfl, h] at hp
          have hq : (mkB u).size ≤ 4 * x.size := hp
          rw [mkB_size] at hq
          omega
      · exact Nat.zero_le _
theorem part_ev (n : ByteArray) (t : Int) (b : Bool) (v first : ByteArray) (mid : List ByteArray) (last : ByteArray) (h1 : first.size ≤ 100000) (h2 : last.size ≤ 100000) (h3 : ∀ p ∈ mid, p.size ≤ 100000) (h4 : mid.length ≤ 1000000) :
    Ev (fun k => attr_Part.f k n t b v first mid last) (partOf t v first mid last) := by
  have hno : ∀ (h : ¬ (t = 1 ∨ t = 2 ∨ t = 7) ∨ 8 < mid.length ∨ (first :: mid ++ [last]).any given = false), Ev (fun k => attr_Part.j1 k v (first :: mid ++ [last]) true n t b) (partOf t v first mid last) := by
    intro h
    unfold partOf
    rw [if_pos h]
    exact Ev.step (fun k => by rw [attr_Part.j1]) (Ev.pos rfl Ev.rfl')
  have hj : (t = 1 ∨ t = 2 ∨ t = 7) → Ev (fun k => attr_Part.j0 k v mid (first :: mid ++ [last]) true n t b) (partOf t v first mid last) := by
    intro ht
    refine Ev.step (fun k => by rw [attr_Part.j0]) (Ev.pos rfl ?_)
    by_cases h8 : 8 < mid.length
    · exact Ev.pos (by omega) (hno (.inr (.inl h8)))
    · refine Ev.neg (by omega) (Ev.bindc (u := (first :: mid ++ [last]).any given) rfl ?_)
      by_cases hg : (first :: mid ++ [last]).any given = false
      · rw [hg]; exact hno (.inr (.inr hg))
      · have hg2 : (first :: mid ++ [last]).any given = true := eq_true_of_ne_false hg
        rw [hg2]
        have hall : ¬ (¬ (t = 1 ∨ t = 2 ∨ t = 7) ∨ 8 < mid.length ∨ (first :: mid ++ [last]).any given = false) := by
          rintro (h | h | h)
          · exact h ht
          · exact h8 h
          · exact hg h
        refine Ev.step (fun k => by rw [attr_Part.j1]) (Ev.neg (by simp) (Ev.bind (normal_ev n t b v) ?_))
        unfold partOf
        rw [if_neg hall]
        by_cases h0 : (normOf t v).2 = 0
        · refine Ev.pos h0 ?_
          rw [if_pos h0]
          have hlen : (first :: mid ++ [last]).length = mid.length + 2 := by simp
          have hall2 : ∀ y ∈ first :: mid ++ [last], y.size ≤ 100000 := by
            intro y hy
            simp only [List.cons_append, List.mem_cons, List.mem_append, List.mem_singleton, List.mem_nil_iff, or_false] at hy
            rcases hy with rfl | hy | rfl
            · exact h1
            · exact h3 y hy
            · exact h2
          have := pieces_loop n t b (normOf t v).1 (first :: mid ++ [last]).length (by omega) (fin := fun Y => (partY (normOf t v).1 Y, 0))
            (fun Y hY hsz => fin_ev n t b (normOf t v).1 (norm_size7 ht v) _ (by omega) (by omega) Y hY hsz) _ 0 (first :: mid ++ [last]) rfl (Nat.zero_le _) rfl (by simp) (by simpa using hall2)
          rw [List.drop_zero, List.take_zero, List.nil_append] at this
          exact this
        · refine Ev.neg h0 ?_
          rw [if_neg h0]
          exact Ev.rfl'
  unfold attr_Part.f
  refine Ev.bindc (u := first :: mid ++ [last]) (by unfold slices_Concat_string_string.f; rw [if_pos h4]) ?_
  by_cases c1 : t = 1
  · exact Ev.pos c1 (hj (.inl c1))
  · refine Ev.neg c1 ?_
    by_cases c2 : t = 2
    · exact Ev.pos c2 (hj (.inr (.inl c2)))
    · refine Ev.neg c2 ?_
      by_cases c7 : t = 7
      · rw [show (t == 7) = true from beq_iff_eq.2 c7]; exact hj (.inr (.inr c7))
      · rw [show (t == 7) = false from beq_eq_false_iff_ne.2 c7]
        exact Ev.step (fun k => by rw [attr_Part.j0]) (Ev.neg (by simp) (hno (.inl (by omega))))
end Go.Proofs.YtpklcnpmppaaoaaGreatDoor.Print
namespace Go.Proofs
open Go.Shelf
def Tryz.laysC172_ren : Go.Shelf.Ren := ⟨fun | 172 => 26 | 244 => 50 | 245 => 51 | 247 => 77 | 279 => 78 | 280 => 79 | 281 => 80 | 282 => 81 | 287 => 108 | 316 => 109 | 171 => 111 | 205 => 110 | 321 => 130 | 322 => 131 | 243 => 132 | 246 => 152 | 283 => 172 | 284 => 173 | 285 => 174 | 286 => 175 | 129 => 171 | 317 => 182 | 318 => 183 | 319 => 184 | 320 => 185 | 337 => 187 | 338 => 188 | n => n, fun | 9 => 9 | 3 => 3 | 75 => 50 | 76 => 51 | 4 => 4 | 5 => 5 | 167 => 101 | 37 => 82 | 0 => 0 | 85 => 102 | 2 => 2 | 168 => 104 | 53 => 128 | 175 => 129 | 46 => 68 | 210 => 132 | 127 => 137 | 145 => 147 | 143 => 145 | 21 => 21 | 171 => 177 | 173 => 179 | 212 => 192 | 51 => 152 | 20 => 20 | 213 => 193 | 232 => 196 | 233 => 197 | 80 => 112 | n => n, fun | 15 => 2 | 16 => 3 | 17 => 6 | 18 => 7 | 19 => 8 | n => n⟩
theorem Tryz.laysC172 : Go.Proofs.LaysC.n172 Tryz.prog Tryz.laysC172_ren := {
  mixed := by kernel_rfl
  f129 := Tryz.func171.trans (congrArg some (by kernel_rfl))
  f171 := Tryz.func111.trans (congrArg some (by kernel_rfl))
  f172 := Tryz.func26.trans (congrArg some (by kernel_rfl))
  f205 := Tryz.func110.trans (congrArg some (by kernel_rfl))
  f243 := Tryz.func132.trans (congrArg some (by kernel_rfl))
  f244 := Tryz.func50.trans (congrArg some (by kernel_rfl))
  f245 := Tryz.func51.trans (congrArg some (by kernel_rfl))
  f246 := Tryz.func152.trans (congrArg some (by kernel_rfl))
  f247 := Tryz.func77.trans (congrArg some (by kernel_rfl))
  f279 := Tryz.func78.trans (congrArg some (by kernel_rfl))
  f280 := Tryz.func79.trans (congrArg some (by kernel_rfl))
  f281 := Tryz.func80.trans (congrArg some (by kernel_rfl))
  f282 := Tryz.func81.trans (congrArg some (by kernel_rfl))
  f283 := Tryz.func172.trans (congrArg some (by kernel_rfl))
  f284 := Tryz.func173.trans (congrArg some (by kernel_rfl))
  f285 := Tryz.func174.trans (congrArg some (by kernel_rfl))
  f286 := Tryz.func175.trans (congrArg some (by kernel_rfl))
  f287 := Tryz.func108.trans (congrArg some (by kernel_rfl))
  f316 := Tryz.func109.trans (congrArg some (by kernel_rfl))
  f317 := Tryz.func182.trans (congrArg some (by kernel_rfl))
  f318 := Tryz.func183.trans (congrArg some (by kernel_rfl))
  f319 := Tryz.func184.trans (congrArg some (by kernel_rfl))
  f320 := Tryz.func185.trans (congrArg some (by kernel_rfl))
  f321 := Tryz.func130.trans (congrArg some (by kernel_rfl))
  f322 := Tryz.func131.trans (congrArg some (by kernel_rfl))
  f337 := Tryz.func187.trans (congrArg some (by kernel_rfl))
  f338 := Tryz.func188.trans (congrArg some (by kernel_rfl))
  t0 := Tryz.underlying0
  a0 := Tryz.isAgg0
  z0 := Tryz.sizeOf0
  v0 := Tryz.zeroValue0
  t2 := Tryz.underlying2
  a2 := Tryz.isAgg2
  z2 := Tryz.sizeOf2
  v2 := Tryz.zeroValue2
  t3 := Tryz.underlying3
  a3 := Tryz.isAgg3
  z3 := Tryz.sizeOf3
  v3 := Tryz.zeroValue3
  t4 := Tryz.underlying4
  a4 := Tryz.isAgg4
  z4 := Tryz.sizeOf4
  v4 := Tryz.zeroValue4
  t5 := Tryz.underlying5
  a5 := Tryz.isAgg5
  z5 := Tryz.sizeOf5
  v5 := Tryz.zeroValue5
  t9 := Tryz.underlying9
  a9 := Tryz.isAgg9
  z9 := Tryz.sizeOf9
  v9 := Tryz.zeroValue9
  t20 := Tryz.underlying20
  a20 := Tryz.isAgg20
  z20 := Tryz.sizeOf20
  v20 := Tryz.zeroValue20
  t21 := Tryz.underlying21
  a21 := Tryz.isAgg21
  z21 := Tryz.sizeOf21
  v21 := Tryz.zeroValue21
  t37 := Tryz.underlying82
  a37 := Tryz.isAgg82
  z37 := Tryz.sizeOf82
  v37 := Tryz.zeroValue82
  t46 := Tryz.underlying68
  a46 := Tryz.isAgg68
  z46 := Tryz.sizeOf68
  v46 := Tryz.zeroValue68
  t51 := Tryz.underlying152
  a51 := Tryz.isAgg152
  z51 := Tryz.sizeOf152
  v51 := Tryz.zeroValue152
  t53 := Tryz.underlying128
  a53 := Tryz.isAgg128
  z53 := Tryz.sizeOf128
  v53 := Tryz.zeroValue128
  t75 := Tryz.underlying50
  a75 := Tryz.isAgg50
  z75 := Tryz.sizeOf50
  v75 := Tryz.zeroValue50
  t76 := Tryz.underlying51
  a76 := Tryz.isAgg51
  z76 := Tryz.sizeOf51
  v76 := Tryz.zeroValue51
  t85 := Tryz.underlying102
  a85 := Tryz.isAgg102
  z85 := Tryz.sizeOf102
  v85 := Tryz.zeroValue102
  t127 := Tryz.underlying137
  a127 := Tryz.isAgg137
  z127 := Tryz.sizeOf137
  v127 := Tryz.zeroValue137
  t143 := Tryz.underlying145
  a143 := Tryz.isAgg145
  z143 := Tryz.sizeOf145
  v143 := Tryz.zeroValue145
  t145 := Tryz.underlying147
  a145 := Tryz.isAgg147
  z145 := Tryz.sizeOf147
  v145 := Tryz.zeroValue147
  t167 := Tryz.underlying101
  a167 := Tryz.isAgg101
  z167 := Tryz.sizeOf101
  v167 := Tryz.zeroValue101
  t168 := Tryz.underlying104
  a168 := Tryz.isAgg104
  z168 := Tryz.sizeOf104
  v168 := Tryz.zeroValue104
  t171 := Tryz.underlying177
  a171 := Tryz.isAgg177
  z171 := Tryz.sizeOf177
  v171 := Tryz.zeroValue177
  t173 := Tryz.underlying179
  a173 := Tryz.isAgg179
  z173 := Tryz.sizeOf179
  v173 := Tryz.zeroValue179
  t175 := Tryz.underlying129
  a175 := Tryz.isAgg129
  z175 := Tryz.sizeOf129
  v175 := Tryz.zeroValue129
  t210 := Tryz.underlying132
  a210 := Tryz.isAgg132
  z210 := Tryz.sizeOf132
  v210 := Tryz.zeroValue132
  t212 := Tryz.underlying192
  a212 := Tryz.isAgg192
  z212 := Tryz.sizeOf192
  v212 := Tryz.zeroValue192
  t213 := Tryz.underlying193
  a213 := Tryz.isAgg193
  z213 := Tryz.sizeOf193
  t232 := Tryz.underlying196
  a232 := Tryz.isAgg196
  z232 := Tryz.sizeOf196
  v232 := Tryz.zeroValue196
  t233 := Tryz.underlying197
  a233 := Tryz.isAgg197
  z233 := Tryz.sizeOf197
  v233 := Tryz.zeroValue197
  g15 := by kernel_rfl
  g16 := by kernel_rfl
  g17 := by kernel_rfl
  g18 := by kernel_rfl
  g19 := by kernel_rfl
  t80 := Tryz.underlying112
  a80 := Tryz.isAgg112
  z80 := Tryz.sizeOf112
  v80 := Tryz.zeroValue112
  i0 := by kernel_rfl
  i2 := by kernel_rfl
  i3 := by kernel_rfl
  i4 := by kernel_rfl
  i5 := by kernel_rfl
  i9 := by kernel_rfl
  i20 := by kernel_rfl
  i21 := by kernel_rfl
  i37 := by kernel_rfl
  i46 := by kernel_rfl
  i51 := by kernel_rfl
  i53 := by kernel_rfl
  i75 := by kernel_rfl
  i76 := by kernel_rfl
  i80 := by kernel_rfl
  i85 := by kernel_rfl
  i127 := by kernel_rfl
  i143 := by kernel_rfl
  i145 := by kernel_rfl
  i167 := by kernel_rfl
  i168 := by kernel_rfl
  i171 := by kernel_rfl
  i173 := by kernel_rfl
  i175 := by kernel_rfl
  i210 := by kernel_rfl
  i212 := by kernel_rfl
  i232 := by kernel_rfl
  i233 := by kernel_rfl
  m15 := by kernel_rfl
  m16 := by kernel_rfl
  m17 := by kernel_rfl
  m18 := by kernel_rfl
  m19 := by kernel_rfl
  c0 := by kernel_rfl
  c2 := by kernel_rfl
  c3 := by kernel_rfl
  c4 := by kernel_rfl
  c5 := by kernel_rfl
  c9 := by kernel_rfl
  c20 := by kernel_rfl
  c21 := by kernel_rfl
  c37 := by kernel_rfl
  c46 := by kernel_rfl
  c51 := by kernel_rfl
  c53 := by kernel_rfl
  c75 := by kernel_rfl
  c76 := by kernel_rfl
  c80 := by kernel_rfl
  c85 := by kernel_rfl
  c127 := by kernel_rfl
  c143 := by kernel_rfl
  c145 := by kernel_rfl
  c167 := by kernel_rfl
  c168 := by kernel_rfl
  c171 := by kernel_rfl
  c173 := by kernel_rfl
  c175 := by kernel_rfl
  c210 := by kernel_rfl
  c212 := by kernel_rfl
  c213 := by kernel_rfl
  c232 := by kernel_rfl
  c233 := by kernel_rfl }
open Go.RowKit in
theorem Tryz.strconv_Atoi_ok (s : ByteArray) (hmax : s.size ≤ 9223372036854775806) (v : Int) (h : Lib.atoiAll s.data.toList = .ok v) (w : World) :
    Calls Tryz.prog 26 #[.string s] w fun e w' => e = .returned (.tuple #[.int .i64 v, .nilIface]) ∧ (w' = w ∨ ∃ t, w' = Lib.bytesWorld w 5 t) := Any.strconv_Atoi_ok Tryz.laysC172 s hmax v h w
end Go.Proofs
namespace Go.Proofs.YtpklcnpmppaaoaaGreatDoor.Print
open Go.RowKit Go.Proofs.YtpklcnpmppaaoaaGreatDoorW.PrintWords Go.Proofs.YtpklcnpmppaaoaaGreatDoorW.PrintLast Go.Proofs.YtpklcnpmppaaoaaGreatDoorW.PrintMore
def atoiOf : Lib.NumEnd Int → Option Int
  | .ok v => some v
  | _ => none
def strconv_Atoi_26.f (a0 : ByteArray) : Option (Int × Option Int) := if a0.size ≤ 1000000 then (atoiOf (Lib.atoiAll a0.data.toList)).map fun v => (v, none) else none
theorem strconv_Atoi_26.calls (a0 : ByteArray) (r1 : Int) (r2 : Option Int) (w : World) (h : strconv_Atoi_26.f a0 = some (r1, r2)) :
    Calls Tryz.prog 26 #[.string a0] w fun e w' => e = .returned (.tuple #[.int .i64 r1, errW r2]) ∧ Below w.heap.size w w' := by
  unfold strconv_Atoi_26.f at h
  by_cases c : a0.size ≤ 1000000
  · rw [if_pos c] at h
    obtain ⟨v, hv, h⟩ := Option.map_eq_some_iff.1 h
    simp only [Prod.mk.injEq] at h
    obtain ⟨rfl, rfl⟩ := h
    have h2 : Lib.atoiAll a0.data.toList = .ok v := by
      cases hq : Lib.atoiAll a0.data.toList <;> simp_all [atoiOf]
    refine (Tryz.strconv_Atoi_ok a0 (by omega) v h2 w).mono ?_
    rintro e w' ⟨he, hw⟩
    refine ⟨he, ?_⟩
    rcases hw with rfl | ⟨t, rfl⟩
    · exact Below.refl _ _
    · exact bytes_below (Below.refl _ _) (Nat.le_refl _) _ _
  · rw [if_neg c] at h; cases h
end Go.Proofs.YtpklcnpmppaaoaaGreatDoor.Print
namespace Go.Proofs.YtpklcnpmppaaoaaGreatDoor.Print
open Go.RowKit Go.Proofs.YtpklcnpmppaaoaaGreatDoorW.PrintWords
def strings_Compare.f (a0 a1 : ByteArray) : Option Int := some (Lib.compareBytes a0.data.toList a1.data.toList)
theorem strings_Compare.calls (a0 a1 : ByteArray) (r : Int) (w : World) (h : strings_Compare.f a0 a1 = some r) :
    Calls Tryz.prog 28 #[.string a0, .string a1] w fun e w' => e = .returned (.int .i64 r) ∧ Drawn0 w w' := by
  obtain rfl := Option.some.inj h
  refine (Tryz.strings_Compare a0 a1 w).mono ?_
  rintro e w' ⟨he, rfl⟩
  exact ⟨he, Drawn0.refl _⟩
end Go.Proofs.YtpklcnpmppaaoaaGreatDoor.Print
namespace Go.Proofs.YtpklcnpmppaaoaaGreatDoor.Print
open Go.RowKit Go.Proofs.YtpklcnpmppaaoaaGreatDoorW.PrintWords Go.Proofs.YtpklcnpmppaaoaaGreatDoorW.PrintLast Go.Proofs.YtpklcnpmppaaoaaGreatDoorW.PrintMore
attribute [local go_sem] max2_int min2_int max_two min_two max_three min_three max_four min_four
set_option linter.unusedVariables false
set_option linter.unusedSimpArgs false
def cmp_isNaN_int.f (a0 : Int) : Option (Bool) := some (a0 != a0)
set_option maxHeartbeats 8000000 in
set_option maxRecDepth 100000 in
theorem cmp_isNaN_int.calls (a0 : Int) (r : Bool) (w : World) (h : cmp_isNaN_int.f a0 = some r) :
  Calls Tryz.prog 52 #[.int .i64 a0] w fun e w' => e = .returned (.bool r) ∧ Drawn0 w w' := by
 have H : (some (a0 != a0)) = some r := h
 clear h
 obtain rfl := Option.some.inj H
 go_enter Tryz.func52, Tryz.ntmps52
 go_wp2
 go_ret
 exact ⟨ap2, ap7⟩
def cmp_Compare_int.f (a0 : Int) (a1 : Int) : Option (Int) := (cmp_isNaN_int.f a0).bind fun t414 => ((cmp_isNaN_int.f a1).bind fun t415 => (if t414 = true then (if t415 = true then (some 0) else (some (-1))) else (if t415 = true then (some 1) else (if a0 < a1 then (some (-1)) else (if a0 > a1 then (some 1) else (some 0))))))
set_option maxHeartbeats 8000000 in
set_option maxRecDepth 100000 in
theorem cmp_Compare_int.calls (a0 : Int) (a1 : Int) (r : Int) (w : World) (h : cmp_Compare_int.f a0 a1 = some r) :
  Calls Tryz.prog 27 #[.int .i64 a0, .int .i64 a1] w fun e w' => e = .returned (.int .i64 r) ∧ Drawn0 w w' := by
 have H : ((cmp_isNaN_int.f a0).bind fun t414 => ((cmp_isNaN_int.f a1).bind fun t415 => (if t414 = true then (if t415 = true then (some 0) else (some (-1))) else (if t415 = true then (some 1) else (if a0 < a1 then (some (-1)) else (if a0 > a1 then (some 1) else (some 0))))))) = some r := h
 clear h
 replace H := Option.bind_eq_some_iff.mp H
 obtain ⟨t414, A30, H⟩ := H
 replace H : ((cmp_isNaN_int.f a1).bind fun t415 => (if t414 = true then (if t415 = true then (some 0) else (some (-1))) else (if t415 = true then (some 1) else (if a0 < a1 then (some (-1)) else (if a0 > a1 then (some 1) else (some 0)))))) = some r := H
 have A3 := Aside0.mk A30
 clear A30
 replace H := Option.bind_eq_some_iff.mp H
 obtain ⟨t415, A40, H⟩ := H
 replace H : (if t414 = true then (if t415 = true then (some 0) else (some (-1))) else (if t415 = true then (some 1) else (if a0 < a1 then (some (-1)) else (if a0 > a1 then (some 1) else (some 0))))) = some r := H
 have A4 := Aside0.mk A40
 clear A40
 by_cases c5 : t414 = true
 ·
  subst c5
  rw [if_pos rfl] at H
  by_cases c6 : t415 = true
  ·
   subst c6
   rw [if_pos rfl] at H
   obtain rfl := Option.some.inj H
   go_enter Tryz.func27, Tryz.ntmps27
   go_wp2_with (first | ((with_reducible refine gate_callee (f := 52) rfl ?_); refine goesL_ (some 8) rfl rfl Tryz.func52 (by kernel_rfl) rfl #[.int .i64 a0] rfl ap3 ?_; (with_reducible refine (cmp_isNaN_int.calls a0 true _ A3.out).mono ?_); rintro e w' ⟨rfl, ⟨nd, rfl⟩⟩; refine ⟨_, rfl, ?_⟩) | ((with_reducible refine gate_callee (f := 52) rfl ?_); refine goesL_ (some 10) rfl rfl Tryz.func52 (by kernel_rfl) rfl #[.int .i64 a1] rfl ap3 ?_; (with_reducible refine (cmp_isNaN_int.calls a1 true _ A4.out).mono ?_); rintro e w' ⟨rfl, ⟨nd, rfl⟩⟩; refine ⟨_, rfl, ?_⟩))
   go_ret
   exact ⟨ap2, ap7⟩
  ·
   replace c6 := Bool.eq_false_iff.mpr c6
   subst c6
   rw [if_neg (show ¬ (false = true) by decide)] at H
   obtain rfl := Option.some.inj H
   go_enter Tryz.func27, Tryz.ntmps27
   go_wp2_with (first | ((with_reducible refine gate_callee (f := 52) rfl ?_); refine goesL_ (some 8) rfl rfl Tryz.func52 (by kernel_rfl) rfl #[.int .i64 a0] rfl ap3 ?_; (with_reducible refine (cmp_isNaN_int.calls a0 true _ A3.out).mono ?_); rintro e w' ⟨rfl, ⟨nd, rfl⟩⟩; refine ⟨_, rfl, ?_⟩) | ((with_reducible refine gate_callee (f := 52) rfl ?_); refine goesL_ (some 10) rfl rfl Tryz.func52 (by kernel_rfl) rfl #[.int .i64 a1] rfl ap3 ?_; (with_reducible refine (cmp_isNaN_int.calls a1 false _ A4.out).mono ?_); rintro e w' ⟨rfl, ⟨nd, rfl⟩⟩; refine ⟨_, rfl, ?_⟩))
   go_ret
   exact ⟨ap2, ap7⟩
 ·
  replace c5 := Bool.eq_false_iff.mpr c5
  subst c5
  rw [if_neg (show ¬ (false = true) by decide)] at H
  by_cases c7 : t415 = true
  ·
   subst c7
   rw [if_pos rfl] at H
   obtain rfl := Option.some.inj H
   go_enter Tryz.func27, Tryz.ntmps27
   go_wp2_with (first | ((with_reducible refine gate_callee (f := 52) rfl ?_); refine goesL_ (some 8) rfl rfl Tryz.func52 (by kernel_rfl) rfl #[.int .i64 a0] rfl ap3 ?_; (with_reducible refine (cmp_isNaN_int.calls a0 false _ A3.out).mono ?_); rintro e w' ⟨rfl, ⟨nd, rfl⟩⟩; refine ⟨_, rfl, ?_⟩) | ((with_reducible refine gate_callee (f := 52) rfl ?_); refine goesL_ (some 10) rfl rfl Tryz.func52 (by kernel_rfl) rfl #[.int .i64 a1] rfl ap3 ?_; (with_reducible refine (cmp_isNaN_int.calls a1 true _ A4.out).mono ?_); rintro e w' ⟨rfl, ⟨nd, rfl⟩⟩; refine ⟨_, rfl, ?_⟩))
   go_ret
   exact ⟨ap2, ap7⟩
  ·
   replace c7 := Bool.eq_false_iff.mpr c7
   subst c7
   rw [if_neg (show ¬ (false = true) by decide)] at H
   by_cases c8 : a0 < a1
   ·
    rw [if_pos c8] at H
    have c8b0 := decide_eq_true c8
    clear c8
    obtain rfl := Option.some.inj H
    go_enter Tryz.func27, Tryz.ntmps27
    go_wp2_with (first | ((with_reducible refine gate_callee (f := 52) rfl ?_); refine goesL_ (some 8) rfl rfl Tryz.func52 (by kernel_rfl) rfl #[.int .i64 a0] rfl ap3 ?_; (with_reducible refine (cmp_isNaN_int.calls a0 false _ A3.out).mono ?_); rintro e w' ⟨rfl, ⟨nd, rfl⟩⟩; refine ⟨_, rfl, ?_⟩) | ((with_reducible refine gate_callee (f := 52) rfl ?_); refine goesL_ (some 10) rfl rfl Tryz.func52 (by kernel_rfl) rfl #[.int .i64 a1] rfl ap3 ?_; (with_reducible refine (cmp_isNaN_int.calls a1 false _ A4.out).mono ?_); rintro e w' ⟨rfl, ⟨nd, rfl⟩⟩; refine ⟨_, rfl, ?_⟩))
    go_ret
    exact ⟨ap2, ap7⟩
   ·
    rw [if_neg c8] at H
    have c8b0 := decide_eq_false c8
    clear c8
    by_cases c9 : a0 > a1
    ·
     rw [if_pos c9] at H
     have c9b0 := decide_eq_true c9
     clear c9
     obtain rfl := Option.some.inj H
     go_enter Tryz.func27, Tryz.ntmps27
     go_wp2_with (first | ((with_reducible refine gate_callee (f := 52) rfl ?_); refine goesL_ (some 8) rfl rfl Tryz.func52 (by kernel_rfl) rfl #[.int .i64 a0] rfl ap3 ?_; (with_reducible refine (cmp_isNaN_int.calls a0 false _ A3.out).mono ?_); rintro e w' ⟨rfl, ⟨nd, rfl⟩⟩; refine ⟨_, rfl, ?_⟩) | ((with_reducible refine gate_callee (f := 52) rfl ?_); refine goesL_ (some 10) rfl rfl Tryz.func52 (by kernel_rfl) rfl #[.int .i64 a1] rfl ap3 ?_; (with_reducible refine (cmp_isNaN_int.calls a1 false _ A4.out).mono ?_); rintro e w' ⟨rfl, ⟨nd, rfl⟩⟩; refine ⟨_, rfl, ?_⟩))
     go_ret
     exact ⟨ap2, ap7⟩
    ·
     rw [if_neg c9] at H
     have c9b0 := decide_eq_false c9
     clear c9
     obtain rfl := Option.some.inj H
     go_enter Tryz.func27, Tryz.ntmps27
     go_wp2_with (first | ((with_reducible refine gate_callee (f := 52) rfl ?_); refine goesL_ (some 8) rfl rfl Tryz.func52 (by kernel_rfl) rfl #[.int .i64 a0] rfl ap3 ?_; (with_reducible refine (cmp_isNaN_int.calls a0 false _ A3.out).mono ?_); rintro e w' ⟨rfl, ⟨nd, rfl⟩⟩; refine ⟨_, rfl, ?_⟩) | ((with_reducible refine gate_callee (f := 52) rfl ?_); refine goesL_ (some 10) rfl rfl Tryz.func52 (by kernel_rfl) rfl #[.int .i64 a1] rfl ap3 ?_; (with_reducible refine (cmp_isNaN_int.calls a1 false _ A4.out).mono ?_); rintro e w' ⟨rfl, ⟨nd, rfl⟩⟩; refine ⟨_, rfl, ?_⟩))
     go_ret
     exact ⟨ap2, ap7⟩
def attr_Order.j0 : Nat → ByteArray → ByteArray → ByteArray → Int → Bool → Option (Int × Int)
 | 0, _, _, _, _, _ => none
 | k + 1, x1, x2, x417000, x417001, x417002 => (attr_both.f k x417000 x417001 x417002 x1 x2).bind fun bt417 => (if bt417.2.2 = 0 then (if x417001 = 4 then ((strconv_Atoi_26.f bt417.1).bind fun bt420 => ((strconv_Atoi_26.f bt417.2.1).bind fun bt422 => ((cmp_Compare_int.f bt420.1 bt422.1).bind fun t424 => (some (t424, 0))))) else ((strings_Compare.f bt417.1 bt417.2.1).bind fun t425 => (some (t425, 0)))) else (some (0, bt417.2.2)))
def attr_Order.f (k : Nat) (a0_0 : ByteArray) (a0_1 : Int) (a0_2 : Bool) (a1 : ByteArray) (a2 : ByteArray) : Option (Int × Int) := if a0_1 = 1 then (attr_Order.j0 k a1 a2 a0_0 a0_1 a0_2) else (if a0_1 = 2 then (attr_Order.j0 k a1 a2 a0_0 a0_1 a0_2) else (if a0_1 = 4 then (attr_Order.j0 k a1 a2 a0_0 a0_1 a0_2) else (some (0, 20))))
theorem attr_Order.mono_l : ∀ k, (∀ y0 y1 y2 y3 y4, LeO (attr_Order.j0 k y0 y1 y2 y3 y4) (attr_Order.j0 (k + 1) y0 y1 y2 y3 y4))
 | 0 => fun _ _ _ _ _ r h => by simp [attr_Order.j0] at h
 | k + 1 => by
  have ih0 := attr_Order.mono_l k
  ·
   intro y0 y1 y2 y3 y4
   unfold attr_Order.j0
   repeat' first
   | (with_reducible exact ih0 _ _ _ _ _)
   | (with_reducible exact attr_both.mono _ _ _ _ _ _)
   | (with_reducible exact LeO.refl _)
   | (with_reducible exact LeO.none _)
   | (with_reducible refine LeO.ite ?_ ?_)
   | (with_reducible refine LeO.bind ?_ (fun _ => ?_))
theorem attr_Order.mono : ∀ a0 a1 a2 a3 a4 k, LeO (attr_Order.f k a0 a1 a2 a3 a4) (attr_Order.f (k + 1) a0 a1 a2 a3 a4) := by
 intro a0 a1 a2 a3 a4 k
 have ih0 := attr_Order.mono_l k
 unfold attr_Order.f
 repeat' first
   | (with_reducible exact ih0 _ _ _ _ _)
   | (with_reducible exact attr_both.mono _ _ _ _ _ _)
   | (with_reducible exact LeO.refl _)
   | (with_reducible exact LeO.none _)
   | (with_reducible refine LeO.ite ?_ ?_)
   | (with_reducible refine LeO.bind ?_ (fun _ => ?_))
set_option maxHeartbeats 8000000 in
set_option maxRecDepth 100000 in
theorem attr_Order.calls (k : Nat) (a0_0 : ByteArray) (a0_1 : Int) (a0_2 : Bool) (a1 : ByteArray) (a2 : ByteArray) (r1 : Int) (r2 : Int) (w : World) (hG : Gw w) (h : attr_Order.f k a0_0 a0_1 a0_2 a1 a2 = some (r1, r2)) :
  Calls Tryz.prog 12 #[.agg #[.string a0_0, .int .i64 a0_1, .bool a0_2], .string a1, .string a2] w fun e w' => e = .returned (.tuple #[.int .i64 r1, .int .i64 r2]) ∧ Below w.heap.size w w' := by
 have hu23 := Tryz.underlying23
 have HB := Aside0.mk (Below.refl w.heap.size w)
 have HG := Aside0.mk hG
 clear hG
 have H : (if a0_1 = 1 then (attr_Order.j0 k a1 a2 a0_0 a0_1 a0_2) else (if a0_1 = 2 then (attr_Order.j0 k a1 a2 a0_0 a0_1 a0_2) else (if a0_1 = 4 then (attr_Order.j0 k a1 a2 a0_0 a0_1 a0_2) else (some (0, 20))))) = some (r1, r2) := h
 clear h
 have HC4 := Aside0.mk H
 clear H
 go_enter Tryz.func12, Tryz.ntmps12
 go_upto_block 0 with (first | ((with_reducible refine gate_dst (N := 3) rfl ?_); refine box_event ?hg (N := 3) ?hd (cs := #[.string a0_0, .int .i64 a0_1, .bool a0_2]) (t := 23) ?hr ?_; (case hd => rfl); (case hg => rfl); (case hr => first | (go_simp; done) | (go_simp; rfl)); intro gb416 hg w5 hbox hb; have n0_ := Aside0.mk (below_step ap1 hb); have n1_ := Aside0.mk (hbox); have n2_ := Aside0.mk ((by rw [hg]; exact (below_size ap1) : w.heap.size ≤ gb416)); have n3_ := Aside0.mk ((by rw [hg]; exact (below_size ap1) : w.heap.size ≤ gb416)); clear HB; have HB := n0_; have BK416 := n1_; have GW416 := n2_; have GE416 := n3_; clear n0_ n1_ n2_ n3_; clear hb hbox hg; have hcz6_0 : w5.cell? ⟨gb416, 0, none⟩ = some (.string a0_0) := (blk_cell BK416.out 0).trans rfl; have hcz6_1 : w5.cell? ⟨gb416, 1, none⟩ = some (.int .i64 a0_1) := (blk_cell BK416.out 1).trans rfl; have hcz6_2 : w5.cell? ⟨gb416, 2, none⟩ = some (.bool a0_2) := (blk_cell BK416.out 2).trans rfl; have hfz6_0 := blk_frozen BK416.out 0; have hfz6_1 := blk_frozen BK416.out 1; have hfz6_2 := blk_frozen BK416.out 2))
 (try simp only [Act.put, List.setIfInBounds_toArray, List.set_cons_zero, List.set_cons_succ])
 go_cut [] (fun wc => ∃ (kq : Nat), Aside0 (attr_Order.j0 kq a1 a2 a0_0 a0_1 a0_2 = some (r1, r2)) ∧ Aside0 (kq ≤ k) ∧ Aside0 (wc.heap[gb416]? = some (.cells #[.string a0_0, .int .i64 a0_1, .bool a0_2] 23 (0, 0))) ∧ Aside0 (Below w.heap.size w wc))
 case first =>
  have H := HC4.out
  clear HC4
  by_cases c7 : a0_1 = 1
  ·
   rw [if_pos c7] at H
   have c7b0 : (a0_1 == 1) = true := beq_iff_eq.mpr c7
   have c7b1 : (a0_1 != 1) = false := bne_eq_false_iff_eq.mpr c7
   clear c7
   (first | rw [c7b0] | (simp only [i64_w, i32_w]; rw [c7b0]) | skip)
   have H' := Aside0.mk H
   clear H
   go_wp2
   first | go_meet | (simp only [c7b0] at *; go_meet)
   case rel => exact ⟨_, H', ⟨by first | omega | exact Nat.le_refl _⟩, ⟨by (with_reducible repeat (first | refine blk_drewN ?_ _ | refine blk_drew ?_ | refine blk_alloc ?_ _)); exact BK416.out⟩, ⟨by repeat (first | (with_reducible first | exact HB.out | apply below_alloc | apply pw_below_drewN | apply below_drew1 | refine below_set ?_ GE416.out) | exact HB.out)⟩⟩
  ·
   rw [if_neg c7] at H
   have c7b0 : (a0_1 == 1) = false := beq_eq_false_iff_ne.mpr c7
   have c7b1 : (a0_1 != 1) = true := bne_iff_ne.mpr c7
   (first | rw [c7b0] | (simp only [i64_w, i32_w]; rw [c7b0]) | skip)
   by_cases c8 : a0_1 = 2
   ·
    rw [if_pos c8] at H
    have c8b0 : (a0_1 == 2) = true := beq_iff_eq.mpr c8
    have c8b1 : (a0_1 != 2) = false := bne_eq_false_iff_eq.mpr c8
    clear c8
    have H' := Aside0.mk H
    clear H
    go_wp2
    first | go_meet | (simp only [c8b0] at *; go_meet) | (simp only [c7b0] at *; go_meet) | (simp only [c7b0] at *; go_meet)
    case rel => exact ⟨_, H', ⟨by first | omega | exact Nat.le_refl _⟩, ⟨by (with_reducible repeat (first | refine blk_drewN ?_ _ | refine blk_drew ?_ | refine blk_alloc ?_ _)); exact BK416.out⟩, ⟨by repeat (first | (with_reducible first | exact HB.out | apply below_alloc | apply pw_below_drewN | apply below_drew1 | refine below_set ?_ GE416.out) | exact HB.out)⟩⟩
   ·
    rw [if_neg c8] at H
    have c8b0 : (a0_1 == 2) = false := beq_eq_false_iff_ne.mpr c8
    have c8b1 : (a0_1 != 2) = true := bne_iff_ne.mpr c8
    by_cases c9 : a0_1 = 4
    ·
     rw [if_pos c9] at H
     have c9b0 : (a0_1 == 4) = true := beq_iff_eq.mpr c9
     have c9b1 : (a0_1 != 4) = false := bne_eq_false_iff_eq.mpr c9
     clear c9
     have H' := Aside0.mk H
     clear H
     go_wp2
     first | go_meet | (simp only [c9b0] at *; go_meet) | (simp only [c8b0] at *; go_meet) | (simp only [c8b0] at *; go_meet)
     case rel => exact ⟨_, H', ⟨by first | omega | exact Nat.le_refl _⟩, ⟨by (with_reducible repeat (first | refine blk_drewN ?_ _ | refine blk_drew ?_ | refine blk_alloc ?_ _)); exact BK416.out⟩, ⟨by repeat (first | (with_reducible first | exact HB.out | apply below_alloc | apply pw_below_drewN | apply below_drew1 | refine below_set ?_ GE416.out) | exact HB.out)⟩⟩
    ·
     rw [if_neg c9] at H
     have c9b0 : (a0_1 == 4) = false := beq_eq_false_iff_ne.mpr c9
     have c9b1 : (a0_1 != 4) = true := bne_iff_ne.mpr c9
     simp only [Option.some.injEq, Prod.mk.injEq] at H
     obtain ⟨rfl, rfl⟩ := H
     go_wp2
     go_ret2
     exact ⟨by first | rfl | (simp [errW_none, errW_some, bne_nil8, beq_nil8]; done) | (simp [errW_none, errW_some] <;> rfl) | (simp [*, errW_none, errW_some] <;> rfl), by repeat (first | (with_reducible first | exact HB.out | apply below_alloc | apply pw_below_drewN | apply below_drew1 | refine below_set ?_ GE416.out) | exact HB.out)⟩
 case rest =>
  clear HC4
  try clear c1
  try clear p2
  try clear c7
  try clear c7b0
  try clear c7b1
  try clear c8
  try clear c8b0
  try clear c8b1
  try clear c9
  try clear c9b0
  try clear c9b1
  try clear hcz6_0
  try clear hcz6_1
  try clear hcz6_2
  try clear hfz6_0
  try clear hfz6_1
  try clear hfz6_2
  obtain ⟨kq, HA, HJ3, BK416, HB⟩ := hcut
  cases kq with
  | zero => exact absurd HA.out (by simp [attr_Order.j0])
  | succ kj3 =>
   have H := HA.out
   clear HA
   simp only [attr_Order.j0] at H
   replace H := Option.bind_eq_some_iff.mp H
   obtain ⟨⟨t417, t418, t419⟩, A100, H⟩ := H
   replace H : (if t419 = 0 then (if a0_1 = 4 then ((strconv_Atoi_26.f t417).bind fun bt420 => ((strconv_Atoi_26.f t418).bind fun bt422 => ((cmp_Compare_int.f bt420.1 bt422.1).bind fun t424 => (some (t424, 0))))) else ((strings_Compare.f t417 t418).bind fun t425 => (some (t425, 0)))) else (some (0, t419))) = some (r1, r2) := H
   have A10 := Aside0.mk A100
   clear A100
   by_cases c11 : t419 = 0
   ·
    rw [if_pos c11] at H
    have c11b0 : (t419 == 0) = true := beq_iff_eq.mpr c11
    have c11b1 : (t419 != 0) = false := bne_eq_false_iff_eq.mpr c11
    clear c11
    by_cases c12 : a0_1 = 4
    ·
     rw [if_pos c12] at H
     have c12b0 : (a0_1 == 4) = true := beq_iff_eq.mpr c12
     have c12b1 : (a0_1 != 4) = false := bne_eq_false_iff_eq.mpr c12
     clear c12
     replace H := Option.bind_eq_some_iff.mp H
     obtain ⟨⟨t420, t421⟩, A130, H⟩ := H
     replace H : ((strconv_Atoi_26.f t418).bind fun bt422 => ((cmp_Compare_int.f t420 bt422.1).bind fun t424 => (some (t424, 0)))) = some (r1, r2) := H
     have A13 := Aside0.mk A130
     clear A130
     replace H := Option.bind_eq_some_iff.mp H
     obtain ⟨⟨t422, t423⟩, A140, H⟩ := H
     replace H : ((cmp_Compare_int.f t420 t422).bind fun t424 => (some (t424, 0))) = some (r1, r2) := H
     have A14 := Aside0.mk A140
     clear A140
     replace H := Option.bind_eq_some_iff.mp H
     obtain ⟨t424, A150, H⟩ := H
     replace H : (some (t424, 0)) = some (r1, r2) := H
     have A15 := Aside0.mk A150
     clear A150
     simp only [Option.some.injEq, Prod.mk.injEq] at H
     obtain ⟨rfl, rfl⟩ := H
     have hcz16_0 : wc.cell? ⟨gb416, 0, none⟩ = some (.string a0_0) := (blk_cell BK416.out 0).trans rfl
     have hcz16_1 : wc.cell? ⟨gb416, 1, none⟩ = some (.int .i64 a0_1) := (blk_cell BK416.out 1).trans rfl
     have hcz16_2 : wc.cell? ⟨gb416, 2, none⟩ = some (.bool a0_2) := (blk_cell BK416.out 2).trans rfl
     have hfz16_0 := blk_frozen BK416.out 0
     have hfz16_1 := blk_frozen BK416.out 1
     have hfz16_2 := blk_frozen BK416.out 2
     go_wp2_with (first | ((with_reducible refine gate_callee (f := 25) rfl ?_); refine goesL_ (some 25) rfl rfl Tryz.func25 (by kernel_rfl) rfl #[.agg #[.string a0_0, .int .i64 a0_1, .bool a0_2], .string a1, .string a2] rfl ap3 ?_; (with_reducible refine (attr_both.calls kj3 a0_0 a0_1 a0_2 a1 a2 t417 t418 t419 _ ?side1 A10.out).mono ?_); (case side1 => first | exact HG.out | (refine Gw.below HG.out ?_; repeat (first | (with_reducible first | exact HB.out | apply below_alloc | apply pw_below_drewN | apply below_drew1 | refine below_set ?_ GE416.out) | exact HB.out))); rintro e w17 ⟨rfl, hb⟩; refine ⟨_, rfl, ?_⟩; have n0_ := Aside0.mk (blk_below (g := gb416) (o := .cells #[.string a0_0, .int .i64 a0_1, .bool a0_2] 23 (0, 0)) (apB BK416.out) hb); have n1_ := Aside0.mk (below_step (apG GE416.out) hb); clear BK416; clear HB; have BK416 := n0_; have HB := n1_; clear n0_ n1_; (try clear hb); (try clear hb2); (try clear hk); (try clear hi); have hcz18_0 : w17.cell? ⟨gb416, 0, none⟩ = some (.string a0_0) := (blk_cell BK416.out 0).trans rfl; have hcz18_1 : w17.cell? ⟨gb416, 1, none⟩ = some (.int .i64 a0_1) := (blk_cell BK416.out 1).trans rfl; have hcz18_2 : w17.cell? ⟨gb416, 2, none⟩ = some (.bool a0_2) := (blk_cell BK416.out 2).trans rfl; have hfz18_0 := blk_frozen BK416.out 0; have hfz18_1 := blk_frozen BK416.out 1; have hfz18_2 := blk_frozen BK416.out 2) | ((with_reducible refine gate_callee (f := 26) rfl ?_); refine goesL_ (some 37) rfl rfl Tryz.func26 (by kernel_rfl) rfl #[.string t417] rfl ap3 ?_; (with_reducible refine (strconv_Atoi_26.calls t417 t420 t421 _ A13.out).mono ?_); rintro e w19 ⟨rfl, hb⟩; refine ⟨_, rfl, ?_⟩; have n0_ := Aside0.mk (blk_below (g := gb416) (o := .cells #[.string a0_0, .int .i64 a0_1, .bool a0_2] 23 (0, 0)) (apB BK416.out) hb); have n1_ := Aside0.mk (below_step (apG GE416.out) hb); clear BK416; clear HB; have BK416 := n0_; have HB := n1_; clear n0_ n1_; (try clear hb); (try clear hb2); (try clear hk); (try clear hi); (try simp only [errW_none, errW_some])) | ((with_reducible refine gate_callee (f := 26) rfl ?_); refine goesL_ (some 42) rfl rfl Tryz.func26 (by kernel_rfl) rfl #[.string t418] rfl ap3 ?_; (with_reducible refine (strconv_Atoi_26.calls t418 t422 t423 _ A14.out).mono ?_); rintro e w20 ⟨rfl, hb⟩; refine ⟨_, rfl, ?_⟩; have n0_ := Aside0.mk (blk_below (g := gb416) (o := .cells #[.string a0_0, .int .i64 a0_1, .bool a0_2] 23 (0, 0)) (apB BK416.out) hb); have n1_ := Aside0.mk (below_step (apG GE416.out) hb); clear BK416; clear HB; have BK416 := n0_; have HB := n1_; clear n0_ n1_; (try clear hb); (try clear hb2); (try clear hk); (try clear hi); (try simp only [errW_none, errW_some])) | ((with_reducible refine gate_callee (f := 27) rfl ?_); refine goesL_ (some 47) rfl rfl Tryz.func27 (by kernel_rfl) rfl #[.int .i64 t420, .int .i64 t422] rfl ap3 ?_; (with_reducible refine (cmp_Compare_int.calls t420 t422 t424 _ A15.out).mono ?_); rintro e w' ⟨rfl, ⟨nd, rfl⟩⟩; refine ⟨_, rfl, ?_⟩))
     go_ret2
     exact ⟨by first | rfl | (simp [errW_none, errW_some, bne_nil8, beq_nil8]; done) | (simp [errW_none, errW_some] <;> rfl) | (simp [*, errW_none, errW_some] <;> rfl), by repeat (first | (with_reducible first | exact HB.out | apply below_alloc | apply pw_below_drewN | apply below_drew1 | refine below_set ?_ GE416.out) | exact HB.out)⟩
    ·
     rw [if_neg c12] at H
     have c12b0 : (a0_1 == 4) = false := beq_eq_false_iff_ne.mpr c12
     have c12b1 : (a0_1 != 4) = true := bne_iff_ne.mpr c12
     replace H := Option.bind_eq_some_iff.mp H
     obtain ⟨t425, A210, H⟩ := H
     replace H : (some (t425, 0)) = some (r1, r2) := H
     have A21 := Aside0.mk A210
     clear A210
     simp only [Option.some.injEq, Prod.mk.injEq] at H
     obtain ⟨rfl, rfl⟩ := H
     have hcz22_0 : wc.cell? ⟨gb416, 0, none⟩ = some (.string a0_0) := (blk_cell BK416.out 0).trans rfl
     have hcz22_1 : wc.cell? ⟨gb416, 1, none⟩ = some (.int .i64 a0_1) := (blk_cell BK416.out 1).trans rfl
     have hcz22_2 : wc.cell? ⟨gb416, 2, none⟩ = some (.bool a0_2) := (blk_cell BK416.out 2).trans rfl
     have hfz22_0 := blk_frozen BK416.out 0
     have hfz22_1 := blk_frozen BK416.out 1
     have hfz22_2 := blk_frozen BK416.out 2
     go_wp2_with (first | ((with_reducible refine gate_callee (f := 25) rfl ?_); refine goesL_ (some 25) rfl rfl Tryz.func25 (by kernel_rfl) rfl #[.agg #[.string a0_0, .int .i64 a0_1, .bool a0_2], .string a1, .string a2] rfl ap3 ?_; (with_reducible refine (attr_both.calls kj3 a0_0 a0_1 a0_2 a1 a2 t417 t418 t419 _ ?side1 A10.out).mono ?_); (case side1 => first | exact HG.out | (refine Gw.below HG.out ?_; repeat (first | (with_reducible first | exact HB.out | apply below_alloc | apply pw_below_drewN | apply below_drew1 | refine below_set ?_ GE416.out) | exact HB.out))); rintro e w23 ⟨rfl, hb⟩; refine ⟨_, rfl, ?_⟩; have n0_ := Aside0.mk (blk_below (g := gb416) (o := .cells #[.string a0_0, .int .i64 a0_1, .bool a0_2] 23 (0, 0)) (apB BK416.out) hb); have n1_ := Aside0.mk (below_step (apG GE416.out) hb); clear BK416; clear HB; have BK416 := n0_; have HB := n1_; clear n0_ n1_; (try clear hb); (try clear hb2); (try clear hk); (try clear hi); have hcz24_0 : w23.cell? ⟨gb416, 0, none⟩ = some (.string a0_0) := (blk_cell BK416.out 0).trans rfl; have hcz24_1 : w23.cell? ⟨gb416, 1, none⟩ = some (.int .i64 a0_1) := (blk_cell BK416.out 1).trans rfl; have hcz24_2 : w23.cell? ⟨gb416, 2, none⟩ = some (.bool a0_2) := (blk_cell BK416.out 2).trans rfl; have hfz24_0 := blk_frozen BK416.out 0; have hfz24_1 := blk_frozen BK416.out 1; have hfz24_2 := blk_frozen BK416.out 2) | ((with_reducible refine gate_callee (f := 28) rfl ?_); refine goesL_ (some 50) rfl rfl Tryz.func28 (by kernel_rfl) rfl #[.string t417, .string t418] rfl ap3 ?_; (with_reducible refine (strings_Compare.calls t417 t418 t425 _ A21.out).mono ?_); rintro e w' ⟨rfl, ⟨nd, rfl⟩⟩; refine ⟨_, rfl, ?_⟩))
     go_ret2
     exact ⟨by first | rfl | (simp [errW_none, errW_some, bne_nil8, beq_nil8]; done) | (simp [errW_none, errW_some] <;> rfl) | (simp [*, errW_none, errW_some] <;> rfl), by repeat (first | (with_reducible first | exact HB.out | apply below_alloc | apply pw_below_drewN | apply below_drew1 | refine below_set ?_ GE416.out) | exact HB.out)⟩
   ·
    rw [if_neg c11] at H
    have c11b0 : (t419 == 0) = false := beq_eq_false_iff_ne.mpr c11
    have c11b1 : (t419 != 0) = true := bne_iff_ne.mpr c11
    simp only [Option.some.injEq, Prod.mk.injEq] at H
    obtain ⟨rfl, rfl⟩ := H
    have hcz25_0 : wc.cell? ⟨gb416, 0, none⟩ = some (.string a0_0) := (blk_cell BK416.out 0).trans rfl
    have hcz25_1 : wc.cell? ⟨gb416, 1, none⟩ = some (.int .i64 a0_1) := (blk_cell BK416.out 1).trans rfl
    have hcz25_2 : wc.cell? ⟨gb416, 2, none⟩ = some (.bool a0_2) := (blk_cell BK416.out 2).trans rfl
    have hfz25_0 := blk_frozen BK416.out 0
    have hfz25_1 := blk_frozen BK416.out 1
    have hfz25_2 := blk_frozen BK416.out 2
    go_wp2_with (first | ((with_reducible refine gate_callee (f := 25) rfl ?_); refine goesL_ (some 25) rfl rfl Tryz.func25 (by kernel_rfl) rfl #[.agg #[.string a0_0, .int .i64 a0_1, .bool a0_2], .string a1, .string a2] rfl ap3 ?_; (with_reducible refine (attr_both.calls kj3 a0_0 a0_1 a0_2 a1 a2 t417 t418 t419 _ ?side1 A10.out).mono ?_); (case side1 => first | exact HG.out | (refine Gw.below HG.out ?_; repeat (first | (with_reducible first | exact HB.out | apply below_alloc | apply pw_below_drewN | apply below_drew1 | refine below_set ?_ GE416.out) | exact HB.out))); rintro e w26 ⟨rfl, hb⟩; refine ⟨_, rfl, ?_⟩; have n0_ := Aside0.mk (blk_below (g := gb416) (o := .cells #[.string a0_0, .int .i64 a0_1, .bool a0_2] 23 (0, 0)) (apB BK416.out) hb); have n1_ := Aside0.mk (below_step (apG GE416.out) hb); clear BK416; clear HB; have BK416 := n0_; have HB := n1_; clear n0_ n1_; (try clear hb); (try clear hb2); (try clear hk); (try clear hi)))
    go_ret2
    exact ⟨by first | rfl | (simp [errW_none, errW_some, bne_nil8, beq_nil8]; done) | (simp [errW_none, errW_some] <;> rfl) | (simp [*, errW_none, errW_some] <;> rfl), by repeat (first | (with_reducible first | exact HB.out | apply below_alloc | apply pw_below_drewN | apply below_drew1 | refine below_set ?_ GE416.out) | exact HB.out)⟩
end Go.Proofs.YtpklcnpmppaaoaaGreatDoor.Print
namespace Go.Proofs.YtpklcnpmppaaoaaGreatDoor.Print
open Go.RowKit Go.Proofs.YtpklcnpmppaaoaaGreatDoorW.PrintWords Go.Proofs.YtpklcnpmppaaoaaGreatDoorW.PrintLast Go.Proofs.YtpklcnpmppaaoaaGreatDoorW.PrintMore
set_option linter.unusedVariables false
set_option linter.unusedSimpArgs false
def lowB (c : UInt8) : UInt8 := if 65 ≤ c.toNat ∧ c.toNat ≤ 90 then c + 32 else c
def attr_lower.f (a0 : ByteArray) : Option ByteArray := if a0.size ≤ 1000000 then some ⟨(a0.data.toList.map lowB).toArray⟩ else none
def byteVs (l : List UInt8) : List Value := l.map fun b => Value.int .u8 b.toNat
def ConvRow (g : Nat) (l : List UInt8) (w : World) : Prop := ∃ sp : Array Value, w.heap[g]? = some (.cells ((byteVs l).toArray ++ sp) 5 (l.length + sp.size, l.length + sp.size + 1))
theorem ConvRow.cell {g : Nat} {l : List UInt8} {w : World} (h : ConvRow g l w) (i : Nat) (hi : i < l.length) : w.cell? ⟨g, i, none⟩ = some (.int .u8 (l.getD i 0).toNat) := by
  obtain ⟨sp, h⟩ := h
  simp [World.cell?, h, byteVs, Array.getElem?_append, List.getD_eq_getElem?_getD, hi]
theorem ConvRow.frozen {g : Nat} {l : List UInt8} {w : World} (h : ConvRow g l w) (i : Nat) (hi : i < l.length) : w.frozen? ⟨g, i, none⟩ = false := by
  obtain ⟨sp, h⟩ := h
  simp [World.frozen?, h]; omega
theorem ConvRow.lt {g : Nat} {l : List UInt8} {w : World} (h : ConvRow g l w) : g < w.heap.size := by
  obtain ⟨sp, h⟩ := h
  exact blk_lt h
theorem ConvRow.drewN {g : Nat} {l : List UInt8} {w : World} (h : ConvRow g l w) (n : Nat) : ConvRow g l (w.drewN n) := h
theorem ConvRow.set {g : Nat} {l : List UInt8} {w : World} (h : ConvRow g l w) (i : Nat) (b : UInt8) (hi : i < l.length) : ConvRow g (l.set i b) (w.setCell ⟨g, i, none⟩ (.int .u8 b.toNat)) := by
  obtain ⟨sp, h⟩ := h
  refine ⟨sp, ?_⟩
  have e : ((byteVs l).toArray ++ sp).setIfInBounds i (.int .u8 b.toNat) = (byteVs (l.set i b)).toArray ++ sp := by
    rw [Array.setIfInBounds_append_left (by simpa [byteVs] using hi)]
    simp [byteVs, List.map_set]
  simp [World.setCell, h, Array.getElem?_modify, e]
theorem ConvRow.reads {g : Nat} {l : List UInt8} {w : World} (h : ConvRow g l w) (hl : l.length ≤ 9223372036854775807) : ReadsInt w .u8 (some ⟨g, 0, none⟩) l.length (l.map fun b => (b.toNat : Int)) := by
  refine ⟨by simp, hl, fun _ => ⟨_, rfl, fun j hj => ?_⟩⟩
  rw [add_plain, h.cell j hj]
  simp [List.getD_eq_getElem?_getD, List.getElem?_eq_getElem hj]
theorem convRow_new (w : World) (s : ByteArray) : ConvRow w.heap.size s.data.toList (Lib.bytesWorld w 5 s) := by
  refine ⟨Array.replicate (grownCap w s.size 0 5 - s.size) (.int .u8 0), ?_⟩
  rw [Lib.bytesWorld_at_new]
  have e : Lib.bytesCells w 5 s = (byteVs s.data.toList).toArray ++ Array.replicate (grownCap w s.size 0 5 - s.size) (.int .u8 0) := by
    unfold Lib.bytesCells byteVs
    congr 1
    apply Array.ext'
    simp
  rw [e]
  simp [byteVs]
theorem strOfNums_bytes (l : List UInt8) : strOfNums (l.map fun b => (b.toNat : Int)) = ⟨l.toArray⟩ := by
  unfold strOfNums
  congr 1
  apply Array.ext'
  induction l with
  | nil => rfl
  | cons x l ih => simp at ih ⊢; exact ih
def lowAt (l : List UInt8) (k : Nat) : List UInt8 := (l.take k).map lowB ++ l.drop k
theorem lowAt_len (l : List UInt8) (k : Nat) (h : k ≤ l.length) : (lowAt l k).length = l.length := by simp [lowAt]; omega
theorem lowAt_get (l : List UInt8) (k : Nat) (h : k < l.length) : (lowAt l k).getD k 0 = l.getD k 0 := by
  have h1 : ((l.take k).map lowB).length = k := by simp; omega
  unfold lowAt
  rw [List.getD_eq_getElem?_getD, List.getElem?_append_right (by omega), h1, Nat.sub_self, List.getElem?_drop, Nat.add_zero, List.getD_eq_getElem?_getD]
theorem lowAt_step (l : List UInt8) (k : Nat) (h : k < l.length) : (lowAt l k).set k (lowB (l.getD k 0)) = lowAt l (k + 1) := by
  have h1 : ((l.take k).map lowB).length = k := by simp; omega
  unfold lowAt
  have e : l.drop k = l[k] :: l.drop (k + 1) := List.drop_eq_getElem_cons h
  rw [List.set_append_right _ _ (by omega), h1, Nat.sub_self, List.take_succ_eq_append_getElem h, e, List.set_cons_zero, List.map_append, List.append_assoc]
  simp [List.getD_eq_getElem?_getD, h]
theorem lowAt_same (l : List UInt8) (k : Nat) (h : k < l.length) (hc : lowB (l.getD k 0) = l.getD k 0) : lowAt l k = lowAt l (k + 1) := by
  rw [← lowAt_step l k h, hc, ← lowAt_get l k h]
  refine (List.set_getElem_self (i := k) (by rw [lowAt_len _ _ (by omega)]; exact h)).symm.trans ?_
  congr 1
  rw [List.getD_eq_getElem?_getD, List.getElem?_eq_getElem (by rw [lowAt_len _ _ (by omega)]; exact h)]
  rfl
set_option maxHeartbeats 4000000 in
set_option maxRecDepth 1000000 in
theorem attr_lower.calls (a0 : ByteArray) (r : ByteArray) (w : World) (h : attr_lower.f a0 = some r) :
    Calls Tryz.prog 39 #[.string a0] w fun e w' => e = .returned (.string r) ∧ Below w.heap.size w w' := by
  unfold attr_lower.f at h
  by_cases c : a0.size ≤ 1000000
  · rw [if_pos c] at h
    injection h with h
    subst h
    have kb := fun W => print_bytes (P := Tryz.prog) 9 82 5 Tryz.underlying9 Tryz.underlying82 Tryz.underlying5 a0 W
    have hn : a0.data.toList.length = a0.size := data_length a0
    go_enter Tryz.func39, Tryz.ntmps39
    go_wp2
    go_loopw [10] (fun i wr => ∃ (k : Nat), k ≤ a0.size ∧ i = .int .i64 k ∧ Aside0 (ConvRow w.heap.size (lowAt a0.data.toList k) wr) ∧ Aside0 (Below w.heap.size w wr)) (fun i wr => a0.size - (intOf i).toNat)
    case atStart => exact ⟨0, Nat.zero_le _, rfl, ⟨convRow_new w a0⟩, ⟨bytes_below (Below.refl _ _) (Nat.le_refl _) _ _⟩⟩
    case round =>
      obtain ⟨k, hk, rfl, HR, HB⟩ := hrel
      by_cases hlt : k < a0.size
      · have hl := lowAt_len a0.data.toList k (by omega)
        have hc := HR.out.cell k (by omega)
        rw [lowAt_get a0.data.toList k (by omega)] at hc
        have hf := HR.out.frozen k (by omega)
        have HS := fun b => Aside0.mk (HR.out.set k b (by omega))
        generalize hx : a0.data.toList.getD k 0 = x at *
        have hby : (x.toNat : Int) < 256 := by have := x.toNat_lt; omega
        by_cases h1 : 65 ≤ x.toNat
        · by_cases h2 : x.toNat ≤ 90
          · have hlo : lowB x = x + 32 := by unfold lowB; rw [if_pos ⟨h1, h2⟩]
            have h32 : ((x + 32).toNat : Int) = (x.toNat : Int) + 32 := by rw [UInt8.toNat_add]; show (((x.toNat + 32) % 256 : Nat) : Int) = _; omega
            have HS2 := Aside0.mk (show ConvRow w.heap.size (lowAt a0.data.toList (k + 1)) (wr.setCell ⟨w.heap.size, k, none⟩ (.int .u8 ((x.toNat : Int) + 32))) by have := (HS (lowB x)).out; rw [← hx] at this; rw [lowAt_step _ _ (by omega), hx, hlo, h32] at this; exact this)
            clear HS hlo h32
            go_wp2
            go_roundw
            case rel => exact ⟨k + 1, by omega, by go_num, HS2, ⟨below_set HB.out (Nat.le_refl _)⟩⟩
            case measure => simp [intOf]; omega
          · clear HS
            have hlo : lowB x = x := by unfold lowB; rw [if_neg (by omega)]
            go_wp2
            go_roundw
            case rel => exact ⟨k + 1, by omega, by go_num, ⟨by rw [← lowAt_same _ _ (by omega) (by rw [hx]; exact hlo)]; exact HR.out⟩, ⟨HB.out⟩⟩
            case measure => simp [intOf]; omega
        · clear HS
          have hlo : lowB x = x := by unfold lowB; rw [if_neg (by omega)]
          go_wp2
          go_roundw
          case rel => exact ⟨k + 1, by omega, by go_num, ⟨by rw [← lowAt_same _ _ (by omega) (by rw [hx]; exact hlo)]; exact HR.out⟩, ⟨HB.out⟩⟩
          case measure => simp [intOf]; omega
      · obtain rfl : k = a0.size := by omega
        have hl := lowAt_len a0.data.toList a0.size (by omega)
        have e0 : lowAt a0.data.toList a0.size = a0.data.toList.map lowB := by
          unfold lowAt
          rw [List.take_of_length_le (by omega), List.drop_eq_nil_of_le (by omega), List.append_nil]
        have hr := HR.out.reads (by omega)
        rw [hl, hn] at hr
        have kc := string_of_reads (P := Tryz.prog) (src := 82) (dst := 9) (c := grownCap w a0.size 0 5) Tryz.underlying82 Tryz.underlying5 Tryz.underlying9 hr
        rw [strOfNums_bytes, e0] at kc
        clear hr hl e0
        go_wp2
        go_ret
        exact ⟨rfl, HB.out⟩
  · rw [if_neg c] at h; cases h
def findIn : List (ByteArray × Int × Bool) → ByteArray → ByteArray × Int × Bool × Bool
  | [], _ => (⟨#[]⟩, 0, false, false)
  | x :: l, s => if s = x.1 then (x.1, x.2.1, x.2.2, true) else findIn l s
def attr_Find.f (a0 : ByteArray) : Option (ByteArray × Int × Bool × Bool) := (attr_lower.f a0).map (findIn attrTab)
theorem attrTab_len : attrTab.length = 20 := rfl
def attrAt (k : Nat) : ByteArray × Int × Bool := attrTab.getD k default
theorem attrCells_at : ∀ k, k < 20 → attrCells.extract (k * 3) (k * 3 + 3) = #[.string (attrAt k).1, .int .i64 (attrAt k).2.1, .bool (attrAt k).2.2]
  | 0, _ | 1, _ | 2, _ | 3, _ | 4, _ | 5, _ | 6, _ | 7, _ | 8, _ | 9, _ | 10, _ | 11, _ | 12, _ | 13, _ | 14, _ | 15, _ | 16, _ | 17, _ | 18, _ | 19, _ => rfl
  | n + 20, h => absurd h (by omega)
theorem attr_index (k : Nat) (hk : k < 20) (cs : Array Value) (hcs : cs = attrCells) (x : ByteArray × Int × Bool) (hx : attrAt k = x) (W : World) :
    (Instr.index 63 (.agg cs) (.int .i64 (k : Int))).run Tryz.prog W = .ok (.agg #[.string x.1, .int .i64 x.2.1, .bool x.2.2]) W := by
  subst hcs; subst hx
  have h1 : 0 ≤ (k : Int) ∧ (k : Int) < ((20 : Nat) : Int) := by omega
  simp [Instr.index, run_underlying Tryz.underlying63, h1, Tryz.sizeOf23, Tryz.isAgg23, Result.andThen, attrCells_at k hk, go_sem]
  omega
theorem attr_load (W : World) (cs : Array Value) (hcs : cs = attrCells) (t : TypeId) (fr : Nat × Nat) (h : W.heap[0]? = some (.cells attrCells t fr)) : (loadVar 63 ⟨0, 0, none⟩).run Tryz.prog W = .ok (.agg cs) W := by
  subst hcs
  exact run_loadVar_row W _ t _ attrCells fr _ h Tryz.underlying63 rfl (by kernel_rfl)
theorem attr_load_run {a : Act} {o : Oper} {W : World} {cs : Array Value} (ho : o.op = .load 63 (.global 0)) (hk : (loadVar 63 ⟨0, 0, none⟩).run Tryz.prog W = .ok (.agg cs) W) : (execOp a.eval o).run Tryz.prog W = .ok (.value (.agg cs)) W := by
  have he : a.eval (.global 0) = .pointer (some ⟨0, 0, none⟩) := rfl
  unfold execOp
  simp only [ho, he, Instr.loadAt, Instr.sureAddr, Sem.run_bind, Sem.run_pure, Result.andThen_ok, hk]
theorem findIn_at (k : Nat) (hk : k < 20) (s : ByteArray) : findIn (attrTab.drop k) s = if s = (attrAt k).1 then ((attrAt k).1, (attrAt k).2.1, (attrAt k).2.2, true) else findIn (attrTab.drop (k + 1)) s := by
  have h := List.drop_eq_getElem_cons (l := attrTab) (i := k) (by rw [attrTab_len]; exact hk)
  have e : attrAt k = attrTab[k]'(by rw [attrTab_len]; exact hk) := by
    unfold attrAt
    rw [List.getD_eq_getElem?_getD, List.getElem?_eq_getElem (by rw [attrTab_len]; exact hk)]; rfl
  rw [h, findIn, e]
set_option maxHeartbeats 4000000 in
set_option maxRecDepth 1000000 in
theorem attr_Find.calls (a0 : ByteArray) (r1 : ByteArray) (r2 : Int) (r3 : Bool) (r4 : Bool) (w : World) (hG : Gw w) (h : attr_Find.f a0 = some (r1, r2, r3, r4)) :
    Calls Tryz.prog 16 #[.string a0] w fun e w' => e = .returned (.tuple #[.agg #[.string r1, .int .i64 r2, .bool r3], .bool r4]) ∧ Below w.heap.size w w' := by
  obtain ⟨s, h1, h2⟩ := Option.map_eq_some_iff.1 h
  obtain ⟨cs, hcs⟩ : ∃ cs, cs = attrCells := ⟨_, rfl⟩
  have HC := Aside0.mk hcs
  have H1 := Aside0.mk h1
  have H2 := Aside0.mk h2
  have HG := Aside0.mk hG
  have hu23 := Tryz.underlying23
  clear h h1 h2 hG hcs
  have hI : ∀ (k : Nat) (hk : k < 20) (x : ByteArray × Int × Bool) (hx : attrAt k = x) (W : World), (Instr.index 63 (.agg cs) (.int .i64 (k : Int))).run Tryz.prog W = .ok (.agg #[.string x.1, .int .i64 x.2.1, .bool x.2.2]) W := fun k hk x hx W => attr_index k hk cs HC.out x hx W
  have HI := Aside0.mk hI
  clear hI
  go_enter Tryz.func16, Tryz.ntmps16
  go_wp2_with (first | (go_at_call 39; (with_reducible refine (attr_lower.calls _ _ _ H1.out).mono ?_); rintro e w1 ⟨rfl, hb⟩; obtain ⟨t_, fr_, ht_⟩ := ((HG.out.alloc _).below hb).types; have kl := attr_load w1 cs HC.out t_ fr_ ht_; replace hb := Aside0.mk hb; replace kl := Aside0.mk kl; clear ht_) | ((with_reducible refine gate_dst (N := 8) rfl ?_); refine Kd.event_run rfl (attr_load_run rfl kl.out) ?_))
  go_loopw [9] (fun i wr => ∃ (k : Nat), k ≤ 20 ∧ i = .int .i64 k ∧ Aside0 (findIn (attrTab.drop k) s = (r1, r2, r3, r4)) ∧ Aside0 (wr.heap[w.heap.size]? = some (.cells #[.string ⟨#[]⟩, .int .i64 0, .bool false] 23 (0, 0))) ∧ Aside0 (Below w.heap.size w wr)) (fun i wr => 20 - (intOf i).toNat)
  case atStart => exact ⟨0, by omega, rfl, ⟨H2.out⟩, ⟨(hb.out.block _ (blk_lt (blk_new w _))).trans (blk_new w _)⟩, ⟨below_then (below_alloc (Below.refl _ _) _) (Nat.le_of_lt (blk_lt (blk_new w _))) hb.out⟩⟩
  case round =>
    obtain ⟨k, hk, rfl, HF, HBK, HB⟩ := hrel
    have hc0 : wr.cell? ⟨w.heap.size, 0, none⟩ = some (.string ⟨#[]⟩) := (blk_cell HBK.out 0).trans rfl
    have hc1 : wr.cell? ⟨w.heap.size, 1, none⟩ = some (.int .i64 0) := (blk_cell HBK.out 1).trans rfl
    have hc2 : wr.cell? ⟨w.heap.size, 2, none⟩ = some (.bool false) := (blk_cell HBK.out 2).trans rfl
    have hgl := blk_lt HBK.out
    have hgn : ¬ w.heap.size = wr.heap.size := Nat.ne_of_lt hgl
    have hf0 := blk_frozen HBK.out 0
    have hf1 := blk_frozen HBK.out 1
    have hf2 := blk_frozen HBK.out 2
    by_cases hlt : k < 20
    · have hfi := findIn_at k hlt s
      have hI := HI.out k hlt _ rfl
      generalize attrAt k = x at *
      rw [HF.out] at hfi
      by_cases hq : s = x.1
      · rw [if_pos hq] at hfi
        simp only [Prod.mk.injEq] at hfi
        obtain ⟨rfl, rfl, rfl, rfl⟩ := hfi
        subst hq
        clear HF
        go_wp2
        refine bodyPost_ret (results_ct rfl _ _ w.heap.size 23 #[.string x.1, .int .i64 x.2.1, .bool x.2.2] (0, 0) _ rfl (by (with_reducible repeat (first | refine blk_drewN ?_ _ | refine blk_drew ?_ | refine blk_alloc ?_ _)); refine blk_put (cs := #[.string x.1, .int .i64 x.2.1, .bool false]) ?_ 2 _ rfl; (with_reducible repeat (first | refine blk_drewN ?_ _ | refine blk_drew ?_ | refine blk_alloc ?_ _)); refine blk_put (cs := #[.string x.1, .int .i64 0, .bool false]) ?_ 1 _ rfl; (with_reducible repeat (first | refine blk_drewN ?_ _ | refine blk_drew ?_ | refine blk_alloc ?_ _)); refine blk_put (cs := #[.string ⟨#[]⟩, .int .i64 0, .bool false]) ?_ 0 _ rfl; (with_reducible repeat (first | refine blk_drewN ?_ _ | refine blk_drew ?_ | refine blk_alloc ?_ _)); exact HBK.out) Tryz.underlying23 rfl (by kernel_rfl)) rfl ?_
        exact ⟨rfl, by repeat (first | exact HB.out | apply below_alloc | refine below_set ?_ (Nat.le_refl _) | refine below_set ?_ (below_size HB.out))⟩
      · rw [if_neg hq] at hfi
        have HF2 := Aside0.mk hfi.symm
        have hqb : (x.1.toList == s.toList) = false := by
          rw [beq_eq_false_iff_ne]
          intro h
          exact hq (ByteArray.ext (Array.ext' (by rw [Lib.toList_data, Lib.toList_data] at h; exact h.symm)))
        clear HF hfi hq
        go_wp2
        go_roundw
        case rel => exact ⟨k + 1, by omega, by go_num, HF2, ⟨by (with_reducible repeat (first | refine blk_drewN ?_ _ | refine blk_drew ?_ | refine blk_alloc ?_ _)); exact HBK.out⟩, ⟨by repeat (first | exact HB.out | apply below_alloc | refine below_set ?_ (Nat.le_refl _) | refine below_set ?_ (below_size HB.out))⟩⟩
        case measure => simp [intOf]; omega
    · obtain rfl : k = 20 := by omega
      have hE := HF.out
      rw [show attrTab.drop 20 = [] from rfl] at hE
      simp only [findIn, Prod.mk.injEq] at hE
      obtain ⟨rfl, rfl, rfl, rfl⟩ := hE
      go_wp2
      refine bodyPost_ret (results_ct rfl _ _ w.heap.size 23 #[.string ⟨#[]⟩, .int .i64 0, .bool false] (0, 0) _ rfl (by (with_reducible repeat (first | refine blk_drewN ?_ _ | refine blk_drew ?_ | refine blk_alloc ?_ _)); refine blk_put (cs := #[.string ⟨#[]⟩, .int .i64 0, .bool false]) ?_ 2 _ rfl; (with_reducible repeat (first | refine blk_drewN ?_ _ | refine blk_drew ?_ | refine blk_alloc ?_ _)); refine blk_put (cs := #[.string ⟨#[]⟩, .int .i64 0, .bool false]) ?_ 1 _ rfl; (with_reducible repeat (first | refine blk_drewN ?_ _ | refine blk_drew ?_ | refine blk_alloc ?_ _)); refine blk_put (cs := #[.string ⟨#[]⟩, .int .i64 0, .bool false]) ?_ 0 _ rfl; (with_reducible repeat (first | refine blk_drewN ?_ _ | refine blk_drew ?_ | refine blk_alloc ?_ _)); exact HBK.out) Tryz.underlying23 rfl (by kernel_rfl)) rfl ?_
      exact ⟨rfl, by repeat (first | exact HB.out | apply below_alloc | refine below_set ?_ (Nat.le_refl _) | refine below_set ?_ (below_size HB.out))⟩
end Go.Proofs.YtpklcnpmppaaoaaGreatDoor.Print
namespace Go.Proofs.YtpklcnpmppaaoaaGreatDoor.Print
open Go.RowKit Go.Proofs.YtpklcnpmppaaoaaGreatDoorW.PrintWords Go.Proofs.YtpklcnpmppaaoaaGreatDoorW.PrintLast Go.Proofs.YtpklcnpmppaaoaaGreatDoorW.PrintMore
attribute [local go_sem] max2_int min2_int max_two min_two max_three min_three max_four min_four
set_option linter.unusedVariables false
set_option linter.unusedSimpArgs false
def L16awake.f (k : Nat)  : Option (Bool) := (attr_Find.f (⟨#[67, 78]⟩ : ByteArray)).bind fun bt462 => ((attr_Find.f (⟨#[117, 105, 100, 110, 117, 109, 98, 101, 114]⟩ : ByteArray)).bind fun bt467 => ((attr_Equal.f k bt462.1 bt462.2.1 bt462.2.2.1 (⟨#[65, 110, 110, 32, 32, 66]⟩ : ByteArray) (⟨#[97, 110, 110, 32, 98]⟩ : ByteArray)).bind fun bt472 => ((attr_Order.f k bt467.1 bt467.2.1 bt467.2.2.1 (⟨#[57]⟩ : ByteArray) (⟨#[49, 48]⟩ : ByteArray)).bind fun bt474 => ((attr_Part.f k bt462.1 bt462.2.1 bt462.2.2.1 (⟨#[65, 110, 110, 97, 98, 101, 108]⟩ : ByteArray) (⟨#[97, 110]⟩ : ByteArray) ([] : List ByteArray) (⟨#[101, 108]⟩ : ByteArray)).bind fun bt476 => (if bt462.2.2.2 = true then (if bt467.2.2.2 = true then (if bt472.1 = true then (if bt472.2 = 0 then (if bt474.1 = (-1) then (if bt474.2 = 0 then (if bt476.1 = true then (some (bt476.2 == 0)) else (some false)) else (some false)) else (some false)) else (some false)) else (some false)) else (some false)) else (some false))))))
theorem L16awake.mono : ∀ k, LeO (L16awake.f k ) (L16awake.f (k + 1) ) := by
 intro  k
 unfold L16awake.f
 repeat' first
   | (with_reducible exact attr_Equal.mono _ _ _ _ _ _)
   | (with_reducible exact attr_Order.mono _ _ _ _ _ _)
   | (with_reducible exact attr_Part.mono _ _ _ _ _ _ _ _)
   | (with_reducible exact LeO.refl _)
   | (with_reducible exact LeO.none _)
   | (with_reducible refine LeO.ite ?_ ?_)
   | (with_reducible refine LeO.bind ?_ (fun _ => ?_))
set_option maxHeartbeats 8000000 in
set_option maxRecDepth 100000 in
theorem L16awake.le (r : Bool) : ∀ d k, L16awake.f k = some r → L16awake.f (k + d) = some r
 | 0, k, h => h
 | d + 1, k, h => L16awake.mono (k + d) r (L16awake.le r d k h)
theorem L16awake.yes {k : Nat} {r : Bool} (h : L16awake.f k = some r) : r = true := by
 have h1 := L16awake.le r 60 k h
 have h2 := L16awake.le true k 60 (by kernel_rfl)
 rw [Nat.add_comm] at h2
 exact Option.some.inj (h1.symm.trans h2)
theorem L16awake.calls (k : Nat)  (r : Bool) (w : World) (hG : Gw w) (h : L16awake.f k  = some r) :
  Calls Tryz.prog 9 #[] w fun e w' => e = .returned (.bool r) ∧ Below w.heap.size w w' := by
 have hu23 := Tryz.underlying23
 have HB := Aside0.mk (Below.refl w.heap.size w)
 have HG := Aside0.mk hG
 clear hG
 have hyes := Aside0.mk (L16awake.yes h)
 have H : ((attr_Find.f (⟨#[67, 78]⟩ : ByteArray)).bind fun bt462 => ((attr_Find.f (⟨#[117, 105, 100, 110, 117, 109, 98, 101, 114]⟩ : ByteArray)).bind fun bt467 => ((attr_Equal.f k bt462.1 bt462.2.1 bt462.2.2.1 (⟨#[65, 110, 110, 32, 32, 66]⟩ : ByteArray) (⟨#[97, 110, 110, 32, 98]⟩ : ByteArray)).bind fun bt472 => ((attr_Order.f k bt467.1 bt467.2.1 bt467.2.2.1 (⟨#[57]⟩ : ByteArray) (⟨#[49, 48]⟩ : ByteArray)).bind fun bt474 => ((attr_Part.f k bt462.1 bt462.2.1 bt462.2.2.1 (⟨#[65, 110, 110, 97, 98, 101, 108]⟩ : ByteArray) (⟨#[97, 110]⟩ : ByteArray) ([] : List ByteArray) (⟨#[101, 108]⟩ : ByteArray)).bind fun bt476 => (if bt462.2.2.2 = true then (if bt467.2.2.2 = true then (if bt472.1 = true then (if bt472.2 = 0 then (if bt474.1 = (-1) then (if bt474.2 = 0 then (if bt476.1 = true then (some (bt476.2 == 0)) else (some false)) else (some false)) else (some false)) else (some false)) else (some false)) else (some false)) else (some false))))))) = some r := h
 clear h
 replace H := Option.bind_eq_some_iff.mp H
 obtain ⟨⟨t462, t463, t464, t465⟩, A10, H⟩ := H
 replace H : ((attr_Find.f (⟨#[117, 105, 100, 110, 117, 109, 98, 101, 114]⟩ : ByteArray)).bind fun bt467 => ((attr_Equal.f k t462 t463 t464 (⟨#[65, 110, 110, 32, 32, 66]⟩ : ByteArray) (⟨#[97, 110, 110, 32, 98]⟩ : ByteArray)).bind fun bt472 => ((attr_Order.f k bt467.1 bt467.2.1 bt467.2.2.1 (⟨#[57]⟩ : ByteArray) (⟨#[49, 48]⟩ : ByteArray)).bind fun bt474 => ((attr_Part.f k t462 t463 t464 (⟨#[65, 110, 110, 97, 98, 101, 108]⟩ : ByteArray) (⟨#[97, 110]⟩ : ByteArray) ([] : List ByteArray) (⟨#[101, 108]⟩ : ByteArray)).bind fun bt476 => (if t465 = true then (if bt467.2.2.2 = true then (if bt472.1 = true then (if bt472.2 = 0 then (if bt474.1 = (-1) then (if bt474.2 = 0 then (if bt476.1 = true then (some (bt476.2 == 0)) else (some false)) else (some false)) else (some false)) else (some false)) else (some false)) else (some false)) else (some false)))))) = some r := H
 have A1 := Aside0.mk A10
 clear A10
 replace H := Option.bind_eq_some_iff.mp H
 obtain ⟨⟨t467, t468, t469, t470⟩, A20, H⟩ := H
 replace H : ((attr_Equal.f k t462 t463 t464 (⟨#[65, 110, 110, 32, 32, 66]⟩ : ByteArray) (⟨#[97, 110, 110, 32, 98]⟩ : ByteArray)).bind fun bt472 => ((attr_Order.f k t467 t468 t469 (⟨#[57]⟩ : ByteArray) (⟨#[49, 48]⟩ : ByteArray)).bind fun bt474 => ((attr_Part.f k t462 t463 t464 (⟨#[65, 110, 110, 97, 98, 101, 108]⟩ : ByteArray) (⟨#[97, 110]⟩ : ByteArray) ([] : List ByteArray) (⟨#[101, 108]⟩ : ByteArray)).bind fun bt476 => (if t465 = true then (if t470 = true then (if bt472.1 = true then (if bt472.2 = 0 then (if bt474.1 = (-1) then (if bt474.2 = 0 then (if bt476.1 = true then (some (bt476.2 == 0)) else (some false)) else (some false)) else (some false)) else (some false)) else (some false)) else (some false)) else (some false))))) = some r := H
 have A2 := Aside0.mk A20
 clear A20
 replace H := Option.bind_eq_some_iff.mp H
 obtain ⟨⟨t472, t473⟩, A30, H⟩ := H
 replace H : ((attr_Order.f k t467 t468 t469 (⟨#[57]⟩ : ByteArray) (⟨#[49, 48]⟩ : ByteArray)).bind fun bt474 => ((attr_Part.f k t462 t463 t464 (⟨#[65, 110, 110, 97, 98, 101, 108]⟩ : ByteArray) (⟨#[97, 110]⟩ : ByteArray) ([] : List ByteArray) (⟨#[101, 108]⟩ : ByteArray)).bind fun bt476 => (if t465 = true then (if t470 = true then (if t472 = true then (if t473 = 0 then (if bt474.1 = (-1) then (if bt474.2 = 0 then (if bt476.1 = true then (some (bt476.2 == 0)) else (some false)) else (some false)) else (some false)) else (some false)) else (some false)) else (some false)) else (some false)))) = some r := H
 have A3 := Aside0.mk A30
 clear A30
 replace H := Option.bind_eq_some_iff.mp H
 obtain ⟨⟨t474, t475⟩, A40, H⟩ := H
 replace H : ((attr_Part.f k t462 t463 t464 (⟨#[65, 110, 110, 97, 98, 101, 108]⟩ : ByteArray) (⟨#[97, 110]⟩ : ByteArray) ([] : List ByteArray) (⟨#[101, 108]⟩ : ByteArray)).bind fun bt476 => (if t465 = true then (if t470 = true then (if t472 = true then (if t473 = 0 then (if t474 = (-1) then (if t475 = 0 then (if bt476.1 = true then (some (bt476.2 == 0)) else (some false)) else (some false)) else (some false)) else (some false)) else (some false)) else (some false)) else (some false))) = some r := H
 have A4 := Aside0.mk A40
 clear A40
 replace H := Option.bind_eq_some_iff.mp H
 obtain ⟨⟨t476, t477⟩, A50, H⟩ := H
 replace H : (if t465 = true then (if t470 = true then (if t472 = true then (if t473 = 0 then (if t474 = (-1) then (if t475 = 0 then (if t476 = true then (some (t477 == 0)) else (some false)) else (some false)) else (some false)) else (some false)) else (some false)) else (some false)) else (some false)) = some r := H
 have A5 := Aside0.mk A50
 clear A50
 by_cases c6 : t465 = true
 ·
  subst c6
  rw [if_pos rfl] at H
  by_cases c7 : t470 = true
  ·
   subst c7
   rw [if_pos rfl] at H
   by_cases c8 : t472 = true
   ·
    subst c8
    rw [if_pos rfl] at H
    by_cases c9 : t473 = 0
    ·
     rw [if_pos c9] at H
     have c9b0 : (t473 == 0) = true := beq_iff_eq.mpr c9
     have c9b1 : (t473 != 0) = false := bne_eq_false_iff_eq.mpr c9
     clear c9
     by_cases c10 : t474 = (-1)
     ·
      rw [if_pos c10] at H
      have c10b0 : (t474 == (-1)) = true := beq_iff_eq.mpr c10
      have c10b1 : (t474 != (-1)) = false := bne_eq_false_iff_eq.mpr c10
      clear c10
      by_cases c11 : t475 = 0
      ·
       rw [if_pos c11] at H
       have c11b0 : (t475 == 0) = true := beq_iff_eq.mpr c11
       have c11b1 : (t475 != 0) = false := bne_eq_false_iff_eq.mpr c11
       clear c11
       by_cases c12 : t476 = true
       ·
        subst c12
        rw [if_pos rfl] at H
        obtain rfl := Option.some.inj H
        go_enter Tryz.func9, Tryz.ntmps9
        go_wp2_with (first | ((with_reducible refine gate_callee (f := 16) rfl ?_); refine goesL_ (some 12) rfl rfl Tryz.func16 (by kernel_rfl) rfl #[.string (⟨#[67, 78]⟩ : ByteArray)] rfl ap3 ?_; (with_reducible refine (attr_Find.calls (⟨#[67, 78]⟩ : ByteArray) t462 t463 t464 true _ ?side1 A1.out).mono ?_); (case side1 => exact ap6); rintro e w13 ⟨rfl, hb⟩; refine ⟨_, rfl, ?_⟩; have n0_ := Aside0.mk (below_step ap1 hb); clear HB; have HB := n0_; clear n0_; (try clear hb); (try clear hb2); (try clear hk); (try clear hi)) | ((with_reducible refine gate_dst (N := 1) rfl ?_); refine box_event ?hg (N := 1) ?hd (cs := #[.string (⟨#[]⟩ : ByteArray), .int .i64 0, .bool false]) (t := 23) ?hr ?_; (case hd => rfl); (case hg => rfl); (case hr => first | (go_simp; done) | (go_simp; rfl)); intro gb466 hg w14 hbox hb; have n0_ := Aside0.mk (below_step ap1 hb); have n1_ := Aside0.mk (hbox); have n2_ := Aside0.mk ((by rw [hg]; exact (below_size ap1) : w.heap.size ≤ gb466)); have n3_ := Aside0.mk ((by rw [hg]; exact (below_size ap1) : w.heap.size ≤ gb466)); clear HB; have HB := n0_; have BK466 := n1_; have GW466 := n2_; have GE466 := n3_; clear n0_ n1_ n2_ n3_; clear hb hbox hg; have hcz15_0 : w14.cell? ⟨gb466, 0, none⟩ = some (.string (⟨#[]⟩ : ByteArray)) := (blk_cell BK466.out 0).trans rfl; have hcz15_1 : w14.cell? ⟨gb466, 1, none⟩ = some (.int .i64 0) := (blk_cell BK466.out 1).trans rfl; have hcz15_2 : w14.cell? ⟨gb466, 2, none⟩ = some (.bool false) := (blk_cell BK466.out 2).trans rfl; have hfz15_0 := blk_frozen BK466.out 0; have hfz15_1 := blk_frozen BK466.out 1; have hfz15_2 := blk_frozen BK466.out 2) | ((with_reducible refine gate_callee (f := 16) rfl ?_); refine goesL_ (some 16) rfl rfl Tryz.func16 (by kernel_rfl) rfl #[.string (⟨#[117, 105, 100, 110, 117, 109, 98, 101, 114]⟩ : ByteArray)] rfl ap3 ?_; (with_reducible refine (attr_Find.calls (⟨#[117, 105, 100, 110, 117, 109, 98, 101, 114]⟩ : ByteArray) t467 t468 t469 true _ ?side1 A2.out).mono ?_); (case side1 => first | exact HG.out | (refine Gw.below HG.out ?_; repeat (first | (with_reducible first | exact HB.out | apply below_alloc | apply pw_below_drewN | apply below_drew1 | refine below_set ?_ GE466.out) | exact HB.out))); rintro e w16 ⟨rfl, hb⟩; refine ⟨_, rfl, ?_⟩; have n0_ := Aside0.mk (blk_below (g := gb466) (o := .cells #[.string t462, .int .i64 t463, .bool t464] 23 (0, 0)) (by (with_reducible repeat (first | refine blk_drewN ?_ _ | refine blk_drew ?_ | refine blk_alloc ?_ _)); refine blk_put (cs := #[.string t462, .int .i64 t463, .bool false]) ?_ 2 _ rfl; (with_reducible repeat (first | refine blk_drewN ?_ _ | refine blk_drew ?_ | refine blk_alloc ?_ _)); refine blk_put (cs := #[.string t462, .int .i64 0, .bool false]) ?_ 1 _ rfl; (with_reducible repeat (first | refine blk_drewN ?_ _ | refine blk_drew ?_ | refine blk_alloc ?_ _)); refine blk_put (cs := #[.string (⟨#[]⟩ : ByteArray), .int .i64 0, .bool false]) ?_ 0 _ rfl; (with_reducible repeat (first | refine blk_drewN ?_ _ | refine blk_drew ?_ | refine blk_alloc ?_ _)); exact BK466.out) hb); have n1_ := Aside0.mk (below_step (apG GE466.out) hb); clear BK466; clear HB; have BK466 := n0_; have HB := n1_; clear n0_ n1_; (try clear hb); (try clear hb2); (try clear hk); (try clear hi)) | ((with_reducible refine gate_dst (N := 3) rfl ?_); refine box_event ?hg (N := 3) ?hd (cs := #[.string (⟨#[]⟩ : ByteArray), .int .i64 0, .bool false]) (t := 23) ?hr ?_; (case hd => rfl); (case hg => rfl); (case hr => first | (go_simp; done) | (go_simp; rfl)); intro gb471 hg w17 hbox hb; have n0_ := Aside0.mk (blk_below (g := gb466) (o := .cells #[.string t462, .int .i64 t463, .bool t464] 23 (0, 0)) (apB BK466.out) hb); have n1_ := Aside0.mk (below_step (apG GE466.out) hb); have n2_ := Aside0.mk (hbox); have n3_ := Aside0.mk ((by rw [hg]; exact (below_size (apG GE466.out)) : w.heap.size ≤ gb471)); have n4_ := Aside0.mk ((by rw [hg]; exact (below_size (apG GE466.out)) : w.heap.size ≤ gb471)); have n5_ := Aside0.mk ((by rw [hg]; exact Nat.ne_of_lt (blk_lt (g := gb466) (o := .cells #[.string t462, .int .i64 t463, .bool t464] 23 (0, 0)) (apB BK466.out)) : gb466 ≠ gb471)); have n6_ := Aside0.mk ((by rw [hg]; exact Nat.ne_of_gt (blk_lt (g := gb466) (o := .cells #[.string t462, .int .i64 t463, .bool t464] 23 (0, 0)) (apB BK466.out)) : gb471 ≠ gb466)); clear BK466; clear HB; have BK466 := n0_; have HB := n1_; have BK471 := n2_; have GW471 := n3_; have GE471 := n4_; have NB466_471 := n5_; have NB471_466 := n6_; clear n0_ n1_ n2_ n3_ n4_ n5_ n6_; clear hb hbox hg; have hnb18 := NB471_466.out; have hnc18 := NB466_471.out; have hcz19_0 : w17.cell? ⟨gb471, 0, none⟩ = some (.string (⟨#[]⟩ : ByteArray)) := (blk_cell BK471.out 0).trans rfl; have hcz19_1 : w17.cell? ⟨gb471, 1, none⟩ = some (.int .i64 0) := (blk_cell BK471.out 1).trans rfl; have hcz19_2 : w17.cell? ⟨gb471, 2, none⟩ = some (.bool false) := (blk_cell BK471.out 2).trans rfl; have hfz19_0 := blk_frozen BK471.out 0; have hfz19_1 := blk_frozen BK471.out 1; have hfz19_2 := blk_frozen BK471.out 2; have hcz20_0 : w17.cell? ⟨gb466, 0, none⟩ = some (.string t462) := (blk_cell BK466.out 0).trans rfl; have hcz20_1 : w17.cell? ⟨gb466, 1, none⟩ = some (.int .i64 t463) := (blk_cell BK466.out 1).trans rfl; have hcz20_2 : w17.cell? ⟨gb466, 2, none⟩ = some (.bool t464) := (blk_cell BK466.out 2).trans rfl; have hfz20_0 := blk_frozen BK466.out 0; have hfz20_1 := blk_frozen BK466.out 1; have hfz20_2 := blk_frozen BK466.out 2) | ((with_reducible refine gate_callee (f := 10) rfl ?_); refine goesL_ (some 21) rfl rfl Tryz.func10 (by kernel_rfl) rfl #[.agg #[.string t462, .int .i64 t463, .bool t464], .string (⟨#[65, 110, 110, 32, 32, 66]⟩ : ByteArray), .string (⟨#[97, 110, 110, 32, 98]⟩ : ByteArray)] rfl ap3 ?_; (with_reducible refine (attr_Equal.calls k t462 t463 t464 (⟨#[65, 110, 110, 32, 32, 66]⟩ : ByteArray) (⟨#[97, 110, 110, 32, 98]⟩ : ByteArray) true t473 _ ?side1 A3.out).mono ?_); (case side1 => first | exact HG.out | (refine Gw.below HG.out ?_; repeat (first | (with_reducible first | exact HB.out | apply below_alloc | apply pw_below_drewN | apply below_drew1 | refine below_set ?_ GE466.out | refine below_set ?_ GE471.out) | exact HB.out))); rintro e w21 ⟨rfl, hb⟩; refine ⟨_, rfl, ?_⟩; have n0_ := Aside0.mk (blk_below (g := gb466) (o := .cells #[.string t462, .int .i64 t463, .bool t464] 23 (0, 0)) (by (with_reducible repeat (first | refine blk_drewN ?_ _ | refine blk_drew ?_ | refine blk_alloc ?_ _)); refine blk_far ?_ NB466_471.out _; (with_reducible repeat (first | refine blk_drewN ?_ _ | refine blk_drew ?_ | refine blk_alloc ?_ _)); refine blk_far ?_ NB466_471.out _; (with_reducible repeat (first | refine blk_drewN ?_ _ | refine blk_drew ?_ | refine blk_alloc ?_ _)); refine blk_far ?_ NB466_471.out _; (with_reducible repeat (first | refine blk_drewN ?_ _ | refine blk_drew ?_ | refine blk_alloc ?_ _)); exact BK466.out) hb); have n1_ := Aside0.mk (blk_below (g := gb471) (o := .cells #[.string t467, .int .i64 t468, .bool t469] 23 (0, 0)) (by (with_reducible repeat (first | refine blk_drewN ?_ _ | refine blk_drew ?_ | refine blk_alloc ?_ _)); refine blk_put (cs := #[.string t467, .int .i64 t468, .bool false]) ?_ 2 _ rfl; (with_reducible repeat (first | refine blk_drewN ?_ _ | refine blk_drew ?_ | refine blk_alloc ?_ _)); refine blk_put (cs := #[.string t467, .int .i64 0, .bool false]) ?_ 1 _ rfl; (with_reducible repeat (first | refine blk_drewN ?_ _ | refine blk_drew ?_ | refine blk_alloc ?_ _)); refine blk_put (cs := #[.string (⟨#[]⟩ : ByteArray), .int .i64 0, .bool false]) ?_ 0 _ rfl; (with_reducible repeat (first | refine blk_drewN ?_ _ | refine blk_drew ?_ | refine blk_alloc ?_ _)); exact BK471.out) hb); have n2_ := Aside0.mk (below_step (by repeat (first | (with_reducible first | exact HB.out | apply below_alloc | apply pw_below_drewN | apply below_drew1 | refine below_set ?_ GE466.out | refine below_set ?_ GE471.out) | exact HB.out)) hb); clear BK466; clear BK471; clear HB; have BK466 := n0_; have BK471 := n1_; have HB := n2_; clear n0_ n1_ n2_; (try clear hb); (try clear hb2); (try clear hk); (try clear hi); have hcz22_0 : w21.cell? ⟨gb471, 0, none⟩ = some (.string t467) := (blk_cell BK471.out 0).trans rfl; have hcz22_1 : w21.cell? ⟨gb471, 1, none⟩ = some (.int .i64 t468) := (blk_cell BK471.out 1).trans rfl; have hcz22_2 : w21.cell? ⟨gb471, 2, none⟩ = some (.bool t469) := (blk_cell BK471.out 2).trans rfl; have hfz22_0 := blk_frozen BK471.out 0; have hfz22_1 := blk_frozen BK471.out 1; have hfz22_2 := blk_frozen BK471.out 2) | ((with_reducible refine gate_callee (f := 12) rfl ?_); refine goesL_ (some 26) rfl rfl Tryz.func12 (by kernel_rfl) rfl #[.agg #[.string t467, .int .i64 t468, .bool t469], .string (⟨#[57]⟩ : ByteArray), .string (⟨#[49, 48]⟩ : ByteArray)] rfl ap3 ?_; (with_reducible refine (attr_Order.calls k t467 t468 t469 (⟨#[57]⟩ : ByteArray) (⟨#[49, 48]⟩ : ByteArray) t474 t475 _ ?side1 A4.out).mono ?_); (case side1 => first | exact HG.out | (refine Gw.below HG.out ?_; repeat (first | (with_reducible first | exact HB.out | apply below_alloc | apply pw_below_drewN | apply below_drew1 | refine below_set ?_ GE466.out | refine below_set ?_ GE471.out) | exact HB.out))); rintro e w23 ⟨rfl, hb⟩; refine ⟨_, rfl, ?_⟩; have n0_ := Aside0.mk (blk_below (g := gb466) (o := .cells #[.string t462, .int .i64 t463, .bool t464] 23 (0, 0)) (apB BK466.out) hb); have n1_ := Aside0.mk (blk_below (g := gb471) (o := .cells #[.string t467, .int .i64 t468, .bool t469] 23 (0, 0)) (apB BK471.out) hb); have n2_ := Aside0.mk (below_step (by repeat (first | (with_reducible first | exact HB.out | apply below_alloc | apply pw_below_drewN | apply below_drew1 | refine below_set ?_ GE466.out | refine below_set ?_ GE471.out) | exact HB.out)) hb); clear BK466; clear BK471; clear HB; have BK466 := n0_; have BK471 := n1_; have HB := n2_; clear n0_ n1_ n2_; (try clear hb); (try clear hb2); (try clear hk); (try clear hi); have hcz24_0 : w23.cell? ⟨gb466, 0, none⟩ = some (.string t462) := (blk_cell BK466.out 0).trans rfl; have hcz24_1 : w23.cell? ⟨gb466, 1, none⟩ = some (.int .i64 t463) := (blk_cell BK466.out 1).trans rfl; have hcz24_2 : w23.cell? ⟨gb466, 2, none⟩ = some (.bool t464) := (blk_cell BK466.out 2).trans rfl; have hfz24_0 := blk_frozen BK466.out 0; have hfz24_1 := blk_frozen BK466.out 1; have hfz24_2 := blk_frozen BK466.out 2) | ((with_reducible refine gate_callee (f := 14) rfl ?_); refine goesL_ (some 31) rfl rfl Tryz.func14 (by kernel_rfl) rfl #[.agg #[.string t462, .int .i64 t463, .bool t464], .string (⟨#[65, 110, 110, 97, 98, 101, 108]⟩ : ByteArray), .string (⟨#[97, 110]⟩ : ByteArray), .slice none 0 0, .string (⟨#[101, 108]⟩ : ByteArray)] rfl ap3 ?_; (refine (attr_Part.calls k t462 t463 t464 (⟨#[65, 110, 110, 97, 98, 101, 108]⟩ : ByteArray) (⟨#[97, 110]⟩ : ByteArray) _ _ ([] : List ByteArray) (⟨#[101, 108]⟩ : ByteArray) true t477 _ ?side1 ?side2 ?side3 A5.out).mono ?_); (case side1 => exact Kd.C_nil _ _); (case side2 => exact Nat.le_refl _); (case side3 => first | exact HG.out | (refine Gw.below HG.out ?_; repeat (first | (with_reducible first | exact HB.out | apply below_alloc | apply pw_below_drewN | apply below_drew1 | refine below_set ?_ GE466.out | refine below_set ?_ GE471.out) | exact HB.out))); rintro e w25 ⟨rfl, hb⟩; refine ⟨_, rfl, ?_⟩; have n0_ := Aside0.mk (blk_below (g := gb466) (o := .cells #[.string t462, .int .i64 t463, .bool t464] 23 (0, 0)) (apB BK466.out) hb); have n1_ := Aside0.mk (blk_below (g := gb471) (o := .cells #[.string t467, .int .i64 t468, .bool t469] 23 (0, 0)) (apB BK471.out) hb); have n2_ := Aside0.mk (below_step (by repeat (first | (with_reducible first | exact HB.out | apply below_alloc | apply pw_below_drewN | apply below_drew1 | refine below_set ?_ GE466.out | refine below_set ?_ GE471.out) | exact HB.out)) hb); clear BK466; clear BK471; clear HB; have BK466 := n0_; have BK471 := n1_; have HB := n2_; clear n0_ n1_ n2_; (try clear hb); (try clear hb2); (try clear hk); (try clear hi)))
        go_ret
        exact ⟨by first | rfl | (simp [errW_none, errW_some, bne_nil8, beq_nil8]; done) | (simp [errW_none, errW_some] <;> rfl) | (simp [*, errW_none, errW_some] <;> rfl), by repeat (first | (with_reducible first | exact HB.out | apply below_alloc | apply pw_below_drewN | apply below_drew1 | refine below_set ?_ GE466.out | refine below_set ?_ GE471.out) | exact HB.out)⟩
       ·
        replace c12 := Bool.eq_false_iff.mpr c12
        subst c12
        rw [if_neg (show ¬ (false = true) by decide)] at H
        exact absurd ((Option.some.inj H).trans hyes.out) (by decide)
      ·
       rw [if_neg c11] at H
       have c11b0 : (t475 == 0) = false := beq_eq_false_iff_ne.mpr c11
       have c11b1 : (t475 != 0) = true := bne_iff_ne.mpr c11
       exact absurd ((Option.some.inj H).trans hyes.out) (by decide)
     ·
      rw [if_neg c10] at H
      have c10b0 : (t474 == (-1)) = false := beq_eq_false_iff_ne.mpr c10
      have c10b1 : (t474 != (-1)) = true := bne_iff_ne.mpr c10
      exact absurd ((Option.some.inj H).trans hyes.out) (by decide)
    ·
     rw [if_neg c9] at H
     have c9b0 : (t473 == 0) = false := beq_eq_false_iff_ne.mpr c9
     have c9b1 : (t473 != 0) = true := bne_iff_ne.mpr c9
     exact absurd ((Option.some.inj H).trans hyes.out) (by decide)
   ·
    replace c8 := Bool.eq_false_iff.mpr c8
    subst c8
    rw [if_neg (show ¬ (false = true) by decide)] at H
    exact absurd ((Option.some.inj H).trans hyes.out) (by decide)
  ·
   replace c7 := Bool.eq_false_iff.mpr c7
   subst c7
   rw [if_neg (show ¬ (false = true) by decide)] at H
   exact absurd ((Option.some.inj H).trans hyes.out) (by decide)
 ·
  replace c6 := Bool.eq_false_iff.mpr c6
  subst c6
  rw [if_neg (show ¬ (false = true) by decide)] at H
  exact absurd ((Option.some.inj H).trans hyes.out) (by decide)
end Go.Proofs.YtpklcnpmppaaoaaGreatDoor.Print
namespace Go.Proofs.YtpklcnpmppaaoaaGreatDoor.Print
open Go.RowKit Go.Proofs.YtpklcnpmppaaoaaGreatDoorW.PrintWords Go.Proofs.YtpklcnpmppaaoaaGreatDoorW.PrintLast Go.Proofs.YtpklcnpmppaaoaaGreatDoorW.PrintMore Go.Proofs.YtpklcnpmppaaoaaGreatDoor.Pure
set_option linter.unusedVariables false
set_option linter.unusedSimpArgs false
set_option maxRecDepth 100000 in
theorem awake16 : L16awake.f 60 = some true := by kernel_rfl
theorem awake16_ev : Ev (fun k => L16awake.f k) true := ev_mono L16awake.mono 60 awake16
def lowOf (s : ByteArray) : ByteArray := mkB ((bl s).map lowB)
theorem alower_f (s : ByteArray) (hs : s.size ≤ 1000000) : attr_lower.f s = some (lowOf s) := by
  unfold attr_lower.f
  rw [if_pos hs]; rfl
theorem afind_f (s : ByteArray) (hs : s.size ≤ 1000000) : attr_Find.f s = some (findIn attrTab (lowOf s)) := by
  unfold attr_Find.f
  rw [alower_f s hs]; rfl
end Go.Proofs.YtpklcnpmppaaoaaGreatDoor.Print
namespace Go.Proofs.YtpklcnpmppaaoaaGreatDoor.Print
open Go.RowKit Go.Proofs.YtpklcnpmppaaoaaGreatDoorW.PrintWords Go.Proofs.YtpklcnpmppaaoaaGreatDoorW.PrintLast Go.Proofs.YtpklcnpmppaaoaaGreatDoorW.PrintMore
attribute [local go_sem] max2_int min2_int max_two min_two max_three min_three max_four min_four
set_option linter.unusedVariables false
set_option linter.unusedSimpArgs false
def L16edge.l0 : Nat → ByteArray → Int → Option (Int)
 | 0, _, _ => none
 | k + 1, x0, x1 => if x1 < (x0.size : Int) then (if 0 ≤ x1 then (if (bt x0 x1) ≥ 128 then (if (bt x0 x1) < 192 then (L16edge.l0 k x0 (wrap64 (x1 + 1))) else (some x1)) else (some x1)) else (none)) else (some x1)
def L16edge.f (k : Nat) (a0 : ByteArray) (a1 : Int) : Option (Int) := if (IntKind.u64.wrap (wrap64 ((a0.size : Int) + 1))) = 0 then (none) else (L16edge.l0 k a0 (wrap64 (Int.tmod (IntKind.u64.wrap (a1)) (IntKind.u64.wrap (wrap64 ((a0.size : Int) + 1))))))
set_option maxHeartbeats 8000000 in
set_option maxRecDepth 100000 in
theorem L16edge.calls (k : Nat) (a0 : ByteArray) (a1 : Int) (r : Int) (w : World) (h : L16edge.f k a0 a1 = some r) :
  Calls Tryz.prog 18 #[.string a0, .int .i64 a1] w fun e w' => e = .returned (.int .i64 r) ∧ Drawn0 w w' := by
 have H : (if (IntKind.u64.wrap (wrap64 ((a0.size : Int) + 1))) = 0 then (none) else (L16edge.l0 k a0 (wrap64 (Int.tmod (IntKind.u64.wrap (a1)) (IntKind.u64.wrap (wrap64 ((a0.size : Int) + 1))))))) = some r := h
 clear h
 by_cases c3 : (IntKind.u64.wrap (wrap64 ((a0.size : Int) + 1))) = 0
 ·
  rw [if_pos c3] at H
  exact absurd H (by simp)
 ·
  rw [if_neg c3] at H
  have c3b0 : ((IntKind.u64.wrap (wrap64 ((a0.size : Int) + 1))) == 0) = false := beq_eq_false_iff_ne.mpr c3
  have c3b1 : ((IntKind.u64.wrap (wrap64 ((a0.size : Int) + 1))) != 0) = true := bne_iff_ne.mpr c3
  have H' := Aside0.mk H
  clear H
  go_enter Tryz.func18, Tryz.ntmps18
  go_wp2
  go_loopg [1] k (fun kq v1 w' => ∃ (x1_1 : Int), v1 = .int .i64 x1_1 ∧ Aside0 (L16edge.l0 kq a0 x1_1 = some r) ∧ Aside0 (kq ≤ k) ∧ Drawn0 w w')
  case atStart => exact ⟨(wrap64 (Int.tmod (IntKind.u64.wrap (a1)) (IntKind.u64.wrap (wrap64 ((a0.size : Int) + 1))))), ap2, H', ⟨Nat.le_refl _⟩, by repeat (first | exact Drawn0.refl _ | apply Drawn0.step)⟩
  case round =>
   clear H'
   try clear c1
   try clear p2
   try clear c3
   try clear c3b0
   try clear c3b1
   obtain ⟨x1_1, rfl, HA, HK1, ⟨m1, rfl⟩⟩ := hrel
   cases gk with
   | zero => exact absurd HA.out (by simp [L16edge.l0])
   | succ k1 =>
    have H := HA.out
    clear HA
    simp only [L16edge.l0] at H
    by_cases c4 : x1_1 < (a0.size : Int)
    ·
     rw [if_pos c4] at H
     have c4b0 := decide_eq_true c4
     clear c4
     by_cases c5 : 0 ≤ x1_1
     ·
      rw [if_pos c5] at H
      have c5b0 := decide_eq_true c5
      clear c5
      by_cases c7 : (bt a0 x1_1) ≥ 128
      ·
       rw [if_pos c7] at H
       have c7b0 := decide_eq_true c7
       clear c7
       by_cases c9 : (bt a0 x1_1) < 192
       ·
        rw [if_pos c9] at H
        have c9b0 := decide_eq_true c9
        clear c9
        have H' := Aside0.mk H
        clear H
        have p6 : 0 ≤ (x1_1 : Int) := of_decide_eq_true ap0
        have q6 : x1_1 < (a0.size : Int) := of_decide_eq_true ap0
        have hx6 := bt_at a0 x1_1
        replace p6 := eq_true p6
        replace q6 := eq_true q6
        have p8 : 0 ≤ (x1_1 : Int) := of_decide_eq_true ap0
        have q8 : x1_1 < (a0.size : Int) := of_decide_eq_true ap0
        have hx8 := bt_at a0 x1_1
        replace p8 := eq_true p8
        replace q8 := eq_true q8
        go_wp2
        go_roundg k1
        case measure => have := HK1.out; omega
        case rel => exact ⟨(wrap64 (x1_1 + 1)), ap2, H', ⟨by have := HK1.out; omega⟩, by repeat (first | exact Drawn0.refl _ | apply Drawn0.step)⟩
       ·
        rw [if_neg c9] at H
        have c9b0 := decide_eq_false c9
        clear c9
        obtain rfl := Option.some.inj H
        have p6 : 0 ≤ (x1_1 : Int) := of_decide_eq_true ap0
        have q6 : x1_1 < (a0.size : Int) := of_decide_eq_true ap0
        have hx6 := bt_at a0 x1_1
        replace p6 := eq_true p6
        replace q6 := eq_true q6
        have p8 : 0 ≤ (x1_1 : Int) := of_decide_eq_true ap0
        have q8 : x1_1 < (a0.size : Int) := of_decide_eq_true ap0
        have hx8 := bt_at a0 x1_1
        replace p8 := eq_true p8
        replace q8 := eq_true q8
        go_wp2
        go_ret
        exact ⟨ap2, ap7⟩
      ·
       rw [if_neg c7] at H
       have c7b0 := decide_eq_false c7
       clear c7
       obtain rfl := Option.some.inj H
       have p6 : 0 ≤ (x1_1 : Int) := of_decide_eq_true ap0
       have q6 : x1_1 < (a0.size : Int) := of_decide_eq_true ap0
       have hx6 := bt_at a0 x1_1
       replace p6 := eq_true p6
       replace q6 := eq_true q6
       go_wp2
       go_ret
       exact ⟨ap2, ap7⟩
     ·
      rw [if_neg c5] at H
      exact absurd H (by simp)
    ·
     rw [if_neg c4] at H
     have c4b0 := decide_eq_false c4
     clear c4
     obtain rfl := Option.some.inj H
     go_wp2
     go_ret
     exact ⟨ap2, ap7⟩
mutual
def L16AttrEnds.j0 : Nat → Int → Int → Bool → ByteArray → Bool → ByteArray → Int → Bool → Option (Bool)
 | 0, _, _, _, _, _, _, _, _ => none
 | k + 1, x1, x2, x8, x9, x46, x856000, x856001, x856002 => if x46 = true then (some x8) else ((L16edge.f k x9 x1).bind fun t858 => ((L16edge.f k x9 x2).bind fun t859 => (if t858 > t859 then (L16AttrEnds.j1 k x9 t859 t858 x856000 x856001 x856002) else (L16AttrEnds.j1 k x9 t858 t859 x856000 x856001 x856002))))
def L16AttrEnds.j1 : Nat → ByteArray → Int → Int → ByteArray → Int → Bool → Option (Bool)
 | 0, _, _, _, _, _, _ => none
 | k + 1, x9, x11, x12, x856000, x856001, x856002 => if x11 > 0 then (if 0 ≤ x11 then (if x11 ≤ (x9.size : Int) then ((attr_Part.f k x856000 x856001 x856002 x9 (x9.extract 0 (x11 : Int).toNat) ([] : List ByteArray) (⟨#[]⟩ : ByteArray)).bind fun bt860 => (if bt860.1 = true then (if bt860.2 = 0 then (L16AttrEnds.j2 k x9 x11 x12 x856000 x856001 x856002) else (some false)) else (some false))) else (none)) else (none)) else (L16AttrEnds.j2 k x9 x11 x12 x856000 x856001 x856002)
def L16AttrEnds.j2 : Nat → ByteArray → Int → Int → ByteArray → Int → Bool → Option (Bool)
 | 0, _, _, _, _, _, _ => none
 | k + 1, x9, x11, x12, x856000, x856001, x856002 => if x12 < (x9.size : Int) then (if 0 ≤ x12 then (if x12 ≤ (x9.size : Int) then ((attr_Part.f k x856000 x856001 x856002 x9 (⟨#[]⟩ : ByteArray) ([] : List ByteArray) (x9.extract (x12 : Int).toNat x9.size)).bind fun bt862 => (if bt862.1 = true then (if bt862.2 = 0 then (if 0 ≤ x11 then (if x11 ≤ (x9.size : Int) then (if x11 ≤ x12 then ((attr_Part.f k x856000 x856001 x856002 x9 (x9.extract 0 (x11 : Int).toNat) (([x9.extract (x11 : Int).toNat (x12 : Int).toNat] : List ByteArray)) (x9.extract (x12 : Int).toNat x9.size)).bind fun bt867 => (if bt867.1 = true then (some (bt867.2 == 0)) else (some false))) else (none)) else (none)) else (none)) else (some false)) else (some false))) else (none)) else (none)) else (if 0 ≤ x11 then (if x11 ≤ (x9.size : Int) then (if x11 ≤ x12 then (if x12 ≤ (x9.size : Int) then (if 0 ≤ x12 then ((attr_Part.f k x856000 x856001 x856002 x9 (x9.extract 0 (x11 : Int).toNat) (([x9.extract (x11 : Int).toNat (x12 : Int).toNat] : List ByteArray)) (x9.extract (x12 : Int).toNat x9.size)).bind fun bt872 => (if bt872.1 = true then (some (bt872.2 == 0)) else (some false))) else (none)) else (none)) else (none)) else (none)) else (none))
end
def L16AttrEnds.f (k : Nat) (a0 : ByteArray) (a1 : Int) (a2 : Int) : Option (Bool) := (L16awake.f k).bind fun t850 => (if t850 = true then ((attr_Find.f (⟨#[115, 101, 114, 105, 97, 108, 110, 117, 109, 98, 101, 114]⟩ : ByteArray)).bind fun bt851 => ((R13Ready.f k a0 false).bind fun bt856 => (if bt851.2.2.2 = true then (if bt856.2 = 0 then (if (bt856.1.size : Int) = 0 then (L16AttrEnds.j0 k a1 a2 bt851.2.2.2 bt856.1 true bt851.1 bt851.2.1 bt851.2.2.1) else (L16AttrEnds.j0 k a1 a2 bt851.2.2.2 bt856.1 (decide ((bt856.1.size : Int) > 1000)) bt851.1 bt851.2.1 bt851.2.2.1)) else (L16AttrEnds.j0 k a1 a2 bt851.2.2.2 bt856.1 true bt851.1 bt851.2.1 bt851.2.2.1)) else (L16AttrEnds.j0 k a1 a2 bt851.2.2.2 bt856.1 true bt851.1 bt851.2.1 bt851.2.2.1)))) else (some false))
def L16AttrEnds.T14 : Bool × List (List Nat × List Nat) := (true, [([], []), ([], []), ([], []), ([], []), ([2, 3], [2, 3]), ([0, 1, 4], [0, 1, 4]), ([5], [5]), ([6], [6]), ([6], [6]), ([7, 5, 0, 1, 2, 3, 4, 5, 6, 7], [7]), ([8, 9, 0, 1, 2, 3, 4, 5, 6, 7, 8, 9], [8])])
def L16AttrEnds.B14 : List Nat := [0, 0, 0, 0, 12, 31, 63, 127, 127, 255, 1023]
theorem L16AttrEnds.tab14 : rtab .any (opsOf Tryz.f5 14) = L16AttrEnds.T14 := by kernel_rfl
theorem L16AttrEnds.bits14 : waitsOk L16AttrEnds.T14.2 L16AttrEnds.B14 = true := by kernel_rfl
def L16AttrEnds.T18 : Bool × List (List Nat × List Nat) := (true, [([], []), ([], []), ([], []), ([], []), ([2, 3], [2, 3]), ([0, 1, 4], [0, 1, 4]), ([5], [5]), ([6], [6]), ([6], [6]), ([7, 5, 0, 1, 2, 3, 4, 5, 6, 7], [7]), ([8, 9, 0, 1, 2, 3, 4, 5, 6, 7, 8, 9], [8])])
def L16AttrEnds.B18 : List Nat := [0, 0, 0, 0, 12, 31, 63, 127, 127, 255, 1023]
theorem L16AttrEnds.tab18 : rtab .any (opsOf Tryz.f5 18) = L16AttrEnds.T18 := by kernel_rfl
theorem L16AttrEnds.bits18 : waitsOk L16AttrEnds.T18.2 L16AttrEnds.B18 = true := by kernel_rfl
def L16AttrEnds.T21 : Bool × List (List Nat × List Nat) := (true, [([], []), ([], []), ([], []), ([], []), ([2, 3], [2, 3]), ([], []), ([], []), ([], []), ([5, 6, 7], [5, 6, 7]), ([8], [8]), ([], []), ([], []), ([10, 11], [10, 11]), ([0, 1, 4, 9, 12], [0, 1, 4, 9, 12]), ([13], [13]), ([14], [14]), ([14], [14]), ([15, 13, 0, 1, 2, 3, 4, 5, 6, 7, 8, 9, 10, 11, 12, 13, 14, 15], [15]), ([16, 17, 0, 1, 2, 3, 4, 5, 6, 7, 8, 9, 10, 11, 12, 13, 14, 15, 16, 17], [16])])
def L16AttrEnds.B21 : List Nat := [0, 0, 0, 0, 12, 0, 0, 0, 224, 480, 0, 0, 3072, 8191, 16383, 32767, 32767, 65535, 262143]
theorem L16AttrEnds.tab21 : rtab .any (opsOf Tryz.f5 21) = L16AttrEnds.T21 := by kernel_rfl
theorem L16AttrEnds.bits21 : waitsOk L16AttrEnds.T21.2 L16AttrEnds.B21 = true := by kernel_rfl
end Go.Proofs.YtpklcnpmppaaoaaGreatDoor.Print
