-- laid together by pack.py (a program of this session)
import Derived.Test.YtpklcnpmppaaoaaGreatDoorAAttrEnds4
namespace Go.Proofs.YtpklcnpmppaaoaaGreatDoor.Print
open Go.RowKit Go.Proofs.YtpklcnpmppaaoaaGreatDoorW.PrintWords Go.Proofs.YtpklcnpmppaaoaaGreatDoorW.PrintLast Go.Proofs.YtpklcnpmppaaoaaGreatDoorW.PrintMore
attribute [local go_sem] max2_int min2_int max_two min_two max_three min_three max_four min_four
set_option linter.unusedVariables false
set_option linter.unusedSimpArgs false
set_option maxHeartbeats 8000000 in
set_option maxRecDepth 100000 in
theorem L16AttrEnds.calls (k : Nat) (a0 : ByteArray) (a1 : Int) (a2 : Int) (r : Bool) (w : World) (hG : Gw w) (h : L16AttrEnds.f k a0 a1 a2 = some r) :
  Calls Tryz.prog 5 #[.string a0, .int .i64 a1, .int .i64 a2] w fun e w' => e = .returned (.bool r) ∧ Below w.heap.size w w' := by
 have hu23 := Tryz.underlying23
 have HB := Aside0.mk (Below.refl w.heap.size w)
 have HG := Aside0.mk hG
 clear hG
 have H : ((L16awake.f k).bind fun t850 => (if t850 = true then ((attr_Find.f (⟨#[115, 101, 114, 105, 97, 108, 110, 117, 109, 98, 101, 114]⟩ : ByteArray)).bind fun bt851 => ((R13Ready.f k a0 false).bind fun bt856 => (if bt851.2.2.2 = true then (if bt856.2 = 0 then (if (bt856.1.size : Int) = 0 then (L16AttrEnds.j0 k a1 a2 bt851.2.2.2 bt856.1 true bt851.1 bt851.2.1 bt851.2.2.1) else (L16AttrEnds.j0 k a1 a2 bt851.2.2.2 bt856.1 (decide ((bt856.1.size : Int) > 1000)) bt851.1 bt851.2.1 bt851.2.2.1)) else (L16AttrEnds.j0 k a1 a2 bt851.2.2.2 bt856.1 true bt851.1 bt851.2.1 bt851.2.2.1)) else (L16AttrEnds.j0 k a1 a2 bt851.2.2.2 bt856.1 true bt851.1 bt851.2.1 bt851.2.2.1)))) else (some false))) = some r := h
 clear h
 replace H := Option.bind_eq_some_iff.mp H
 obtain ⟨t850, A40, H⟩ := H
 replace H : (if t850 = true then ((attr_Find.f (⟨#[115, 101, 114, 105, 97, 108, 110, 117, 109, 98, 101, 114]⟩ : ByteArray)).bind fun bt851 => ((R13Ready.f k a0 false).bind fun bt856 => (if bt851.2.2.2 = true then (if bt856.2 = 0 then (if (bt856.1.size : Int) = 0 then (L16AttrEnds.j0 k a1 a2 bt851.2.2.2 bt856.1 true bt851.1 bt851.2.1 bt851.2.2.1) else (L16AttrEnds.j0 k a1 a2 bt851.2.2.2 bt856.1 (decide ((bt856.1.size : Int) > 1000)) bt851.1 bt851.2.1 bt851.2.2.1)) else (L16AttrEnds.j0 k a1 a2 bt851.2.2.2 bt856.1 true bt851.1 bt851.2.1 bt851.2.2.1)) else (L16AttrEnds.j0 k a1 a2 bt851.2.2.2 bt856.1 true bt851.1 bt851.2.1 bt851.2.2.1)))) else (some false)) = some r := H
 have A4 := Aside0.mk A40
 clear A40
 by_cases c5 : t850 = true
 ·
  subst c5
  rw [if_pos rfl] at H
  replace H := Option.bind_eq_some_iff.mp H
  obtain ⟨⟨t851, t852, t853, t854⟩, A60, H⟩ := H
  replace H : ((R13Ready.f k a0 false).bind fun bt856 => (if t854 = true then (if bt856.2 = 0 then (if (bt856.1.size : Int) = 0 then (L16AttrEnds.j0 k a1 a2 t854 bt856.1 true t851 t852 t853) else (L16AttrEnds.j0 k a1 a2 t854 bt856.1 (decide ((bt856.1.size : Int) > 1000)) t851 t852 t853)) else (L16AttrEnds.j0 k a1 a2 t854 bt856.1 true t851 t852 t853)) else (L16AttrEnds.j0 k a1 a2 t854 bt856.1 true t851 t852 t853))) = some r := H
  have A6 := Aside0.mk A60
  clear A60
  replace H := Option.bind_eq_some_iff.mp H
  obtain ⟨⟨t856, t857⟩, A70, H⟩ := H
  replace H : (if t854 = true then (if t857 = 0 then (if (t856.size : Int) = 0 then (L16AttrEnds.j0 k a1 a2 t854 t856 true t851 t852 t853) else (L16AttrEnds.j0 k a1 a2 t854 t856 (decide ((t856.size : Int) > 1000)) t851 t852 t853)) else (L16AttrEnds.j0 k a1 a2 t854 t856 true t851 t852 t853)) else (L16AttrEnds.j0 k a1 a2 t854 t856 true t851 t852 t853)) = some r := H
  have A7 := Aside0.mk A70
  clear A70
  have HC8 := Aside0.mk H
  clear H
  go_enter Tryz.func5, Tryz.ntmps5
  go_upto_region 5 with (first | ((with_reducible refine gate_callee (f := 9) rfl ?_); refine goesL_ (some 20) rfl rfl Tryz.func9 (by kernel_rfl) rfl #[] rfl ap3 ?_; (with_reducible refine (L16awake.calls k  true _ ?side1 A4.out).mono ?_); (case side1 => exact ap6); rintro e w9 ⟨rfl, hb⟩; refine ⟨_, rfl, ?_⟩; have n0_ := Aside0.mk (below_step ap1 hb); clear HB; have HB := n0_; clear n0_; (try clear hb); (try clear hb2); (try clear hk); (try clear hi)) | ((with_reducible refine gate_callee (f := 16) rfl ?_); refine goesL_ (some 23) rfl rfl Tryz.func16 (by kernel_rfl) rfl #[.string (⟨#[115, 101, 114, 105, 97, 108, 110, 117, 109, 98, 101, 114]⟩ : ByteArray)] rfl ap3 ?_; (with_reducible refine (attr_Find.calls (⟨#[115, 101, 114, 105, 97, 108, 110, 117, 109, 98, 101, 114]⟩ : ByteArray) t851 t852 t853 t854 _ ?side1 A6.out).mono ?_); (case side1 => exact ap6); rintro e w10 ⟨rfl, hb⟩; refine ⟨_, rfl, ?_⟩; have n0_ := Aside0.mk (below_step ap1 hb); clear HB; have HB := n0_; clear n0_; (try clear hb); (try clear hb2); (try clear hk); (try clear hi)) | ((with_reducible refine gate_dst (N := 7) rfl ?_); (try (refine gate_guard (by rfl) ?_; dsimp only)); refine box_event ?hg (N := 7) ?hd (cs := #[.string (⟨#[]⟩ : ByteArray), .int .i64 0, .bool false]) (t := 23) ?hr ?_; (case hd => rfl); (case hg => rfl); (case hr => first | (go_simp; done) | (go_simp; rfl)); intro gb855 hg w11 hbox hb; have n0_ := Aside0.mk (below_step ap1 hb); have n1_ := Aside0.mk (hbox); have n2_ := Aside0.mk ((by rw [hg]; exact (below_size ap1) : w.heap.size ≤ gb855)); have n3_ := Aside0.mk ((by rw [hg]; exact (below_size ap1) : w.heap.size ≤ gb855)); clear HB; have HB := n0_; have BK855 := n1_; have GW855 := n2_; have GE855 := n3_; clear n0_ n1_ n2_ n3_; clear hb hbox hg; have hcz12_0 : w11.cell? ⟨gb855, 0, none⟩ = some (.string (⟨#[]⟩ : ByteArray)) := (blk_cell BK855.out 0).trans rfl; have hcz12_1 : w11.cell? ⟨gb855, 1, none⟩ = some (.int .i64 0) := (blk_cell BK855.out 1).trans rfl; have hcz12_2 : w11.cell? ⟨gb855, 2, none⟩ = some (.bool false) := (blk_cell BK855.out 2).trans rfl; have hfz12_0 := blk_frozen BK855.out 0; have hfz12_1 := blk_frozen BK855.out 1; have hfz12_2 := blk_frozen BK855.out 2) | ((with_reducible refine gate_callee (f := 17) rfl ?_); refine goesL_ (some 28) rfl rfl Tryz.func17 (by kernel_rfl) rfl #[.string a0, .bool false] rfl ap3 ?_; (with_reducible refine (R13Ready.calls k a0 false t856 t857 _ A7.out).mono ?_); rintro e w13 ⟨rfl, hb⟩; refine ⟨_, rfl, ?_⟩; have n0_ := Aside0.mk (blk_below (g := gb855) (o := .cells #[.string t851, .int .i64 t852, .bool t853] 23 (0, 0)) (by (with_reducible repeat (first | refine blk_drewN ?_ _ | refine blk_drew ?_ | refine blk_alloc ?_ _)); refine blk_put (cs := #[.string t851, .int .i64 t852, .bool false]) ?_ 2 _ rfl; (with_reducible repeat (first | refine blk_drewN ?_ _ | refine blk_drew ?_ | refine blk_alloc ?_ _)); refine blk_put (cs := #[.string t851, .int .i64 0, .bool false]) ?_ 1 _ rfl; (with_reducible repeat (first | refine blk_drewN ?_ _ | refine blk_drew ?_ | refine blk_alloc ?_ _)); refine blk_put (cs := #[.string (⟨#[]⟩ : ByteArray), .int .i64 0, .bool false]) ?_ 0 _ rfl; (with_reducible repeat (first | refine blk_drewN ?_ _ | refine blk_drew ?_ | refine blk_alloc ?_ _)); exact BK855.out) hb); have n1_ := Aside0.mk (below_step (apG GE855.out) hb); clear BK855; clear HB; have BK855 := n0_; have HB := n1_; clear n0_ n1_; (try clear hb); (try clear hb2); (try clear hk); (try clear hi)))
  (try simp only [Act.put, List.setIfInBounds_toArray, List.set_cons_zero, List.set_cons_succ])
  go_cut [46] (fun v46 wc => ∃ (kq : Nat) (x46_7 : Bool), v46 = .bool x46_7 ∧ Aside0 (L16AttrEnds.j0 kq a1 a2 t854 t856 x46_7 t851 t852 t853 = some r) ∧ Aside0 (kq ≤ k) ∧ Aside0 (wc.heap[gb855]? = some (.cells #[.string t851, .int .i64 t852, .bool t853] 23 (0, 0))) ∧ Aside0 (Below w.heap.size w wc))
  case first =>
   have H := HC8.out
   clear HC8
   by_cases c14 : t854 = true
   ·
    subst c14
    rw [if_pos rfl] at H
    by_cases c15 : t857 = 0
    ·
     rw [if_pos c15] at H
     have c15b0 : (t857 == 0) = true := beq_iff_eq.mpr c15
     have c15b1 : (t857 != 0) = false := bne_eq_false_iff_eq.mpr c15
     clear c15
     (first | rw [c15b0] | (simp only [i64_w, i32_w]; rw [c15b0]) | skip)
     by_cases c16 : (t856.size : Int) = 0
     ·
      rw [if_pos c16] at H
      have c16b0 : ((t856.size : Int) == 0) = true := beq_iff_eq.mpr c16
      have c16b1 : ((t856.size : Int) != 0) = false := bne_eq_false_iff_eq.mpr c16
      clear c16
      have H' := Aside0.mk H
      clear H
      go_wp2
      first | go_meet | (simp only [c16b0] at *; go_meet) | (simp only [c15b0] at *; go_meet)
      case rel => exact ⟨_, (true), ap2, H', ⟨by first | omega | exact Nat.le_refl _⟩, ⟨by (with_reducible repeat (first | refine blk_drewN ?_ _ | refine blk_drew ?_ | refine blk_alloc ?_ _)); exact BK855.out⟩, ⟨by repeat (first | (with_reducible first | exact HB.out | apply below_alloc | apply pw_below_drewN | apply below_drew1 | refine below_set ?_ GE855.out) | exact HB.out)⟩⟩
     ·
      rw [if_neg c16] at H
      have c16b0 : ((t856.size : Int) == 0) = false := beq_eq_false_iff_ne.mpr c16
      have c16b1 : ((t856.size : Int) != 0) = true := bne_iff_ne.mpr c16
      have H' := Aside0.mk H
      clear H
      go_wp2
      first | go_meet | (simp only [c16b0] at *; go_meet) | (simp only [c16b0] at *; go_meet) | (simp only [c15b0] at *; go_meet)
      case rel => exact ⟨_, (decide ((t856.size : Int) > 1000)), ap2, H', ⟨by first | omega | exact Nat.le_refl _⟩, ⟨by (with_reducible repeat (first | refine blk_drewN ?_ _ | refine blk_drew ?_ | refine blk_alloc ?_ _)); exact BK855.out⟩, ⟨by repeat (first | (with_reducible first | exact HB.out | apply below_alloc | apply pw_below_drewN | apply below_drew1 | refine below_set ?_ GE855.out) | exact HB.out)⟩⟩
    ·
     rw [if_neg c15] at H
     have c15b0 : (t857 == 0) = false := beq_eq_false_iff_ne.mpr c15
     have c15b1 : (t857 != 0) = true := bne_iff_ne.mpr c15
     (first | rw [c15b0] | (simp only [i64_w, i32_w]; rw [c15b0]) | skip)
     have H' := Aside0.mk H
     clear H
     go_wp2
     first | go_meet | (simp only [c15b0] at *; go_meet) | (simp only [c16b0] at *; go_meet) | (simp only [c16b0] at *; go_meet)
     case rel => exact ⟨_, (true), ap2, H', ⟨by first | omega | exact Nat.le_refl _⟩, ⟨by (with_reducible repeat (first | refine blk_drewN ?_ _ | refine blk_drew ?_ | refine blk_alloc ?_ _)); exact BK855.out⟩, ⟨by repeat (first | (with_reducible first | exact HB.out | apply below_alloc | apply pw_below_drewN | apply below_drew1 | refine below_set ?_ GE855.out) | exact HB.out)⟩⟩
   ·
    replace c14 := Bool.eq_false_iff.mpr c14
    subst c14
    rw [if_neg (show ¬ (false = true) by decide)] at H
    have H' := Aside0.mk H
    clear H
    go_wp2
    first | go_meet | (simp only [c15b0] at *; go_meet) | (simp only [c16b0] at *; go_meet) | (simp only [c16b0] at *; go_meet)
    case rel => exact ⟨_, (true), ap2, H', ⟨by first | omega | exact Nat.le_refl _⟩, ⟨by (with_reducible repeat (first | refine blk_drewN ?_ _ | refine blk_drew ?_ | refine blk_alloc ?_ _)); exact BK855.out⟩, ⟨by repeat (first | (with_reducible first | exact HB.out | apply below_alloc | apply pw_below_drewN | apply below_drew1 | refine below_set ?_ GE855.out) | exact HB.out)⟩⟩
  case rest =>
   clear HC8
   try clear c1
   try clear p2
   try clear c5
   try clear c9
   try clear c14
   try clear c15
   try clear c15b0
   try clear c15b1
   try clear c16
   try clear c16b0
   try clear c16b1
   try clear hcz12_0
   try clear hcz12_1
   try clear hcz12_2
   try clear hfz12_0
   try clear hfz12_1
   try clear hfz12_2
   obtain ⟨kq, x46_7, rfl, HA, HJ7, BK855, HB⟩ := hcut
   cases kq with
   | zero => exact absurd HA.out (by simp [L16AttrEnds.j0])
   | succ kj7 =>
    have H := HA.out
    clear HA
    simp only [L16AttrEnds.j0] at H
    by_cases c17 : x46_7 = true
    ·
     subst c17
     rw [if_pos rfl] at H
     obtain rfl := Option.some.inj H
     go_wp2
     go_ret
     exact ⟨by first | rfl | (simp [errW_none, errW_some, bne_nil8, beq_nil8]; done) | (simp [errW_none, errW_some] <;> rfl) | (simp [*, errW_none, errW_some] <;> rfl), by repeat (first | (with_reducible first | exact HB.out | apply below_alloc | apply pw_below_drewN | apply below_drew1 | refine below_set ?_ GE855.out) | exact HB.out)⟩
    ·
     replace c17 := Bool.eq_false_iff.mpr c17
     subst c17
     rw [if_neg (show ¬ (false = true) by decide)] at H
     replace H := Option.bind_eq_some_iff.mp H
     obtain ⟨t858, A180, H⟩ := H
     replace H : ((L16edge.f kj7 t856 a2).bind fun t859 => (if t858 > t859 then (L16AttrEnds.j1 kj7 t856 t859 t858 t851 t852 t853) else (L16AttrEnds.j1 kj7 t856 t858 t859 t851 t852 t853))) = some r := H
     have A18 := Aside0.mk A180
     clear A180
     replace H := Option.bind_eq_some_iff.mp H
     obtain ⟨t859, A190, H⟩ := H
     replace H : (if t858 > t859 then (L16AttrEnds.j1 kj7 t856 t859 t858 t851 t852 t853) else (L16AttrEnds.j1 kj7 t856 t858 t859 t851 t852 t853)) = some r := H
     have A19 := Aside0.mk A190
     clear A190
     have HC20 := Aside0.mk H
     clear H
     go_upto_if 56 with (first | ((with_reducible refine gate_callee (f := 18) rfl ?_); refine goesL_ (some 50) rfl rfl Tryz.func18 (by kernel_rfl) rfl #[.string t856, .int .i64 a1] rfl ap3 ?_; (with_reducible refine (L16edge.calls kj7 t856 a1 t858 _ A18.out).mono ?_); rintro e w' ⟨rfl, ⟨nd, rfl⟩⟩; refine ⟨_, rfl, ?_⟩) | ((with_reducible refine gate_callee (f := 18) rfl ?_); refine goesL_ (some 53) rfl rfl Tryz.func18 (by kernel_rfl) rfl #[.string t856, .int .i64 a2] rfl ap3 ?_; (with_reducible refine (L16edge.calls kj7 t856 a2 t859 _ A19.out).mono ?_); rintro e w' ⟨rfl, ⟨nd, rfl⟩⟩; refine ⟨_, rfl, ?_⟩))
     (try simp only [Act.put, List.setIfInBounds_toArray, List.set_cons_zero, List.set_cons_succ])
     go_cut [11, 12] (fun v11 v12 wc => ∃ (kq : Nat) (x11_19 : Int) (x12_19 : Int), v11 = .int .i64 x11_19 ∧ v12 = .int .i64 x12_19 ∧ Aside0 (L16AttrEnds.j1 kq t856 x11_19 x12_19 t851 t852 t853 = some r) ∧ Aside0 (kq ≤ kj7) ∧ Aside0 (wc.heap[gb855]? = some (.cells #[.string t851, .int .i64 t852, .bool t853] 23 (0, 0))) ∧ Aside0 (Below w.heap.size w wc))
     case first =>
      have H := HC20.out
      clear HC20
      by_cases c21 : t858 > t859
      ·
       rw [if_pos c21] at H
       have c21b0 := decide_eq_true c21
       clear c21
       (first | rw [c21b0] | (simp only [i64_w, i32_w]; rw [c21b0]) | skip)
       have H' := Aside0.mk H
       clear H
       go_wp2
       first | go_meet | (simp only [c15b0] at *; go_meet) | (simp only [c16b0] at *; go_meet) | (simp only [c16b0] at *; go_meet)
       case rel => exact ⟨_, (t859), (t858), ap2, ap2, H', ⟨by have := HJ7.out; first | omega | exact Nat.le_refl _⟩, ⟨by (with_reducible repeat (first | refine blk_drewN ?_ _ | refine blk_drew ?_ | refine blk_alloc ?_ _)); exact BK855.out⟩, ⟨by repeat (first | (with_reducible first | exact HB.out | apply below_alloc | apply pw_below_drewN | apply below_drew1 | refine below_set ?_ GE855.out) | exact HB.out)⟩⟩
      ·
       rw [if_neg c21] at H
       have c21b0 := decide_eq_false c21
       clear c21
       (first | rw [c21b0] | (simp only [i64_w, i32_w]; rw [c21b0]) | skip)
       have H' := Aside0.mk H
       clear H
       go_wp2
       first | go_meet | (simp only [c15b0] at *; go_meet) | (simp only [c16b0] at *; go_meet) | (simp only [c16b0] at *; go_meet)
       case rel => exact ⟨_, (t858), (t859), ap2, ap2, H', ⟨by have := HJ7.out; first | omega | exact Nat.le_refl _⟩, ⟨by (with_reducible repeat (first | refine blk_drewN ?_ _ | refine blk_drew ?_ | refine blk_alloc ?_ _)); exact BK855.out⟩, ⟨by repeat (first | (with_reducible first | exact HB.out | apply below_alloc | apply pw_below_drewN | apply below_drew1 | refine below_set ?_ GE855.out) | exact HB.out)⟩⟩
     case rest =>
      clear HC20
      try clear c1
      try clear c2
      try clear p2
      try clear c5
      try clear c9
      try clear c14
      try clear c15
      try clear c15b0
      try clear c15b1
      try clear c16
      try clear c16b0
      try clear c16b1
      try clear c17
      try clear c18
      try clear c21
      try clear c21b0
      try clear hcz12_0
      try clear hcz12_1
      try clear hcz12_2
      try clear hfz12_0
      try clear hfz12_1
      try clear hfz12_2
      try clear p2
      obtain ⟨kq, x11_19, x12_19, rfl, rfl, HA, HJ19, BK855, HB⟩ := hcut
      cases kq with
      | zero => exact absurd HA.out (by simp [L16AttrEnds.j1])
      | succ kj19 =>
       have H := HA.out
       clear HA
       simp only [L16AttrEnds.j1] at H
       have HC22 := Aside0.mk H
       clear H
       go_upto_if 61 with (fail)
       go_cut [] (fun wc => ∃ (kq : Nat), Aside0 (L16AttrEnds.j2 kq t856 x11_19 x12_19 t851 t852 t853 = some r) ∧ Aside0 (kq ≤ kj19) ∧ Aside0 (wc.heap[gb855]? = some (.cells #[.string t851, .int .i64 t852, .bool t853] 23 (0, 0))) ∧ Aside0 (Below w.heap.size w wc))
       case first =>
        have H := HC22.out
        clear HC22
        by_cases c23 : x11_19 > 0
        ·
         rw [if_pos c23] at H
         have c23b0 := decide_eq_true c23
         clear c23
         (first | rw [c23b0] | (simp only [i64_w, i32_w]; rw [c23b0]) | skip)
         by_cases c24 : 0 ≤ x11_19
         ·
          rw [if_pos c24] at H
          have c24b0 := eq_true c24
          have c24b1 := decide_eq_true c24
          clear c24
          by_cases c25 : x11_19 ≤ (t856.size : Int)
          ·
           rw [if_pos c25] at H
           have c25b0 := eq_true c25
           have c25b1 := decide_eq_true c25
           clear c25
           replace H := Option.bind_eq_some_iff.mp H
           obtain ⟨⟨t860, t861⟩, A260, H⟩ := H
           replace H : (if t860 = true then (if t861 = 0 then (L16AttrEnds.j2 kj19 t856 x11_19 x12_19 t851 t852 t853) else (some false)) else (some false)) = some r := H
           have A26 := Aside0.mk A260
           clear A260
           by_cases c27 : t860 = true
           ·
            subst c27
            rw [if_pos rfl] at H
            by_cases c28 : t861 = 0
            ·
             rw [if_pos c28] at H
             have c28b0 : (t861 == 0) = true := beq_iff_eq.mpr c28
             have c28b1 : (t861 != 0) = false := bne_eq_false_iff_eq.mpr c28
             clear c28
             have H' := Aside0.mk H
             clear H
             try go_wp2
             have n0_ := Aside0.mk (blk_drew BK855.out)
             have n1_ := Aside0.mk (below_drew1 HB.out)
             clear BK855
             clear HB
             have BK855 := n0_
             have HB := n1_
             clear n0_ n1_
             refine start_ (n := 11) (S := fun w' => w'.cell? ⟨gb855, 0, none⟩ = some (.string t851) ∧ w'.cell? ⟨gb855, 1, none⟩ = some (.int .i64 t852) ∧ w'.cell? ⟨gb855, 2, none⟩ = some (.bool t853)) (ds := []) #[false, false, false, false, false, false, false, false, false, false, false] (by kernel_rfl) rfl rfl ⟨(blk_cell BK855.out 0).trans rfl, (blk_cell BK855.out 1).trans rfl, (blk_cell BK855.out 2).trans rfl⟩ (fun hHeld => ?_); refine with_tabW L16AttrEnds.tab14 L16AttrEnds.bits14 (fun HT_ HW_ => ?_)
             generalize wc.drew = w29 at BK855 HB hHeld ⊢
             refine pure_ (i := 1) (N := some 64) (v := ?_) (a' := ?_) #[false, true, false, false, false, false, false, false, false, false, false] rfl rfl (any_of HT_.out (by kernel_rfl)) (fun _ _ _ h => h) (Or.inl ⟨by rfl, ?_⟩) ?_ ?_
             rotate_left
             ·
              intro w'
              go_simp
              with_reducible rfl
             rotate_left
             ·
              simp only [Act.put, List.setIfInBounds_toArray, List.set_cons_zero, List.set_cons_succ, i64_w, i32_w]
              rfl
             refine pure_ (i := 2) (N := some 65) (v := ?_) (a' := ?_) #[false, true, true, false, false, false, false, false, false, false, false] rfl rfl (any_of HT_.out (by kernel_rfl)) (fun _ _ _ h => h) (Or.inl ⟨by rfl, ?_⟩) ?_ ?_
             rotate_left
             ·
              intro w'
              go_simp
              with_reducible rfl
             rotate_left
             ·
              simp only [Act.put, List.setIfInBounds_toArray, List.set_cons_zero, List.set_cons_succ, i64_w, i32_w]
              rfl
             refine pure_ (i := 3) (N := some 66) (v := ?_) (a' := ?_) #[false, true, true, true, false, false, false, false, false, false, false] rfl rfl (any_of HT_.out (by kernel_rfl)) (fun _ _ _ h => h) (Or.inl ⟨by rfl, ?_⟩) ?_ ?_
             rotate_left
             ·
              intro w'
              go_simp
              with_reducible rfl
             rotate_left
             ·
              simp only [Act.put, List.setIfInBounds_toArray, List.set_cons_zero, List.set_cons_succ, i64_w, i32_w]
              rfl
             refine pure_ (i := 4) (N := some 67) (v := ?_) (a' := ?_) #[false, true, true, true, true, false, false, false, false, false, false] rfl rfl (any_of HT_.out (by kernel_rfl)) (fun _ _ _ h => h) (Or.inl ⟨by rfl, ?_⟩) ?_ ?_
             rotate_left
             ·
              intro w'
              go_simp
              with_reducible rfl
             rotate_left
             ·
              simp only [Act.put, List.setIfInBounds_toArray, List.set_cons_zero, List.set_cons_succ, i64_w, i32_w]
              rfl
             refine take_ (i := 0) (N := some 63) (v := ?_) (a' := ?_) #[true, true, true, true, true, false, false, false, false, false, false] rfl rfl (take_ofW HT_.out HW_.out (by kernel_rfl)) (fun _ _ _ h => h) (Or.inl ⟨by rfl, ?_⟩) hHeld ?_ ?_
             rotate_left
             ·
              rintro w' ⟨s0, s1, s2⟩
              go_simp
              with_reducible rfl
             rotate_left
             ·
              simp only [Act.put, List.setIfInBounds_toArray, List.set_cons_zero, List.set_cons_succ, i64_w, i32_w]
              rfl
             refine one_ (i := 5) (N := some 68) #[true, true, true, true, true, true, false, false, false, false, false] rfl rfl (one_of HT_.out (by kernel_rfl)) (by decide) (fun K hK => ?_)
             refine goes_ Tryz.func14 (by kernel_rfl) rfl #[.agg #[.string t851, .int .i64 t852, .bool t853], .string t856, .string (t856.extract 0 (x11_19 : Int).toNat), .slice none 0 0, .string (⟨#[]⟩ : ByteArray)] (by rfl) rfl rfl ap3 ?_
             refine (attr_Part.calls kj19 t851 t852 t853 t856 (t856.extract 0 (x11_19 : Int).toNat) _ _ ([] : List ByteArray) (⟨#[]⟩ : ByteArray) true t861 _ ?side1 ?side2 ?side3 A26.out).mono ?_
             (case side1 => exact Kd.C_nil _ _)
             (case side2 => exact Nat.le_refl _)
             (case side3 => first | exact HG.out | (refine Gw.below HG.out ?_; repeat (first | (with_reducible first | exact HB.out | apply below_alloc | apply pw_below_drewN | apply below_drew1 | refine below_set ?_ GE855.out) | exact HB.out)))
             rintro e w30 ⟨rfl, hb⟩
             refine ⟨_, rfl, ?_⟩
             have n0_ := Aside0.mk (blk_below (g := gb855) (o := .cells #[.string t851, .int .i64 t852, .bool t853] 23 (0, 0)) (apB BK855.out) hb)
             have n1_ := Aside0.mk (below_step (apG GE855.out) hb)
             clear BK855
             clear HB
             have BK855 := n0_
             have HB := n1_
             clear n0_ n1_
             (try clear hb)
             (try clear hb2)
             (try clear hk)
             (try clear hi)
             refine hK.out _ _ ⟨(blk_cell BK855.out 0).trans rfl, (blk_cell BK855.out 1).trans rfl, (blk_cell BK855.out 2).trans rfl⟩ (fun hHeld => ?_)
             clear hK K
             refine norm_ (a' := ?_) ?_ ?_
             rotate_left
             ·
              show Act.put _ (some 68) _ = _
              simp only [Act.put, List.setIfInBounds_toArray, List.set_cons_zero, List.set_cons_succ, i64_w, i32_w]
              rfl
             refine pure_ (i := 6) (N := some 62) (v := ?_) (a' := ?_) #[true, true, true, true, true, true, true, false, false, false, false] rfl rfl (any_of HT_.out (by kernel_rfl)) (fun _ _ _ h => h) (Or.inl ⟨by rfl, ?_⟩) ?_ ?_
             rotate_left
             ·
              intro w'
              go_simp
              with_reducible rfl
             rotate_left
             ·
              simp only [Act.put, List.setIfInBounds_toArray, List.set_cons_zero, List.set_cons_succ, i64_w, i32_w]
              rfl
             refine pure_ (i := 7) (N := some 69) (v := ?_) (a' := ?_) #[true, true, true, true, true, true, true, true, false, false, false] rfl rfl (any_of HT_.out (by kernel_rfl)) (fun _ _ _ h => h) (Or.inl ⟨by rfl, ?_⟩) ?_ ?_
             rotate_left
             ·
              intro w'
              go_simp
              with_reducible rfl
             rotate_left
             ·
              simp only [Act.put, List.setIfInBounds_toArray, List.set_cons_zero, List.set_cons_succ, i64_w, i32_w]
              rfl
             refine pure_ (i := 8) (N := some 70) (v := ?_) (a' := ?_) #[true, true, true, true, true, true, true, true, true, false, false] rfl rfl (any_of HT_.out (by kernel_rfl)) (fun _ _ _ h => h) (Or.inl ⟨by rfl, ?_⟩) ?_ ?_
             rotate_left
             ·
              intro w'
              go_simp
              with_reducible rfl
             rotate_left
             ·
              simp only [Act.put, List.setIfInBounds_toArray, List.set_cons_zero, List.set_cons_succ, i64_w, i32_w]
              rfl
             refine pure_ (i := 9) (N := some 14) (v := ?_) (a' := ?_) #[true, true, true, true, true, true, true, true, true, true, false] rfl rfl (any_of HT_.out (by kernel_rfl)) (fun _ _ _ h => h) (Or.inl ⟨by rfl, ?_⟩) ?_ ?_
             rotate_left
             ·
              intro w'
              go_simp
              with_reducible rfl
             rotate_left
             ·
              simp only [Act.put, List.setIfInBounds_toArray, List.set_cons_zero, List.set_cons_succ, i64_w, i32_w]
              rfl
             refine pure_ (i := 10) (N := some 15) (v := ?_) (a' := ?_) #[true, true, true, true, true, true, true, true, true, true, true] rfl rfl (any_of HT_.out (by kernel_rfl)) (fun _ _ _ h => h) (Or.inl ⟨by rfl, ?_⟩) ?_ ?_
             rotate_left
             ·
              intro w'
              go_simp
              with_reducible rfl
             rotate_left
             ·
              simp only [Act.put, List.setIfInBounds_toArray, List.set_cons_zero, List.set_cons_succ, i64_w, i32_w]
              rfl
             refine done_ (done_of HT_.out (by kernel_rfl)) ?_
             try go_wp2
             first | go_meet | (simp only [c28b0] at *; go_meet) | (simp only [c15b0] at *; go_meet) | (simp only [c16b0] at *; go_meet)
             case rel => exact ⟨_, H', ⟨by have := HJ7.out; have := HJ19.out; first | omega | exact Nat.le_refl _⟩, ⟨by (with_reducible repeat (first | refine blk_drewN ?_ _ | refine blk_drew ?_ | refine blk_alloc ?_ _)); exact BK855.out⟩, ⟨by repeat (first | (with_reducible first | exact HB.out | apply below_alloc | apply pw_below_drewN | apply below_drew1 | refine below_set ?_ GE855.out) | exact HB.out)⟩⟩
            ·
             rw [if_neg c28] at H
             have c28b0 : (t861 == 0) = false := beq_eq_false_iff_ne.mpr c28
             have c28b1 : (t861 != 0) = true := bne_iff_ne.mpr c28
             obtain rfl := Option.some.inj H
             try go_wp2
             have n0_ := Aside0.mk (blk_drew BK855.out)
             have n1_ := Aside0.mk (below_drew1 HB.out)
             clear BK855
             clear HB
             have BK855 := n0_
             have HB := n1_
             clear n0_ n1_
             refine start_ (n := 11) (S := fun w' => w'.cell? ⟨gb855, 0, none⟩ = some (.string t851) ∧ w'.cell? ⟨gb855, 1, none⟩ = some (.int .i64 t852) ∧ w'.cell? ⟨gb855, 2, none⟩ = some (.bool t853)) (ds := []) #[false, false, false, false, false, false, false, false, false, false, false] (by kernel_rfl) rfl rfl ⟨(blk_cell BK855.out 0).trans rfl, (blk_cell BK855.out 1).trans rfl, (blk_cell BK855.out 2).trans rfl⟩ (fun hHeld => ?_); refine with_tabW L16AttrEnds.tab14 L16AttrEnds.bits14 (fun HT_ HW_ => ?_)
             generalize wc.drew = w31 at BK855 HB hHeld ⊢
             refine pure_ (i := 1) (N := some 64) (v := ?_) (a' := ?_) #[false, true, false, false, false, false, false, false, false, false, false] rfl rfl (any_of HT_.out (by kernel_rfl)) (fun _ _ _ h => h) (Or.inl ⟨by rfl, ?_⟩) ?_ ?_
             rotate_left
             ·
              intro w'
              go_simp
              with_reducible rfl
             rotate_left
             ·
              simp only [Act.put, List.setIfInBounds_toArray, List.set_cons_zero, List.set_cons_succ, i64_w, i32_w]
              rfl
             refine pure_ (i := 2) (N := some 65) (v := ?_) (a' := ?_) #[false, true, true, false, false, false, false, false, false, false, false] rfl rfl (any_of HT_.out (by kernel_rfl)) (fun _ _ _ h => h) (Or.inl ⟨by rfl, ?_⟩) ?_ ?_
             rotate_left
             ·
              intro w'
              go_simp
              with_reducible rfl
             rotate_left
             ·
              simp only [Act.put, List.setIfInBounds_toArray, List.set_cons_zero, List.set_cons_succ, i64_w, i32_w]
              rfl
             refine pure_ (i := 3) (N := some 66) (v := ?_) (a' := ?_) #[false, true, true, true, false, false, false, false, false, false, false] rfl rfl (any_of HT_.out (by kernel_rfl)) (fun _ _ _ h => h) (Or.inl ⟨by rfl, ?_⟩) ?_ ?_
             rotate_left
             ·
              intro w'
              go_simp
              with_reducible rfl
             rotate_left
             ·
              simp only [Act.put, List.setIfInBounds_toArray, List.set_cons_zero, List.set_cons_succ, i64_w, i32_w]
              rfl
             refine pure_ (i := 4) (N := some 67) (v := ?_) (a' := ?_) #[false, true, true, true, true, false, false, false, false, false, false] rfl rfl (any_of HT_.out (by kernel_rfl)) (fun _ _ _ h => h) (Or.inl ⟨by rfl, ?_⟩) ?_ ?_
             rotate_left
             ·
              intro w'
              go_simp
              with_reducible rfl
             rotate_left
             ·
              simp only [Act.put, List.setIfInBounds_toArray, List.set_cons_zero, List.set_cons_succ, i64_w, i32_w]
              rfl
             refine take_ (i := 0) (N := some 63) (v := ?_) (a' := ?_) #[true, true, true, true, true, false, false, false, false, false, false] rfl rfl (take_ofW HT_.out HW_.out (by kernel_rfl)) (fun _ _ _ h => h) (Or.inl ⟨by rfl, ?_⟩) hHeld ?_ ?_
             rotate_left
             ·
              rintro w' ⟨s0, s1, s2⟩
              go_simp
              with_reducible rfl
             rotate_left
             ·
              simp only [Act.put, List.setIfInBounds_toArray, List.set_cons_zero, List.set_cons_succ, i64_w, i32_w]
              rfl
             refine one_ (i := 5) (N := some 68) #[true, true, true, true, true, true, false, false, false, false, false] rfl rfl (one_of HT_.out (by kernel_rfl)) (by decide) (fun K hK => ?_)
             refine goes_ Tryz.func14 (by kernel_rfl) rfl #[.agg #[.string t851, .int .i64 t852, .bool t853], .string t856, .string (t856.extract 0 (x11_19 : Int).toNat), .slice none 0 0, .string (⟨#[]⟩ : ByteArray)] (by rfl) rfl rfl ap3 ?_
             refine (attr_Part.calls kj19 t851 t852 t853 t856 (t856.extract 0 (x11_19 : Int).toNat) _ _ ([] : List ByteArray) (⟨#[]⟩ : ByteArray) true t861 _ ?side1 ?side2 ?side3 A26.out).mono ?_
             (case side1 => exact Kd.C_nil _ _)
             (case side2 => exact Nat.le_refl _)
             (case side3 => first | exact HG.out | (refine Gw.below HG.out ?_; repeat (first | (with_reducible first | exact HB.out | apply below_alloc | apply pw_below_drewN | apply below_drew1 | refine below_set ?_ GE855.out) | exact HB.out)))
             rintro e w32 ⟨rfl, hb⟩
             refine ⟨_, rfl, ?_⟩
             have n0_ := Aside0.mk (blk_below (g := gb855) (o := .cells #[.string t851, .int .i64 t852, .bool t853] 23 (0, 0)) (apB BK855.out) hb)
             have n1_ := Aside0.mk (below_step (apG GE855.out) hb)
             clear BK855
             clear HB
             have BK855 := n0_
             have HB := n1_
             clear n0_ n1_
             (try clear hb)
             (try clear hb2)
             (try clear hk)
             (try clear hi)
             refine hK.out _ _ ⟨(blk_cell BK855.out 0).trans rfl, (blk_cell BK855.out 1).trans rfl, (blk_cell BK855.out 2).trans rfl⟩ (fun hHeld => ?_)
             clear hK K
             refine norm_ (a' := ?_) ?_ ?_
             rotate_left
             ·
              show Act.put _ (some 68) _ = _
              simp only [Act.put, List.setIfInBounds_toArray, List.set_cons_zero, List.set_cons_succ, i64_w, i32_w]
              rfl
             refine pure_ (i := 6) (N := some 62) (v := ?_) (a' := ?_) #[true, true, true, true, true, true, true, false, false, false, false] rfl rfl (any_of HT_.out (by kernel_rfl)) (fun _ _ _ h => h) (Or.inl ⟨by rfl, ?_⟩) ?_ ?_
             rotate_left
             ·
              intro w'
              go_simp
              with_reducible rfl
             rotate_left
             ·
              simp only [Act.put, List.setIfInBounds_toArray, List.set_cons_zero, List.set_cons_succ, i64_w, i32_w]
              rfl
             refine pure_ (i := 7) (N := some 69) (v := ?_) (a' := ?_) #[true, true, true, true, true, true, true, true, false, false, false] rfl rfl (any_of HT_.out (by kernel_rfl)) (fun _ _ _ h => h) (Or.inl ⟨by rfl, ?_⟩) ?_ ?_
             rotate_left
             ·
              intro w'
              go_simp
              with_reducible rfl
             rotate_left
             ·
              simp only [Act.put, List.setIfInBounds_toArray, List.set_cons_zero, List.set_cons_succ, i64_w, i32_w]
              rfl
             refine pure_ (i := 8) (N := some 70) (v := ?_) (a' := ?_) #[true, true, true, true, true, true, true, true, true, false, false] rfl rfl (any_of HT_.out (by kernel_rfl)) (fun _ _ _ h => h) (Or.inl ⟨by rfl, ?_⟩) ?_ ?_
             rotate_left
             ·
              intro w'
              go_simp
              with_reducible rfl
             rotate_left
             ·
              simp only [Act.put, List.setIfInBounds_toArray, List.set_cons_zero, List.set_cons_succ, i64_w, i32_w]
              rfl
             refine pure_ (i := 9) (N := some 14) (v := ?_) (a' := ?_) #[true, true, true, true, true, true, true, true, true, true, false] rfl rfl (any_of HT_.out (by kernel_rfl)) (fun _ _ _ h => h) (Or.inl ⟨by rfl, ?_⟩) ?_ ?_
             rotate_left
             ·
              intro w'
              go_simp
              with_reducible rfl
             rotate_left
             ·
              simp only [Act.put, List.setIfInBounds_toArray, List.set_cons_zero, List.set_cons_succ, i64_w, i32_w]
              rfl
             refine pure_ (i := 10) (N := some 15) (v := ?_) (a' := ?_) #[true, true, true, true, true, true, true, true, true, true, true] rfl rfl (any_of HT_.out (by kernel_rfl)) (fun _ _ _ h => h) (Or.inl ⟨by rfl, ?_⟩) ?_ ?_
             rotate_left
             ·
              intro w'
              go_simp
              with_reducible rfl
             rotate_left
             ·
              simp only [Act.put, List.setIfInBounds_toArray, List.set_cons_zero, List.set_cons_succ, i64_w, i32_w]
              rfl
             refine done_ (done_of HT_.out (by kernel_rfl)) ?_
             try go_wp2
             go_ret
             exact ⟨by first | rfl | (simp [errW_none, errW_some, bne_nil8, beq_nil8]; done) | (simp [errW_none, errW_some] <;> rfl) | (simp [*, errW_none, errW_some] <;> rfl), by repeat (first | (with_reducible first | exact HB.out | apply below_alloc | apply pw_below_drewN | apply below_drew1 | refine below_set ?_ GE855.out) | exact HB.out)⟩
           ·
            replace c27 := Bool.eq_false_iff.mpr c27
            subst c27
            rw [if_neg (show ¬ (false = true) by decide)] at H
            obtain rfl := Option.some.inj H
            try go_wp2
            have n0_ := Aside0.mk (blk_drew BK855.out)
            have n1_ := Aside0.mk (below_drew1 HB.out)
            clear BK855
            clear HB
            have BK855 := n0_
            have HB := n1_
            clear n0_ n1_
            refine start_ (n := 11) (S := fun w' => w'.cell? ⟨gb855, 0, none⟩ = some (.string t851) ∧ w'.cell? ⟨gb855, 1, none⟩ = some (.int .i64 t852) ∧ w'.cell? ⟨gb855, 2, none⟩ = some (.bool t853)) (ds := []) #[false, false, false, false, false, false, false, false, false, false, false] (by kernel_rfl) rfl rfl ⟨(blk_cell BK855.out 0).trans rfl, (blk_cell BK855.out 1).trans rfl, (blk_cell BK855.out 2).trans rfl⟩ (fun hHeld => ?_); refine with_tabW L16AttrEnds.tab14 L16AttrEnds.bits14 (fun HT_ HW_ => ?_)
            generalize wc.drew = w33 at BK855 HB hHeld ⊢
            refine pure_ (i := 1) (N := some 64) (v := ?_) (a' := ?_) #[false, true, false, false, false, false, false, false, false, false, false] rfl rfl (any_of HT_.out (by kernel_rfl)) (fun _ _ _ h => h) (Or.inl ⟨by rfl, ?_⟩) ?_ ?_
            rotate_left
            ·
             intro w'
             go_simp
             with_reducible rfl
            rotate_left
            ·
             simp only [Act.put, List.setIfInBounds_toArray, List.set_cons_zero, List.set_cons_succ, i64_w, i32_w]
             rfl
            refine pure_ (i := 2) (N := some 65) (v := ?_) (a' := ?_) #[false, true, true, false, false, false, false, false, false, false, false] rfl rfl (any_of HT_.out (by kernel_rfl)) (fun _ _ _ h => h) (Or.inl ⟨by rfl, ?_⟩) ?_ ?_
            rotate_left
            ·
             intro w'
             go_simp
             with_reducible rfl
            rotate_left
            ·
             simp only [Act.put, List.setIfInBounds_toArray, List.set_cons_zero, List.set_cons_succ, i64_w, i32_w]
             rfl
            refine pure_ (i := 3) (N := some 66) (v := ?_) (a' := ?_) #[false, true, true, true, false, false, false, false, false, false, false] rfl rfl (any_of HT_.out (by kernel_rfl)) (fun _ _ _ h => h) (Or.inl ⟨by rfl, ?_⟩) ?_ ?_
            rotate_left
            ·
             intro w'
             go_simp
             with_reducible rfl
            rotate_left
            ·
             simp only [Act.put, List.setIfInBounds_toArray, List.set_cons_zero, List.set_cons_succ, i64_w, i32_w]
             rfl
            refine pure_ (i := 4) (N := some 67) (v := ?_) (a' := ?_) #[false, true, true, true, true, false, false, false, false, false, false] rfl rfl (any_of HT_.out (by kernel_rfl)) (fun _ _ _ h => h) (Or.inl ⟨by rfl, ?_⟩) ?_ ?_
            rotate_left
            ·
             intro w'
             go_simp
             with_reducible rfl
            rotate_left
            ·
             simp only [Act.put, List.setIfInBounds_toArray, List.set_cons_zero, List.set_cons_succ, i64_w, i32_w]
             rfl
            refine take_ (i := 0) (N := some 63) (v := ?_) (a' := ?_) #[true, true, true, true, true, false, false, false, false, false, false] rfl rfl (take_ofW HT_.out HW_.out (by kernel_rfl)) (fun _ _ _ h => h) (Or.inl ⟨by rfl, ?_⟩) hHeld ?_ ?_
            rotate_left
            ·
             rintro w' ⟨s0, s1, s2⟩
             go_simp
             with_reducible rfl
            rotate_left
            ·
             simp only [Act.put, List.setIfInBounds_toArray, List.set_cons_zero, List.set_cons_succ, i64_w, i32_w]
             rfl
            refine one_ (i := 5) (N := some 68) #[true, true, true, true, true, true, false, false, false, false, false] rfl rfl (one_of HT_.out (by kernel_rfl)) (by decide) (fun K hK => ?_)
            refine goes_ Tryz.func14 (by kernel_rfl) rfl #[.agg #[.string t851, .int .i64 t852, .bool t853], .string t856, .string (t856.extract 0 (x11_19 : Int).toNat), .slice none 0 0, .string (⟨#[]⟩ : ByteArray)] (by rfl) rfl rfl ap3 ?_
            refine (attr_Part.calls kj19 t851 t852 t853 t856 (t856.extract 0 (x11_19 : Int).toNat) _ _ ([] : List ByteArray) (⟨#[]⟩ : ByteArray) false t861 _ ?side1 ?side2 ?side3 A26.out).mono ?_
            (case side1 => exact Kd.C_nil _ _)
            (case side2 => exact Nat.le_refl _)
            (case side3 => first | exact HG.out | (refine Gw.below HG.out ?_; repeat (first | (with_reducible first | exact HB.out | apply below_alloc | apply pw_below_drewN | apply below_drew1 | refine below_set ?_ GE855.out) | exact HB.out)))
            rintro e w34 ⟨rfl, hb⟩
            refine ⟨_, rfl, ?_⟩
            have n0_ := Aside0.mk (blk_below (g := gb855) (o := .cells #[.string t851, .int .i64 t852, .bool t853] 23 (0, 0)) (apB BK855.out) hb)
            have n1_ := Aside0.mk (below_step (apG GE855.out) hb)
            clear BK855
            clear HB
            have BK855 := n0_
            have HB := n1_
            clear n0_ n1_
            (try clear hb)
            (try clear hb2)
            (try clear hk)
            (try clear hi)
            refine hK.out _ _ ⟨(blk_cell BK855.out 0).trans rfl, (blk_cell BK855.out 1).trans rfl, (blk_cell BK855.out 2).trans rfl⟩ (fun hHeld => ?_)
            clear hK K
            refine norm_ (a' := ?_) ?_ ?_
            rotate_left
            ·
             show Act.put _ (some 68) _ = _
             simp only [Act.put, List.setIfInBounds_toArray, List.set_cons_zero, List.set_cons_succ, i64_w, i32_w]
             rfl
            refine pure_ (i := 6) (N := some 62) (v := ?_) (a' := ?_) #[true, true, true, true, true, true, true, false, false, false, false] rfl rfl (any_of HT_.out (by kernel_rfl)) (fun _ _ _ h => h) (Or.inl ⟨by rfl, ?_⟩) ?_ ?_
            rotate_left
            ·
             intro w'
             go_simp
             with_reducible rfl
            rotate_left
            ·
             simp only [Act.put, List.setIfInBounds_toArray, List.set_cons_zero, List.set_cons_succ, i64_w, i32_w]
             rfl
            refine pure_ (i := 7) (N := some 69) (v := ?_) (a' := ?_) #[true, true, true, true, true, true, true, true, false, false, false] rfl rfl (any_of HT_.out (by kernel_rfl)) (fun _ _ _ h => h) (Or.inl ⟨by rfl, ?_⟩) ?_ ?_
            rotate_left
            ·
             intro w'
             go_simp
             with_reducible rfl
            rotate_left
            ·
             simp only [Act.put, List.setIfInBounds_toArray, List.set_cons_zero, List.set_cons_succ, i64_w, i32_w]
             rfl
            refine pure_ (i := 8) (N := some 70) (v := ?_) (a' := ?_) #[true, true, true, true, true, true, true, true, true, false, false] rfl rfl (any_of HT_.out (by kernel_rfl)) (fun _ _ _ h => h) (Or.inl ⟨by rfl, ?_⟩) ?_ ?_
            rotate_left
            ·
             intro w'
             go_simp
             with_reducible rfl
            rotate_left
            ·
             simp only [Act.put, List.setIfInBounds_toArray, List.set_cons_zero, List.set_cons_succ, i64_w, i32_w]
             rfl
            refine pure_ (i := 9) (N := some 14) (v := ?_) (a' := ?_) #[true, true, true, true, true, true, true, true, true, true, false] rfl rfl (any_of HT_.out (by kernel_rfl)) (fun _ _ _ h => h) (Or.inl ⟨by rfl, ?_⟩) ?_ ?_
            rotate_left
            ·
             intro w'
             go_simp
             with_reducible rfl
            rotate_left
            ·
             simp only [Act.put, List.setIfInBounds_toArray, List.set_cons_zero, List.set_cons_succ, i64_w, i32_w]
             rfl
            refine pure_ (i := 10) (N := some 15) (v := ?_) (a' := ?_) #[true, true, true, true, true, true, true, true, true, true, true] rfl rfl (any_of HT_.out (by kernel_rfl)) (fun _ _ _ h => h) (Or.inl ⟨by rfl, ?_⟩) ?_ ?_
            rotate_left
            ·
             intro w'
             go_simp
             with_reducible rfl
            rotate_left
            ·
             simp only [Act.put, List.setIfInBounds_toArray, List.set_cons_zero, List.set_cons_succ, i64_w, i32_w]
             rfl
            refine done_ (done_of HT_.out (by kernel_rfl)) ?_
            try go_wp2
            go_ret
            exact ⟨by first | rfl | (simp [errW_none, errW_some, bne_nil8, beq_nil8]; done) | (simp [errW_none, errW_some] <;> rfl) | (simp [*, errW_none, errW_some] <;> rfl), by repeat (first | (with_reducible first | exact HB.out | apply below_alloc | apply pw_below_drewN | apply below_drew1 | refine below_set ?_ GE855.out) | exact HB.out)⟩
          ·
           rw [if_neg c25] at H
           exact absurd H (by simp)
         ·
          rw [if_neg c24] at H
          exact absurd H (by simp)
        ·
         rw [if_neg c23] at H
         have c23b0 := decide_eq_false c23
         clear c23
         (first | rw [c23b0] | (simp only [i64_w, i32_w]; rw [c23b0]) | skip)
         have H' := Aside0.mk H
         clear H
         go_wp2
         first | go_meet | (simp only [c28b0] at *; go_meet) | (simp only [c28b0] at *; go_meet) | (simp only [c15b0] at *; go_meet)
         case rel => exact ⟨_, H', ⟨by have := HJ7.out; have := HJ19.out; first | omega | exact Nat.le_refl _⟩, ⟨by (with_reducible repeat (first | refine blk_drewN ?_ _ | refine blk_drew ?_ | refine blk_alloc ?_ _)); exact BK855.out⟩, ⟨by repeat (first | (with_reducible first | exact HB.out | apply below_alloc | apply pw_below_drewN | apply below_drew1 | refine below_set ?_ GE855.out) | exact HB.out)⟩⟩
       case rest =>
        clear HC22
        try clear c1
        try clear c2
        try clear p2
        try clear c5
        try clear c9
        try clear c14
        try clear c15
        try clear c15b0
        try clear c15b1
        try clear c16
        try clear c16b0
        try clear c16b1
        try clear c17
        try clear c18
        try clear c21
        try clear c21b0
        try clear c23
        try clear c23b0
        try clear c24
        try clear c24b0
        try clear c24b1
        try clear c25
        try clear c25b0
        try clear c25b1
        try clear c27
        try clear c28
        try clear c28b0
        try clear c28b1
        try clear hcz12_0
        try clear hcz12_1
        try clear hcz12_2
        try clear hfz12_0
        try clear hfz12_1
        try clear hfz12_2
        try clear p2
        obtain ⟨kq, HA, HJ21, BK855, HB⟩ := hcut
        cases kq with
        | zero => exact absurd HA.out (by simp [L16AttrEnds.j2])
        | succ kj21 =>
         have H := HA.out
         clear HA
         simp only [L16AttrEnds.j2] at H
         by_cases c35 : x12_19 < (t856.size : Int)
         ·
          rw [if_pos c35] at H
          have c35b0 := decide_eq_true c35
          clear c35
          by_cases c36 : 0 ≤ x12_19
          ·
           rw [if_pos c36] at H
           have c36b0 := eq_true c36
           have c36b1 := decide_eq_true c36
           clear c36
           by_cases c37 : x12_19 ≤ (t856.size : Int)
           ·
            rw [if_pos c37] at H
            have c37b0 := eq_true c37
            have c37b1 := decide_eq_true c37
            clear c37
            replace H := Option.bind_eq_some_iff.mp H
            obtain ⟨⟨t862, t863⟩, A380, H⟩ := H
            replace H : (if t862 = true then (if t863 = 0 then (if 0 ≤ x11_19 then (if x11_19 ≤ (t856.size : Int) then (if x11_19 ≤ x12_19 then ((attr_Part.f kj21 t851 t852 t853 t856 (t856.extract 0 (x11_19 : Int).toNat) (([t856.extract (x11_19 : Int).toNat (x12_19 : Int).toNat] : List ByteArray)) (t856.extract (x12_19 : Int).toNat t856.size)).bind fun bt867 => (if bt867.1 = true then (some (bt867.2 == 0)) else (some false))) else (none)) else (none)) else (none)) else (some false)) else (some false)) = some r := H
            have A38 := Aside0.mk A380
            clear A380
            by_cases c39 : t862 = true
            ·
             subst c39
             rw [if_pos rfl] at H
             by_cases c40 : t863 = 0
             ·
              rw [if_pos c40] at H
              have c40b0 : (t863 == 0) = true := beq_iff_eq.mpr c40
              have c40b1 : (t863 != 0) = false := bne_eq_false_iff_eq.mpr c40
              clear c40
              by_cases c41 : 0 ≤ x11_19
              ·
               rw [if_pos c41] at H
               have c41b0 := eq_true c41
               have c41b1 := decide_eq_true c41
               clear c41
               by_cases c42 : x11_19 ≤ (t856.size : Int)
               ·
                rw [if_pos c42] at H
                have c42b0 := eq_true c42
                have c42b1 := decide_eq_true c42
                clear c42
                have c43b0 := eq_true (of_decide_eq_true ap0 : 0 ≤ x11_19)
                by_cases c44 : x11_19 ≤ x12_19
                ·
                 rw [if_pos c44] at H
                 have c44b0 := eq_true c44
                 have c44b1 := decide_eq_true c44
                 clear c44
                 have c45b0 := eq_true (of_decide_eq_true ap0 : x12_19 ≤ (t856.size : Int))
                 obtain ⟨y864, hy864⟩ : ∃ y_ : List ByteArray, y_ = (([t856.extract (x11_19 : Int).toNat (x12_19 : Int).toNat] : List ByteArray)) := ⟨_, rfl⟩
                 replace H : ((attr_Part.f kj21 t851 t852 t853 t856 (t856.extract 0 (x11_19 : Int).toNat) y864 (t856.extract (x12_19 : Int).toNat t856.size)).bind fun bt867 => (if bt867.1 = true then (some (bt867.2 == 0)) else (some false))) = some r := by first | (rw [hy864]; with_reducible exact H) | (have H2_ := (Option.bind_some _ _).symm.trans H; rw [hy864]; with_reducible exact H2_) | (have H2_ := (Option.bind_some _ _).symm.trans H; with_reducible exact H2_) | with_reducible exact H | (rw [hy864]; exact H) | exact H
                 have Ny864 := Aside0.mk hy864
                 clear hy864
                 have c46b0 := eq_true (of_decide_eq_true ap0 : 0 ≤ x12_19)
                 have c47b0 := eq_true (of_decide_eq_true ap0 : x12_19 ≤ (t856.size : Int))
                 replace H := Option.bind_eq_some_iff.mp H
                 obtain ⟨⟨t867, t868⟩, A480, H⟩ := H
                 replace H : (if t867 = true then (some (t868 == 0)) else (some false)) = some r := H
                 have A48 := Aside0.mk A480
                 clear A480
                 by_cases c49 : t867 = true
                 ·
                  subst c49
                  rw [if_pos rfl] at H
                  obtain rfl := Option.some.inj H
                  try go_wp2
                  have n0_ := Aside0.mk (blk_drew BK855.out)
                  have n1_ := Aside0.mk (below_drew1 HB.out)
                  clear BK855
                  clear HB
                  have BK855 := n0_
                  have HB := n1_
                  clear n0_ n1_
                  refine start_ (n := 11) (S := fun w' => w'.cell? ⟨gb855, 0, none⟩ = some (.string t851) ∧ w'.cell? ⟨gb855, 1, none⟩ = some (.int .i64 t852) ∧ w'.cell? ⟨gb855, 2, none⟩ = some (.bool t853)) (ds := []) #[false, false, false, false, false, false, false, false, false, false, false] (by kernel_rfl) rfl rfl ⟨(blk_cell BK855.out 0).trans rfl, (blk_cell BK855.out 1).trans rfl, (blk_cell BK855.out 2).trans rfl⟩ (fun hHeld => ?_); refine with_tabW L16AttrEnds.tab18 L16AttrEnds.bits18 (fun HT_ HW_ => ?_)
                  generalize wc.drew = w50 at BK855 HB hHeld ⊢
                  refine pure_ (i := 1) (N := some 83) (v := ?_) (a' := ?_) #[false, true, false, false, false, false, false, false, false, false, false] rfl rfl (any_of HT_.out (by kernel_rfl)) (fun _ _ _ h => h) (Or.inl ⟨by rfl, ?_⟩) ?_ ?_
                  rotate_left
                  ·
                   intro w'
                   go_simp
                   with_reducible rfl
                  rotate_left
                  ·
                   simp only [Act.put, List.setIfInBounds_toArray, List.set_cons_zero, List.set_cons_succ, i64_w, i32_w]
                   rfl
                  refine pure_ (i := 2) (N := some 84) (v := ?_) (a' := ?_) #[false, true, true, false, false, false, false, false, false, false, false] rfl rfl (any_of HT_.out (by kernel_rfl)) (fun _ _ _ h => h) (Or.inl ⟨by rfl, ?_⟩) ?_ ?_
                  rotate_left
                  ·
                   intro w'
                   go_simp
                   with_reducible rfl
                  rotate_left
                  ·
                   simp only [Act.put, List.setIfInBounds_toArray, List.set_cons_zero, List.set_cons_succ, i64_w, i32_w]
                   rfl
                  refine pure_ (i := 3) (N := some 85) (v := ?_) (a' := ?_) #[false, true, true, true, false, false, false, false, false, false, false] rfl rfl (any_of HT_.out (by kernel_rfl)) (fun _ _ _ h => h) (Or.inl ⟨by rfl, ?_⟩) ?_ ?_
                  rotate_left
                  ·
                   intro w'
                   go_simp
                   with_reducible rfl
                  rotate_left
                  ·
                   simp only [Act.put, List.setIfInBounds_toArray, List.set_cons_zero, List.set_cons_succ, i64_w, i32_w]
                   rfl
                  refine pure_ (i := 4) (N := some 86) (v := ?_) (a' := ?_) #[false, true, true, true, true, false, false, false, false, false, false] rfl rfl (any_of HT_.out (by kernel_rfl)) (fun _ _ _ h => h) (Or.inl ⟨by rfl, ?_⟩) ?_ ?_
                  rotate_left
                  ·
                   intro w'
                   go_simp
                   with_reducible rfl
                  rotate_left
                  ·
                   simp only [Act.put, List.setIfInBounds_toArray, List.set_cons_zero, List.set_cons_succ, i64_w, i32_w]
                   rfl
                  refine take_ (i := 0) (N := some 82) (v := ?_) (a' := ?_) #[true, true, true, true, true, false, false, false, false, false, false] rfl rfl (take_ofW HT_.out HW_.out (by kernel_rfl)) (fun _ _ _ h => h) (Or.inl ⟨by rfl, ?_⟩) hHeld ?_ ?_
                  rotate_left
                  ·
                   rintro w' ⟨s0, s1, s2⟩
                   go_simp
                   with_reducible rfl
                  rotate_left
                  ·
                   simp only [Act.put, List.setIfInBounds_toArray, List.set_cons_zero, List.set_cons_succ, i64_w, i32_w]
                   rfl
                  refine one_ (i := 5) (N := some 87) #[true, true, true, true, true, true, false, false, false, false, false] rfl rfl (one_of HT_.out (by kernel_rfl)) (by decide) (fun K hK => ?_)
                  refine goes_ Tryz.func14 (by kernel_rfl) rfl #[.agg #[.string t851, .int .i64 t852, .bool t853], .string t856, .string (⟨#[]⟩ : ByteArray), .slice none 0 0, .string (t856.extract (x12_19 : Int).toNat t856.size)] (by rfl) rfl rfl ap3 ?_
                  refine (attr_Part.calls kj21 t851 t852 t853 t856 (⟨#[]⟩ : ByteArray) _ _ ([] : List ByteArray) (t856.extract (x12_19 : Int).toNat t856.size) true t863 _ ?side1 ?side2 ?side3 A38.out).mono ?_
                  (case side1 => exact Kd.C_nil _ _)
                  (case side2 => exact Nat.le_refl _)
                  (case side3 => first | exact HG.out | (refine Gw.below HG.out ?_; repeat (first | (with_reducible first | exact HB.out | apply below_alloc | apply pw_below_drewN | apply below_drew1 | refine below_set ?_ GE855.out) | exact HB.out)))
                  rintro e w51 ⟨rfl, hb⟩
                  refine ⟨_, rfl, ?_⟩
                  have n0_ := Aside0.mk (blk_below (g := gb855) (o := .cells #[.string t851, .int .i64 t852, .bool t853] 23 (0, 0)) (apB BK855.out) hb)
                  have n1_ := Aside0.mk (below_step (apG GE855.out) hb)
                  clear BK855
                  clear HB
                  have BK855 := n0_
                  have HB := n1_
                  clear n0_ n1_
                  (try clear hb)
                  (try clear hb2)
                  (try clear hk)
                  (try clear hi)
                  refine hK.out _ _ ⟨(blk_cell BK855.out 0).trans rfl, (blk_cell BK855.out 1).trans rfl, (blk_cell BK855.out 2).trans rfl⟩ (fun hHeld => ?_)
                  clear hK K
                  refine norm_ (a' := ?_) ?_ ?_
                  rotate_left
                  ·
                   show Act.put _ (some 87) _ = _
                   simp only [Act.put, List.setIfInBounds_toArray, List.set_cons_zero, List.set_cons_succ, i64_w, i32_w]
                   rfl
                  refine pure_ (i := 6) (N := some 81) (v := ?_) (a' := ?_) #[true, true, true, true, true, true, true, false, false, false, false] rfl rfl (any_of HT_.out (by kernel_rfl)) (fun _ _ _ h => h) (Or.inl ⟨by rfl, ?_⟩) ?_ ?_
                  rotate_left
                  ·
                   intro w'
                   go_simp
                   with_reducible rfl
                  rotate_left
                  ·
                   simp only [Act.put, List.setIfInBounds_toArray, List.set_cons_zero, List.set_cons_succ, i64_w, i32_w]
                   rfl
                  refine pure_ (i := 7) (N := some 88) (v := ?_) (a' := ?_) #[true, true, true, true, true, true, true, true, false, false, false] rfl rfl (any_of HT_.out (by kernel_rfl)) (fun _ _ _ h => h) (Or.inl ⟨by rfl, ?_⟩) ?_ ?_
                  rotate_left
                  ·
                   intro w'
                   go_simp
                   with_reducible rfl
                  rotate_left
                  ·
                   simp only [Act.put, List.setIfInBounds_toArray, List.set_cons_zero, List.set_cons_succ, i64_w, i32_w]
                   rfl
                  refine pure_ (i := 8) (N := some 89) (v := ?_) (a' := ?_) #[true, true, true, true, true, true, true, true, true, false, false] rfl rfl (any_of HT_.out (by kernel_rfl)) (fun _ _ _ h => h) (Or.inl ⟨by rfl, ?_⟩) ?_ ?_
                  rotate_left
                  ·
                   intro w'
                   go_simp
                   with_reducible rfl
                  rotate_left
                  ·
                   simp only [Act.put, List.setIfInBounds_toArray, List.set_cons_zero, List.set_cons_succ, i64_w, i32_w]
                   rfl
                  refine pure_ (i := 9) (N := some 16) (v := ?_) (a' := ?_) #[true, true, true, true, true, true, true, true, true, true, false] rfl rfl (any_of HT_.out (by kernel_rfl)) (fun _ _ _ h => h) (Or.inl ⟨by rfl, ?_⟩) ?_ ?_
                  rotate_left
                  ·
                   intro w'
                   go_simp
                   with_reducible rfl
                  rotate_left
                  ·
                   simp only [Act.put, List.setIfInBounds_toArray, List.set_cons_zero, List.set_cons_succ, i64_w, i32_w]
                   rfl
                  refine pure_ (i := 10) (N := some 17) (v := ?_) (a' := ?_) #[true, true, true, true, true, true, true, true, true, true, true] rfl rfl (any_of HT_.out (by kernel_rfl)) (fun _ _ _ h => h) (Or.inl ⟨by rfl, ?_⟩) ?_ ?_
                  rotate_left
                  ·
                   intro w'
                   go_simp
                   with_reducible rfl
                  rotate_left
                  ·
                   simp only [Act.put, List.setIfInBounds_toArray, List.set_cons_zero, List.set_cons_succ, i64_w, i32_w]
                   rfl
                  refine done_ (done_of HT_.out (by kernel_rfl)) ?_
                  try go_wp2
                  have n0_ := Aside0.mk (blk_drew BK855.out)
                  have n1_ := Aside0.mk (below_drew1 HB.out)
                  clear BK855
                  clear HB
                  have BK855 := n0_
                  have HB := n1_
                  clear n0_ n1_
                  refine start_ (n := 19) (S := fun w' => w'.cell? ⟨gb855, 0, none⟩ = some (.string t851) ∧ w'.cell? ⟨gb855, 1, none⟩ = some (.int .i64 t852) ∧ w'.cell? ⟨gb855, 2, none⟩ = some (.bool t853)) (ds := []) #[false, false, false, false, false, false, false, false, false, false, false, false, false, false, false, false, false, false, false] (by kernel_rfl) rfl rfl ⟨(blk_cell BK855.out 0).trans rfl, (blk_cell BK855.out 1).trans rfl, (blk_cell BK855.out 2).trans rfl⟩ (fun hHeld => ?_); refine with_tabW L16AttrEnds.tab21 L16AttrEnds.bits21 (fun HT_ HW_ => ?_)
                  generalize w51.drew = w52 at BK855 HB hHeld ⊢
                  refine pure_ (i := 1) (N := some 98) (v := ?_) (a' := ?_) #[false, true, false, false, false, false, false, false, false, false, false, false, false, false, false, false, false, false, false] rfl rfl (any_of HT_.out (by kernel_rfl)) (fun _ _ _ h => h) (Or.inl ⟨by rfl, ?_⟩) ?_ ?_
                  rotate_left
                  ·
                   intro w'
                   go_simp
                   with_reducible rfl
                  rotate_left
                  ·
                   simp only [Act.put, List.setIfInBounds_toArray, List.set_cons_zero, List.set_cons_succ, i64_w, i32_w]
                   rfl
                  refine pure_ (i := 2) (N := some 99) (v := ?_) (a' := ?_) #[false, true, true, false, false, false, false, false, false, false, false, false, false, false, false, false, false, false, false] rfl rfl (any_of HT_.out (by kernel_rfl)) (fun _ _ _ h => h) (Or.inl ⟨by rfl, ?_⟩) ?_ ?_
                  rotate_left
                  ·
                   intro w'
                   go_simp
                   with_reducible rfl
                  rotate_left
                  ·
                   simp only [Act.put, List.setIfInBounds_toArray, List.set_cons_zero, List.set_cons_succ, i64_w, i32_w]
                   rfl
                  refine pure_ (i := 3) (N := some 100) (v := ?_) (a' := ?_) #[false, true, true, true, false, false, false, false, false, false, false, false, false, false, false, false, false, false, false] rfl rfl (any_of HT_.out (by kernel_rfl)) (fun _ _ _ h => h) (Or.inl ⟨by rfl, ?_⟩) ?_ ?_
                  rotate_left
                  ·
                   intro w'
                   go_simp
                   with_reducible rfl
                  rotate_left
                  ·
                   simp only [Act.put, List.setIfInBounds_toArray, List.set_cons_zero, List.set_cons_succ, i64_w, i32_w]
                   rfl
                  refine pure_ (i := 4) (N := some 101) (v := ?_) (a' := ?_) #[false, true, true, true, true, false, false, false, false, false, false, false, false, false, false, false, false, false, false] rfl rfl (any_of HT_.out (by kernel_rfl)) (fun _ _ _ h => h) (Or.inl ⟨by rfl, ?_⟩) ?_ ?_
                  rotate_left
                  ·
                   intro w'
                   go_simp
                   with_reducible rfl
                  rotate_left
                  ·
                   simp only [Act.put, List.setIfInBounds_toArray, List.set_cons_zero, List.set_cons_succ, i64_w, i32_w]
                   rfl
                  refine pure_ (i := 5) (N := some 102) (v := ?_) (a' := ?_) #[false, true, true, true, true, true, false, false, false, false, false, false, false, false, false, false, false, false, false] rfl rfl (any_of HT_.out (by kernel_rfl)) (fun _ _ _ h => h) (Or.inl ⟨by rfl, ?_⟩) ?_ ?_
                  rotate_left
                  ·
                   intro w'
                   go_simp
                   with_reducible rfl
                  rotate_left
                  ·
                   simp only [Act.put, List.setIfInBounds_toArray, List.set_cons_zero, List.set_cons_succ, i64_w, i32_w]
                   rfl
                  refine pure_ (i := 6) (N := some 103) (v := ?_) (a' := ?_) #[false, true, true, true, true, true, true, false, false, false, false, false, false, false, false, false, false, false, false] rfl rfl (any_of HT_.out (by kernel_rfl)) (fun _ _ _ h => h) (Or.inl ⟨by rfl, ?_⟩) ?_ ?_
                  rotate_left
                  ·
                   intro w'
                   go_simp
                   with_reducible rfl
                  rotate_left
                  ·
                   simp only [Act.put, List.setIfInBounds_toArray, List.set_cons_zero, List.set_cons_succ, i64_w, i32_w]
                   rfl
                  refine pure_ (i := 7) (N := some 104) (v := ?_) (a' := ?_) #[false, true, true, true, true, true, true, true, false, false, false, false, false, false, false, false, false, false, false] rfl rfl (any_of HT_.out (by kernel_rfl)) (fun _ _ _ h => h) (Or.inl ⟨by rfl, ?_⟩) ?_ ?_
                  rotate_left
                  ·
                   intro w'
                   go_simp
                   with_reducible rfl
                  rotate_left
                  ·
                   simp only [Act.put, List.setIfInBounds_toArray, List.set_cons_zero, List.set_cons_succ, i64_w, i32_w]
                   rfl
                  refine pure_ (i := 8) (N := some 105) (v := ?_) (a' := ?_) #[false, true, true, true, true, true, true, true, true, false, false, false, false, false, false, false, false, false, false] rfl rfl (any_of HT_.out (by kernel_rfl)) (fun _ _ _ h => h) (Or.inl ⟨by rfl, ?_⟩) ?_ ?_
                  rotate_left
                  ·
                   intro w'
                   go_simp
                   with_reducible rfl
                  rotate_left
                  ·
                   simp only [Act.put, List.setIfInBounds_toArray, List.set_cons_zero, List.set_cons_succ, i64_w, i32_w]
                   rfl
                  refine pure_ (i := 10) (N := some 107) (v := ?_) (a' := ?_) #[false, true, true, true, true, true, true, true, true, false, true, false, false, false, false, false, false, false, false] rfl rfl (any_of HT_.out (by kernel_rfl)) (fun _ _ _ h => h) (Or.inl ⟨by rfl, ?_⟩) ?_ ?_
                  rotate_left
                  ·
                   intro w'
                   go_simp
                   with_reducible rfl
                  rotate_left
                  ·
                   simp only [Act.put, List.setIfInBounds_toArray, List.set_cons_zero, List.set_cons_succ, i64_w, i32_w]
                   rfl
                  refine pure_ (i := 11) (N := some 108) (v := ?_) (a' := ?_) #[false, true, true, true, true, true, true, true, true, false, true, true, false, false, false, false, false, false, false] rfl rfl (any_of HT_.out (by kernel_rfl)) (fun _ _ _ h => h) (Or.inl ⟨by rfl, ?_⟩) ?_ ?_
                  rotate_left
                  ·
                   intro w'
                   go_simp
                   with_reducible rfl
                  rotate_left
                  ·
                   simp only [Act.put, List.setIfInBounds_toArray, List.set_cons_zero, List.set_cons_succ, i64_w, i32_w]
                   rfl
                  refine pure_ (i := 12) (N := some 109) (v := ?_) (a' := ?_) #[false, true, true, true, true, true, true, true, true, false, true, true, true, false, false, false, false, false, false] rfl rfl (any_of HT_.out (by kernel_rfl)) (fun _ _ _ h => h) (Or.inl ⟨by rfl, ?_⟩) ?_ ?_
                  rotate_left
                  ·
                   intro w'
                   go_simp
                   with_reducible rfl
                  rotate_left
                  ·
                   simp only [Act.put, List.setIfInBounds_toArray, List.set_cons_zero, List.set_cons_succ, i64_w, i32_w]
                   rfl
                  refine take_ (i := 0) (N := some 97) (v := ?_) (a' := ?_) #[true, true, true, true, true, true, true, true, true, false, true, true, true, false, false, false, false, false, false] rfl rfl (take_ofW HT_.out HW_.out (by kernel_rfl)) (fun _ _ _ h => h) (Or.inl ⟨by rfl, ?_⟩) hHeld ?_ ?_
                  rotate_left
                  ·
                   rintro w' ⟨s0, s1, s2⟩
                   go_simp
                   with_reducible rfl
                  rotate_left
                  ·
                   simp only [Act.put, List.setIfInBounds_toArray, List.set_cons_zero, List.set_cons_succ, i64_w, i32_w]
                   rfl
                  refine one_ (i := 9) (N := some 106) #[true, true, true, true, true, true, true, true, true, true, true, true, true, false, false, false, false, false, false] rfl rfl (one_of HT_.out (by kernel_rfl)) (by decide) (fun K hK => ?_)
                  refine Kd.R_lit_step Kd.string _ 9 ?hg (N := 106) ?hd (xs := ([t856.extract (x11_19 : Int).toNat (x12_19 : Int).toNat] : List ByteArray)) (inner := [.string (t856.extract (x11_19 : Int).toNat (x12_19 : Int).toNat)]) (ok := fun _ => True) (okp := fun _ => True) ?hr ?hp (fun _ hk => hk) trivial (Below.refl _ _) (Nat.le_refl _) (by simp) ?_; (case hd => rfl); (case hg => rfl); (case hr => first | (go_simp; done) | (go_simp; rfl)); (case hp => exact (Reps.one (show Kd.M Kd.string _ _ _ (t856.extract (x11_19 : Int).toNat (x12_19 : Int).toNat) [.string (t856.extract (x11_19 : Int).toNat (x12_19 : Int).toNat)] from rfl) (Reps.none _ _)))
                  intro v865 w53 ho54 hb hg_ hnew_
                  clear hg_ hnew_
                  (first | rw [← Ny864.out] at ho54 | (simp only [Int.reduceToNat] at ho54; rw [← Ny864.out] at ho54))
                  have n0_ := Aside0.mk (Kd.R_lower ho54 (below_size (apG GE855.out)))
                  have n1_ := Aside0.mk (blk_below (g := gb855) (o := .cells #[.string t851, .int .i64 t852, .bool t853] 23 (0, 0)) (apB BK855.out) hb)
                  have n2_ := Aside0.mk (below_step (apG GE855.out) hb)
                  clear BK855
                  clear HB
                  have HO866 := n0_
                  have BK855 := n1_
                  have HB := n2_
                  clear n0_ n1_ n2_
                  clear hb ho54
                  obtain ⟨Ao55, co55, eo55⟩ := Kd.R_slice HO866.out
                  (first | subst eo55 | (injection eo55 with f1_ f2_ f3_; have f4_ := f1_.symm; have f5_ := f3_.symm; clear f1_ f2_ f3_; subst f4_; subst f5_))
                  refine hK.out _ _ ⟨(blk_cell BK855.out 0).trans rfl, (blk_cell BK855.out 1).trans rfl, (blk_cell BK855.out 2).trans rfl⟩ (fun hHeld => ?_)
                  clear hK K
                  refine norm_ (a' := ?_) ?_ ?_
                  rotate_left
                  ·
                   show Act.put _ (some 106) _ = _
                   simp only [Act.put, List.setIfInBounds_toArray, List.set_cons_zero, List.set_cons_succ, i64_w, i32_w]
                   rfl
                  refine one_ (i := 13) (N := some 110) #[true, true, true, true, true, true, true, true, true, true, true, true, true, true, false, false, false, false, false] rfl rfl (one_of HT_.out (by kernel_rfl)) (by decide) (fun K hK => ?_)
                  refine goes_ Tryz.func14 (by kernel_rfl) rfl #[.agg #[.string t851, .int .i64 t852, .bool t853], .string t856, .string (t856.extract 0 (x11_19 : Int).toNat), .slice Ao55 y864.length co55, .string (t856.extract (x12_19 : Int).toNat t856.size)] (by rfl) rfl rfl ap3 ?_
                  with_reducible refine (attr_Part.calls kj21 t851 t852 t853 t856 (t856.extract 0 (x11_19 : Int).toNat) _ _ y864 (t856.extract (x12_19 : Int).toNat t856.size) true t868 _ ?side1 ?side2 ?side3 A48.out).mono ?_
                  (case side1 => repeat (first | exact (Kd.R_reads' HO866.out).2.2 | (with_reducible refine Kd.C_alloc ?_ _) | (with_reducible refine Kd.C_drewN ?_ _) | (with_reducible refine Kd.C_drew ?_)))
                  (case side2 => exact (Kd.R_reads' HO866.out).2.1)
                  (case side3 => first | exact HG.out | (refine Gw.below HG.out ?_; repeat (first | (with_reducible first | exact HB.out | apply below_alloc | apply pw_below_drewN | apply below_drew1 | refine below_set ?_ GE855.out) | exact HB.out)))
                  rintro e w56 ⟨rfl, hb⟩
                  refine ⟨_, rfl, ?_⟩
                  have n0_ := Aside0.mk (Kd.R_below (apAR HO866.out) hb)
                  have n1_ := Aside0.mk (blk_below (g := gb855) (o := .cells #[.string t851, .int .i64 t852, .bool t853] 23 (0, 0)) (apB BK855.out) hb)
                  have n2_ := Aside0.mk (below_step (apG GE855.out) hb)
                  clear HO866
                  clear BK855
                  clear HB
                  have HO866 := n0_
                  have BK855 := n1_
                  have HB := n2_
                  clear n0_ n1_ n2_
                  (try clear hb)
                  (try clear hb2)
                  (try clear hk)
                  (try clear hi)
                  refine hK.out _ _ ⟨(blk_cell BK855.out 0).trans rfl, (blk_cell BK855.out 1).trans rfl, (blk_cell BK855.out 2).trans rfl⟩ (fun hHeld => ?_)
                  clear hK K
                  refine norm_ (a' := ?_) ?_ ?_
                  rotate_left
                  ·
                   show Act.put _ (some 110) _ = _
                   simp only [Act.put, List.setIfInBounds_toArray, List.set_cons_zero, List.set_cons_succ, i64_w, i32_w]
                   rfl
                  refine pure_ (i := 14) (N := some 96) (v := ?_) (a' := ?_) #[true, true, true, true, true, true, true, true, true, true, true, true, true, true, true, false, false, false, false] rfl rfl (any_of HT_.out (by kernel_rfl)) (fun _ _ _ h => h) (Or.inl ⟨by rfl, ?_⟩) ?_ ?_
                  rotate_left
                  ·
                   intro w'
                   go_simp
                   with_reducible rfl
                  rotate_left
                  ·
                   simp only [Act.put, List.setIfInBounds_toArray, List.set_cons_zero, List.set_cons_succ, i64_w, i32_w]
                   rfl
                  refine pure_ (i := 15) (N := some 111) (v := ?_) (a' := ?_) #[true, true, true, true, true, true, true, true, true, true, true, true, true, true, true, true, false, false, false] rfl rfl (any_of HT_.out (by kernel_rfl)) (fun _ _ _ h => h) (Or.inl ⟨by rfl, ?_⟩) ?_ ?_
                  rotate_left
                  ·
                   intro w'
                   go_simp
                   with_reducible rfl
                  rotate_left
                  ·
                   simp only [Act.put, List.setIfInBounds_toArray, List.set_cons_zero, List.set_cons_succ, i64_w, i32_w]
                   rfl
                  refine pure_ (i := 16) (N := some 112) (v := ?_) (a' := ?_) #[true, true, true, true, true, true, true, true, true, true, true, true, true, true, true, true, true, false, false] rfl rfl (any_of HT_.out (by kernel_rfl)) (fun _ _ _ h => h) (Or.inl ⟨by rfl, ?_⟩) ?_ ?_
                  rotate_left
                  ·
                   intro w'
                   go_simp
                   with_reducible rfl
                  rotate_left
                  ·
                   simp only [Act.put, List.setIfInBounds_toArray, List.set_cons_zero, List.set_cons_succ, i64_w, i32_w]
                   rfl
                  refine pure_ (i := 17) (N := some 18) (v := ?_) (a' := ?_) #[true, true, true, true, true, true, true, true, true, true, true, true, true, true, true, true, true, true, false] rfl rfl (any_of HT_.out (by kernel_rfl)) (fun _ _ _ h => h) (Or.inl ⟨by rfl, ?_⟩) ?_ ?_
                  rotate_left
                  ·
                   intro w'
                   go_simp
                   with_reducible rfl
                  rotate_left
                  ·
                   simp only [Act.put, List.setIfInBounds_toArray, List.set_cons_zero, List.set_cons_succ, i64_w, i32_w]
                   rfl
                  refine pure_ (i := 18) (N := some 19) (v := ?_) (a' := ?_) #[true, true, true, true, true, true, true, true, true, true, true, true, true, true, true, true, true, true, true] rfl rfl (any_of HT_.out (by kernel_rfl)) (fun _ _ _ h => h) (Or.inl ⟨by rfl, ?_⟩) ?_ ?_
                  rotate_left
                  ·
                   intro w'
                   go_simp
                   with_reducible rfl
                  rotate_left
                  ·
                   simp only [Act.put, List.setIfInBounds_toArray, List.set_cons_zero, List.set_cons_succ, i64_w, i32_w]
                   rfl
                  refine done_ (done_of HT_.out (by kernel_rfl)) ?_
                  try go_wp2
                  go_ret
                  exact ⟨by first | rfl | (simp [errW_none, errW_some, bne_nil8, beq_nil8]; done) | (simp [errW_none, errW_some] <;> rfl) | (simp [*, errW_none, errW_some] <;> rfl), by repeat (first | (with_reducible first | exact HB.out | apply below_alloc | apply pw_below_drewN | apply below_drew1 | refine below_set ?_ GE855.out) | exact HB.out)⟩
                 ·
                  replace c49 := Bool.eq_false_iff.mpr c49
                  subst c49
                  rw [if_neg (show ¬ (false = true) by decide)] at H
                  obtain rfl := Option.some.inj H
                  try go_wp2
                  have n0_ := Aside0.mk (blk_drew BK855.out)
                  have n1_ := Aside0.mk (below_drew1 HB.out)
                  clear BK855
                  clear HB
                  have BK855 := n0_
                  have HB := n1_
                  clear n0_ n1_
                  refine start_ (n := 11) (S := fun w' => w'.cell? ⟨gb855, 0, none⟩ = some (.string t851) ∧ w'.cell? ⟨gb855, 1, none⟩ = some (.int .i64 t852) ∧ w'.cell? ⟨gb855, 2, none⟩ = some (.bool t853)) (ds := []) #[false, false, false, false, false, false, false, false, false, false, false] (by kernel_rfl) rfl rfl ⟨(blk_cell BK855.out 0).trans rfl, (blk_cell BK855.out 1).trans rfl, (blk_cell BK855.out 2).trans rfl⟩ (fun hHeld => ?_); refine with_tabW L16AttrEnds.tab18 L16AttrEnds.bits18 (fun HT_ HW_ => ?_)
                  generalize wc.drew = w57 at BK855 HB hHeld ⊢
                  refine pure_ (i := 1) (N := some 83) (v := ?_) (a' := ?_) #[false, true, false, false, false, false, false, false, false, false, false] rfl rfl (any_of HT_.out (by kernel_rfl)) (fun _ _ _ h => h) (Or.inl ⟨by rfl, ?_⟩) ?_ ?_
                  rotate_left
                  ·
                   intro w'
                   go_simp
                   with_reducible rfl
                  rotate_left
                  ·
                   simp only [Act.put, List.setIfInBounds_toArray, List.set_cons_zero, List.set_cons_succ, i64_w, i32_w]
                   rfl
                  refine pure_ (i := 2) (N := some 84) (v := ?_) (a' := ?_) #[false, true, true, false, false, false, false, false, false, false, false] rfl rfl (any_of HT_.out (by kernel_rfl)) (fun _ _ _ h => h) (Or.inl ⟨by rfl, ?_⟩) ?_ ?_
                  rotate_left
                  ·
                   intro w'
                   go_simp
                   with_reducible rfl
                  rotate_left
                  ·
                   simp only [Act.put, List.setIfInBounds_toArray, List.set_cons_zero, List.set_cons_succ, i64_w, i32_w]
                   rfl
                  refine pure_ (i := 3) (N := some 85) (v := ?_) (a' := ?_) #[false, true, true, true, false, false, false, false, false, false, false] rfl rfl (any_of HT_.out (by kernel_rfl)) (fun _ _ _ h => h) (Or.inl ⟨by rfl, ?_⟩) ?_ ?_
                  rotate_left
                  ·
                   intro w'
                   go_simp
                   with_reducible rfl
                  rotate_left
                  ·
                   simp only [Act.put, List.setIfInBounds_toArray, List.set_cons_zero, List.set_cons_succ, i64_w, i32_w]
                   rfl
                  refine pure_ (i := 4) (N := some 86) (v := ?_) (a' := ?_) #[false, true, true, true, true, false, false, false, false, false, false] rfl rfl (any_of HT_.out (by kernel_rfl)) (fun _ _ _ h => h) (Or.inl ⟨by rfl, ?_⟩) ?_ ?_
                  rotate_left
                  ·
                   intro w'
                   go_simp
                   with_reducible rfl
                  rotate_left
                  ·
                   simp only [Act.put, List.setIfInBounds_toArray, List.set_cons_zero, List.set_cons_succ, i64_w, i32_w]
                   rfl
                  refine take_ (i := 0) (N := some 82) (v := ?_) (a' := ?_) #[true, true, true, true, true, false, false, false, false, false, false] rfl rfl (take_ofW HT_.out HW_.out (by kernel_rfl)) (fun _ _ _ h => h) (Or.inl ⟨by rfl, ?_⟩) hHeld ?_ ?_
                  rotate_left
                  ·
                   rintro w' ⟨s0, s1, s2⟩
                   go_simp
                   with_reducible rfl
                  rotate_left
                  ·
                   simp only [Act.put, List.setIfInBounds_toArray, List.set_cons_zero, List.set_cons_succ, i64_w, i32_w]
                   rfl
                  refine one_ (i := 5) (N := some 87) #[true, true, true, true, true, true, false, false, false, false, false] rfl rfl (one_of HT_.out (by kernel_rfl)) (by decide) (fun K hK => ?_)
                  refine goes_ Tryz.func14 (by kernel_rfl) rfl #[.agg #[.string t851, .int .i64 t852, .bool t853], .string t856, .string (⟨#[]⟩ : ByteArray), .slice none 0 0, .string (t856.extract (x12_19 : Int).toNat t856.size)] (by rfl) rfl rfl ap3 ?_
                  refine (attr_Part.calls kj21 t851 t852 t853 t856 (⟨#[]⟩ : ByteArray) _ _ ([] : List ByteArray) (t856.extract (x12_19 : Int).toNat t856.size) true t863 _ ?side1 ?side2 ?side3 A38.out).mono ?_
                  (case side1 => exact Kd.C_nil _ _)
                  (case side2 => exact Nat.le_refl _)
                  (case side3 => first | exact HG.out | (refine Gw.below HG.out ?_; repeat (first | (with_reducible first | exact HB.out | apply below_alloc | apply pw_below_drewN | apply below_drew1 | refine below_set ?_ GE855.out) | exact HB.out)))
                  rintro e w58 ⟨rfl, hb⟩
                  refine ⟨_, rfl, ?_⟩
                  have n0_ := Aside0.mk (blk_below (g := gb855) (o := .cells #[.string t851, .int .i64 t852, .bool t853] 23 (0, 0)) (apB BK855.out) hb)
                  have n1_ := Aside0.mk (below_step (apG GE855.out) hb)
                  clear BK855
                  clear HB
                  have BK855 := n0_
                  have HB := n1_
                  clear n0_ n1_
                  (try clear hb)
                  (try clear hb2)
                  (try clear hk)
                  (try clear hi)
                  refine hK.out _ _ ⟨(blk_cell BK855.out 0).trans rfl, (blk_cell BK855.out 1).trans rfl, (blk_cell BK855.out 2).trans rfl⟩ (fun hHeld => ?_)
                  clear hK K
                  refine norm_ (a' := ?_) ?_ ?_
                  rotate_left
                  ·
                   show Act.put _ (some 87) _ = _
                   simp only [Act.put, List.setIfInBounds_toArray, List.set_cons_zero, List.set_cons_succ, i64_w, i32_w]
                   rfl
                  refine pure_ (i := 6) (N := some 81) (v := ?_) (a' := ?_) #[true, true, true, true, true, true, true, false, false, false, false] rfl rfl (any_of HT_.out (by kernel_rfl)) (fun _ _ _ h => h) (Or.inl ⟨by rfl, ?_⟩) ?_ ?_
                  rotate_left
                  ·
                   intro w'
                   go_simp
                   with_reducible rfl
                  rotate_left
                  ·
                   simp only [Act.put, List.setIfInBounds_toArray, List.set_cons_zero, List.set_cons_succ, i64_w, i32_w]
                   rfl
                  refine pure_ (i := 7) (N := some 88) (v := ?_) (a' := ?_) #[true, true, true, true, true, true, true, true, false, false, false] rfl rfl (any_of HT_.out (by kernel_rfl)) (fun _ _ _ h => h) (Or.inl ⟨by rfl, ?_⟩) ?_ ?_
                  rotate_left
                  ·
                   intro w'
                   go_simp
                   with_reducible rfl
                  rotate_left
                  ·
                   simp only [Act.put, List.setIfInBounds_toArray, List.set_cons_zero, List.set_cons_succ, i64_w, i32_w]
                   rfl
                  refine pure_ (i := 8) (N := some 89) (v := ?_) (a' := ?_) #[true, true, true, true, true, true, true, true, true, false, false] rfl rfl (any_of HT_.out (by kernel_rfl)) (fun _ _ _ h => h) (Or.inl ⟨by rfl, ?_⟩) ?_ ?_
                  rotate_left
                  ·
                   intro w'
                   go_simp
                   with_reducible rfl
                  rotate_left
                  ·
                   simp only [Act.put, List.setIfInBounds_toArray, List.set_cons_zero, List.set_cons_succ, i64_w, i32_w]
                   rfl
                  refine pure_ (i := 9) (N := some 16) (v := ?_) (a' := ?_) #[true, true, true, true, true, true, true, true, true, true, false] rfl rfl (any_of HT_.out (by kernel_rfl)) (fun _ _ _ h => h) (Or.inl ⟨by rfl, ?_⟩) ?_ ?_
                  rotate_left
                  ·
                   intro w'
                   go_simp
                   with_reducible rfl
                  rotate_left
                  ·
                   simp only [Act.put, List.setIfInBounds_toArray, List.set_cons_zero, List.set_cons_succ, i64_w, i32_w]
                   rfl
                  refine pure_ (i := 10) (N := some 17) (v := ?_) (a' := ?_) #[true, true, true, true, true, true, true, true, true, true, true] rfl rfl (any_of HT_.out (by kernel_rfl)) (fun _ _ _ h => h) (Or.inl ⟨by rfl, ?_⟩) ?_ ?_
                  rotate_left
                  ·
                   intro w'
                   go_simp
                   with_reducible rfl
                  rotate_left
                  ·
                   simp only [Act.put, List.setIfInBounds_toArray, List.set_cons_zero, List.set_cons_succ, i64_w, i32_w]
                   rfl
                  refine done_ (done_of HT_.out (by kernel_rfl)) ?_
                  try go_wp2
                  have n0_ := Aside0.mk (blk_drew BK855.out)
                  have n1_ := Aside0.mk (below_drew1 HB.out)
                  clear BK855
                  clear HB
                  have BK855 := n0_
                  have HB := n1_
                  clear n0_ n1_
                  refine start_ (n := 19) (S := fun w' => w'.cell? ⟨gb855, 0, none⟩ = some (.string t851) ∧ w'.cell? ⟨gb855, 1, none⟩ = some (.int .i64 t852) ∧ w'.cell? ⟨gb855, 2, none⟩ = some (.bool t853)) (ds := []) #[false, false, false, false, false, false, false, false, false, false, false, false, false, false, false, false, false, false, false] (by kernel_rfl) rfl rfl ⟨(blk_cell BK855.out 0).trans rfl, (blk_cell BK855.out 1).trans rfl, (blk_cell BK855.out 2).trans rfl⟩ (fun hHeld => ?_); refine with_tabW L16AttrEnds.tab21 L16AttrEnds.bits21 (fun HT_ HW_ => ?_)
                  generalize w58.drew = w59 at BK855 HB hHeld ⊢
                  refine pure_ (i := 1) (N := some 98) (v := ?_) (a' := ?_) #[false, true, false, false, false, false, false, false, false, false, false, false, false, false, false, false, false, false, false] rfl rfl (any_of HT_.out (by kernel_rfl)) (fun _ _ _ h => h) (Or.inl ⟨by rfl, ?_⟩) ?_ ?_
                  rotate_left
                  ·
                   intro w'
                   go_simp
                   with_reducible rfl
                  rotate_left
                  ·
                   simp only [Act.put, List.setIfInBounds_toArray, List.set_cons_zero, List.set_cons_succ, i64_w, i32_w]
                   rfl
                  refine pure_ (i := 2) (N := some 99) (v := ?_) (a' := ?_) #[false, true, true, false, false, false, false, false, false, false, false, false, false, false, false, false, false, false, false] rfl rfl (any_of HT_.out (by kernel_rfl)) (fun _ _ _ h => h) (Or.inl ⟨by rfl, ?_⟩) ?_ ?_
                  rotate_left
                  ·
                   intro w'
                   go_simp
                   with_reducible rfl
                  rotate_left
                  ·
                   simp only [Act.put, List.setIfInBounds_toArray, List.set_cons_zero, List.set_cons_succ, i64_w, i32_w]
                   rfl
                  refine pure_ (i := 3) (N := some 100) (v := ?_) (a' := ?_) #[false, true, true, true, false, false, false, false, false, false, false, false, false, false, false, false, false, false, false] rfl rfl (any_of HT_.out (by kernel_rfl)) (fun _ _ _ h => h) (Or.inl ⟨by rfl, ?_⟩) ?_ ?_
                  rotate_left
                  ·
                   intro w'
                   go_simp
                   with_reducible rfl
                  rotate_left
                  ·
                   simp only [Act.put, List.setIfInBounds_toArray, List.set_cons_zero, List.set_cons_succ, i64_w, i32_w]
                   rfl
                  refine pure_ (i := 4) (N := some 101) (v := ?_) (a' := ?_) #[false, true, true, true, true, false, false, false, false, false, false, false, false, false, false, false, false, false, false] rfl rfl (any_of HT_.out (by kernel_rfl)) (fun _ _ _ h => h) (Or.inl ⟨by rfl, ?_⟩) ?_ ?_
                  rotate_left
                  ·
                   intro w'
                   go_simp
                   with_reducible rfl
                  rotate_left
                  ·
                   simp only [Act.put, List.setIfInBounds_toArray, List.set_cons_zero, List.set_cons_succ, i64_w, i32_w]
                   rfl
                  refine pure_ (i := 5) (N := some 102) (v := ?_) (a' := ?_) #[false, true, true, true, true, true, false, false, false, false, false, false, false, false, false, false, false, false, false] rfl rfl (any_of HT_.out (by kernel_rfl)) (fun _ _ _ h => h) (Or.inl ⟨by rfl, ?_⟩) ?_ ?_
                  rotate_left
                  ·
                   intro w'
                   go_simp
                   with_reducible rfl
                  rotate_left
                  ·
                   simp only [Act.put, List.setIfInBounds_toArray, List.set_cons_zero, List.set_cons_succ, i64_w, i32_w]
                   rfl
                  refine pure_ (i := 6) (N := some 103) (v := ?_) (a' := ?_) #[false, true, true, true, true, true, true, false, false, false, false, false, false, false, false, false, false, false, false] rfl rfl (any_of HT_.out (by kernel_rfl)) (fun _ _ _ h => h) (Or.inl ⟨by rfl, ?_⟩) ?_ ?_
                  rotate_left
                  ·
                   intro w'
                   go_simp
                   with_reducible rfl
                  rotate_left
                  ·
                   simp only [Act.put, List.setIfInBounds_toArray, List.set_cons_zero, List.set_cons_succ, i64_w, i32_w]
                   rfl
                  refine pure_ (i := 7) (N := some 104) (v := ?_) (a' := ?_) #[false, true, true, true, true, true, true, true, false, false, false, false, false, false, false, false, false, false, false] rfl rfl (any_of HT_.out (by kernel_rfl)) (fun _ _ _ h => h) (Or.inl ⟨by rfl, ?_⟩) ?_ ?_
                  rotate_left
                  ·
                   intro w'
                   go_simp
                   with_reducible rfl
                  rotate_left
                  ·
                   simp only [Act.put, List.setIfInBounds_toArray, List.set_cons_zero, List.set_cons_succ, i64_w, i32_w]
                   rfl
                  refine pure_ (i := 8) (N := some 105) (v := ?_) (a' := ?_) #[false, true, true, true, true, true, true, true, true, false, false, false, false, false, false, false, false, false, false] rfl rfl (any_of HT_.out (by kernel_rfl)) (fun _ _ _ h => h) (Or.inl ⟨by rfl, ?_⟩) ?_ ?_
                  rotate_left
                  ·
                   intro w'
                   go_simp
                   with_reducible rfl
                  rotate_left
                  ·
                   simp only [Act.put, List.setIfInBounds_toArray, List.set_cons_zero, List.set_cons_succ, i64_w, i32_w]
                   rfl
                  refine pure_ (i := 10) (N := some 107) (v := ?_) (a' := ?_) #[false, true, true, true, true, true, true, true, true, false, true, false, false, false, false, false, false, false, false] rfl rfl (any_of HT_.out (by kernel_rfl)) (fun _ _ _ h => h) (Or.inl ⟨by rfl, ?_⟩) ?_ ?_
                  rotate_left
                  ·
                   intro w'
                   go_simp
                   with_reducible rfl
                  rotate_left
                  ·
                   simp only [Act.put, List.setIfInBounds_toArray, List.set_cons_zero, List.set_cons_succ, i64_w, i32_w]
                   rfl
                  refine pure_ (i := 11) (N := some 108) (v := ?_) (a' := ?_) #[false, true, true, true, true, true, true, true, true, false, true, true, false, false, false, false, false, false, false] rfl rfl (any_of HT_.out (by kernel_rfl)) (fun _ _ _ h => h) (Or.inl ⟨by rfl, ?_⟩) ?_ ?_
                  rotate_left
                  ·
                   intro w'
                   go_simp
                   with_reducible rfl
                  rotate_left
                  ·
                   simp only [Act.put, List.setIfInBounds_toArray, List.set_cons_zero, List.set_cons_succ, i64_w, i32_w]
                   rfl
                  refine pure_ (i := 12) (N := some 109) (v := ?_) (a' := ?_) #[false, true, true, true, true, true, true, true, true, false, true, true, true, false, false, false, false, false, false] rfl rfl (any_of HT_.out (by kernel_rfl)) (fun _ _ _ h => h) (Or.inl ⟨by rfl, ?_⟩) ?_ ?_
                  rotate_left
                  ·
                   intro w'
                   go_simp
                   with_reducible rfl
                  rotate_left
                  ·
                   simp only [Act.put, List.setIfInBounds_toArray, List.set_cons_zero, List.set_cons_succ, i64_w, i32_w]
                   rfl
                  refine take_ (i := 0) (N := some 97) (v := ?_) (a' := ?_) #[true, true, true, true, true, true, true, true, true, false, true, true, true, false, false, false, false, false, false] rfl rfl (take_ofW HT_.out HW_.out (by kernel_rfl)) (fun _ _ _ h => h) (Or.inl ⟨by rfl, ?_⟩) hHeld ?_ ?_
                  rotate_left
                  ·
                   rintro w' ⟨s0, s1, s2⟩
                   go_simp
                   with_reducible rfl
                  rotate_left
                  ·
                   simp only [Act.put, List.setIfInBounds_toArray, List.set_cons_zero, List.set_cons_succ, i64_w, i32_w]
                   rfl
                  refine one_ (i := 9) (N := some 106) #[true, true, true, true, true, true, true, true, true, true, true, true, true, false, false, false, false, false, false] rfl rfl (one_of HT_.out (by kernel_rfl)) (by decide) (fun K hK => ?_)
                  refine Kd.R_lit_step Kd.string _ 9 ?hg (N := 106) ?hd (xs := ([t856.extract (x11_19 : Int).toNat (x12_19 : Int).toNat] : List ByteArray)) (inner := [.string (t856.extract (x11_19 : Int).toNat (x12_19 : Int).toNat)]) (ok := fun _ => True) (okp := fun _ => True) ?hr ?hp (fun _ hk => hk) trivial (Below.refl _ _) (Nat.le_refl _) (by simp) ?_; (case hd => rfl); (case hg => rfl); (case hr => first | (go_simp; done) | (go_simp; rfl)); (case hp => exact (Reps.one (show Kd.M Kd.string _ _ _ (t856.extract (x11_19 : Int).toNat (x12_19 : Int).toNat) [.string (t856.extract (x11_19 : Int).toNat (x12_19 : Int).toNat)] from rfl) (Reps.none _ _)))
                  intro v865 w60 ho61 hb hg_ hnew_
                  clear hg_ hnew_
                  (first | rw [← Ny864.out] at ho61 | (simp only [Int.reduceToNat] at ho61; rw [← Ny864.out] at ho61))
                  have n0_ := Aside0.mk (Kd.R_lower ho61 (below_size (apG GE855.out)))
                  have n1_ := Aside0.mk (blk_below (g := gb855) (o := .cells #[.string t851, .int .i64 t852, .bool t853] 23 (0, 0)) (apB BK855.out) hb)
                  have n2_ := Aside0.mk (below_step (apG GE855.out) hb)
                  clear BK855
                  clear HB
                  have HO866 := n0_
                  have BK855 := n1_
                  have HB := n2_
                  clear n0_ n1_ n2_
                  clear hb ho61
                  obtain ⟨Ao62, co62, eo62⟩ := Kd.R_slice HO866.out
                  (first | subst eo62 | (injection eo62 with f1_ f2_ f3_; have f4_ := f1_.symm; have f5_ := f3_.symm; clear f1_ f2_ f3_; subst f4_; subst f5_))
                  refine hK.out _ _ ⟨(blk_cell BK855.out 0).trans rfl, (blk_cell BK855.out 1).trans rfl, (blk_cell BK855.out 2).trans rfl⟩ (fun hHeld => ?_)
                  clear hK K
                  refine norm_ (a' := ?_) ?_ ?_
                  rotate_left
                  ·
                   show Act.put _ (some 106) _ = _
                   simp only [Act.put, List.setIfInBounds_toArray, List.set_cons_zero, List.set_cons_succ, i64_w, i32_w]
                   rfl
                  refine one_ (i := 13) (N := some 110) #[true, true, true, true, true, true, true, true, true, true, true, true, true, true, false, false, false, false, false] rfl rfl (one_of HT_.out (by kernel_rfl)) (by decide) (fun K hK => ?_)
                  refine goes_ Tryz.func14 (by kernel_rfl) rfl #[.agg #[.string t851, .int .i64 t852, .bool t853], .string t856, .string (t856.extract 0 (x11_19 : Int).toNat), .slice Ao62 y864.length co62, .string (t856.extract (x12_19 : Int).toNat t856.size)] (by rfl) rfl rfl ap3 ?_
                  with_reducible refine (attr_Part.calls kj21 t851 t852 t853 t856 (t856.extract 0 (x11_19 : Int).toNat) _ _ y864 (t856.extract (x12_19 : Int).toNat t856.size) false t868 _ ?side1 ?side2 ?side3 A48.out).mono ?_
                  (case side1 => repeat (first | exact (Kd.R_reads' HO866.out).2.2 | (with_reducible refine Kd.C_alloc ?_ _) | (with_reducible refine Kd.C_drewN ?_ _) | (with_reducible refine Kd.C_drew ?_)))
                  (case side2 => exact (Kd.R_reads' HO866.out).2.1)
                  (case side3 => first | exact HG.out | (refine Gw.below HG.out ?_; repeat (first | (with_reducible first | exact HB.out | apply below_alloc | apply pw_below_drewN | apply below_drew1 | refine below_set ?_ GE855.out) | exact HB.out)))
                  rintro e w63 ⟨rfl, hb⟩
                  refine ⟨_, rfl, ?_⟩
                  have n0_ := Aside0.mk (Kd.R_below (apAR HO866.out) hb)
                  have n1_ := Aside0.mk (blk_below (g := gb855) (o := .cells #[.string t851, .int .i64 t852, .bool t853] 23 (0, 0)) (apB BK855.out) hb)
                  have n2_ := Aside0.mk (below_step (apG GE855.out) hb)
                  clear HO866
                  clear BK855
                  clear HB
                  have HO866 := n0_
                  have BK855 := n1_
                  have HB := n2_
                  clear n0_ n1_ n2_
                  (try clear hb)
                  (try clear hb2)
                  (try clear hk)
                  (try clear hi)
                  refine hK.out _ _ ⟨(blk_cell BK855.out 0).trans rfl, (blk_cell BK855.out 1).trans rfl, (blk_cell BK855.out 2).trans rfl⟩ (fun hHeld => ?_)
                  clear hK K
                  refine norm_ (a' := ?_) ?_ ?_
                  rotate_left
                  ·
                   show Act.put _ (some 110) _ = _
                   simp only [Act.put, List.setIfInBounds_toArray, List.set_cons_zero, List.set_cons_succ, i64_w, i32_w]
                   rfl
                  refine pure_ (i := 14) (N := some 96) (v := ?_) (a' := ?_) #[true, true, true, true, true, true, true, true, true, true, true, true, true, true, true, false, false, false, false] rfl rfl (any_of HT_.out (by kernel_rfl)) (fun _ _ _ h => h) (Or.inl ⟨by rfl, ?_⟩) ?_ ?_
                  rotate_left
                  ·
                   intro w'
                   go_simp
                   with_reducible rfl
                  rotate_left
                  ·
                   simp only [Act.put, List.setIfInBounds_toArray, List.set_cons_zero, List.set_cons_succ, i64_w, i32_w]
                   rfl
                  refine pure_ (i := 15) (N := some 111) (v := ?_) (a' := ?_) #[true, true, true, true, true, true, true, true, true, true, true, true, true, true, true, true, false, false, false] rfl rfl (any_of HT_.out (by kernel_rfl)) (fun _ _ _ h => h) (Or.inl ⟨by rfl, ?_⟩) ?_ ?_
                  rotate_left
                  ·
                   intro w'
                   go_simp
                   with_reducible rfl
                  rotate_left
                  ·
                   simp only [Act.put, List.setIfInBounds_toArray, List.set_cons_zero, List.set_cons_succ, i64_w, i32_w]
                   rfl
                  refine pure_ (i := 16) (N := some 112) (v := ?_) (a' := ?_) #[true, true, true, true, true, true, true, true, true, true, true, true, true, true, true, true, true, false, false] rfl rfl (any_of HT_.out (by kernel_rfl)) (fun _ _ _ h => h) (Or.inl ⟨by rfl, ?_⟩) ?_ ?_
                  rotate_left
                  ·
                   intro w'
                   go_simp
                   with_reducible rfl
                  rotate_left
                  ·
                   simp only [Act.put, List.setIfInBounds_toArray, List.set_cons_zero, List.set_cons_succ, i64_w, i32_w]
                   rfl
                  refine pure_ (i := 17) (N := some 18) (v := ?_) (a' := ?_) #[true, true, true, true, true, true, true, true, true, true, true, true, true, true, true, true, true, true, false] rfl rfl (any_of HT_.out (by kernel_rfl)) (fun _ _ _ h => h) (Or.inl ⟨by rfl, ?_⟩) ?_ ?_
                  rotate_left
                  ·
                   intro w'
                   go_simp
                   with_reducible rfl
                  rotate_left
                  ·
                   simp only [Act.put, List.setIfInBounds_toArray, List.set_cons_zero, List.set_cons_succ, i64_w, i32_w]
                   rfl
                  refine pure_ (i := 18) (N := some 19) (v := ?_) (a' := ?_) #[true, true, true, true, true, true, true, true, true, true, true, true, true, true, true, true, true, true, true] rfl rfl (any_of HT_.out (by kernel_rfl)) (fun _ _ _ h => h) (Or.inl ⟨by rfl, ?_⟩) ?_ ?_
                  rotate_left
                  ·
                   intro w'
                   go_simp
                   with_reducible rfl
                  rotate_left
                  ·
                   simp only [Act.put, List.setIfInBounds_toArray, List.set_cons_zero, List.set_cons_succ, i64_w, i32_w]
                   rfl
                  refine done_ (done_of HT_.out (by kernel_rfl)) ?_
                  try go_wp2
                  go_ret
                  exact ⟨by first | rfl | (simp [errW_none, errW_some, bne_nil8, beq_nil8]; done) | (simp [errW_none, errW_some] <;> rfl) | (simp [*, errW_none, errW_some] <;> rfl), by repeat (first | (with_reducible first | exact HB.out | apply below_alloc | apply pw_below_drewN | apply below_drew1 | refine below_set ?_ GE855.out) | exact HB.out)⟩
                ·
                 rw [if_neg c44] at H
                 exact absurd H (by simp)
               ·
                rw [if_neg c42] at H
                exact absurd H (by simp)
              ·
               rw [if_neg c41] at H
               exact absurd H (by simp)
             ·
              rw [if_neg c40] at H
              have c40b0 : (t863 == 0) = false := beq_eq_false_iff_ne.mpr c40
              have c40b1 : (t863 != 0) = true := bne_iff_ne.mpr c40
              obtain rfl := Option.some.inj H
              try go_wp2
              have n0_ := Aside0.mk (blk_drew BK855.out)
              have n1_ := Aside0.mk (below_drew1 HB.out)
              clear BK855
              clear HB
              have BK855 := n0_
              have HB := n1_
              clear n0_ n1_
              refine start_ (n := 11) (S := fun w' => w'.cell? ⟨gb855, 0, none⟩ = some (.string t851) ∧ w'.cell? ⟨gb855, 1, none⟩ = some (.int .i64 t852) ∧ w'.cell? ⟨gb855, 2, none⟩ = some (.bool t853)) (ds := []) #[false, false, false, false, false, false, false, false, false, false, false] (by kernel_rfl) rfl rfl ⟨(blk_cell BK855.out 0).trans rfl, (blk_cell BK855.out 1).trans rfl, (blk_cell BK855.out 2).trans rfl⟩ (fun hHeld => ?_); refine with_tabW L16AttrEnds.tab18 L16AttrEnds.bits18 (fun HT_ HW_ => ?_)
              generalize wc.drew = w64 at BK855 HB hHeld ⊢
              refine pure_ (i := 1) (N := some 83) (v := ?_) (a' := ?_) #[false, true, false, false, false, false, false, false, false, false, false] rfl rfl (any_of HT_.out (by kernel_rfl)) (fun _ _ _ h => h) (Or.inl ⟨by rfl, ?_⟩) ?_ ?_
              rotate_left
              ·
               intro w'
               go_simp
               with_reducible rfl
              rotate_left
              ·
               simp only [Act.put, List.setIfInBounds_toArray, List.set_cons_zero, List.set_cons_succ, i64_w, i32_w]
               rfl
              refine pure_ (i := 2) (N := some 84) (v := ?_) (a' := ?_) #[false, true, true, false, false, false, false, false, false, false, false] rfl rfl (any_of HT_.out (by kernel_rfl)) (fun _ _ _ h => h) (Or.inl ⟨by rfl, ?_⟩) ?_ ?_
              rotate_left
              ·
               intro w'
               go_simp
               with_reducible rfl
              rotate_left
              ·
               simp only [Act.put, List.setIfInBounds_toArray, List.set_cons_zero, List.set_cons_succ, i64_w, i32_w]
               rfl
              refine pure_ (i := 3) (N := some 85) (v := ?_) (a' := ?_) #[false, true, true, true, false, false, false, false, false, false, false] rfl rfl (any_of HT_.out (by kernel_rfl)) (fun _ _ _ h => h) (Or.inl ⟨by rfl, ?_⟩) ?_ ?_
              rotate_left
              ·
               intro w'
               go_simp
               with_reducible rfl
              rotate_left
              ·
               simp only [Act.put, List.setIfInBounds_toArray, List.set_cons_zero, List.set_cons_succ, i64_w, i32_w]
               rfl
              refine pure_ (i := 4) (N := some 86) (v := ?_) (a' := ?_) #[false, true, true, true, true, false, false, false, false, false, false] rfl rfl (any_of HT_.out (by kernel_rfl)) (fun _ _ _ h => h) (Or.inl ⟨by rfl, ?_⟩) ?_ ?_
              rotate_left
              ·
               intro w'
               go_simp
               with_reducible rfl
              rotate_left
              ·
               simp only [Act.put, List.setIfInBounds_toArray, List.set_cons_zero, List.set_cons_succ, i64_w, i32_w]
               rfl
              refine take_ (i := 0) (N := some 82) (v := ?_) (a' := ?_) #[true, true, true, true, true, false, false, false, false, false, false] rfl rfl (take_ofW HT_.out HW_.out (by kernel_rfl)) (fun _ _ _ h => h) (Or.inl ⟨by rfl, ?_⟩) hHeld ?_ ?_
              rotate_left
              ·
               rintro w' ⟨s0, s1, s2⟩
               go_simp
               with_reducible rfl
              rotate_left
              ·
               simp only [Act.put, List.setIfInBounds_toArray, List.set_cons_zero, List.set_cons_succ, i64_w, i32_w]
               rfl
              refine one_ (i := 5) (N := some 87) #[true, true, true, true, true, true, false, false, false, false, false] rfl rfl (one_of HT_.out (by kernel_rfl)) (by decide) (fun K hK => ?_)
              refine goes_ Tryz.func14 (by kernel_rfl) rfl #[.agg #[.string t851, .int .i64 t852, .bool t853], .string t856, .string (⟨#[]⟩ : ByteArray), .slice none 0 0, .string (t856.extract (x12_19 : Int).toNat t856.size)] (by rfl) rfl rfl ap3 ?_
              refine (attr_Part.calls kj21 t851 t852 t853 t856 (⟨#[]⟩ : ByteArray) _ _ ([] : List ByteArray) (t856.extract (x12_19 : Int).toNat t856.size) true t863 _ ?side1 ?side2 ?side3 A38.out).mono ?_
              (case side1 => exact Kd.C_nil _ _)
              (case side2 => exact Nat.le_refl _)
              (case side3 => first | exact HG.out | (refine Gw.below HG.out ?_; repeat (first | (with_reducible first | exact HB.out | apply below_alloc | apply pw_below_drewN | apply below_drew1 | refine below_set ?_ GE855.out) | exact HB.out)))
              rintro e w65 ⟨rfl, hb⟩
              refine ⟨_, rfl, ?_⟩
              have n0_ := Aside0.mk (blk_below (g := gb855) (o := .cells #[.string t851, .int .i64 t852, .bool t853] 23 (0, 0)) (apB BK855.out) hb)
              have n1_ := Aside0.mk (below_step (apG GE855.out) hb)
              clear BK855
              clear HB
              have BK855 := n0_
              have HB := n1_
              clear n0_ n1_
              (try clear hb)
              (try clear hb2)
              (try clear hk)
              (try clear hi)
              refine hK.out _ _ ⟨(blk_cell BK855.out 0).trans rfl, (blk_cell BK855.out 1).trans rfl, (blk_cell BK855.out 2).trans rfl⟩ (fun hHeld => ?_)
              clear hK K
              refine norm_ (a' := ?_) ?_ ?_
              rotate_left
              ·
               show Act.put _ (some 87) _ = _
               simp only [Act.put, List.setIfInBounds_toArray, List.set_cons_zero, List.set_cons_succ, i64_w, i32_w]
               rfl
              refine pure_ (i := 6) (N := some 81) (v := ?_) (a' := ?_) #[true, true, true, true, true, true, true, false, false, false, false] rfl rfl (any_of HT_.out (by kernel_rfl)) (fun _ _ _ h => h) (Or.inl ⟨by rfl, ?_⟩) ?_ ?_
              rotate_left
              ·
               intro w'
               go_simp
               with_reducible rfl
              rotate_left
              ·
               simp only [Act.put, List.setIfInBounds_toArray, List.set_cons_zero, List.set_cons_succ, i64_w, i32_w]
               rfl
              refine pure_ (i := 7) (N := some 88) (v := ?_) (a' := ?_) #[true, true, true, true, true, true, true, true, false, false, false] rfl rfl (any_of HT_.out (by kernel_rfl)) (fun _ _ _ h => h) (Or.inl ⟨by rfl, ?_⟩) ?_ ?_
              rotate_left
              ·
               intro w'
               go_simp
               with_reducible rfl
              rotate_left
              ·
               simp only [Act.put, List.setIfInBounds_toArray, List.set_cons_zero, List.set_cons_succ, i64_w, i32_w]
               rfl
              refine pure_ (i := 8) (N := some 89) (v := ?_) (a' := ?_) #[true, true, true, true, true, true, true, true, true, false, false] rfl rfl (any_of HT_.out (by kernel_rfl)) (fun _ _ _ h => h) (Or.inl ⟨by rfl, ?_⟩) ?_ ?_
              rotate_left
              ·
               intro w'
               go_simp
               with_reducible rfl
              rotate_left
              ·
               simp only [Act.put, List.setIfInBounds_toArray, List.set_cons_zero, List.set_cons_succ, i64_w, i32_w]
               rfl
              refine pure_ (i := 9) (N := some 16) (v := ?_) (a' := ?_) #[true, true, true, true, true, true, true, true, true, true, false] rfl rfl (any_of HT_.out (by kernel_rfl)) (fun _ _ _ h => h) (Or.inl ⟨by rfl, ?_⟩) ?_ ?_
              rotate_left
              ·
               intro w'
               go_simp
               with_reducible rfl
              rotate_left
              ·
               simp only [Act.put, List.setIfInBounds_toArray, List.set_cons_zero, List.set_cons_succ, i64_w, i32_w]
               rfl
              refine pure_ (i := 10) (N := some 17) (v := ?_) (a' := ?_) #[true, true, true, true, true, true, true, true, true, true, true] rfl rfl (any_of HT_.out (by kernel_rfl)) (fun _ _ _ h => h) (Or.inl ⟨by rfl, ?_⟩) ?_ ?_
              rotate_left
              ·
               intro w'
               go_simp
               with_reducible rfl
              rotate_left
              ·
               simp only [Act.put, List.setIfInBounds_toArray, List.set_cons_zero, List.set_cons_succ, i64_w, i32_w]
               rfl
              refine done_ (done_of HT_.out (by kernel_rfl)) ?_
              try go_wp2
              go_ret
              exact ⟨by first | rfl | (simp [errW_none, errW_some, bne_nil8, beq_nil8]; done) | (simp [errW_none, errW_some] <;> rfl) | (simp [*, errW_none, errW_some] <;> rfl), by repeat (first | (with_reducible first | exact HB.out | apply below_alloc | apply pw_below_drewN | apply below_drew1 | refine below_set ?_ GE855.out) | exact HB.out)⟩
            ·
             replace c39 := Bool.eq_false_iff.mpr c39
             subst c39
             rw [if_neg (show ¬ (false = true) by decide)] at H
             obtain rfl := Option.some.inj H
             try go_wp2
             have n0_ := Aside0.mk (blk_drew BK855.out)
             have n1_ := Aside0.mk (below_drew1 HB.out)
             clear BK855
             clear HB
             have BK855 := n0_
             have HB := n1_
             clear n0_ n1_
             refine start_ (n := 11) (S := fun w' => w'.cell? ⟨gb855, 0, none⟩ = some (.string t851) ∧ w'.cell? ⟨gb855, 1, none⟩ = some (.int .i64 t852) ∧ w'.cell? ⟨gb855, 2, none⟩ = some (.bool t853)) (ds := []) #[false, false, false, false, false, false, false, false, false, false, false] (by kernel_rfl) rfl rfl ⟨(blk_cell BK855.out 0).trans rfl, (blk_cell BK855.out 1).trans rfl, (blk_cell BK855.out 2).trans rfl⟩ (fun hHeld => ?_); refine with_tabW L16AttrEnds.tab18 L16AttrEnds.bits18 (fun HT_ HW_ => ?_)
             generalize wc.drew = w66 at BK855 HB hHeld ⊢
             refine pure_ (i := 1) (N := some 83) (v := ?_) (a' := ?_) #[false, true, false, false, false, false, false, false, false, false, false] rfl rfl (any_of HT_.out (by kernel_rfl)) (fun _ _ _ h => h) (Or.inl ⟨by rfl, ?_⟩) ?_ ?_
             rotate_left
             ·
              intro w'
              go_simp
              with_reducible rfl
             rotate_left
             ·
              simp only [Act.put, List.setIfInBounds_toArray, List.set_cons_zero, List.set_cons_succ, i64_w, i32_w]
              rfl
             refine pure_ (i := 2) (N := some 84) (v := ?_) (a' := ?_) #[false, true, true, false, false, false, false, false, false, false, false] rfl rfl (any_of HT_.out (by kernel_rfl)) (fun _ _ _ h => h) (Or.inl ⟨by rfl, ?_⟩) ?_ ?_
             rotate_left
             ·
              intro w'
              go_simp
              with_reducible rfl
             rotate_left
             ·
              simp only [Act.put, List.setIfInBounds_toArray, List.set_cons_zero, List.set_cons_succ, i64_w, i32_w]
              rfl
             refine pure_ (i := 3) (N := some 85) (v := ?_) (a' := ?_) #[false, true, true, true, false, false, false, false, false, false, false] rfl rfl (any_of HT_.out (by kernel_rfl)) (fun _ _ _ h => h) (Or.inl ⟨by rfl, ?_⟩) ?_ ?_
             rotate_left
             ·
              intro w'
              go_simp
              with_reducible rfl
             rotate_left
             ·
              simp only [Act.put, List.setIfInBounds_toArray, List.set_cons_zero, List.set_cons_succ, i64_w, i32_w]
              rfl
             refine pure_ (i := 4) (N := some 86) (v := ?_) (a' := ?_) #[false, true, true, true, true, false, false, false, false, false, false] rfl rfl (any_of HT_.out (by kernel_rfl)) (fun _ _ _ h => h) (Or.inl ⟨by rfl, ?_⟩) ?_ ?_
             rotate_left
             ·
              intro w'
              go_simp
              with_reducible rfl
             rotate_left
             ·
              simp only [Act.put, List.setIfInBounds_toArray, List.set_cons_zero, List.set_cons_succ, i64_w, i32_w]
              rfl
             refine take_ (i := 0) (N := some 82) (v := ?_) (a' := ?_) #[true, true, true, true, true, false, false, false, false, false, false] rfl rfl (take_ofW HT_.out HW_.out (by kernel_rfl)) (fun _ _ _ h => h) (Or.inl ⟨by rfl, ?_⟩) hHeld ?_ ?_
             rotate_left
             ·
              rintro w' ⟨s0, s1, s2⟩
              go_simp
              with_reducible rfl
             rotate_left
             ·
              simp only [Act.put, List.setIfInBounds_toArray, List.set_cons_zero, List.set_cons_succ, i64_w, i32_w]
              rfl
             refine one_ (i := 5) (N := some 87) #[true, true, true, true, true, true, false, false, false, false, false] rfl rfl (one_of HT_.out (by kernel_rfl)) (by decide) (fun K hK => ?_)
             refine goes_ Tryz.func14 (by kernel_rfl) rfl #[.agg #[.string t851, .int .i64 t852, .bool t853], .string t856, .string (⟨#[]⟩ : ByteArray), .slice none 0 0, .string (t856.extract (x12_19 : Int).toNat t856.size)] (by rfl) rfl rfl ap3 ?_
             refine (attr_Part.calls kj21 t851 t852 t853 t856 (⟨#[]⟩ : ByteArray) _ _ ([] : List ByteArray) (t856.extract (x12_19 : Int).toNat t856.size) false t863 _ ?side1 ?side2 ?side3 A38.out).mono ?_
             (case side1 => exact Kd.C_nil _ _)
             (case side2 => exact Nat.le_refl _)
             (case side3 => first | exact HG.out | (refine Gw.below HG.out ?_; repeat (first | (with_reducible first | exact HB.out | apply below_alloc | apply pw_below_drewN | apply below_drew1 | refine below_set ?_ GE855.out) | exact HB.out)))
             rintro e w67 ⟨rfl, hb⟩
             refine ⟨_, rfl, ?_⟩
             have n0_ := Aside0.mk (blk_below (g := gb855) (o := .cells #[.string t851, .int .i64 t852, .bool t853] 23 (0, 0)) (apB BK855.out) hb)
             have n1_ := Aside0.mk (below_step (apG GE855.out) hb)
             clear BK855
             clear HB
             have BK855 := n0_
             have HB := n1_
             clear n0_ n1_
             (try clear hb)
             (try clear hb2)
             (try clear hk)
             (try clear hi)
             refine hK.out _ _ ⟨(blk_cell BK855.out 0).trans rfl, (blk_cell BK855.out 1).trans rfl, (blk_cell BK855.out 2).trans rfl⟩ (fun hHeld => ?_)
             clear hK K
             refine norm_ (a' := ?_) ?_ ?_
             rotate_left
             ·
              show Act.put _ (some 87) _ = _
              simp only [Act.put, List.setIfInBounds_toArray, List.set_cons_zero, List.set_cons_succ, i64_w, i32_w]
              rfl
             refine pure_ (i := 6) (N := some 81) (v := ?_) (a' := ?_) #[true, true, true, true, true, true, true, false, false, false, false] rfl rfl (any_of HT_.out (by kernel_rfl)) (fun _ _ _ h => h) (Or.inl ⟨by rfl, ?_⟩) ?_ ?_
             rotate_left
             ·
              intro w'
              go_simp
              with_reducible rfl
             rotate_left
             ·
              simp only [Act.put, List.setIfInBounds_toArray, List.set_cons_zero, List.set_cons_succ, i64_w, i32_w]
              rfl
             refine pure_ (i := 7) (N := some 88) (v := ?_) (a' := ?_) #[true, true, true, true, true, true, true, true, false, false, false] rfl rfl (any_of HT_.out (by kernel_rfl)) (fun _ _ _ h => h) (Or.inl ⟨by rfl, ?_⟩) ?_ ?_
             rotate_left
             ·
              intro w'
              go_simp
              with_reducible rfl
             rotate_left
             ·
              simp only [Act.put, List.setIfInBounds_toArray, List.set_cons_zero, List.set_cons_succ, i64_w, i32_w]
              rfl
             refine pure_ (i := 8) (N := some 89) (v := ?_) (a' := ?_) #[true, true, true, true, true, true, true, true, true, false, false] rfl rfl (any_of HT_.out (by kernel_rfl)) (fun _ _ _ h => h) (Or.inl ⟨by rfl, ?_⟩) ?_ ?_
             rotate_left
             ·
              intro w'
              go_simp
              with_reducible rfl
             rotate_left
             ·
              simp only [Act.put, List.setIfInBounds_toArray, List.set_cons_zero, List.set_cons_succ, i64_w, i32_w]
              rfl
             refine pure_ (i := 9) (N := some 16) (v := ?_) (a' := ?_) #[true, true, true, true, true, true, true, true, true, true, false] rfl rfl (any_of HT_.out (by kernel_rfl)) (fun _ _ _ h => h) (Or.inl ⟨by rfl, ?_⟩) ?_ ?_
             rotate_left
             ·
              intro w'
              go_simp
              with_reducible rfl
             rotate_left
             ·
              simp only [Act.put, List.setIfInBounds_toArray, List.set_cons_zero, List.set_cons_succ, i64_w, i32_w]
              rfl
             refine pure_ (i := 10) (N := some 17) (v := ?_) (a' := ?_) #[true, true, true, true, true, true, true, true, true, true, true] rfl rfl (any_of HT_.out (by kernel_rfl)) (fun _ _ _ h => h) (Or.inl ⟨by rfl, ?_⟩) ?_ ?_
             rotate_left
             ·
              intro w'
              go_simp
              with_reducible rfl
             rotate_left
             ·
              simp only [Act.put, List.setIfInBounds_toArray, List.set_cons_zero, List.set_cons_succ, i64_w, i32_w]
              rfl
             refine done_ (done_of HT_.out (by kernel_rfl)) ?_
             try go_wp2
             go_ret
             exact ⟨by first | rfl | (simp [errW_none, errW_some, bne_nil8, beq_nil8]; done) | (simp [errW_none, errW_some] <;> rfl) | (simp [*, errW_none, errW_some] <;> rfl), by repeat (first | (with_reducible first | exact HB.out | apply below_alloc | apply pw_below_drewN | apply below_drew1 | refine below_set ?_ GE855.out) | exact HB.out)⟩
           ·
            rw [if_neg c37] at H
            exact absurd H (by simp)
          ·
           rw [if_neg c36] at H
           exact absurd H (by simp)
         ·
          rw [if_neg c35] at H
          have c35b0 := decide_eq_false c35
          clear c35
          by_cases c68 : 0 ≤ x11_19
          ·
           rw [if_pos c68] at H
           have c68b0 := eq_true c68
           have c68b1 := decide_eq_true c68
           clear c68
           by_cases c69 : x11_19 ≤ (t856.size : Int)
           ·
            rw [if_pos c69] at H
            have c69b0 := eq_true c69
            have c69b1 := decide_eq_true c69
            clear c69
            have c70b0 := eq_true (of_decide_eq_true ap0 : 0 ≤ x11_19)
            by_cases c71 : x11_19 ≤ x12_19
            ·
             rw [if_pos c71] at H
             have c71b0 := eq_true c71
             have c71b1 := decide_eq_true c71
             clear c71
             by_cases c72 : x12_19 ≤ (t856.size : Int)
             ·
              rw [if_pos c72] at H
              have c72b0 := eq_true c72
              have c72b1 := decide_eq_true c72
              clear c72
              obtain ⟨y869, hy869⟩ : ∃ y_ : List ByteArray, y_ = (([t856.extract (x11_19 : Int).toNat (x12_19 : Int).toNat] : List ByteArray)) := ⟨_, rfl⟩
              replace H : (if 0 ≤ x12_19 then ((attr_Part.f kj21 t851 t852 t853 t856 (t856.extract 0 (x11_19 : Int).toNat) y869 (t856.extract (x12_19 : Int).toNat t856.size)).bind fun bt872 => (if bt872.1 = true then (some (bt872.2 == 0)) else (some false))) else (none)) = some r := by first | (rw [hy869]; with_reducible exact H) | (have H2_ := (Option.bind_some _ _).symm.trans H; rw [hy869]; with_reducible exact H2_) | (have H2_ := (Option.bind_some _ _).symm.trans H; with_reducible exact H2_) | with_reducible exact H | (rw [hy869]; exact H) | exact H
              have Ny869 := Aside0.mk hy869
              clear hy869
              by_cases c73 : 0 ≤ x12_19
              ·
               rw [if_pos c73] at H
               have c73b0 := eq_true c73
               have c73b1 := decide_eq_true c73
               clear c73
               have c74b0 := eq_true (of_decide_eq_true ap0 : x12_19 ≤ (t856.size : Int))
               replace H := Option.bind_eq_some_iff.mp H
               obtain ⟨⟨t872, t873⟩, A750, H⟩ := H
               replace H : (if t872 = true then (some (t873 == 0)) else (some false)) = some r := H
               have A75 := Aside0.mk A750
               clear A750
               by_cases c76 : t872 = true
               ·
                subst c76
                rw [if_pos rfl] at H
                obtain rfl := Option.some.inj H
                try go_wp2
                have n0_ := Aside0.mk (blk_drew BK855.out)
                have n1_ := Aside0.mk (below_drew1 HB.out)
                clear BK855
                clear HB
                have BK855 := n0_
                have HB := n1_
                clear n0_ n1_
                refine start_ (n := 19) (S := fun w' => w'.cell? ⟨gb855, 0, none⟩ = some (.string t851) ∧ w'.cell? ⟨gb855, 1, none⟩ = some (.int .i64 t852) ∧ w'.cell? ⟨gb855, 2, none⟩ = some (.bool t853)) (ds := []) #[false, false, false, false, false, false, false, false, false, false, false, false, false, false, false, false, false, false, false] (by kernel_rfl) rfl rfl ⟨(blk_cell BK855.out 0).trans rfl, (blk_cell BK855.out 1).trans rfl, (blk_cell BK855.out 2).trans rfl⟩ (fun hHeld => ?_); refine with_tabW L16AttrEnds.tab21 L16AttrEnds.bits21 (fun HT_ HW_ => ?_)
                generalize wc.drew = w77 at BK855 HB hHeld ⊢
                refine pure_ (i := 1) (N := some 98) (v := ?_) (a' := ?_) #[false, true, false, false, false, false, false, false, false, false, false, false, false, false, false, false, false, false, false] rfl rfl (any_of HT_.out (by kernel_rfl)) (fun _ _ _ h => h) (Or.inl ⟨by rfl, ?_⟩) ?_ ?_
                rotate_left
                ·
                 intro w'
                 go_simp
                 with_reducible rfl
                rotate_left
                ·
                 simp only [Act.put, List.setIfInBounds_toArray, List.set_cons_zero, List.set_cons_succ, i64_w, i32_w]
                 rfl
                refine pure_ (i := 2) (N := some 99) (v := ?_) (a' := ?_) #[false, true, true, false, false, false, false, false, false, false, false, false, false, false, false, false, false, false, false] rfl rfl (any_of HT_.out (by kernel_rfl)) (fun _ _ _ h => h) (Or.inl ⟨by rfl, ?_⟩) ?_ ?_
                rotate_left
                ·
                 intro w'
                 go_simp
                 with_reducible rfl
                rotate_left
                ·
                 simp only [Act.put, List.setIfInBounds_toArray, List.set_cons_zero, List.set_cons_succ, i64_w, i32_w]
                 rfl
                refine pure_ (i := 3) (N := some 100) (v := ?_) (a' := ?_) #[false, true, true, true, false, false, false, false, false, false, false, false, false, false, false, false, false, false, false] rfl rfl (any_of HT_.out (by kernel_rfl)) (fun _ _ _ h => h) (Or.inl ⟨by rfl, ?_⟩) ?_ ?_
                rotate_left
                ·
                 intro w'
                 go_simp
                 with_reducible rfl
                rotate_left
                ·
                 simp only [Act.put, List.setIfInBounds_toArray, List.set_cons_zero, List.set_cons_succ, i64_w, i32_w]
                 rfl
                refine pure_ (i := 4) (N := some 101) (v := ?_) (a' := ?_) #[false, true, true, true, true, false, false, false, false, false, false, false, false, false, false, false, false, false, false] rfl rfl (any_of HT_.out (by kernel_rfl)) (fun _ _ _ h => h) (Or.inl ⟨by rfl, ?_⟩) ?_ ?_
                rotate_left
                ·
                 intro w'
                 go_simp
                 with_reducible rfl
                rotate_left
                ·
                 simp only [Act.put, List.setIfInBounds_toArray, List.set_cons_zero, List.set_cons_succ, i64_w, i32_w]
                 rfl
                refine pure_ (i := 5) (N := some 102) (v := ?_) (a' := ?_) #[false, true, true, true, true, true, false, false, false, false, false, false, false, false, false, false, false, false, false] rfl rfl (any_of HT_.out (by kernel_rfl)) (fun _ _ _ h => h) (Or.inl ⟨by rfl, ?_⟩) ?_ ?_
                rotate_left
                ·
                 intro w'
                 go_simp
                 with_reducible rfl
                rotate_left
                ·
                 simp only [Act.put, List.setIfInBounds_toArray, List.set_cons_zero, List.set_cons_succ, i64_w, i32_w]
                 rfl
                refine pure_ (i := 6) (N := some 103) (v := ?_) (a' := ?_) #[false, true, true, true, true, true, true, false, false, false, false, false, false, false, false, false, false, false, false] rfl rfl (any_of HT_.out (by kernel_rfl)) (fun _ _ _ h => h) (Or.inl ⟨by rfl, ?_⟩) ?_ ?_
                rotate_left
                ·
                 intro w'
                 go_simp
                 with_reducible rfl
                rotate_left
                ·
                 simp only [Act.put, List.setIfInBounds_toArray, List.set_cons_zero, List.set_cons_succ, i64_w, i32_w]
                 rfl
                refine pure_ (i := 7) (N := some 104) (v := ?_) (a' := ?_) #[false, true, true, true, true, true, true, true, false, false, false, false, false, false, false, false, false, false, false] rfl rfl (any_of HT_.out (by kernel_rfl)) (fun _ _ _ h => h) (Or.inl ⟨by rfl, ?_⟩) ?_ ?_
                rotate_left
                ·
                 intro w'
                 go_simp
                 with_reducible rfl
                rotate_left
                ·
                 simp only [Act.put, List.setIfInBounds_toArray, List.set_cons_zero, List.set_cons_succ, i64_w, i32_w]
                 rfl
                refine pure_ (i := 8) (N := some 105) (v := ?_) (a' := ?_) #[false, true, true, true, true, true, true, true, true, false, false, false, false, false, false, false, false, false, false] rfl rfl (any_of HT_.out (by kernel_rfl)) (fun _ _ _ h => h) (Or.inl ⟨by rfl, ?_⟩) ?_ ?_
                rotate_left
                ·
                 intro w'
                 go_simp
                 with_reducible rfl
                rotate_left
                ·
                 simp only [Act.put, List.setIfInBounds_toArray, List.set_cons_zero, List.set_cons_succ, i64_w, i32_w]
                 rfl
                refine pure_ (i := 10) (N := some 107) (v := ?_) (a' := ?_) #[false, true, true, true, true, true, true, true, true, false, true, false, false, false, false, false, false, false, false] rfl rfl (any_of HT_.out (by kernel_rfl)) (fun _ _ _ h => h) (Or.inl ⟨by rfl, ?_⟩) ?_ ?_
                rotate_left
                ·
                 intro w'
                 go_simp
                 with_reducible rfl
                rotate_left
                ·
                 simp only [Act.put, List.setIfInBounds_toArray, List.set_cons_zero, List.set_cons_succ, i64_w, i32_w]
                 rfl
                refine pure_ (i := 11) (N := some 108) (v := ?_) (a' := ?_) #[false, true, true, true, true, true, true, true, true, false, true, true, false, false, false, false, false, false, false] rfl rfl (any_of HT_.out (by kernel_rfl)) (fun _ _ _ h => h) (Or.inl ⟨by rfl, ?_⟩) ?_ ?_
                rotate_left
                ·
                 intro w'
                 go_simp
                 with_reducible rfl
                rotate_left
                ·
                 simp only [Act.put, List.setIfInBounds_toArray, List.set_cons_zero, List.set_cons_succ, i64_w, i32_w]
                 rfl
                refine pure_ (i := 12) (N := some 109) (v := ?_) (a' := ?_) #[false, true, true, true, true, true, true, true, true, false, true, true, true, false, false, false, false, false, false] rfl rfl (any_of HT_.out (by kernel_rfl)) (fun _ _ _ h => h) (Or.inl ⟨by rfl, ?_⟩) ?_ ?_
                rotate_left
                ·
                 intro w'
                 go_simp
                 with_reducible rfl
                rotate_left
                ·
                 simp only [Act.put, List.setIfInBounds_toArray, List.set_cons_zero, List.set_cons_succ, i64_w, i32_w]
                 rfl
                refine take_ (i := 0) (N := some 97) (v := ?_) (a' := ?_) #[true, true, true, true, true, true, true, true, true, false, true, true, true, false, false, false, false, false, false] rfl rfl (take_ofW HT_.out HW_.out (by kernel_rfl)) (fun _ _ _ h => h) (Or.inl ⟨by rfl, ?_⟩) hHeld ?_ ?_
                rotate_left
                ·
                 rintro w' ⟨s0, s1, s2⟩
                 go_simp
                 with_reducible rfl
                rotate_left
                ·
                 simp only [Act.put, List.setIfInBounds_toArray, List.set_cons_zero, List.set_cons_succ, i64_w, i32_w]
                 rfl
                refine one_ (i := 9) (N := some 106) #[true, true, true, true, true, true, true, true, true, true, true, true, true, false, false, false, false, false, false] rfl rfl (one_of HT_.out (by kernel_rfl)) (by decide) (fun K hK => ?_)
                refine Kd.R_lit_step Kd.string _ 9 ?hg (N := 106) ?hd (xs := ([t856.extract (x11_19 : Int).toNat (x12_19 : Int).toNat] : List ByteArray)) (inner := [.string (t856.extract (x11_19 : Int).toNat (x12_19 : Int).toNat)]) (ok := fun _ => True) (okp := fun _ => True) ?hr ?hp (fun _ hk => hk) trivial (Below.refl _ _) (Nat.le_refl _) (by simp) ?_; (case hd => rfl); (case hg => rfl); (case hr => first | (go_simp; done) | (go_simp; rfl)); (case hp => exact (Reps.one (show Kd.M Kd.string _ _ _ (t856.extract (x11_19 : Int).toNat (x12_19 : Int).toNat) [.string (t856.extract (x11_19 : Int).toNat (x12_19 : Int).toNat)] from rfl) (Reps.none _ _)))
                intro v870 w78 ho79 hb hg_ hnew_
                clear hg_ hnew_
                (first | rw [← Ny869.out] at ho79 | (simp only [Int.reduceToNat] at ho79; rw [← Ny869.out] at ho79))
                have n0_ := Aside0.mk (Kd.R_lower ho79 (below_size (apG GE855.out)))
                have n1_ := Aside0.mk (blk_below (g := gb855) (o := .cells #[.string t851, .int .i64 t852, .bool t853] 23 (0, 0)) (apB BK855.out) hb)
                have n2_ := Aside0.mk (below_step (apG GE855.out) hb)
                clear BK855
                clear HB
                have HO871 := n0_
                have BK855 := n1_
                have HB := n2_
                clear n0_ n1_ n2_
                clear hb ho79
                obtain ⟨Ao80, co80, eo80⟩ := Kd.R_slice HO871.out
                (first | subst eo80 | (injection eo80 with f1_ f2_ f3_; have f4_ := f1_.symm; have f5_ := f3_.symm; clear f1_ f2_ f3_; subst f4_; subst f5_))
                refine hK.out _ _ ⟨(blk_cell BK855.out 0).trans rfl, (blk_cell BK855.out 1).trans rfl, (blk_cell BK855.out 2).trans rfl⟩ (fun hHeld => ?_)
                clear hK K
                refine norm_ (a' := ?_) ?_ ?_
                rotate_left
                ·
                 show Act.put _ (some 106) _ = _
                 simp only [Act.put, List.setIfInBounds_toArray, List.set_cons_zero, List.set_cons_succ, i64_w, i32_w]
                 rfl
                refine one_ (i := 13) (N := some 110) #[true, true, true, true, true, true, true, true, true, true, true, true, true, true, false, false, false, false, false] rfl rfl (one_of HT_.out (by kernel_rfl)) (by decide) (fun K hK => ?_)
                refine goes_ Tryz.func14 (by kernel_rfl) rfl #[.agg #[.string t851, .int .i64 t852, .bool t853], .string t856, .string (t856.extract 0 (x11_19 : Int).toNat), .slice Ao80 y869.length co80, .string (t856.extract (x12_19 : Int).toNat t856.size)] (by rfl) rfl rfl ap3 ?_
                with_reducible refine (attr_Part.calls kj21 t851 t852 t853 t856 (t856.extract 0 (x11_19 : Int).toNat) _ _ y869 (t856.extract (x12_19 : Int).toNat t856.size) true t873 _ ?side1 ?side2 ?side3 A75.out).mono ?_
                (case side1 => repeat (first | exact (Kd.R_reads' HO871.out).2.2 | (with_reducible refine Kd.C_alloc ?_ _) | (with_reducible refine Kd.C_drewN ?_ _) | (with_reducible refine Kd.C_drew ?_)))
                (case side2 => exact (Kd.R_reads' HO871.out).2.1)
                (case side3 => first | exact HG.out | (refine Gw.below HG.out ?_; repeat (first | (with_reducible first | exact HB.out | apply below_alloc | apply pw_below_drewN | apply below_drew1 | refine below_set ?_ GE855.out) | exact HB.out)))
                rintro e w81 ⟨rfl, hb⟩
                refine ⟨_, rfl, ?_⟩
                have n0_ := Aside0.mk (Kd.R_below (apAR HO871.out) hb)
                have n1_ := Aside0.mk (blk_below (g := gb855) (o := .cells #[.string t851, .int .i64 t852, .bool t853] 23 (0, 0)) (apB BK855.out) hb)
                have n2_ := Aside0.mk (below_step (apG GE855.out) hb)
                clear HO871
                clear BK855
                clear HB
                have HO871 := n0_
                have BK855 := n1_
                have HB := n2_
                clear n0_ n1_ n2_
                (try clear hb)
                (try clear hb2)
                (try clear hk)
                (try clear hi)
                refine hK.out _ _ ⟨(blk_cell BK855.out 0).trans rfl, (blk_cell BK855.out 1).trans rfl, (blk_cell BK855.out 2).trans rfl⟩ (fun hHeld => ?_)
                clear hK K
                refine norm_ (a' := ?_) ?_ ?_
                rotate_left
                ·
                 show Act.put _ (some 110) _ = _
                 simp only [Act.put, List.setIfInBounds_toArray, List.set_cons_zero, List.set_cons_succ, i64_w, i32_w]
                 rfl
                refine pure_ (i := 14) (N := some 96) (v := ?_) (a' := ?_) #[true, true, true, true, true, true, true, true, true, true, true, true, true, true, true, false, false, false, false] rfl rfl (any_of HT_.out (by kernel_rfl)) (fun _ _ _ h => h) (Or.inl ⟨by rfl, ?_⟩) ?_ ?_
                rotate_left
                ·
                 intro w'
                 go_simp
                 with_reducible rfl
                rotate_left
                ·
                 simp only [Act.put, List.setIfInBounds_toArray, List.set_cons_zero, List.set_cons_succ, i64_w, i32_w]
                 rfl
                refine pure_ (i := 15) (N := some 111) (v := ?_) (a' := ?_) #[true, true, true, true, true, true, true, true, true, true, true, true, true, true, true, true, false, false, false] rfl rfl (any_of HT_.out (by kernel_rfl)) (fun _ _ _ h => h) (Or.inl ⟨by rfl, ?_⟩) ?_ ?_
                rotate_left
                ·
                 intro w'
                 go_simp
                 with_reducible rfl
                rotate_left
                ·
                 simp only [Act.put, List.setIfInBounds_toArray, List.set_cons_zero, List.set_cons_succ, i64_w, i32_w]
                 rfl
                refine pure_ (i := 16) (N := some 112) (v := ?_) (a' := ?_) #[true, true, true, true, true, true, true, true, true, true, true, true, true, true, true, true, true, false, false] rfl rfl (any_of HT_.out (by kernel_rfl)) (fun _ _ _ h => h) (Or.inl ⟨by rfl, ?_⟩) ?_ ?_
                rotate_left
                ·
                 intro w'
                 go_simp
                 with_reducible rfl
                rotate_left
                ·
                 simp only [Act.put, List.setIfInBounds_toArray, List.set_cons_zero, List.set_cons_succ, i64_w, i32_w]
                 rfl
                refine pure_ (i := 17) (N := some 18) (v := ?_) (a' := ?_) #[true, true, true, true, true, true, true, true, true, true, true, true, true, true, true, true, true, true, false] rfl rfl (any_of HT_.out (by kernel_rfl)) (fun _ _ _ h => h) (Or.inl ⟨by rfl, ?_⟩) ?_ ?_
                rotate_left
                ·
                 intro w'
                 go_simp
                 with_reducible rfl
                rotate_left
                ·
                 simp only [Act.put, List.setIfInBounds_toArray, List.set_cons_zero, List.set_cons_succ, i64_w, i32_w]
                 rfl
                refine pure_ (i := 18) (N := some 19) (v := ?_) (a' := ?_) #[true, true, true, true, true, true, true, true, true, true, true, true, true, true, true, true, true, true, true] rfl rfl (any_of HT_.out (by kernel_rfl)) (fun _ _ _ h => h) (Or.inl ⟨by rfl, ?_⟩) ?_ ?_
                rotate_left
                ·
                 intro w'
                 go_simp
                 with_reducible rfl
                rotate_left
                ·
                 simp only [Act.put, List.setIfInBounds_toArray, List.set_cons_zero, List.set_cons_succ, i64_w, i32_w]
                 rfl
                refine done_ (done_of HT_.out (by kernel_rfl)) ?_
                try go_wp2
                go_ret
                exact ⟨by first | rfl | (simp [errW_none, errW_some, bne_nil8, beq_nil8]; done) | (simp [errW_none, errW_some] <;> rfl) | (simp [*, errW_none, errW_some] <;> rfl), by repeat (first | (with_reducible first | exact HB.out | apply below_alloc | apply pw_below_drewN | apply below_drew1 | refine below_set ?_ GE855.out) | exact HB.out)⟩
               ·
                replace c76 := Bool.eq_false_iff.mpr c76
                subst c76
                rw [if_neg (show ¬ (false = true) by decide)] at H
                obtain rfl := Option.some.inj H
                try go_wp2
                have n0_ := Aside0.mk (blk_drew BK855.out)
                have n1_ := Aside0.mk (below_drew1 HB.out)
                clear BK855
                clear HB
                have BK855 := n0_
                have HB := n1_
                clear n0_ n1_
                refine start_ (n := 19) (S := fun w' => w'.cell? ⟨gb855, 0, none⟩ = some (.string t851) ∧ w'.cell? ⟨gb855, 1, none⟩ = some (.int .i64 t852) ∧ w'.cell? ⟨gb855, 2, none⟩ = some (.bool t853)) (ds := []) #[false, false, false, false, false, false, false, false, false, false, false, false, false, false, false, false, false, false, false] (by kernel_rfl) rfl rfl ⟨(blk_cell BK855.out 0).trans rfl, (blk_cell BK855.out 1).trans rfl, (blk_cell BK855.out 2).trans rfl⟩ (fun hHeld => ?_); refine with_tabW L16AttrEnds.tab21 L16AttrEnds.bits21 (fun HT_ HW_ => ?_)
                generalize wc.drew = w82 at BK855 HB hHeld ⊢
                refine pure_ (i := 1) (N := some 98) (v := ?_) (a' := ?_) #[false, true, false, false, false, false, false, false, false, false, false, false, false, false, false, false, false, false, false] rfl rfl (any_of HT_.out (by kernel_rfl)) (fun _ _ _ h => h) (Or.inl ⟨by rfl, ?_⟩) ?_ ?_
                rotate_left
                ·
                 intro w'
                 go_simp
                 with_reducible rfl
                rotate_left
                ·
                 simp only [Act.put, List.setIfInBounds_toArray, List.set_cons_zero, List.set_cons_succ, i64_w, i32_w]
                 rfl
                refine pure_ (i := 2) (N := some 99) (v := ?_) (a' := ?_) #[false, true, true, false, false, false, false, false, false, false, false, false, false, false, false, false, false, false, false] rfl rfl (any_of HT_.out (by kernel_rfl)) (fun _ _ _ h => h) (Or.inl ⟨by rfl, ?_⟩) ?_ ?_
                rotate_left
                ·
                 intro w'
                 go_simp
                 with_reducible rfl
                rotate_left
                ·
                 simp only [Act.put, List.setIfInBounds_toArray, List.set_cons_zero, List.set_cons_succ, i64_w, i32_w]
                 rfl
                refine pure_ (i := 3) (N := some 100) (v := ?_) (a' := ?_) #[false, true, true, true, false, false, false, false, false, false, false, false, false, false, false, false, false, false, false] rfl rfl (any_of HT_.out (by kernel_rfl)) (fun _ _ _ h => h) (Or.inl ⟨by rfl, ?_⟩) ?_ ?_
                rotate_left
                ·
                 intro w'
                 go_simp
                 with_reducible rfl
                rotate_left
                ·
                 simp only [Act.put, List.setIfInBounds_toArray, List.set_cons_zero, List.set_cons_succ, i64_w, i32_w]
                 rfl
                refine pure_ (i := 4) (N := some 101) (v := ?_) (a' := ?_) #[false, true, true, true, true, false, false, false, false, false, false, false, false, false, false, false, false, false, false] rfl rfl (any_of HT_.out (by kernel_rfl)) (fun _ _ _ h => h) (Or.inl ⟨by rfl, ?_⟩) ?_ ?_
                rotate_left
                ·
                 intro w'
                 go_simp
                 with_reducible rfl
                rotate_left
                ·
                 simp only [Act.put, List.setIfInBounds_toArray, List.set_cons_zero, List.set_cons_succ, i64_w, i32_w]
                 rfl
                refine pure_ (i := 5) (N := some 102) (v := ?_) (a' := ?_) #[false, true, true, true, true, true, false, false, false, false, false, false, false, false, false, false, false, false, false] rfl rfl (any_of HT_.out (by kernel_rfl)) (fun _ _ _ h => h) (Or.inl ⟨by rfl, ?_⟩) ?_ ?_
                rotate_left
                ·
                 intro w'
                 go_simp
                 with_reducible rfl
                rotate_left
                ·
                 simp only [Act.put, List.setIfInBounds_toArray, List.set_cons_zero, List.set_cons_succ, i64_w, i32_w]
                 rfl
                refine pure_ (i := 6) (N := some 103) (v := ?_) (a' := ?_) #[false, true, true, true, true, true, true, false, false, false, false, false, false, false, false, false, false, false, false] rfl rfl (any_of HT_.out (by kernel_rfl)) (fun _ _ _ h => h) (Or.inl ⟨by rfl, ?_⟩) ?_ ?_
                rotate_left
                ·
                 intro w'
                 go_simp
                 with_reducible rfl
                rotate_left
                ·
                 simp only [Act.put, List.setIfInBounds_toArray, List.set_cons_zero, List.set_cons_succ, i64_w, i32_w]
                 rfl
                refine pure_ (i := 7) (N := some 104) (v := ?_) (a' := ?_) #[false, true, true, true, true, true, true, true, false, false, false, false, false, false, false, false, false, false, false] rfl rfl (any_of HT_.out (by kernel_rfl)) (fun _ _ _ h => h) (Or.inl ⟨by rfl, ?_⟩) ?_ ?_
                rotate_left
                ·
                 intro w'
                 go_simp
                 with_reducible rfl
                rotate_left
                ·
                 simp only [Act.put, List.setIfInBounds_toArray, List.set_cons_zero, List.set_cons_succ, i64_w, i32_w]
                 rfl
                refine pure_ (i := 8) (N := some 105) (v := ?_) (a' := ?_) #[false, true, true, true, true, true, true, true, true, false, false, false, false, false, false, false, false, false, false] rfl rfl (any_of HT_.out (by kernel_rfl)) (fun _ _ _ h => h) (Or.inl ⟨by rfl, ?_⟩) ?_ ?_
                rotate_left
                ·
                 intro w'
                 go_simp
                 with_reducible rfl
                rotate_left
                ·
                 simp only [Act.put, List.setIfInBounds_toArray, List.set_cons_zero, List.set_cons_succ, i64_w, i32_w]
                 rfl
                refine pure_ (i := 10) (N := some 107) (v := ?_) (a' := ?_) #[false, true, true, true, true, true, true, true, true, false, true, false, false, false, false, false, false, false, false] rfl rfl (any_of HT_.out (by kernel_rfl)) (fun _ _ _ h => h) (Or.inl ⟨by rfl, ?_⟩) ?_ ?_
                rotate_left
                ·
                 intro w'
                 go_simp
                 with_reducible rfl
                rotate_left
                ·
                 simp only [Act.put, List.setIfInBounds_toArray, List.set_cons_zero, List.set_cons_succ, i64_w, i32_w]
                 rfl
                refine pure_ (i := 11) (N := some 108) (v := ?_) (a' := ?_) #[false, true, true, true, true, true, true, true, true, false, true, true, false, false, false, false, false, false, false] rfl rfl (any_of HT_.out (by kernel_rfl)) (fun _ _ _ h => h) (Or.inl ⟨by rfl, ?_⟩) ?_ ?_
                rotate_left
                ·
                 intro w'
                 go_simp
                 with_reducible rfl
                rotate_left
                ·
                 simp only [Act.put, List.setIfInBounds_toArray, List.set_cons_zero, List.set_cons_succ, i64_w, i32_w]
                 rfl
                refine pure_ (i := 12) (N := some 109) (v := ?_) (a' := ?_) #[false, true, true, true, true, true, true, true, true, false, true, true, true, false, false, false, false, false, false] rfl rfl (any_of HT_.out (by kernel_rfl)) (fun _ _ _ h => h) (Or.inl ⟨by rfl, ?_⟩) ?_ ?_
                rotate_left
                ·
                 intro w'
                 go_simp
                 with_reducible rfl
                rotate_left
                ·
                 simp only [Act.put, List.setIfInBounds_toArray, List.set_cons_zero, List.set_cons_succ, i64_w, i32_w]
                 rfl
                refine take_ (i := 0) (N := some 97) (v := ?_) (a' := ?_) #[true, true, true, true, true, true, true, true, true, false, true, true, true, false, false, false, false, false, false] rfl rfl (take_ofW HT_.out HW_.out (by kernel_rfl)) (fun _ _ _ h => h) (Or.inl ⟨by rfl, ?_⟩) hHeld ?_ ?_
                rotate_left
                ·
                 rintro w' ⟨s0, s1, s2⟩
                 go_simp
                 with_reducible rfl
                rotate_left
                ·
                 simp only [Act.put, List.setIfInBounds_toArray, List.set_cons_zero, List.set_cons_succ, i64_w, i32_w]
                 rfl
                refine one_ (i := 9) (N := some 106) #[true, true, true, true, true, true, true, true, true, true, true, true, true, false, false, false, false, false, false] rfl rfl (one_of HT_.out (by kernel_rfl)) (by decide) (fun K hK => ?_)
                refine Kd.R_lit_step Kd.string _ 9 ?hg (N := 106) ?hd (xs := ([t856.extract (x11_19 : Int).toNat (x12_19 : Int).toNat] : List ByteArray)) (inner := [.string (t856.extract (x11_19 : Int).toNat (x12_19 : Int).toNat)]) (ok := fun _ => True) (okp := fun _ => True) ?hr ?hp (fun _ hk => hk) trivial (Below.refl _ _) (Nat.le_refl _) (by simp) ?_; (case hd => rfl); (case hg => rfl); (case hr => first | (go_simp; done) | (go_simp; rfl)); (case hp => exact (Reps.one (show Kd.M Kd.string _ _ _ (t856.extract (x11_19 : Int).toNat (x12_19 : Int).toNat) [.string (t856.extract (x11_19 : Int).toNat (x12_19 : Int).toNat)] from rfl) (Reps.none _ _)))
                intro v870 w83 ho84 hb hg_ hnew_
                clear hg_ hnew_
                (first | rw [← Ny869.out] at ho84 | (simp only [Int.reduceToNat] at ho84; rw [← Ny869.out] at ho84))
                have n0_ := Aside0.mk (Kd.R_lower ho84 (below_size (apG GE855.out)))
                have n1_ := Aside0.mk (blk_below (g := gb855) (o := .cells #[.string t851, .int .i64 t852, .bool t853] 23 (0, 0)) (apB BK855.out) hb)
                have n2_ := Aside0.mk (below_step (apG GE855.out) hb)
                clear BK855
                clear HB
                have HO871 := n0_
                have BK855 := n1_
                have HB := n2_
                clear n0_ n1_ n2_
                clear hb ho84
                obtain ⟨Ao85, co85, eo85⟩ := Kd.R_slice HO871.out
                (first | subst eo85 | (injection eo85 with f1_ f2_ f3_; have f4_ := f1_.symm; have f5_ := f3_.symm; clear f1_ f2_ f3_; subst f4_; subst f5_))
                refine hK.out _ _ ⟨(blk_cell BK855.out 0).trans rfl, (blk_cell BK855.out 1).trans rfl, (blk_cell BK855.out 2).trans rfl⟩ (fun hHeld => ?_)
                clear hK K
                refine norm_ (a' := ?_) ?_ ?_
                rotate_left
                ·
                 show Act.put _ (some 106) _ = _
                 simp only [Act.put, List.setIfInBounds_toArray, List.set_cons_zero, List.set_cons_succ, i64_w, i32_w]
                 rfl
                refine one_ (i := 13) (N := some 110) #[true, true, true, true, true, true, true, true, true, true, true, true, true, true, false, false, false, false, false] rfl rfl (one_of HT_.out (by kernel_rfl)) (by decide) (fun K hK => ?_)
                refine goes_ Tryz.func14 (by kernel_rfl) rfl #[.agg #[.string t851, .int .i64 t852, .bool t853], .string t856, .string (t856.extract 0 (x11_19 : Int).toNat), .slice Ao85 y869.length co85, .string (t856.extract (x12_19 : Int).toNat t856.size)] (by rfl) rfl rfl ap3 ?_
                with_reducible refine (attr_Part.calls kj21 t851 t852 t853 t856 (t856.extract 0 (x11_19 : Int).toNat) _ _ y869 (t856.extract (x12_19 : Int).toNat t856.size) false t873 _ ?side1 ?side2 ?side3 A75.out).mono ?_
                (case side1 => repeat (first | exact (Kd.R_reads' HO871.out).2.2 | (with_reducible refine Kd.C_alloc ?_ _) | (with_reducible refine Kd.C_drewN ?_ _) | (with_reducible refine Kd.C_drew ?_)))
                (case side2 => exact (Kd.R_reads' HO871.out).2.1)
                (case side3 => first | exact HG.out | (refine Gw.below HG.out ?_; repeat (first | (with_reducible first | exact HB.out | apply below_alloc | apply pw_below_drewN | apply below_drew1 | refine below_set ?_ GE855.out) | exact HB.out)))
                rintro e w86 ⟨rfl, hb⟩
                refine ⟨_, rfl, ?_⟩
                have n0_ := Aside0.mk (Kd.R_below (apAR HO871.out) hb)
                have n1_ := Aside0.mk (blk_below (g := gb855) (o := .cells #[.string t851, .int .i64 t852, .bool t853] 23 (0, 0)) (apB BK855.out) hb)
                have n2_ := Aside0.mk (below_step (apG GE855.out) hb)
                clear HO871
                clear BK855
                clear HB
                have HO871 := n0_
                have BK855 := n1_
                have HB := n2_
                clear n0_ n1_ n2_
                (try clear hb)
                (try clear hb2)
                (try clear hk)
                (try clear hi)
                refine hK.out _ _ ⟨(blk_cell BK855.out 0).trans rfl, (blk_cell BK855.out 1).trans rfl, (blk_cell BK855.out 2).trans rfl⟩ (fun hHeld => ?_)
                clear hK K
                refine norm_ (a' := ?_) ?_ ?_
                rotate_left
                ·
                 show Act.put _ (some 110) _ = _
                 simp only [Act.put, List.setIfInBounds_toArray, List.set_cons_zero, List.set_cons_succ, i64_w, i32_w]
                 rfl
                refine pure_ (i := 14) (N := some 96) (v := ?_) (a' := ?_) #[true, true, true, true, true, true, true, true, true, true, true, true, true, true, true, false, false, false, false] rfl rfl (any_of HT_.out (by kernel_rfl)) (fun _ _ _ h => h) (Or.inl ⟨by rfl, ?_⟩) ?_ ?_
                rotate_left
                ·
                 intro w'
                 go_simp
                 with_reducible rfl
                rotate_left
                ·
                 simp only [Act.put, List.setIfInBounds_toArray, List.set_cons_zero, List.set_cons_succ, i64_w, i32_w]
                 rfl
                refine pure_ (i := 15) (N := some 111) (v := ?_) (a' := ?_) #[true, true, true, true, true, true, true, true, true, true, true, true, true, true, true, true, false, false, false] rfl rfl (any_of HT_.out (by kernel_rfl)) (fun _ _ _ h => h) (Or.inl ⟨by rfl, ?_⟩) ?_ ?_
                rotate_left
                ·
                 intro w'
                 go_simp
                 with_reducible rfl
                rotate_left
                ·
                 simp only [Act.put, List.setIfInBounds_toArray, List.set_cons_zero, List.set_cons_succ, i64_w, i32_w]
                 rfl
                refine pure_ (i := 16) (N := some 112) (v := ?_) (a' := ?_) #[true, true, true, true, true, true, true, true, true, true, true, true, true, true, true, true, true, false, false] rfl rfl (any_of HT_.out (by kernel_rfl)) (fun _ _ _ h => h) (Or.inl ⟨by rfl, ?_⟩) ?_ ?_
                rotate_left
                ·
                 intro w'
                 go_simp
                 with_reducible rfl
                rotate_left
                ·
                 simp only [Act.put, List.setIfInBounds_toArray, List.set_cons_zero, List.set_cons_succ, i64_w, i32_w]
                 rfl
                refine pure_ (i := 17) (N := some 18) (v := ?_) (a' := ?_) #[true, true, true, true, true, true, true, true, true, true, true, true, true, true, true, true, true, true, false] rfl rfl (any_of HT_.out (by kernel_rfl)) (fun _ _ _ h => h) (Or.inl ⟨by rfl, ?_⟩) ?_ ?_
                rotate_left
                ·
                 intro w'
                 go_simp
                 with_reducible rfl
                rotate_left
                ·
                 simp only [Act.put, List.setIfInBounds_toArray, List.set_cons_zero, List.set_cons_succ, i64_w, i32_w]
                 rfl
                refine pure_ (i := 18) (N := some 19) (v := ?_) (a' := ?_) #[true, true, true, true, true, true, true, true, true, true, true, true, true, true, true, true, true, true, true] rfl rfl (any_of HT_.out (by kernel_rfl)) (fun _ _ _ h => h) (Or.inl ⟨by rfl, ?_⟩) ?_ ?_
                rotate_left
                ·
                 intro w'
                 go_simp
                 with_reducible rfl
                rotate_left
                ·
                 simp only [Act.put, List.setIfInBounds_toArray, List.set_cons_zero, List.set_cons_succ, i64_w, i32_w]
                 rfl
                refine done_ (done_of HT_.out (by kernel_rfl)) ?_
                try go_wp2
                go_ret
                exact ⟨by first | rfl | (simp [errW_none, errW_some, bne_nil8, beq_nil8]; done) | (simp [errW_none, errW_some] <;> rfl) | (simp [*, errW_none, errW_some] <;> rfl), by repeat (first | (with_reducible first | exact HB.out | apply below_alloc | apply pw_below_drewN | apply below_drew1 | refine below_set ?_ GE855.out) | exact HB.out)⟩
              ·
               rw [if_neg c73] at H
               exact absurd H (by simp)
             ·
              rw [if_neg c72] at H
              exact absurd H (by simp)
            ·
             rw [if_neg c71] at H
             exact absurd H (by simp)
           ·
            rw [if_neg c69] at H
            exact absurd H (by simp)
          ·
           rw [if_neg c68] at H
           exact absurd H (by simp)
 ·
  replace c5 := Bool.eq_false_iff.mpr c5
  subst c5
  rw [if_neg (show ¬ (false = true) by decide)] at H
  obtain rfl := Option.some.inj H
  go_enter Tryz.func5, Tryz.ntmps5
  go_wp2_with (first | ((with_reducible refine gate_callee (f := 9) rfl ?_); refine goesL_ (some 20) rfl rfl Tryz.func9 (by kernel_rfl) rfl #[] rfl ap3 ?_; (with_reducible refine (L16awake.calls k  false _ ?side1 A4.out).mono ?_); (case side1 => exact ap6); rintro e w87 ⟨rfl, hb⟩; refine ⟨_, rfl, ?_⟩; have n0_ := Aside0.mk (below_step ap1 hb); clear HB; have HB := n0_; clear n0_; (try clear hb); (try clear hb2); (try clear hk); (try clear hi)))
  go_ret
  exact ⟨by first | rfl | (simp [errW_none, errW_some, bne_nil8, beq_nil8]; done) | (simp [errW_none, errW_some] <;> rfl) | (simp [*, errW_none, errW_some] <;> rfl), by repeat (first | (with_reducible first | exact HB.out | apply below_alloc | apply pw_below_drewN | apply below_drew1) | exact HB.out)⟩
end Go.Proofs.YtpklcnpmppaaoaaGreatDoor.Print
namespace Go.Proofs.YtpklcnpmppaaoaaGreatDoor.Print
open Go.RowKit Go.Proofs.YtpklcnpmppaaoaaGreatDoorW.PrintWords Go.Proofs.YtpklcnpmppaaoaaGreatDoorW.PrintLast Go.Proofs.YtpklcnpmppaaoaaGreatDoorW.PrintMore Go.Proofs.YtpklcnpmppaaoaaGreatDoor.Pure
set_option linter.unusedVariables false
set_option linter.unusedSimpArgs false
theorem decode_enc (r : Int) (h : okRune r) (t : List UInt8) : Lib.decodeL (Lib.encodeRune r ++ t) = (r.toNat, (Lib.encodeRune r).length) := by
  obtain ⟨h0, h1, h2⟩ := h
  rw [Lib.decodeL_N]
  unfold Lib.encodeRune
  by_cases a1 : r ≤ 127
  · rw [Lib.encodeRuneZ_one h0 a1, ← Lib.decodeL_N]
    simp only [List.map_cons, List.map_nil, List.cons_append, List.nil_append, List.length_cons, List.length_nil]
    rw [Lib.decodeL_ascii _ _ (by rw [u8s _ (by omega)]; omega), u8s _ (by omega)]
  by_cases a2 : r ≤ 2047
  · rw [Lib.encodeRuneZ_two (by omega) a2]
    simp only [List.map_cons, List.map_nil, List.cons_append, List.nil_append, List.length_cons, List.length_nil, List.getD_cons_zero, List.getD_cons_succ]
    rw [u8s (192 + r / 64).toNat (by omega), u8s (128 + r % 64).toNat (by omega), dec2 _ _ _ _ _ (by omega) (by omega) (by omega)]
    apply Prod.ext <;> simp only <;> omega
  by_cases a3 : r ≤ 65535
  · rw [Lib.encodeRuneZ_three (by omega)]
    simp only [List.map_cons, List.map_nil, List.cons_append, List.nil_append, List.length_cons, List.length_nil, List.getD_cons_zero, List.getD_cons_succ]
    rw [u8s (224 + r / 4096).toNat (by omega), u8s (128 + r / 64 % 64).toNat (by omega), u8s (128 + r % 64).toNat (by omega), dec3 _ _ _ _ _ (by omega) (by omega) (by omega) (by omega), if_neg (by omega)]
    apply Prod.ext <;> simp only <;> omega
  · rw [Lib.encodeRuneZ_four (by omega) h1]
    simp only [List.map_cons, List.map_nil, List.cons_append, List.nil_append, List.length_cons, List.length_nil, List.getD_cons_zero, List.getD_cons_succ]
    rw [u8s (240 + r / 262144).toNat (by omega), u8s (128 + r / 4096 % 64).toNat (by omega), u8s (128 + r / 64 % 64).toNat (by omega), u8s (128 + r % 64).toNat (by omega), dec4 _ _ _ _ _ (by omega) (by omega) (by omega) (by omega) (by omega), if_neg (by omega)]
    apply Prod.ext <;> simp only <;> omega
theorem enc_tail (r : Int) : ∃ c t, Lib.encodeRune r = c :: t ∧ ∀ x ∈ t, 128 ≤ x.toNat ∧ x.toNat < 192 := by
  have hall : ∀ z : List Int, (∀ x ∈ z, 128 ≤ x ∧ x < 192) → ∀ c ∈ z.map (fun x => x.toNat.toUInt8), 128 ≤ c.toNat ∧ c.toNat < 192 := by
    intro z hz c hc
    obtain ⟨x, hx, rfl⟩ := List.mem_map.1 hc
    have := hz x hx
    rw [u8s _ (by omega)]; omega
  unfold Lib.encodeRune
  by_cases h1 : 0 ≤ r ∧ r ≤ 127
  · rw [Lib.encodeRuneZ_one h1.1 h1.2]; exact ⟨_, _, rfl, hall [] (by simp)⟩
  by_cases h2 : 128 ≤ r ∧ r ≤ 2047
  · rw [Lib.encodeRuneZ_two h2.1 h2.2]; exact ⟨_, _, rfl, hall [_] (by simp; omega)⟩
  by_cases h3 : (2048 ≤ r ∧ r < 55296) ∨ (57343 < r ∧ r ≤ 65535)
  · rw [Lib.encodeRuneZ_three h3]; exact ⟨_, _, rfl, hall [_, _] (by simp; omega)⟩
  by_cases h4 : 65536 ≤ r ∧ r ≤ 1114111
  · rw [Lib.encodeRuneZ_four h4.1 h4.2]; exact ⟨_, _, rfl, hall [_, _, _] (by simp; omega)⟩
  · rw [Lib.encodeRuneZ_bad (by omega)]; exact ⟨_, _, rfl, hall [191, 189] (by simp)⟩
theorem runes_back (s : ByteArray) : ∀ (l : List Int) (n p : Nat), (∀ r ∈ l, okRune r) → (bl s).drop p = encAll l → (encAll l).length ≤ n → runesN s n p = some l
  | [], n, p, hok, hs, hn => by
    have h : ¬ p < s.size := by
      have := congrArg List.length hs
      rw [List.length_drop, bl_length] at this
      simp [encAll] at this; omega
    cases n with
    | zero => rfl
    | succ n => rw [runesN, if_neg h]
  | r :: l, n, p, hok, hs, hn => by
    rw [encAll_cons] at hs hn
    obtain ⟨c, t, hc, _⟩ := enc_tail r
    have hr := hok r (by simp)
    have hd := decode_enc r hr (encAll l)
    rw [← hs, show (bl s).drop p = s.data.toList.drop p from rfl, Lib.decodeL_drop] at hd
    have hlen : 1 ≤ (Lib.encodeRune r).length := by rw [hc]; simp
    rw [List.length_append] at hn
    obtain ⟨n, rfl⟩ : ∃ m, n = m + 1 := ⟨n - 1, by omega⟩
    have hp : p < s.size := by
      have := congrArg List.length hs
      rw [List.length_drop, bl_length, List.length_append] at this
      omega
    rw [runesN, if_pos hp, hd]
    have h3 : ¬ (r.toNat = 65533 ∧ (Lib.encodeRune r).length = 1) := by
      rintro ⟨h1, h2⟩
      have : r = 65533 := by have := hr.1; omega
      subst this
      revert h2; decide
    rw [if_neg h3, runes_back s l n (p + (Lib.encodeRune r).length) (fun x hx => hok x (by simp [hx])) (by rw [← List.drop_drop, hs, List.drop_left]) (by omega), Option.map_some]
    rw [show ((r.toNat : Nat) : Int) = r by have := hr.1; omega]
def asIs (r : Int) : Prop := okRune r ∧ mapRune false r = some r
theorem mapped_asIs {r x : Int} (h : okRune r) (hx : mapRune false r = some x) : asIs x := by
  refine ⟨mapRune_ok h hx, ?_⟩
  unfold mapRune at hx ⊢
  split at hx
  · cases hx
  · split at hx
    · simp at hx; subst hx; decide
    · simp at hx; subst hx
      rename_i h1 h2
      rw [if_neg h1, if_neg h2]; rfl
theorem asIs_all : ∀ l : List Int, (∀ r ∈ l, asIs r) → l.filterMap (mapRune false) = l
  | [], _ => rfl
  | r :: l, h => by rw [List.filterMap_cons, (h r (by simp)).2, asIs_all l fun x hx => h x (by simp [hx])]
theorem mapOf_asIs (l : List Int) (h : ∀ r ∈ l, asIs r) (s : ByteArray) (hs : bl s = encAll l) : mapOf false s = some (bl s) := by
  unfold mapOf
  rw [runes_back s l s.size 0 (fun r hr => (h r hr).1) (by rw [List.drop_zero]; exact hs) (by rw [← hs, bl_length]; exact Nat.le_refl _), Option.map_some, asIs_all l h, hs]
theorem sq_again : ∀ (l : List Int) (b : Bool), sq (sq l b) b = sq l b
  | [], _ => rfl
  | x :: r, b => by
    by_cases h : x ≠ 32 ∨ (b = true ∧ nb r = true)
    · have e : sq (x :: r) b = x :: sq r true := by rw [sq, if_pos h]
      have h2 : x ≠ 32 ∨ (b = true ∧ nb (sq r true) = true) := by
        rcases h with h | ⟨h1, h2⟩
        · exact .inl h
        · refine .inr ⟨h1, ?_⟩
          cases r with
          | nil => cases h2
          | cons y r2 =>
            have hy : y ≠ 32 := by simpa [nb] using h2
            rw [sq, if_pos (Or.inl hy)]
            simpa [nb] using hy
      rw [e, sq, if_pos h2, sq_again r true]
    · have e : sq (x :: r) b = sq r b := by rw [sq, if_neg h]
      rw [e, sq_again r b]
theorem ready_text {v : ByteArray} {u : List UInt8} (h : readyOf false v = some u) : ∃ M : List Int, u = encAll M ∧ (∀ r ∈ M, asIs r) ∧ sq M false = M := by
  unfold readyOf at h
  obtain ⟨l, h1, rfl⟩ := Option.map_eq_some_iff.1 h
  refine ⟨_, rfl, ?_, sq_again _ _⟩
  intro r hr
  obtain ⟨x, hx, hx2⟩ := List.mem_filterMap.1 (sq_mem _ _ r hr)
  exact mapped_asIs (runesN_ok v _ _ l h1 x hx) hx2
def edgeAt (s : ByteArray) (p : Nat) : Prop := p = s.size ∨ (p < s.size ∧ ¬ (bt s (p : Int) ≥ 128 ∧ bt s (p : Int) < 192))
theorem edge_loop (s : ByteArray) (hs : s.size ≤ 1000000) : ∀ (n p : Nat), s.size - p = n → p ≤ s.size → ∃ q, edgeAt s q ∧ Ev (fun k => L16edge.l0 k s (p : Int)) (q : Int) := by
  intro n
  induction n with
  | zero =>
    intro p hn hp
    exact ⟨p, .inl (by omega), Ev.step (fun k => by rw [L16edge.l0]) (Ev.neg (by omega) Ev.rfl')⟩
  | succ n ih =>
    intro p hn hp
    by_cases h1 : bt s (p : Int) ≥ 128
    · by_cases h2 : bt s (p : Int) < 192
      · obtain ⟨q, hq, he⟩ := ih (p + 1) (by omega) (by omega)
        refine ⟨q, hq, Ev.step (fun k => by rw [L16edge.l0]) (Ev.pos (by omega) (Ev.pos (by omega) (Ev.pos h1 (Ev.pos h2 ?_))))⟩
        rw [wsucc (p := p) (by omega)]; exact he
      · exact ⟨p, .inr ⟨by omega, fun h => h2 h.2⟩, Ev.step (fun k => by rw [L16edge.l0]) (Ev.pos (by omega) (Ev.pos (by omega) (Ev.pos h1 (Ev.neg h2 Ev.rfl'))))⟩
    · exact ⟨p, .inr ⟨by omega, fun h => h1 h.1⟩, Ev.step (fun k => by rw [L16edge.l0]) (Ev.pos (by omega) (Ev.pos (by omega) (Ev.neg h1 Ev.rfl')))⟩
theorem edge_ev (s : ByteArray) (hs : s.size ≤ 1000000) (a : Int) : ∃ q, edgeAt s q ∧ Ev (fun k => L16edge.f k s a) (q : Int) := by
  have w1 : wrap64 ((s.size : Int) + 1) = ((s.size + 1 : Nat) : Int) := by unfold wrap64; omega
  have w2 : IntKind.u64.wrap ((s.size + 1 : Nat) : Int) = ((s.size + 1 : Nat) : Int) := by
    simp only [IntKind.wrap, IntKind.signed, IntKind.bits]; simp; omega
  have w3 : 0 ≤ IntKind.u64.wrap a := by
    simp only [IntKind.wrap, IntKind.signed, IntKind.bits]; simp; omega
  obtain ⟨p, hp, hpe⟩ : ∃ p : Nat, p ≤ s.size ∧ wrap64 (Int.tmod (IntKind.u64.wrap a) ((s.size + 1 : Nat) : Int)) = (p : Int) := by
    rw [Int.tmod_eq_emod_of_nonneg w3]
    have h1 := Int.emod_nonneg (IntKind.u64.wrap a) (b := ((s.size + 1 : Nat) : Int)) (by omega)
    have h2 := Int.emod_lt_of_pos (IntKind.u64.wrap a) (b := ((s.size + 1 : Nat) : Int)) (by omega)
    refine ⟨(IntKind.u64.wrap a % ((s.size + 1 : Nat) : Int)).toNat, by omega, ?_⟩
    generalize IntKind.u64.wrap a % ((s.size + 1 : Nat) : Int) = z at h1 h2
    unfold wrap64; omega
  obtain ⟨q, hq, he⟩ := edge_loop s hs _ p rfl hp
  refine ⟨q, hq, ?_⟩
  unfold L16edge.f
  rw [w1, w2, hpe]
  exact Ev.neg (by omega) he
theorem edge_cut (s : ByteArray) : ∀ (l : List Int) (p q : Nat), (bl s).drop p = encAll l → p ≤ s.size → p ≤ q → edgeAt s q → ∃ l1 l2, l = l1 ++ l2 ∧ p + (encAll l1).length = q
  | [], p, q, h, hp, hq, he => by
    have := congrArg List.length h
    rw [List.length_drop, bl_length] at this
    have h0 : (encAll []).length = 0 := rfl
    have : q ≤ s.size := by rcases he with h | h <;> omega
    exact ⟨[], [], rfl, by omega⟩
  | r :: l, p, q, h, hp, hq, he => by
    by_cases h0 : p = q
    · exact ⟨[], r :: l, rfl, h0⟩
    rw [encAll_cons] at h
    have hlen := congrArg List.length h
    rw [List.length_drop, bl_length, List.length_append] at hlen
    obtain ⟨c, t, hc, ht⟩ := enc_tail r
    by_cases h1 : q < p + (Lib.encodeRune r).length
    · exfalso
      have hlt : q < s.size := by omega
      have h2 : ¬ (bt s (q : Int) ≥ 128 ∧ bt s (q : Int) < 192) := by
        rcases he with h | h
        · omega
        · exact h.2
      have hx : ∃ x ∈ t, (bl s)[q]? = some x := by
        have e : (bl s)[q]? = ((bl s).drop p)[q - p]? := by rw [List.getElem?_drop, show p + (q - p) = q by omega]
        rw [e, h, hc, List.cons_append, show q - p = (q - p - 1) + 1 by omega, List.getElem?_cons_succ, List.getElem?_append_left (by rw [hc] at h1; simp at h1; omega)]
        have : q - p - 1 < t.length := by rw [hc] at h1; simp at h1; omega
        exact ⟨t[q - p - 1], List.getElem_mem _, List.getElem?_eq_getElem this⟩
      obtain ⟨x, hx, hx2⟩ := hx
      obtain ⟨_, h3⟩ := bt_get hx2
      have := ht x hx
      rw [h3] at h2
      exact h2 ⟨by omega, by omega⟩
    · obtain ⟨l1, l2, rfl, h2⟩ := edge_cut s l (p + (Lib.encodeRune r).length) q (by rw [← List.drop_drop, h, List.drop_left]) (by omega) (by omega) he
      exact ⟨r :: l1, l2, rfl, by rw [encAll_cons, List.length_append]; omega⟩
theorem piece_asIs (l : List Int) (h : ∀ r ∈ l, asIs r) (s : ByteArray) (hs : bl s = encAll l) : pieceOf 2 s = (s, 0) := by
  unfold pieceOf
  rw [if_neg (by decide), show ((2 : Int) == 1) = false from rfl, mapOf_asIs l h s hs]
  exact Prod.ext (ba_ext rfl) rfl
theorem norm_asIs (l : List Int) (h : ∀ r ∈ l, asIs r) (hsq : sq l false = l) (s : ByteArray) (hs : bl s = encAll l) (h0 : s.size ≠ 0) (h1 : s.size ≤ 1000) : normOf 2 s = (s, 0) := by
  unfold normOf
  rw [if_neg (by decide), if_neg (by omega), if_neg h0]
  have hr : readyOf false s = some (bl s) := by
    unfold readyOf
    rw [runes_back s l s.size 0 (fun r hr => (h r hr).1) (by rw [List.drop_zero]; exact hs) (by rw [← hs, bl_length]; exact Nat.le_refl _), Option.map_some, asIs_all l h, hsq, hs]
  have hf : formOf 2 s = (s, true) := by
    unfold formOf
    rw [if_pos (Or.inr rfl), show ((2 : Int) == 1) = false from rfl, hr]
    refine Prod.ext (ba_ext rfl) (decide_eq_true fun h => h0 ((sz0 s).1 h))
  rw [hf]; rfl
theorem mid_self (l : List UInt8) : midIn l [l] = true := by
  rw [midIn, midIn, Lib.index_self]; rfl
theorem part3 {s x y z : ByteArray} (h : bl s = bl x ++ (bl y ++ bl z)) : partL (bl s) (bl x) [bl y] (bl z) = true := by
  unfold partL preL sufL
  rw [h, List.drop_left]
  have e1 : (bl y ++ bl z).drop ((bl y ++ bl z).length - (bl z).length) = bl z := by
    rw [List.length_append, show (bl y).length + (bl z).length - (bl z).length = (bl y).length by omega, List.drop_left]
  have e2 : (bl y ++ bl z).take ((bl x ++ (bl y ++ bl z)).length - (bl x).length - (bl z).length) = bl y := by
    rw [List.length_append, List.length_append, show (bl x).length + ((bl y).length + (bl z).length) - (bl x).length - (bl z).length = (bl y).length by omega, List.take_left]
  rw [e2, mid_self, decide_eq_true ⟨by rw [List.length_append]; omega, List.take_left⟩, decide_eq_true ⟨by rw [List.length_append]; omega, e1⟩]; rfl
theorem part2 {s x z : ByteArray} (h : ∃ y, bl s = bl x ++ (y ++ bl z)) : partL (bl s) (bl x) [] (bl z) = true := by
  obtain ⟨y, h⟩ := h
  unfold partL preL sufL
  rw [h, List.drop_left, midIn]
  have e1 : (y ++ bl z).drop ((y ++ bl z).length - (bl z).length) = bl z := by
    rw [List.length_append, show y.length + (bl z).length - (bl z).length = y.length by omega, List.drop_left]
  rw [decide_eq_true ⟨by rw [List.length_append]; omega, List.take_left⟩, decide_eq_true ⟨by rw [List.length_append]; omega, e1⟩]; rfl
theorem partOf_asIs {s x z : ByteArray} {M : List ByteArray} (hs : normOf 2 s = (s, 0)) (hx : pieceOf 2 x = (x, 0)) (hz : pieceOf 2 z = (z, 0)) (hM : M = [] ∨ ∃ y, M = [y] ∧ pieceOf 2 y = (y, 0)) (hany : (x :: M ++ [z]).any given = true)
    (h : partL (bl s) (bl x) (M.map bl) (bl z) = true) : partOf 2 s x M z = (true, 0) := by
  have h8 : ¬ 8 < M.length := by
    rcases hM with rfl | ⟨y, rfl, _⟩ <;> simp
  unfold partOf
  rw [if_neg (by rintro (h | h | h); exact h (by omega); exact h8 h; rw [hany] at h; cases h), hs, if_pos rfl]
  have hp : piecesOf 2 (x :: M ++ [z]) = (x :: M ++ [z], 0) := by
    rcases hM with rfl | ⟨y, rfl, hy⟩
    · simp [piecesOf, hx, hz]
    · simp [piecesOf, hx, hy, hz]
  rw [hp, if_pos rfl]
  refine Prod.ext ?_ rfl
  rw [← h]
  rcases hM with rfl | ⟨y, rfl, hy⟩
  · rfl
  · rfl
theorem given_size {s : ByteArray} (h : s.size ≠ 0) : given s = true := by
  unfold given
  exact decide_eq_true fun e => h (by rw [e]; rfl)
theorem serial_f : attr_Find.f (⟨#[115, 101, 114, 105, 97, 108, 110, 117, 109, 98, 101, 114]⟩ : ByteArray) = some ((⟨#[115, 101, 114, 105, 97, 108, 110, 117, 109, 98, 101, 114]⟩ : ByteArray), 2, false, true) := by
  rw [afind_f _ (by decide)]; kernel_rfl
theorem ends_ev (n : ByteArray) (b : Bool) (s : ByteArray) (M : List Int) (hs : bl s = encAll M) (hM : ∀ r ∈ M, asIs r) (hsq : sq M false = M) (h0 : s.size ≠ 0) (h1 : s.size ≤ 1000) (p q : Nat) (hp : edgeAt s p) (hq : edgeAt s q) (hpq : p ≤ q) :
    Ev (fun k => L16AttrEnds.j1 k s (p : Int) (q : Int) n 2 b) true := by
  have hqs : q ≤ s.size := by rcases hq with h | h <;> omega
  obtain ⟨l1, l2, rfl, c1⟩ := edge_cut s M 0 p (by rw [List.drop_zero]; exact hs) (Nat.zero_le _) (Nat.zero_le _) hp
  rw [Nat.zero_add] at c1
  rw [encAll_app] at hs
  have hd : (bl s).drop p = encAll l2 := by rw [hs, ← c1, List.drop_left]
  obtain ⟨l2, l3, rfl, c2⟩ := edge_cut s l2 p q hd (by omega) hpq hq
  rw [encAll_app] at hs hd
  have ex : bl (s.extract 0 p) = encAll l1 := by rw [ext_to, hs, ← c1, List.take_left]
  have ez : bl (s.extract q s.size) = encAll l3 := by
    rw [ext_from, hs, ← List.append_assoc, ← c2, ← c1, ← List.length_append, List.drop_left]
  have ey : bl (s.extract p q) = encAll l2 := by
    rw [ext_take, hd, show q - p = (encAll l2).length by omega, List.take_left]
  have a1 : ∀ r ∈ l1, asIs r := fun r h => hM r (by simp [h])
  have a2 : ∀ r ∈ l2, asIs r := fun r h => hM r (by simp [h])
  have a3 : ∀ r ∈ l3, asIs r := fun r h => hM r (by simp [h])
  have hn := norm_asIs _ hM hsq s (by rw [encAll_app, encAll_app]; exact hs) h0 h1
  have px := piece_asIs l1 a1 _ ex
  have py := piece_asIs l2 a2 _ ey
  have pz := piece_asIs l3 a3 _ ez
  have pe : pieceOf 2 (⟨#[]⟩ : ByteArray) = (⟨#[]⟩, 0) := piece_asIs [] (by simp) _ rfl
  have sx : (s.extract 0 p).size = p := by rw [← bl_length, ex]; exact c1
  have sz : (s.extract q s.size).size = s.size - q := by rw [← bl_length, ext_from, List.length_drop, bl_length]
  have sy : (s.extract p q).size = q - p := by rw [← bl_length, ey]; omega
  have hlen : (encAll l1).length + ((encAll l2).length + (encAll l3).length) = s.size := by rw [← bl_length, hs]; simp
  have hcore : Ev (fun k => (attr_Part.f k n 2 b s (s.extract 0 ((p : Int) : Int).toNat) (([s.extract ((p : Int) : Int).toNat ((q : Int) : Int).toNat] : List ByteArray)) (s.extract ((q : Int) : Int).toNat s.size)).bind fun bt867 => (if bt867.1 = true then (some (bt867.2 == 0)) else (some false))) true := by
    rw [Int.toNat_natCast, Int.toNat_natCast]
    refine Ev.bind (part_ev n 2 b s _ _ _ (by omega) (by omega) (by intro y hy; rw [List.mem_singleton] at hy; subst hy; omega) (by simp)) ?_
    rw [partOf_asIs hn px pz (.inr ⟨_, rfl, py⟩) ?_ (part3 (by rw [ex, ey, ez]; exact hs))]
    · exact Ev.pos rfl Ev.rfl'
    · by_cases g1 : (s.extract 0 p).size = 0
      · by_cases g2 : (s.extract p q).size = 0
        · simp [given_size (s := s.extract q s.size) (by omega)]
        · simp [given_size g2]
      · simp [given_size g1]
  have hj2 : Ev (fun k => L16AttrEnds.j2 k s (p : Int) (q : Int) n 2 b) true := by
    refine Ev.step (fun k => by rw [L16AttrEnds.j2]) ?_
    by_cases g : q < s.size
    · refine Ev.pos (by omega) (Ev.pos (by omega) (Ev.pos (by omega) ?_))
      have e := part_ev n 2 b s (⟨#[]⟩ : ByteArray) [] (s.extract q s.size) (Nat.zero_le _) (by omega) (by simp) (by simp)
      rw [partOf_asIs hn pe pz (.inl rfl) (by simp [given_size (s := s.extract q s.size) (by omega)]) (part2 ⟨encAll l1 ++ encAll l2, by rw [ez, hs, List.append_assoc]; rfl⟩)] at e
      exact Ev.bind e (Ev.pos rfl (Ev.pos rfl (Ev.pos (by omega) (Ev.pos (by omega) (Ev.pos (by omega) hcore)))))
    · exact Ev.neg (by omega) (Ev.pos (by omega) (Ev.pos (by omega) (Ev.pos (by omega) (Ev.pos (by omega) (Ev.pos (by omega) hcore)))))
  refine Ev.step (fun k => by rw [L16AttrEnds.j1]) ?_
  by_cases g : 0 < p
  · refine Ev.pos (by omega) (Ev.pos (by omega) (Ev.pos (by omega) ?_))
    have e := part_ev n 2 b s (s.extract 0 p) [] (⟨#[]⟩ : ByteArray) (by omega) (Nat.zero_le _) (by simp) (by simp)
    rw [partOf_asIs hn px pe (.inl rfl) (by simp [given_size (s := s.extract 0 p) (by omega)]) (part2 ⟨encAll l2 ++ encAll l3, by rw [ex, hs]; show _ = _ ++ (_ ++ []); rw [List.append_nil]⟩)] at e
    exact Ev.bind e (Ev.pos rfl (Ev.pos rfl hj2))
  · exact Ev.neg (by omega) hj2
theorem AttrEnds_main (v : ByteArray) (c d : Int) (hv : v.size ≤ 2000000) : ∃ k, L16AttrEnds.f k v c d = some true := by
  refine Ev.some' ?_
  unfold L16AttrEnds.f
  refine Ev.bind awake16_ev (Ev.pos rfl (Ev.bindc serial_f ?_))
  have hr := refready_ev v hv false
  have hbad : ∀ t : ByteArray, Ev (fun k => L16AttrEnds.j0 k c d true t true (⟨#[115, 101, 114, 105, 97, 108, 110, 117, 109, 98, 101, 114]⟩ : ByteArray) 2 false) true := fun t => Ev.step (fun k => by rw [L16AttrEnds.j0]) (Ev.pos rfl Ev.rfl')
  cases ho : readyOf false v with
  | none =>
    rw [ho] at hr
    exact Ev.bind hr (Ev.pos rfl (Ev.neg (show ¬ ((19 : Int) = 0) by decide) (hbad _)))
  | some u =>
    rw [ho] at hr
    obtain ⟨M, hu, hM, hsq⟩ := ready_text ho
    refine Ev.bind hr (Ev.pos rfl (Ev.pos (show (0 : Int) = 0 from rfl) ?_))
    show Ev (fun k => if ((mkB u).size : Int) = 0 then L16AttrEnds.j0 k c d true (mkB u) true _ 2 false else L16AttrEnds.j0 k c d true (mkB u) (decide (((mkB u).size : Int) > 1000)) _ 2 false) true
    have hs : bl (mkB u) = encAll M := hu
    generalize mkB u = s at hs
    by_cases h0 : (s.size : Int) = 0
    · exact Ev.pos h0 (hbad _)
    · refine Ev.neg h0 ?_
      by_cases h1 : (s.size : Int) > 1000
      · rw [decide_eq_true h1]; exact hbad _
      · rw [decide_eq_false h1]
        obtain ⟨p, hp, ep⟩ := edge_ev s (by omega) c
        obtain ⟨q, hq, eq⟩ := edge_ev s (by omega) d
        refine Ev.step (fun k => by rw [L16AttrEnds.j0]) (Ev.neg (by simp) (Ev.bind ep (Ev.bind eq ?_)))
        by_cases h : (p : Int) > (q : Int)
        · exact Ev.pos h (ends_ev _ false s M hs hM hsq (by omega) (by omega) q p hq hp (by omega))
        · exact Ev.neg h (ends_ev _ false s M hs hM hsq (by omega) (by omega) p q hp hq (by omega))
end Go.Proofs.YtpklcnpmppaaoaaGreatDoor.Print
namespace Go
variable {H : Type} {enc : TypeId × Value → H}
end Go
namespace Go.Proofs.YtpklcnpmppaaoaaGreatDoor
open Go.ChangeShapes Go.WideShapes Go.ChangeAt Go.RowKit
open Go.ChangeMaps (open_string shut_string)
set_option maxRecDepth 100000
theorem own : ownKnob Tryz.prog.godebug = none := by kernel_rfl
def laid2 : List (String × DataW Unit) := [("math/bits.deBruijn32tab", Rows.laid_math_bits_deBruijn32tab), ("math/bits.deBruijn64tab", Rows.laid_math_bits_deBruijn64tab), ("internal/strconv.uint64pow10", Rows.laid_internal_strconv_uint64pow10), ("unicode/utf8.acceptRanges", Rows.laid_unicode_utf8_acceptRanges), ("strconv.ErrRange", Rows.laid_strconv_ErrRange), ("strconv.ErrSyntax", Rows.laid_strconv_ErrSyntax), ("rollbook/attr.types", Rows.laid_rollbook_attr_types), ("unicode/utf8.first", Rows.laid_unicode_utf8_first)]
theorem first_is : (Rows.laid_unicode_utf8_first : DataW Unit) = Lib.firstData := by kernel_rfl
theorem accept_is : (Rows.laid_unicode_utf8_acceptRanges : DataW Unit) = Lib.acceptData := by kernel_rfl
def ren : Go.Shelf.Ren := ⟨fun n => n, fun | 5 => 5 | 119 => 181 | 138 => 183 | 139 => 184 | n => n, fun | 3 => 4 | 4 => 5 | n => n⟩
theorem u8types : U8Types Tryz.prog ren := { t5 := Tryz.underlying5, t119 := Tryz.underlying181, t138 := Tryz.underlying183, t139 := Tryz.underlying184 }
theorem u8extra : U8Extra Tryz.prog ren := { n3 := by kernel_rfl, n4 := by kernel_rfl, y3 := by kernel_rfl, y4 := by kernel_rfl, c5 := by kernel_rfl, c119 := by kernel_rfl, c138 := by kernel_rfl }
theorem types_is : (Rows.laid_rollbook_attr_types : DataW Unit) = .agg (Print.attrTab.map fun x => .agg [.lit (.string x.1.data.toList), .lit (.int .i64 x.2.1), .lit (.bool x.2.2)]) := by kernel_rfl
theorem cells23 : Tryz.prog.cellsOf 23 = 3 := by kernel_rfl
theorem attr_row {W : World} {cs : List Value} {fuel : Nat} {p : List MemPlace} {a : List UInt8} {k : Int} {b : Bool} (h : DataW.trod (fun _ : TypeId × Value => ()) Tryz.prog W 0 (fun _ => true) false fuel 23 cs = some (.agg [.lit (.string a), .lit (.int .i64 k), .lit (.bool b)], p)) : cs = [.string ⟨a.toArray⟩, .int .i64 k, .bool b] := by
  obtain ⟨xs, n, rfl, hx, hl, hn, hf⟩ := DataW.trod_struct Tryz.underlying23 h
  have k0 := hf 0 _ rfl
  have k1 := hf 1 _ rfl
  have k2 := hf 2 _ rfl
  rw [cells23] at hl
  have hn3 : xs.length = 3 := hn
  obtain ⟨x0, x1, x2, rfl⟩ : ∃ x0 x1 x2, xs = [x0, x1, x2] := by
    match xs, hn3 with
    | [x0, x1, x2], _ => exact ⟨x0, x1, x2, rfl⟩
  obtain ⟨c0, c1, c2, rfl⟩ : ∃ c0 c1 c2, cs = [c0, c1, c2] := by
    match cs, hl with
    | [c0, c1, c2], _ => exact ⟨c0, c1, c2, rfl⟩
  obtain ⟨s, e0, rfl, _⟩ := DataW.trod_string Tryz.underlying9 k0
  obtain ⟨m, e1, rfl, _⟩ := DataW.trod_int Tryz.underlying3 k1
  obtain ⟨q, e2, rfl⟩ := DataW.trod_bool Tryz.underlying4 k2
  have c9 : Tryz.prog.cellsOf 9 = 1 := by kernel_rfl
  have c3 : Tryz.prog.cellsOf 3 = 1 := by kernel_rfl
  have c4 : Tryz.prog.cellsOf 4 = 1 := by kernel_rfl
  have g0 : c0 = .string s := by simpa [c9] using e0
  have g1 : c1 = .int .i64 m := by simpa [c3] using e1
  have g2 : c2 = .bool q := by simpa [c4] using e2
  simp only [List.map_cons, List.map_nil, Prod.mk.injEq, DataW.agg.injEq, List.cons.injEq, DataW.lit.injEq, Lit.string.injEq, Lit.int.injEq, Lit.bool.injEq, true_and, and_true] at hx
  obtain ⟨⟨rfl, rfl, rfl⟩, _⟩ := hx
  subst g0; subst g1; subst g2
  rfl
theorem types_of {W : World} (h : Lib.VarReads Tryz.prog W "rollbook/attr.types" (Rows.laid_rollbook_attr_types : DataW Unit)) : ∃ t fr, W.heap[0]? = some (.cells Print.attrCells t fr) := by
  obtain ⟨g, t, cs, fuel, p, hg, hty, hvar, hd⟩ := h
  obtain rfl := Option.some.inj ((show Tryz.prog.globalNamed "rollbook/attr.types" = some 0 by kernel_rfl).symm.trans hg)
  obtain rfl := Option.some.inj ((show (Tryz.prog.globals[0]?).map (·.type) = some 63 by kernel_rfl).symm.trans hty)
  rw [types_is] at hd
  obtain ⟨xs, m, rfl, hx, hl, hn, hf⟩ := DataW.trod_array Tryz.underlying63 hd
  rw [show Tryz.prog.cellsOf 63 = 60 by kernel_rfl] at hl
  rw [cells23] at hf
  have hxs : xs.map (·.1) = Print.attrTab.map fun x => (DataW.agg [.lit (.string x.1.data.toList), .lit (.int .i64 x.2.1), .lit (.bool x.2.2)] : DataW Unit) := by
    have := congrArg Prod.fst hx
    simpa using this.symm
  have hrow : ∀ i, i < 20 → (cs.toList.drop (i * 3)).take 3 = [.string (Print.attrTab.getD i default).1, .int .i64 (Print.attrTab.getD i default).2.1, .bool (Print.attrTab.getD i default).2.2] := by
    intro i hi
    have h1 := hf i hi
    rw [List.getElem?_eq_getElem (by omega)] at h1
    have h2 : (xs.map (·.1))[i]? = some (xs[i]'(by omega)).1 := by rw [List.getElem?_map, List.getElem?_eq_getElem (by omega)]; rfl
    rw [hxs, List.getElem?_map, List.getElem?_eq_getElem (show i < Print.attrTab.length from hi)] at h2
    simp only [Option.map_some, Option.some.injEq] at h2
    rw [show xs[i]'(by omega) = ((xs[i]'(by omega)).1, (xs[i]'(by omega)).2) from rfl, ← h2] at h1
    have h3 := attr_row h1
    rw [h3, List.getD_eq_getElem?_getD, List.getElem?_eq_getElem (show i < Print.attrTab.length from hi)]; rfl
  have hcs : cs = Print.attrCells := by
    apply Array.ext'
    apply List.ext_getElem?
    intro j
    by_cases hj : j < 60
    · have h1 := congrArg (·[j % 3]?) (hrow (j / 3) (by omega))
      simp only [List.getElem?_take, List.getElem?_drop] at h1
      rw [if_pos (Nat.mod_lt _ (by omega)), show j / 3 * 3 + j % 3 = j by omega] at h1
      rw [h1]
      have h2 : ∀ q r, q < 20 → r < 3 → ([Value.string (Print.attrTab.getD q default).1, .int .i64 (Print.attrTab.getD q default).2.1, .bool (Print.attrTab.getD q default).2.2] : List Value)[r]? = Print.attrCells.toList[q * 3 + r]? := by
        intro q r hq hr
        match q, hq with
        | 0, _ | 1, _ | 2, _ | 3, _ | 4, _ | 5, _ | 6, _ | 7, _ | 8, _ | 9, _ | 10, _ | 11, _ | 12, _ | 13, _ | 14, _ | 15, _ | 16, _ | 17, _ | 18, _ | 19, _ =>
          match r, hr with
          | 0, _ | 1, _ | 2, _ => rfl
          | r + 3, h => exact absurd h (by omega)
        | q + 20, h => exact absurd h (by omega)
      rw [h2 (j / 3) (j % 3) (by omega) (Nat.mod_lt _ (by omega)), show j / 3 * 3 + j % 3 = j by omega]
    · rw [List.getElem?_eq_none (by omega), List.getElem?_eq_none (show Print.attrCells.toList.length ≤ j by show 60 ≤ j; omega)]
  unfold World.var? at hvar
  rw [hg, Option.bind_some] at hvar
  split at hvar
  · rename_i c e fr hc
    injection hvar with hvar
    subst hvar; subst hcs
    exact ⟨e, fr, hc⟩
  · cases hvar
theorem gw_of {W : World} (hsh : W.ShapedOpen Tryz.prog) (hL : laidMetH Tryz.prog laid2 W) : Print.Gw W := by
  rw [MakeChecks.laidMetH_plain _ _ _ (by kernel_rfl)] at hL
  refine ⟨cell_of_shapedOpen_int (zero := #[.int .i64 0]) (t := 3) hsh (of_decide_eq_true (by kernel_rfl)) (by kernel_rfl) rfl (by kernel_rfl) (by kernel_rfl) Tryz.underlying3, ?_, ?_⟩
  · refine utf8Tabs_of_readsT u8types u8extra ?_ ?_
    · rw [← first_is]; exact Lib.laidMet.reads hL (by simp [laid2])
    · rw [← accept_is]; exact Lib.laidMet.reads hL (by simp [laid2])
  · exact types_of (Lib.laidMet.reads hL (by simp [laid2]))
end Go.Proofs.YtpklcnpmppaaoaaGreatDoor
