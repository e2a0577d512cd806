-- laid together by pack.py (a program of this session)
import Derived.Test.YtpklcnpmppaaoaaGreatDoorAAttrFinds2
namespace Go.Proofs.YtpklcnpmppaaoaaGreatDoor.Print
open Go.RowKit Go.Proofs.YtpklcnpmppaaoaaGreatDoorW.PrintWords Go.Proofs.YtpklcnpmppaaoaaGreatDoorW.PrintLast Go.Proofs.YtpklcnpmppaaoaaGreatDoorW.PrintMore
attribute [local go_sem] max2_int min2_int max_two min_two max_three min_three max_four min_four
set_option linter.unusedVariables false
set_option linter.unusedSimpArgs false
set_option maxHeartbeats 8000000 in
set_option maxRecDepth 100000 in
theorem cmp_Compare_int.calls (a0 : Int) (a1 : Int) (r : Int) (w : World) (h : cmp_Compare_int.f a0 a1 = some r) :
  Calls Tryz.prog 27 #[.int .i64 a0, .int .i64 a1] w fun e w' => e = .returned (.int .i64 r) ∧ Drawn0 w w' := by
 have H : ((cmp_isNaN_int.f a0).bind fun t414 => ((cmp_isNaN_int.f a1).bind fun t415 => (if t414 = true then (if t415 = true then (some 0) else (some (-1))) else (if t415 = true then (some 1) else (if a0 < a1 then (some (-1)) else (if a0 > a1 then (some 1) else (some 0))))))) = some r := h
 clear h
 replace H := Option.bind_eq_some_iff.mp H
 obtain ⟨t414, A30, H⟩ := H
 replace H : ((cmp_isNaN_int.f a1).bind fun t415 => (if t414 = true then (if t415 = true then (some 0) else (some (-1))) else (if t415 = true then (some 1) else (if a0 < a1 then (some (-1)) else (if a0 > a1 then (some 1) else (some 0)))))) = some r := H
 have A3 := Aside0.mk A30
 clear A30
 replace H := Option.bind_eq_some_iff.mp H
 obtain ⟨t415, A40, H⟩ := H
 replace H : (if t414 = true then (if t415 = true then (some 0) else (some (-1))) else (if t415 = true then (some 1) else (if a0 < a1 then (some (-1)) else (if a0 > a1 then (some 1) else (some 0))))) = some r := H
 have A4 := Aside0.mk A40
 clear A40
 by_cases c5 : t414 = true
 ·
  subst c5
  rw [if_pos rfl] at H
  by_cases c6 : t415 = true
  ·
   subst c6
   rw [if_pos rfl] at H
   obtain rfl := Option.some.inj H
   go_enter Tryz.func27, Tryz.ntmps27
   go_wp2_with (first | ((with_reducible refine gate_callee (f := 52) rfl ?_); refine goesL_ (some 8) rfl rfl Tryz.func52 (by kernel_rfl) rfl #[.int .i64 a0] rfl ap3 ?_; (with_reducible refine (cmp_isNaN_int.calls a0 true _ A3.out).mono ?_); rintro e w' ⟨rfl, ⟨nd, rfl⟩⟩; refine ⟨_, rfl, ?_⟩) | ((with_reducible refine gate_callee (f := 52) rfl ?_); refine goesL_ (some 10) rfl rfl Tryz.func52 (by kernel_rfl) rfl #[.int .i64 a1] rfl ap3 ?_; (with_reducible refine (cmp_isNaN_int.calls a1 true _ A4.out).mono ?_); rintro e w' ⟨rfl, ⟨nd, rfl⟩⟩; refine ⟨_, rfl, ?_⟩))
   go_ret
   exact ⟨ap2, ap7⟩
  ·
   replace c6 := Bool.eq_false_iff.mpr c6
   subst c6
   rw [if_neg (show ¬ (false = true) by decide)] at H
   obtain rfl := Option.some.inj H
   go_enter Tryz.func27, Tryz.ntmps27
   go_wp2_with (first | ((with_reducible refine gate_callee (f := 52) rfl ?_); refine goesL_ (some 8) rfl rfl Tryz.func52 (by kernel_rfl) rfl #[.int .i64 a0] rfl ap3 ?_; (with_reducible refine (cmp_isNaN_int.calls a0 true _ A3.out).mono ?_); rintro e w' ⟨rfl, ⟨nd, rfl⟩⟩; refine ⟨_, rfl, ?_⟩) | ((with_reducible refine gate_callee (f := 52) rfl ?_); refine goesL_ (some 10) rfl rfl Tryz.func52 (by kernel_rfl) rfl #[.int .i64 a1] rfl ap3 ?_; (with_reducible refine (cmp_isNaN_int.calls a1 false _ A4.out).mono ?_); rintro e w' ⟨rfl, ⟨nd, rfl⟩⟩; refine ⟨_, rfl, ?_⟩))
   go_ret
   exact ⟨ap2, ap7⟩
 ·
  replace c5 := Bool.eq_false_iff.mpr c5
  subst c5
  rw [if_neg (show ¬ (false = true) by decide)] at H
  by_cases c7 : t415 = true
  ·
   subst c7
   rw [if_pos rfl] at H
   obtain rfl := Option.some.inj H
   go_enter Tryz.func27, Tryz.ntmps27
   go_wp2_with (first | ((with_reducible refine gate_callee (f := 52) rfl ?_); refine goesL_ (some 8) rfl rfl Tryz.func52 (by kernel_rfl) rfl #[.int .i64 a0] rfl ap3 ?_; (with_reducible refine (cmp_isNaN_int.calls a0 false _ A3.out).mono ?_); rintro e w' ⟨rfl, ⟨nd, rfl⟩⟩; refine ⟨_, rfl, ?_⟩) | ((with_reducible refine gate_callee (f := 52) rfl ?_); refine goesL_ (some 10) rfl rfl Tryz.func52 (by kernel_rfl) rfl #[.int .i64 a1] rfl ap3 ?_; (with_reducible refine (cmp_isNaN_int.calls a1 true _ A4.out).mono ?_); rintro e w' ⟨rfl, ⟨nd, rfl⟩⟩; refine ⟨_, rfl, ?_⟩))
   go_ret
   exact ⟨ap2, ap7⟩
  ·
   replace c7 := Bool.eq_false_iff.mpr c7
   subst c7
   rw [if_neg (show ¬ (false = true) by decide)] at H
   by_cases c8 : a0 < a1
   ·
    rw [if_pos c8] at H
    have c8b0 := decide_eq_true c8
    clear c8
    obtain rfl := Option.some.inj H
    go_enter Tryz.func27, Tryz.ntmps27
    go_wp2_with (first | ((with_reducible refine gate_callee (f := 52) rfl ?_); refine goesL_ (some 8) rfl rfl Tryz.func52 (by kernel_rfl) rfl #[.int .i64 a0] rfl ap3 ?_; (with_reducible refine (cmp_isNaN_int.calls a0 false _ A3.out).mono ?_); rintro e w' ⟨rfl, ⟨nd, rfl⟩⟩; refine ⟨_, rfl, ?_⟩) | ((with_reducible refine gate_callee (f := 52) rfl ?_); refine goesL_ (some 10) rfl rfl Tryz.func52 (by kernel_rfl) rfl #[.int .i64 a1] rfl ap3 ?_; (with_reducible refine (cmp_isNaN_int.calls a1 false _ A4.out).mono ?_); rintro e w' ⟨rfl, ⟨nd, rfl⟩⟩; refine ⟨_, rfl, ?_⟩))
    go_ret
    exact ⟨ap2, ap7⟩
   ·
    rw [if_neg c8] at H
    have c8b0 := decide_eq_false c8
    clear c8
    by_cases c9 : a0 > a1
    ·
     rw [if_pos c9] at H
     have c9b0 := decide_eq_true c9
     clear c9
     obtain rfl := Option.some.inj H
     go_enter Tryz.func27, Tryz.ntmps27
     go_wp2_with (first | ((with_reducible refine gate_callee (f := 52) rfl ?_); refine goesL_ (some 8) rfl rfl Tryz.func52 (by kernel_rfl) rfl #[.int .i64 a0] rfl ap3 ?_; (with_reducible refine (cmp_isNaN_int.calls a0 false _ A3.out).mono ?_); rintro e w' ⟨rfl, ⟨nd, rfl⟩⟩; refine ⟨_, rfl, ?_⟩) | ((with_reducible refine gate_callee (f := 52) rfl ?_); refine goesL_ (some 10) rfl rfl Tryz.func52 (by kernel_rfl) rfl #[.int .i64 a1] rfl ap3 ?_; (with_reducible refine (cmp_isNaN_int.calls a1 false _ A4.out).mono ?_); rintro e w' ⟨rfl, ⟨nd, rfl⟩⟩; refine ⟨_, rfl, ?_⟩))
     go_ret
     exact ⟨ap2, ap7⟩
    ·
     rw [if_neg c9] at H
     have c9b0 := decide_eq_false c9
     clear c9
     obtain rfl := Option.some.inj H
     go_enter Tryz.func27, Tryz.ntmps27
     go_wp2_with (first | ((with_reducible refine gate_callee (f := 52) rfl ?_); refine goesL_ (some 8) rfl rfl Tryz.func52 (by kernel_rfl) rfl #[.int .i64 a0] rfl ap3 ?_; (with_reducible refine (cmp_isNaN_int.calls a0 false _ A3.out).mono ?_); rintro e w' ⟨rfl, ⟨nd, rfl⟩⟩; refine ⟨_, rfl, ?_⟩) | ((with_reducible refine gate_callee (f := 52) rfl ?_); refine goesL_ (some 10) rfl rfl Tryz.func52 (by kernel_rfl) rfl #[.int .i64 a1] rfl ap3 ?_; (with_reducible refine (cmp_isNaN_int.calls a1 false _ A4.out).mono ?_); rintro e w' ⟨rfl, ⟨nd, rfl⟩⟩; refine ⟨_, rfl, ?_⟩))
     go_ret
     exact ⟨ap2, ap7⟩
def attr_Order.j0 : Nat → ByteArray → ByteArray → ByteArray → Int → Bool → Option (Int × Int)
 | 0, _, _, _, _, _ => none
 | k + 1, x1, x2, x417000, x417001, x417002 => (attr_both.f k x417000 x417001 x417002 x1 x2).bind fun bt417 => (if bt417.2.2 = 0 then (if x417001 = 4 then ((strconv_Atoi_26.f bt417.1).bind fun bt420 => ((strconv_Atoi_26.f bt417.2.1).bind fun bt422 => ((cmp_Compare_int.f bt420.1 bt422.1).bind fun t424 => (some (t424, 0))))) else ((strings_Compare.f bt417.1 bt417.2.1).bind fun t425 => (some (t425, 0)))) else (some (0, bt417.2.2)))
def attr_Order.f (k : Nat) (a0_0 : ByteArray) (a0_1 : Int) (a0_2 : Bool) (a1 : ByteArray) (a2 : ByteArray) : Option (Int × Int) := if a0_1 = 1 then (attr_Order.j0 k a1 a2 a0_0 a0_1 a0_2) else (if a0_1 = 2 then (attr_Order.j0 k a1 a2 a0_0 a0_1 a0_2) else (if a0_1 = 4 then (attr_Order.j0 k a1 a2 a0_0 a0_1 a0_2) else (some (0, 20))))
theorem attr_Order.mono_l : ∀ k, (∀ y0 y1 y2 y3 y4, LeO (attr_Order.j0 k y0 y1 y2 y3 y4) (attr_Order.j0 (k + 1) y0 y1 y2 y3 y4))
 | 0 => fun _ _ _ _ _ r h => by simp [attr_Order.j0] at h
 | k + 1 => by
  have ih0 := attr_Order.mono_l k
  ·
   intro y0 y1 y2 y3 y4
   unfold attr_Order.j0
   repeat' first
   | (with_reducible exact ih0 _ _ _ _ _)
   | (with_reducible exact attr_both.mono _ _ _ _ _ _)
   | (with_reducible exact LeO.refl _)
   | (with_reducible exact LeO.none _)
   | (with_reducible refine LeO.ite ?_ ?_)
   | (with_reducible refine LeO.bind ?_ (fun _ => ?_))
theorem attr_Order.mono : ∀ a0 a1 a2 a3 a4 k, LeO (attr_Order.f k a0 a1 a2 a3 a4) (attr_Order.f (k + 1) a0 a1 a2 a3 a4) := by
 intro a0 a1 a2 a3 a4 k
 have ih0 := attr_Order.mono_l k
 unfold attr_Order.f
 repeat' first
   | (with_reducible exact ih0 _ _ _ _ _)
   | (with_reducible exact attr_both.mono _ _ _ _ _ _)
   | (with_reducible exact LeO.refl _)
   | (with_reducible exact LeO.none _)
   | (with_reducible refine LeO.ite ?_ ?_)
   | (with_reducible refine LeO.bind ?_ (fun _ => ?_))
set_option maxHeartbeats 8000000 in
set_option maxRecDepth 100000 in
theorem attr_Order.calls (k : Nat) (a0_0 : ByteArray) (a0_1 : Int) (a0_2 : Bool) (a1 : ByteArray) (a2 : ByteArray) (r1 : Int) (r2 : Int) (w : World) (hG : Gw w) (h : attr_Order.f k a0_0 a0_1 a0_2 a1 a2 = some (r1, r2)) :
  Calls Tryz.prog 12 #[.agg #[.string a0_0, .int .i64 a0_1, .bool a0_2], .string a1, .string a2] w fun e w' => e = .returned (.tuple #[.int .i64 r1, .int .i64 r2]) ∧ Below w.heap.size w w' := by
 have hu23 := Tryz.underlying23
 have HB := Aside0.mk (Below.refl w.heap.size w)
 have HG := Aside0.mk hG
 clear hG
 have H : (if a0_1 = 1 then (attr_Order.j0 k a1 a2 a0_0 a0_1 a0_2) else (if a0_1 = 2 then (attr_Order.j0 k a1 a2 a0_0 a0_1 a0_2) else (if a0_1 = 4 then (attr_Order.j0 k a1 a2 a0_0 a0_1 a0_2) else (some (0, 20))))) = some (r1, r2) := h
 clear h
 have HC4 := Aside0.mk H
 clear H
 go_enter Tryz.func12, Tryz.ntmps12
 go_upto_block 0 with (first | ((with_reducible refine gate_dst (N := 3) rfl ?_); refine box_event ?hg (N := 3) ?hd (cs := #[.string a0_0, .int .i64 a0_1, .bool a0_2]) (t := 23) ?hr ?_; (case hd => rfl); (case hg => rfl); (case hr => first | (go_simp; done) | (go_simp; rfl)); intro gb416 hg w5 hbox hb; have n0_ := Aside0.mk (below_step ap1 hb); have n1_ := Aside0.mk (hbox); have n2_ := Aside0.mk ((by rw [hg]; exact (below_size ap1) : w.heap.size ≤ gb416)); have n3_ := Aside0.mk ((by rw [hg]; exact (below_size ap1) : w.heap.size ≤ gb416)); clear HB; have HB := n0_; have BK416 := n1_; have GW416 := n2_; have GE416 := n3_; clear n0_ n1_ n2_ n3_; clear hb hbox hg; have hcz6_0 : w5.cell? ⟨gb416, 0, none⟩ = some (.string a0_0) := (blk_cell BK416.out 0).trans rfl; have hcz6_1 : w5.cell? ⟨gb416, 1, none⟩ = some (.int .i64 a0_1) := (blk_cell BK416.out 1).trans rfl; have hcz6_2 : w5.cell? ⟨gb416, 2, none⟩ = some (.bool a0_2) := (blk_cell BK416.out 2).trans rfl; have hfz6_0 := blk_frozen BK416.out 0; have hfz6_1 := blk_frozen BK416.out 1; have hfz6_2 := blk_frozen BK416.out 2))
 (try simp only [Act.put, List.setIfInBounds_toArray, List.set_cons_zero, List.set_cons_succ])
 go_cut [] (fun wc => ∃ (kq : Nat), Aside0 (attr_Order.j0 kq a1 a2 a0_0 a0_1 a0_2 = some (r1, r2)) ∧ Aside0 (kq ≤ k) ∧ Aside0 (wc.heap[gb416]? = some (.cells #[.string a0_0, .int .i64 a0_1, .bool a0_2] 23 (0, 0))) ∧ Aside0 (Below w.heap.size w wc))
 case first =>
  have H := HC4.out
  clear HC4
  by_cases c7 : a0_1 = 1
  ·
   rw [if_pos c7] at H
   have c7b0 : (a0_1 == 1) = true := beq_iff_eq.mpr c7
   have c7b1 : (a0_1 != 1) = false := bne_eq_false_iff_eq.mpr c7
   clear c7
   (first | rw [c7b0] | (simp only [i64_w, i32_w]; rw [c7b0]) | skip)
   have H' := Aside0.mk H
   clear H
   go_wp2
   first | go_meet | (simp only [c7b0] at *; go_meet)
   case rel => exact ⟨_, H', ⟨by first | omega | exact Nat.le_refl _⟩, ⟨by (with_reducible repeat (first | refine blk_drewN ?_ _ | refine blk_drew ?_ | refine blk_alloc ?_ _)); exact BK416.out⟩, ⟨by repeat (first | (with_reducible first | exact HB.out | apply below_alloc | apply pw_below_drewN | apply below_drew1 | refine below_set ?_ GE416.out) | exact HB.out)⟩⟩
  ·
   rw [if_neg c7] at H
   have c7b0 : (a0_1 == 1) = false := beq_eq_false_iff_ne.mpr c7
   have c7b1 : (a0_1 != 1) = true := bne_iff_ne.mpr c7
   (first | rw [c7b0] | (simp only [i64_w, i32_w]; rw [c7b0]) | skip)
   by_cases c8 : a0_1 = 2
   ·
    rw [if_pos c8] at H
    have c8b0 : (a0_1 == 2) = true := beq_iff_eq.mpr c8
    have c8b1 : (a0_1 != 2) = false := bne_eq_false_iff_eq.mpr c8
    clear c8
    have H' := Aside0.mk H
    clear H
    go_wp2
    first | go_meet | (simp only [c8b0] at *; go_meet) | (simp only [c7b0] at *; go_meet) | (simp only [c7b0] at *; go_meet)
    case rel => exact ⟨_, H', ⟨by first | omega | exact Nat.le_refl _⟩, ⟨by (with_reducible repeat (first | refine blk_drewN ?_ _ | refine blk_drew ?_ | refine blk_alloc ?_ _)); exact BK416.out⟩, ⟨by repeat (first | (with_reducible first | exact HB.out | apply below_alloc | apply pw_below_drewN | apply below_drew1 | refine below_set ?_ GE416.out) | exact HB.out)⟩⟩
   ·
    rw [if_neg c8] at H
    have c8b0 : (a0_1 == 2) = false := beq_eq_false_iff_ne.mpr c8
    have c8b1 : (a0_1 != 2) = true := bne_iff_ne.mpr c8
    by_cases c9 : a0_1 = 4
    ·
     rw [if_pos c9] at H
     have c9b0 : (a0_1 == 4) = true := beq_iff_eq.mpr c9
     have c9b1 : (a0_1 != 4) = false := bne_eq_false_iff_eq.mpr c9
     clear c9
     have H' := Aside0.mk H
     clear H
     go_wp2
     first | go_meet | (simp only [c9b0] at *; go_meet) | (simp only [c8b0] at *; go_meet) | (simp only [c8b0] at *; go_meet)
     case rel => exact ⟨_, H', ⟨by first | omega | exact Nat.le_refl _⟩, ⟨by (with_reducible repeat (first | refine blk_drewN ?_ _ | refine blk_drew ?_ | refine blk_alloc ?_ _)); exact BK416.out⟩, ⟨by repeat (first | (with_reducible first | exact HB.out | apply below_alloc | apply pw_below_drewN | apply below_drew1 | refine below_set ?_ GE416.out) | exact HB.out)⟩⟩
    ·
     rw [if_neg c9] at H
     have c9b0 : (a0_1 == 4) = false := beq_eq_false_iff_ne.mpr c9
     have c9b1 : (a0_1 != 4) = true := bne_iff_ne.mpr c9
     simp only [Option.some.injEq, Prod.mk.injEq] at H
     obtain ⟨rfl, rfl⟩ := H
     go_wp2
     go_ret2
     exact ⟨by first | rfl | (simp [errW_none, errW_some, bne_nil8, beq_nil8]; done) | (simp [errW_none, errW_some] <;> rfl) | (simp [*, errW_none, errW_some] <;> rfl), by repeat (first | (with_reducible first | exact HB.out | apply below_alloc | apply pw_below_drewN | apply below_drew1 | refine below_set ?_ GE416.out) | exact HB.out)⟩
 case rest =>
  clear HC4
  try clear c1
  try clear p2
  try clear c7
  try clear c7b0
  try clear c7b1
  try clear c8
  try clear c8b0
  try clear c8b1
  try clear c9
  try clear c9b0
  try clear c9b1
  try clear hcz6_0
  try clear hcz6_1
  try clear hcz6_2
  try clear hfz6_0
  try clear hfz6_1
  try clear hfz6_2
  obtain ⟨kq, HA, HJ3, BK416, HB⟩ := hcut
  cases kq with
  | zero => exact absurd HA.out (by simp [attr_Order.j0])
  | succ kj3 =>
   have H := HA.out
   clear HA
   simp only [attr_Order.j0] at H
   replace H := Option.bind_eq_some_iff.mp H
   obtain ⟨⟨t417, t418, t419⟩, A100, H⟩ := H
   replace H : (if t419 = 0 then (if a0_1 = 4 then ((strconv_Atoi_26.f t417).bind fun bt420 => ((strconv_Atoi_26.f t418).bind fun bt422 => ((cmp_Compare_int.f bt420.1 bt422.1).bind fun t424 => (some (t424, 0))))) else ((strings_Compare.f t417 t418).bind fun t425 => (some (t425, 0)))) else (some (0, t419))) = some (r1, r2) := H
   have A10 := Aside0.mk A100
   clear A100
   by_cases c11 : t419 = 0
   ·
    rw [if_pos c11] at H
    have c11b0 : (t419 == 0) = true := beq_iff_eq.mpr c11
    have c11b1 : (t419 != 0) = false := bne_eq_false_iff_eq.mpr c11
    clear c11
    by_cases c12 : a0_1 = 4
    ·
     rw [if_pos c12] at H
     have c12b0 : (a0_1 == 4) = true := beq_iff_eq.mpr c12
     have c12b1 : (a0_1 != 4) = false := bne_eq_false_iff_eq.mpr c12
     clear c12
     replace H := Option.bind_eq_some_iff.mp H
     obtain ⟨⟨t420, t421⟩, A130, H⟩ := H
     replace H : ((strconv_Atoi_26.f t418).bind fun bt422 => ((cmp_Compare_int.f t420 bt422.1).bind fun t424 => (some (t424, 0)))) = some (r1, r2) := H
     have A13 := Aside0.mk A130
     clear A130
     replace H := Option.bind_eq_some_iff.mp H
     obtain ⟨⟨t422, t423⟩, A140, H⟩ := H
     replace H : ((cmp_Compare_int.f t420 t422).bind fun t424 => (some (t424, 0))) = some (r1, r2) := H
     have A14 := Aside0.mk A140
     clear A140
     replace H := Option.bind_eq_some_iff.mp H
     obtain ⟨t424, A150, H⟩ := H
     replace H : (some (t424, 0)) = some (r1, r2) := H
     have A15 := Aside0.mk A150
     clear A150
     simp only [Option.some.injEq, Prod.mk.injEq] at H
     obtain ⟨rfl, rfl⟩ := H
     have hcz16_0 : wc.cell? ⟨gb416, 0, none⟩ = some (.string a0_0) := (blk_cell BK416.out 0).trans rfl
     have hcz16_1 : wc.cell? ⟨gb416, 1, none⟩ = some (.int .i64 a0_1) := (blk_cell BK416.out 1).trans rfl
     have hcz16_2 : wc.cell? ⟨gb416, 2, none⟩ = some (.bool a0_2) := (blk_cell BK416.out 2).trans rfl
     have hfz16_0 := blk_frozen BK416.out 0
     have hfz16_1 := blk_frozen BK416.out 1
     have hfz16_2 := blk_frozen BK416.out 2
     go_wp2_with (first | ((with_reducible refine gate_callee (f := 25) rfl ?_); refine goesL_ (some 25) rfl rfl Tryz.func25 (by kernel_rfl) rfl #[.agg #[.string a0_0, .int .i64 a0_1, .bool a0_2], .string a1, .string a2] rfl ap3 ?_; (with_reducible refine (attr_both.calls kj3 a0_0 a0_1 a0_2 a1 a2 t417 t418 t419 _ ?side1 A10.out).mono ?_); (case side1 => first | exact HG.out | (refine Gw.below HG.out ?_; repeat (first | (with_reducible first | exact HB.out | apply below_alloc | apply pw_below_drewN | apply below_drew1 | refine below_set ?_ GE416.out) | exact HB.out))); rintro e w17 ⟨rfl, hb⟩; refine ⟨_, rfl, ?_⟩; have n0_ := Aside0.mk (blk_below (g := gb416) (o := .cells #[.string a0_0, .int .i64 a0_1, .bool a0_2] 23 (0, 0)) (apB BK416.out) hb); have n1_ := Aside0.mk (below_step (apG GE416.out) hb); clear BK416; clear HB; have BK416 := n0_; have HB := n1_; clear n0_ n1_; (try clear hb); (try clear hb2); (try clear hk); (try clear hi); have hcz18_0 : w17.cell? ⟨gb416, 0, none⟩ = some (.string a0_0) := (blk_cell BK416.out 0).trans rfl; have hcz18_1 : w17.cell? ⟨gb416, 1, none⟩ = some (.int .i64 a0_1) := (blk_cell BK416.out 1).trans rfl; have hcz18_2 : w17.cell? ⟨gb416, 2, none⟩ = some (.bool a0_2) := (blk_cell BK416.out 2).trans rfl; have hfz18_0 := blk_frozen BK416.out 0; have hfz18_1 := blk_frozen BK416.out 1; have hfz18_2 := blk_frozen BK416.out 2) | ((with_reducible refine gate_callee (f := 26) rfl ?_); refine goesL_ (some 37) rfl rfl Tryz.func26 (by kernel_rfl) rfl #[.string t417] rfl ap3 ?_; (with_reducible refine (strconv_Atoi_26.calls t417 t420 t421 _ A13.out).mono ?_); rintro e w19 ⟨rfl, hb⟩; refine ⟨_, rfl, ?_⟩; have n0_ := Aside0.mk (blk_below (g := gb416) (o := .cells #[.string a0_0, .int .i64 a0_1, .bool a0_2] 23 (0, 0)) (apB BK416.out) hb); have n1_ := Aside0.mk (below_step (apG GE416.out) hb); clear BK416; clear HB; have BK416 := n0_; have HB := n1_; clear n0_ n1_; (try clear hb); (try clear hb2); (try clear hk); (try clear hi); (try simp only [errW_none, errW_some])) | ((with_reducible refine gate_callee (f := 26) rfl ?_); refine goesL_ (some 42) rfl rfl Tryz.func26 (by kernel_rfl) rfl #[.string t418] rfl ap3 ?_; (with_reducible refine (strconv_Atoi_26.calls t418 t422 t423 _ A14.out).mono ?_); rintro e w20 ⟨rfl, hb⟩; refine ⟨_, rfl, ?_⟩; have n0_ := Aside0.mk (blk_below (g := gb416) (o := .cells #[.string a0_0, .int .i64 a0_1, .bool a0_2] 23 (0, 0)) (apB BK416.out) hb); have n1_ := Aside0.mk (below_step (apG GE416.out) hb); clear BK416; clear HB; have BK416 := n0_; have HB := n1_; clear n0_ n1_; (try clear hb); (try clear hb2); (try clear hk); (try clear hi); (try simp only [errW_none, errW_some])) | ((with_reducible refine gate_callee (f := 27) rfl ?_); refine goesL_ (some 47) rfl rfl Tryz.func27 (by kernel_rfl) rfl #[.int .i64 t420, .int .i64 t422] rfl ap3 ?_; (with_reducible refine (cmp_Compare_int.calls t420 t422 t424 _ A15.out).mono ?_); rintro e w' ⟨rfl, ⟨nd, rfl⟩⟩; refine ⟨_, rfl, ?_⟩))
     go_ret2
     exact ⟨by first | rfl | (simp [errW_none, errW_some, bne_nil8, beq_nil8]; done) | (simp [errW_none, errW_some] <;> rfl) | (simp [*, errW_none, errW_some] <;> rfl), by repeat (first | (with_reducible first | exact HB.out | apply below_alloc | apply pw_below_drewN | apply below_drew1 | refine below_set ?_ GE416.out) | exact HB.out)⟩
    ·
     rw [if_neg c12] at H
     have c12b0 : (a0_1 == 4) = false := beq_eq_false_iff_ne.mpr c12
     have c12b1 : (a0_1 != 4) = true := bne_iff_ne.mpr c12
     replace H := Option.bind_eq_some_iff.mp H
     obtain ⟨t425, A210, H⟩ := H
     replace H : (some (t425, 0)) = some (r1, r2) := H
     have A21 := Aside0.mk A210
     clear A210
     simp only [Option.some.injEq, Prod.mk.injEq] at H
     obtain ⟨rfl, rfl⟩ := H
     have hcz22_0 : wc.cell? ⟨gb416, 0, none⟩ = some (.string a0_0) := (blk_cell BK416.out 0).trans rfl
     have hcz22_1 : wc.cell? ⟨gb416, 1, none⟩ = some (.int .i64 a0_1) := (blk_cell BK416.out 1).trans rfl
     have hcz22_2 : wc.cell? ⟨gb416, 2, none⟩ = some (.bool a0_2) := (blk_cell BK416.out 2).trans rfl
     have hfz22_0 := blk_frozen BK416.out 0
     have hfz22_1 := blk_frozen BK416.out 1
     have hfz22_2 := blk_frozen BK416.out 2
     go_wp2_with (first | ((with_reducible refine gate_callee (f := 25) rfl ?_); refine goesL_ (some 25) rfl rfl Tryz.func25 (by kernel_rfl) rfl #[.agg #[.string a0_0, .int .i64 a0_1, .bool a0_2], .string a1, .string a2] rfl ap3 ?_; (with_reducible refine (attr_both.calls kj3 a0_0 a0_1 a0_2 a1 a2 t417 t418 t419 _ ?side1 A10.out).mono ?_); (case side1 => first | exact HG.out | (refine Gw.below HG.out ?_; repeat (first | (with_reducible first | exact HB.out | apply below_alloc | apply pw_below_drewN | apply below_drew1 | refine below_set ?_ GE416.out) | exact HB.out))); rintro e w23 ⟨rfl, hb⟩; refine ⟨_, rfl, ?_⟩; have n0_ := Aside0.mk (blk_below (g := gb416) (o := .cells #[.string a0_0, .int .i64 a0_1, .bool a0_2] 23 (0, 0)) (apB BK416.out) hb); have n1_ := Aside0.mk (below_step (apG GE416.out) hb); clear BK416; clear HB; have BK416 := n0_; have HB := n1_; clear n0_ n1_; (try clear hb); (try clear hb2); (try clear hk); (try clear hi); have hcz24_0 : w23.cell? ⟨gb416, 0, none⟩ = some (.string a0_0) := (blk_cell BK416.out 0).trans rfl; have hcz24_1 : w23.cell? ⟨gb416, 1, none⟩ = some (.int .i64 a0_1) := (blk_cell BK416.out 1).trans rfl; have hcz24_2 : w23.cell? ⟨gb416, 2, none⟩ = some (.bool a0_2) := (blk_cell BK416.out 2).trans rfl; have hfz24_0 := blk_frozen BK416.out 0; have hfz24_1 := blk_frozen BK416.out 1; have hfz24_2 := blk_frozen BK416.out 2) | ((with_reducible refine gate_callee (f := 28) rfl ?_); refine goesL_ (some 50) rfl rfl Tryz.func28 (by kernel_rfl) rfl #[.string t417, .string t418] rfl ap3 ?_; (with_reducible refine (strings_Compare.calls t417 t418 t425 _ A21.out).mono ?_); rintro e w' ⟨rfl, ⟨nd, rfl⟩⟩; refine ⟨_, rfl, ?_⟩))
     go_ret2
     exact ⟨by first | rfl | (simp [errW_none, errW_some, bne_nil8, beq_nil8]; done) | (simp [errW_none, errW_some] <;> rfl) | (simp [*, errW_none, errW_some] <;> rfl), by repeat (first | (with_reducible first | exact HB.out | apply below_alloc | apply pw_below_drewN | apply below_drew1 | refine below_set ?_ GE416.out) | exact HB.out)⟩
   ·
    rw [if_neg c11] at H
    have c11b0 : (t419 == 0) = false := beq_eq_false_iff_ne.mpr c11
    have c11b1 : (t419 != 0) = true := bne_iff_ne.mpr c11
    simp only [Option.some.injEq, Prod.mk.injEq] at H
    obtain ⟨rfl, rfl⟩ := H
    have hcz25_0 : wc.cell? ⟨gb416, 0, none⟩ = some (.string a0_0) := (blk_cell BK416.out 0).trans rfl
    have hcz25_1 : wc.cell? ⟨gb416, 1, none⟩ = some (.int .i64 a0_1) := (blk_cell BK416.out 1).trans rfl
    have hcz25_2 : wc.cell? ⟨gb416, 2, none⟩ = some (.bool a0_2) := (blk_cell BK416.out 2).trans rfl
    have hfz25_0 := blk_frozen BK416.out 0
    have hfz25_1 := blk_frozen BK416.out 1
    have hfz25_2 := blk_frozen BK416.out 2
    go_wp2_with (first | ((with_reducible refine gate_callee (f := 25) rfl ?_); refine goesL_ (some 25) rfl rfl Tryz.func25 (by kernel_rfl) rfl #[.agg #[.string a0_0, .int .i64 a0_1, .bool a0_2], .string a1, .string a2] rfl ap3 ?_; (with_reducible refine (attr_both.calls kj3 a0_0 a0_1 a0_2 a1 a2 t417 t418 t419 _ ?side1 A10.out).mono ?_); (case side1 => first | exact HG.out | (refine Gw.below HG.out ?_; repeat (first | (with_reducible first | exact HB.out | apply below_alloc | apply pw_below_drewN | apply below_drew1 | refine below_set ?_ GE416.out) | exact HB.out))); rintro e w26 ⟨rfl, hb⟩; refine ⟨_, rfl, ?_⟩; have n0_ := Aside0.mk (blk_below (g := gb416) (o := .cells #[.string a0_0, .int .i64 a0_1, .bool a0_2] 23 (0, 0)) (apB BK416.out) hb); have n1_ := Aside0.mk (below_step (apG GE416.out) hb); clear BK416; clear HB; have BK416 := n0_; have HB := n1_; clear n0_ n1_; (try clear hb); (try clear hb2); (try clear hk); (try clear hi)))
    go_ret2
    exact ⟨by first | rfl | (simp [errW_none, errW_some, bne_nil8, beq_nil8]; done) | (simp [errW_none, errW_some] <;> rfl) | (simp [*, errW_none, errW_some] <;> rfl), by repeat (first | (with_reducible first | exact HB.out | apply below_alloc | apply pw_below_drewN | apply below_drew1 | refine below_set ?_ GE416.out) | exact HB.out)⟩
end Go.Proofs.YtpklcnpmppaaoaaGreatDoor.Print
namespace Go.Proofs.YtpklcnpmppaaoaaGreatDoor.Print
open Go.RowKit Go.Proofs.YtpklcnpmppaaoaaGreatDoorW.PrintWords Go.Proofs.YtpklcnpmppaaoaaGreatDoorW.PrintLast Go.Proofs.YtpklcnpmppaaoaaGreatDoorW.PrintMore
set_option linter.unusedVariables false
set_option linter.unusedSimpArgs false
def lowB (c : UInt8) : UInt8 := if 65 ≤ c.toNat ∧ c.toNat ≤ 90 then c + 32 else c
def attr_lower.f (a0 : ByteArray) : Option ByteArray := if a0.size ≤ 1000000 then some ⟨(a0.data.toList.map lowB).toArray⟩ else none
def byteVs (l : List UInt8) : List Value := l.map fun b => Value.int .u8 b.toNat
def ConvRow (g : Nat) (l : List UInt8) (w : World) : Prop := ∃ sp : Array Value, w.heap[g]? = some (.cells ((byteVs l).toArray ++ sp) 5 (l.length + sp.size, l.length + sp.size + 1))
theorem ConvRow.cell {g : Nat} {l : List UInt8} {w : World} (h : ConvRow g l w) (i : Nat) (hi : i < l.length) : w.cell? ⟨g, i, none⟩ = some (.int .u8 (l.getD i 0).toNat) := by
  obtain ⟨sp, h⟩ := h
  simp [World.cell?, h, byteVs, Array.getElem?_append, List.getD_eq_getElem?_getD, hi]
theorem ConvRow.frozen {g : Nat} {l : List UInt8} {w : World} (h : ConvRow g l w) (i : Nat) (hi : i < l.length) : w.frozen? ⟨g, i, none⟩ = false := by
  obtain ⟨sp, h⟩ := h
  simp [World.frozen?, h]; omega
theorem ConvRow.lt {g : Nat} {l : List UInt8} {w : World} (h : ConvRow g l w) : g < w.heap.size := by
  obtain ⟨sp, h⟩ := h
  exact blk_lt h
theorem ConvRow.drewN {g : Nat} {l : List UInt8} {w : World} (h : ConvRow g l w) (n : Nat) : ConvRow g l (w.drewN n) := h
theorem ConvRow.set {g : Nat} {l : List UInt8} {w : World} (h : ConvRow g l w) (i : Nat) (b : UInt8) (hi : i < l.length) : ConvRow g (l.set i b) (w.setCell ⟨g, i, none⟩ (.int .u8 b.toNat)) := by
  obtain ⟨sp, h⟩ := h
  refine ⟨sp, ?_⟩
  have e : ((byteVs l).toArray ++ sp).setIfInBounds i (.int .u8 b.toNat) = (byteVs (l.set i b)).toArray ++ sp := by
    rw [Array.setIfInBounds_append_left (by simpa [byteVs] using hi)]
    simp [byteVs, List.map_set]
  simp [World.setCell, h, Array.getElem?_modify, e]
theorem ConvRow.reads {g : Nat} {l : List UInt8} {w : World} (h : ConvRow g l w) (hl : l.length ≤ 9223372036854775807) : ReadsInt w .u8 (some ⟨g, 0, none⟩) l.length (l.map fun b => (b.toNat : Int)) := by
  refine ⟨by simp, hl, fun _ => ⟨_, rfl, fun j hj => ?_⟩⟩
  rw [add_plain, h.cell j hj]
  simp [List.getD_eq_getElem?_getD, List.getElem?_eq_getElem hj]
theorem convRow_new (w : World) (s : ByteArray) : ConvRow w.heap.size s.data.toList (Lib.bytesWorld w 5 s) := by
  refine ⟨Array.replicate (grownCap w s.size 0 5 - s.size) (.int .u8 0), ?_⟩
  rw [Lib.bytesWorld_at_new]
  have e : Lib.bytesCells w 5 s = (byteVs s.data.toList).toArray ++ Array.replicate (grownCap w s.size 0 5 - s.size) (.int .u8 0) := by
    unfold Lib.bytesCells byteVs
    congr 1
    apply Array.ext'
    simp
  rw [e]
  simp [byteVs]
theorem strOfNums_bytes (l : List UInt8) : strOfNums (l.map fun b => (b.toNat : Int)) = ⟨l.toArray⟩ := by
  unfold strOfNums
  congr 1
  apply Array.ext'
  induction l with
  | nil => rfl
  | cons x l ih => simp at ih ⊢; exact ih
def lowAt (l : List UInt8) (k : Nat) : List UInt8 := (l.take k).map lowB ++ l.drop k
theorem lowAt_len (l : List UInt8) (k : Nat) (h : k ≤ l.length) : (lowAt l k).length = l.length := by simp [lowAt]; omega
theorem lowAt_get (l : List UInt8) (k : Nat) (h : k < l.length) : (lowAt l k).getD k 0 = l.getD k 0 := by
  have h1 : ((l.take k).map lowB).length = k := by simp; omega
  unfold lowAt
  rw [List.getD_eq_getElem?_getD, List.getElem?_append_right (by omega), h1, Nat.sub_self, List.getElem?_drop, Nat.add_zero, List.getD_eq_getElem?_getD]
theorem lowAt_step (l : List UInt8) (k : Nat) (h : k < l.length) : (lowAt l k).set k (lowB (l.getD k 0)) = lowAt l (k + 1) := by
  have h1 : ((l.take k).map lowB).length = k := by simp; omega
  unfold lowAt
  have e : l.drop k = l[k] :: l.drop (k + 1) := List.drop_eq_getElem_cons h
  rw [List.set_append_right _ _ (by omega), h1, Nat.sub_self, List.take_succ_eq_append_getElem h, e, List.set_cons_zero, List.map_append, List.append_assoc]
  simp [List.getD_eq_getElem?_getD, h]
theorem lowAt_same (l : List UInt8) (k : Nat) (h : k < l.length) (hc : lowB (l.getD k 0) = l.getD k 0) : lowAt l k = lowAt l (k + 1) := by
  rw [← lowAt_step l k h, hc, ← lowAt_get l k h]
  refine (List.set_getElem_self (i := k) (by rw [lowAt_len _ _ (by omega)]; exact h)).symm.trans ?_
  congr 1
  rw [List.getD_eq_getElem?_getD, List.getElem?_eq_getElem (by rw [lowAt_len _ _ (by omega)]; exact h)]
  rfl
set_option maxHeartbeats 4000000 in
set_option maxRecDepth 1000000 in
theorem attr_lower.calls (a0 : ByteArray) (r : ByteArray) (w : World) (h : attr_lower.f a0 = some r) :
    Calls Tryz.prog 39 #[.string a0] w fun e w' => e = .returned (.string r) ∧ Below w.heap.size w w' := by
  unfold attr_lower.f at h
  by_cases c : a0.size ≤ 1000000
  · rw [if_pos c] at h
    injection h with h
    subst h
    have kb := fun W => print_bytes (P := Tryz.prog) 9 82 5 Tryz.underlying9 Tryz.underlying82 Tryz.underlying5 a0 W
    have hn : a0.data.toList.length = a0.size := data_length a0
    go_enter Tryz.func39, Tryz.ntmps39
    go_wp2
    go_loopw [10] (fun i wr => ∃ (k : Nat), k ≤ a0.size ∧ i = .int .i64 k ∧ Aside0 (ConvRow w.heap.size (lowAt a0.data.toList k) wr) ∧ Aside0 (Below w.heap.size w wr)) (fun i wr => a0.size - (intOf i).toNat)
    case atStart => exact ⟨0, Nat.zero_le _, rfl, ⟨convRow_new w a0⟩, ⟨bytes_below (Below.refl _ _) (Nat.le_refl _) _ _⟩⟩
    case round =>
      obtain ⟨k, hk, rfl, HR, HB⟩ := hrel
      by_cases hlt : k < a0.size
      · have hl := lowAt_len a0.data.toList k (by omega)
        have hc := HR.out.cell k (by omega)
        rw [lowAt_get a0.data.toList k (by omega)] at hc
        have hf := HR.out.frozen k (by omega)
        have HS := fun b => Aside0.mk (HR.out.set k b (by omega))
        generalize hx : a0.data.toList.getD k 0 = x at *
        have hby : (x.toNat : Int) < 256 := by have := x.toNat_lt; omega
        by_cases h1 : 65 ≤ x.toNat
        · by_cases h2 : x.toNat ≤ 90
          · have hlo : lowB x = x + 32 := by unfold lowB; rw [if_pos ⟨h1, h2⟩]
            have h32 : ((x + 32).toNat : Int) = (x.toNat : Int) + 32 := by rw [UInt8.toNat_add]; show (((x.toNat + 32) % 256 : Nat) : Int) = _; omega
            have HS2 := Aside0.mk (show ConvRow w.heap.size (lowAt a0.data.toList (k + 1)) (wr.setCell ⟨w.heap.size, k, none⟩ (.int .u8 ((x.toNat : Int) + 32))) by have := (HS (lowB x)).out; rw [← hx] at this; rw [lowAt_step _ _ (by omega), hx, hlo, h32] at this; exact this)
            clear HS hlo h32
            go_wp2
            go_roundw
            case rel => exact ⟨k + 1, by omega, by go_num, HS2, ⟨below_set HB.out (Nat.le_refl _)⟩⟩
            case measure => simp [intOf]; omega
          · clear HS
            have hlo : lowB x = x := by unfold lowB; rw [if_neg (by omega)]
            go_wp2
            go_roundw
            case rel => exact ⟨k + 1, by omega, by go_num, ⟨by rw [← lowAt_same _ _ (by omega) (by rw [hx]; exact hlo)]; exact HR.out⟩, ⟨HB.out⟩⟩
            case measure => simp [intOf]; omega
        · clear HS
          have hlo : lowB x = x := by unfold lowB; rw [if_neg (by omega)]
          go_wp2
          go_roundw
          case rel => exact ⟨k + 1, by omega, by go_num, ⟨by rw [← lowAt_same _ _ (by omega) (by rw [hx]; exact hlo)]; exact HR.out⟩, ⟨HB.out⟩⟩
          case measure => simp [intOf]; omega
      · obtain rfl : k = a0.size := by omega
        have hl := lowAt_len a0.data.toList a0.size (by omega)
        have e0 : lowAt a0.data.toList a0.size = a0.data.toList.map lowB := by
          unfold lowAt
          rw [List.take_of_length_le (by omega), List.drop_eq_nil_of_le (by omega), List.append_nil]
        have hr := HR.out.reads (by omega)
        rw [hl, hn] at hr
        have kc := string_of_reads (P := Tryz.prog) (src := 82) (dst := 9) (c := grownCap w a0.size 0 5) Tryz.underlying82 Tryz.underlying5 Tryz.underlying9 hr
        rw [strOfNums_bytes, e0] at kc
        clear hr hl e0
        go_wp2
        go_ret
        exact ⟨rfl, HB.out⟩
  · rw [if_neg c] at h; cases h
def findIn : List (ByteArray × Int × Bool) → ByteArray → ByteArray × Int × Bool × Bool
  | [], _ => (⟨#[]⟩, 0, false, false)
  | x :: l, s => if s = x.1 then (x.1, x.2.1, x.2.2, true) else findIn l s
def attr_Find.f (a0 : ByteArray) : Option (ByteArray × Int × Bool × Bool) := (attr_lower.f a0).map (findIn attrTab)
theorem attrTab_len : attrTab.length = 20 := rfl
def attrAt (k : Nat) : ByteArray × Int × Bool := attrTab.getD k default
theorem attrCells_at : ∀ k, k < 20 → attrCells.extract (k * 3) (k * 3 + 3) = #[.string (attrAt k).1, .int .i64 (attrAt k).2.1, .bool (attrAt k).2.2]
  | 0, _ | 1, _ | 2, _ | 3, _ | 4, _ | 5, _ | 6, _ | 7, _ | 8, _ | 9, _ | 10, _ | 11, _ | 12, _ | 13, _ | 14, _ | 15, _ | 16, _ | 17, _ | 18, _ | 19, _ => rfl
  | n + 20, h => absurd h (by omega)
theorem attr_index (k : Nat) (hk : k < 20) (cs : Array Value) (hcs : cs = attrCells) (x : ByteArray × Int × Bool) (hx : attrAt k = x) (W : World) :
    (Instr.index 63 (.agg cs) (.int .i64 (k : Int))).run Tryz.prog W = .ok (.agg #[.string x.1, .int .i64 x.2.1, .bool x.2.2]) W := by
  subst hcs; subst hx
  have h1 : 0 ≤ (k : Int) ∧ (k : Int) < ((20 : Nat) : Int) := by omega
  simp [Instr.index, run_underlying Tryz.underlying63, h1, Tryz.sizeOf23, Tryz.isAgg23, Result.andThen, attrCells_at k hk, go_sem]
  omega
theorem attr_load (W : World) (cs : Array Value) (hcs : cs = attrCells) (t : TypeId) (fr : Nat × Nat) (h : W.heap[0]? = some (.cells attrCells t fr)) : (loadVar 63 ⟨0, 0, none⟩).run Tryz.prog W = .ok (.agg cs) W := by
  subst hcs
  exact run_loadVar_row W _ t _ attrCells fr _ h Tryz.underlying63 rfl (by kernel_rfl)
theorem attr_load_run {a : Act} {o : Oper} {W : World} {cs : Array Value} (ho : o.op = .load 63 (.global 0)) (hk : (loadVar 63 ⟨0, 0, none⟩).run Tryz.prog W = .ok (.agg cs) W) : (execOp a.eval o).run Tryz.prog W = .ok (.value (.agg cs)) W := by
  have he : a.eval (.global 0) = .pointer (some ⟨0, 0, none⟩) := rfl
  unfold execOp
  simp only [ho, he, Instr.loadAt, Instr.sureAddr, Sem.run_bind, Sem.run_pure, Result.andThen_ok, hk]
theorem findIn_at (k : Nat) (hk : k < 20) (s : ByteArray) : findIn (attrTab.drop k) s = if s = (attrAt k).1 then ((attrAt k).1, (attrAt k).2.1, (attrAt k).2.2, true) else findIn (attrTab.drop (k + 1)) s := by
  have h := List.drop_eq_getElem_cons (l := attrTab) (i := k) (by rw [attrTab_len]; exact hk)
  have e : attrAt k = attrTab[k]'(by rw [attrTab_len]; exact hk) := by
    unfold attrAt
    rw [List.getD_eq_getElem?_getD, List.getElem?_eq_getElem (by rw [attrTab_len]; exact hk)]; rfl
  rw [h, findIn, e]
set_option maxHeartbeats 4000000 in
set_option maxRecDepth 1000000 in
theorem attr_Find.calls (a0 : ByteArray) (r1 : ByteArray) (r2 : Int) (r3 : Bool) (r4 : Bool) (w : World) (hG : Gw w) (h : attr_Find.f a0 = some (r1, r2, r3, r4)) :
    Calls Tryz.prog 16 #[.string a0] w fun e w' => e = .returned (.tuple #[.agg #[.string r1, .int .i64 r2, .bool r3], .bool r4]) ∧ Below w.heap.size w w' := by
  obtain ⟨s, h1, h2⟩ := Option.map_eq_some_iff.1 h
  obtain ⟨cs, hcs⟩ : ∃ cs, cs = attrCells := ⟨_, rfl⟩
  have HC := Aside0.mk hcs
  have H1 := Aside0.mk h1
  have H2 := Aside0.mk h2
  have HG := Aside0.mk hG
  have hu23 := Tryz.underlying23
  clear h h1 h2 hG hcs
  have hI : ∀ (k : Nat) (hk : k < 20) (x : ByteArray × Int × Bool) (hx : attrAt k = x) (W : World), (Instr.index 63 (.agg cs) (.int .i64 (k : Int))).run Tryz.prog W = .ok (.agg #[.string x.1, .int .i64 x.2.1, .bool x.2.2]) W := fun k hk x hx W => attr_index k hk cs HC.out x hx W
  have HI := Aside0.mk hI
  clear hI
  go_enter Tryz.func16, Tryz.ntmps16
  go_wp2_with (first | (go_at_call 39; (with_reducible refine (attr_lower.calls _ _ _ H1.out).mono ?_); rintro e w1 ⟨rfl, hb⟩; obtain ⟨t_, fr_, ht_⟩ := ((HG.out.alloc _).below hb).types; have kl := attr_load w1 cs HC.out t_ fr_ ht_; replace hb := Aside0.mk hb; replace kl := Aside0.mk kl; clear ht_) | ((with_reducible refine gate_dst (N := 8) rfl ?_); refine Kd.event_run rfl (attr_load_run rfl kl.out) ?_))
  go_loopw [9] (fun i wr => ∃ (k : Nat), k ≤ 20 ∧ i = .int .i64 k ∧ Aside0 (findIn (attrTab.drop k) s = (r1, r2, r3, r4)) ∧ Aside0 (wr.heap[w.heap.size]? = some (.cells #[.string ⟨#[]⟩, .int .i64 0, .bool false] 23 (0, 0))) ∧ Aside0 (Below w.heap.size w wr)) (fun i wr => 20 - (intOf i).toNat)
  case atStart => exact ⟨0, by omega, rfl, ⟨H2.out⟩, ⟨(hb.out.block _ (blk_lt (blk_new w _))).trans (blk_new w _)⟩, ⟨below_then (below_alloc (Below.refl _ _) _) (Nat.le_of_lt (blk_lt (blk_new w _))) hb.out⟩⟩
  case round =>
    obtain ⟨k, hk, rfl, HF, HBK, HB⟩ := hrel
    have hc0 : wr.cell? ⟨w.heap.size, 0, none⟩ = some (.string ⟨#[]⟩) := (blk_cell HBK.out 0).trans rfl
    have hc1 : wr.cell? ⟨w.heap.size, 1, none⟩ = some (.int .i64 0) := (blk_cell HBK.out 1).trans rfl
    have hc2 : wr.cell? ⟨w.heap.size, 2, none⟩ = some (.bool false) := (blk_cell HBK.out 2).trans rfl
    have hgl := blk_lt HBK.out
    have hgn : ¬ w.heap.size = wr.heap.size := Nat.ne_of_lt hgl
    have hf0 := blk_frozen HBK.out 0
    have hf1 := blk_frozen HBK.out 1
    have hf2 := blk_frozen HBK.out 2
    by_cases hlt : k < 20
    · have hfi := findIn_at k hlt s
      have hI := HI.out k hlt _ rfl
      generalize attrAt k = x at *
      rw [HF.out] at hfi
      by_cases hq : s = x.1
      · rw [if_pos hq] at hfi
        simp only [Prod.mk.injEq] at hfi
        obtain ⟨rfl, rfl, rfl, rfl⟩ := hfi
        subst hq
        clear HF
        go_wp2
        refine bodyPost_ret (results_ct rfl _ _ w.heap.size 23 #[.string x.1, .int .i64 x.2.1, .bool x.2.2] (0, 0) _ rfl (by (with_reducible repeat (first | refine blk_drewN ?_ _ | refine blk_drew ?_ | refine blk_alloc ?_ _)); refine blk_put (cs := #[.string x.1, .int .i64 x.2.1, .bool false]) ?_ 2 _ rfl; (with_reducible repeat (first | refine blk_drewN ?_ _ | refine blk_drew ?_ | refine blk_alloc ?_ _)); refine blk_put (cs := #[.string x.1, .int .i64 0, .bool false]) ?_ 1 _ rfl; (with_reducible repeat (first | refine blk_drewN ?_ _ | refine blk_drew ?_ | refine blk_alloc ?_ _)); refine blk_put (cs := #[.string ⟨#[]⟩, .int .i64 0, .bool false]) ?_ 0 _ rfl; (with_reducible repeat (first | refine blk_drewN ?_ _ | refine blk_drew ?_ | refine blk_alloc ?_ _)); exact HBK.out) Tryz.underlying23 rfl (by kernel_rfl)) rfl ?_
        exact ⟨rfl, by repeat (first | exact HB.out | apply below_alloc | refine below_set ?_ (Nat.le_refl _) | refine below_set ?_ (below_size HB.out))⟩
      · rw [if_neg hq] at hfi
        have HF2 := Aside0.mk hfi.symm
        have hqb : (x.1.toList == s.toList) = false := by
          rw [beq_eq_false_iff_ne]
          intro h
          exact hq (ByteArray.ext (Array.ext' (by rw [Lib.toList_data, Lib.toList_data] at h; exact h.symm)))
        clear HF hfi hq
        go_wp2
        go_roundw
        case rel => exact ⟨k + 1, by omega, by go_num, HF2, ⟨by (with_reducible repeat (first | refine blk_drewN ?_ _ | refine blk_drew ?_ | refine blk_alloc ?_ _)); exact HBK.out⟩, ⟨by repeat (first | exact HB.out | apply below_alloc | refine below_set ?_ (Nat.le_refl _) | refine below_set ?_ (below_size HB.out))⟩⟩
        case measure => simp [intOf]; omega
    · obtain rfl : k = 20 := by omega
      have hE := HF.out
      rw [show attrTab.drop 20 = [] from rfl] at hE
      simp only [findIn, Prod.mk.injEq] at hE
      obtain ⟨rfl, rfl, rfl, rfl⟩ := hE
      go_wp2
      refine bodyPost_ret (results_ct rfl _ _ w.heap.size 23 #[.string ⟨#[]⟩, .int .i64 0, .bool false] (0, 0) _ rfl (by (with_reducible repeat (first | refine blk_drewN ?_ _ | refine blk_drew ?_ | refine blk_alloc ?_ _)); refine blk_put (cs := #[.string ⟨#[]⟩, .int .i64 0, .bool false]) ?_ 2 _ rfl; (with_reducible repeat (first | refine blk_drewN ?_ _ | refine blk_drew ?_ | refine blk_alloc ?_ _)); refine blk_put (cs := #[.string ⟨#[]⟩, .int .i64 0, .bool false]) ?_ 1 _ rfl; (with_reducible repeat (first | refine blk_drewN ?_ _ | refine blk_drew ?_ | refine blk_alloc ?_ _)); refine blk_put (cs := #[.string ⟨#[]⟩, .int .i64 0, .bool false]) ?_ 0 _ rfl; (with_reducible repeat (first | refine blk_drewN ?_ _ | refine blk_drew ?_ | refine blk_alloc ?_ _)); exact HBK.out) Tryz.underlying23 rfl (by kernel_rfl)) rfl ?_
      exact ⟨rfl, by repeat (first | exact HB.out | apply below_alloc | refine below_set ?_ (Nat.le_refl _) | refine below_set ?_ (below_size HB.out))⟩
def idxP (p : ByteArray → Bool) (l : List ByteArray) : Int := match l.findIdx? p with | some i => i | none => -1
theorem idxP_hit (p : ByteArray → Bool) (l : List ByteArray) (k : Nat) (hk : k < l.length) (h0 : ∀ j, j < k → p (l.getD j ByteArray.empty) = false) (h1 : p (l.getD k ByteArray.empty) = true) : idxP p l = k := by
  have e : l.findIdx? p = some k := by
    rw [List.findIdx?_eq_some_iff_getElem]
    refine ⟨hk, ?_, fun j hj => ?_⟩
    · rw [List.getD_eq_getElem?_getD, List.getElem?_eq_getElem hk] at h1; exact h1
    · have := h0 j hj
      rw [List.getD_eq_getElem?_getD, List.getElem?_eq_getElem (by omega)] at this; simpa using this
  unfold idxP; rw [e]
theorem idxP_miss (p : ByteArray → Bool) (l : List ByteArray) (h0 : ∀ j, j < l.length → p (l.getD j ByteArray.empty) = false) : idxP p l = -1 := by
  have e : l.findIdx? p = none := by
    rw [List.findIdx?_eq_none_iff]
    intro x hx
    obtain ⟨j, hj, rfl⟩ := List.getElem_of_mem hx
    have := h0 j hj
    rw [List.getD_eq_getElem?_getD, List.getElem?_eq_getElem hj] at this; exact this
  unfold idxP; rw [e]
theorem idxP_any (p : ByteArray → Bool) (l : List ByteArray) : decide (idxP p l ≥ 0) = l.any p := by
  unfold idxP
  cases h : l.findIdx? p with
  | none =>
    rw [List.findIdx?_eq_none_iff] at h
    have : l.any p = false := by rw [List.any_eq_false]; intro x hx; simp [h x hx]
    simp [this]
  | some i =>
    obtain ⟨hi, hp, _⟩ := List.findIdx?_eq_some_iff_getElem.1 h
    have : l.any p = true := List.any_eq_true.2 ⟨l[i], List.getElem_mem hi, hp⟩
    simp [this]
def Asks (g : Nat) (lb : Array Value) (p : ByteArray → Bool) (w : World) : Prop :=
  ∀ W x, Below w.heap.size w W → Calls Tryz.prog g (#[.string x] ++ lb) W fun e w' => e = .returned (.bool (p x)) ∧ Below W.heap.size W w'
set_option maxHeartbeats 4000000 in
set_option maxRecDepth 1000000 in
theorem idxFunc_calls (A0 : Option Addr) (c0 : Nat) (l0 : List ByteArray) (p : ByteArray → Bool) (g : Nat) (lb : Array Value) (eg : ∀ args w, (callFunc g args).run Tryz.prog w = .ok (.enter g args) w) (w : World) (hr0 : Kd.C Kd.string w A0 l0.length l0) (hp : Asks g lb p w) :
    Calls Tryz.prog 55 #[.slice A0 l0.length c0, .func (.func g) #[] lb] w fun e w' => e = .returned (.int .i64 (idxP p l0)) ∧ Below w.heap.size w w' := by
  have hlm := hr0.2.1
  have HC := Aside0.mk hr0
  have HP := Aside0.mk hp
  clear hr0 hp
  go_enter Tryz.func55, Tryz.ntmps55
  go_wp2
  go_loopw [5, 8] (fun _ i wr => ∃ k : Nat, k ≤ l0.length ∧ i = .int .i64 k ∧ Aside0 (Below w.heap.size w wr) ∧ Aside0 (∀ j, j < k → p (l0.getD j ByteArray.empty) = false)) (fun _ i wr => l0.length - (intOf i).toNat)
  case atStart => exact ⟨0, Nat.zero_le _, rfl, ⟨Below.refl _ _⟩, ⟨fun j hj => absurd hj (Nat.not_lt_zero _)⟩⟩
  case round =>
    obtain ⟨k, hk, rfl, HB, HF⟩ := hrel
    by_cases hlt : k < l0.length
    · obtain ⟨ad, hA, hc⟩ := (Kd.reads_of_C (d := ByteArray.empty) HC.out).at_ (k : Int) (by omega) (by omega)
      have hcw := (HB.out.cell (World.block_lt_of_cell? _ _ hc)).trans hc
      clear hc
      subst hA
      simp only [Int.toNat_natCast, rdOf] at hcw
      generalize hx : l0.getD k ByteArray.empty = x at *
      have HX := Aside0.mk hx
      clear hx
      cases hq : p x with
      | true =>
        have HQ := Aside0.mk hq
        clear hq
        go_wp2_with (go_at_fn g; refine (HP.out _ x (by repeat (first | exact HB.out | apply pw_below_drewN))).mono ?_; rintro e w' ⟨rfl, hb⟩; rw [HQ.out]; replace hb := Aside0.mk hb)
        go_ret
        exact ⟨by rw [idxP_hit p l0 k hlt HF.out (by rw [HX.out]; exact HQ.out)]; rfl, below_step HB.out hb.out⟩
      | false =>
        have HQ := Aside0.mk hq
        clear hq
        go_wp2_with (go_at_fn g; refine (HP.out _ x (by repeat (first | exact HB.out | apply pw_below_drewN))).mono ?_; rintro e w' ⟨rfl, hb⟩; rw [HQ.out]; replace hb := Aside0.mk hb)
        go_roundw
        case rel =>
          refine ⟨k + 1, by omega, by go_num, ⟨below_step HB.out hb.out⟩, ⟨fun j hj => ?_⟩⟩
          by_cases e : j = k
          · subst e; rw [HX.out]; exact HQ.out
          · exact HF.out j (by omega)
        case measure => simp [intOf]; omega
    · obtain rfl : k = l0.length := by omega
      go_wp2
      go_ret
      exact ⟨by rw [idxP_miss p l0 HF.out]; rfl, HB.out⟩
set_option maxHeartbeats 4000000 in
set_option maxRecDepth 1000000 in
theorem conFunc_calls (A0 : Option Addr) (c0 : Nat) (l0 : List ByteArray) (p : ByteArray → Bool) (g : Nat) (lb : Array Value) (eg : ∀ args w, (callFunc g args).run Tryz.prog w = .ok (.enter g args) w) (w : World) (hr0 : Kd.C Kd.string w A0 l0.length l0) (hp : Asks g lb p w) :
    Calls Tryz.prog 32 #[.slice A0 l0.length c0, .func (.func g) #[] lb] w fun e w' => e = .returned (.bool (l0.any p)) ∧ Below w.heap.size w w' := by
  have HI := Aside0.mk (idxFunc_calls A0 c0 l0 p g lb eg w hr0 hp)
  have HA := Aside0.mk (idxP_any p l0)
  clear hr0 hp
  generalize idxP p l0 = i at *
  go_enter Tryz.func32, Tryz.ntmps32
  go_wp2_with (go_at_call 55; (with_reducible refine HI.out.mono ?_); rintro e w' ⟨rfl, hb⟩; replace hb := Aside0.mk hb)
  go_ret
  exact ⟨by rw [← HA.out]; rfl, hb.out⟩
def given (s : ByteArray) : Bool := decide (s ≠ ⟨#[]⟩)
def slices_Concat_string_string.f (a : ByteArray) (l : List ByteArray) (b : ByteArray) : Option (List ByteArray) := if l.length ≤ 1000000 then some (a :: l ++ [b]) else none
def slices_ContainsFunc_string_string.f (l : List ByteArray) : Option Bool := some (l.any given)
theorem given_asks (w : World) : Asks 30 #[] given w := by
  intro W x _
  by_cases h : x = ⟨#[]⟩
  · subst h
    show Calls Tryz.prog 30 #[.string ⟨#[]⟩] W _
    go_enter Tryz.func30, Tryz.ntmps30
    go_wp2
    go_ret
    exact ⟨rfl, Below.refl _ _⟩
  · have e : given x = true := by simp [given, h]
    have e2 : (x.toList != []) = true := by
      rw [Lib.toList_data, bne_nil8]
      cases hd : x.data.toList with
      | nil => exact absurd (ByteArray.ext (Array.toList_eq_nil_iff.1 hd)) h
      | cons a l => rfl
    rw [e]
    clear e h
    show Calls Tryz.prog 30 #[.string x] W _
    go_enter Tryz.func30, Tryz.ntmps30
    go_wp2
    go_ret
    exact ⟨by simp_all, Below.refl _ _⟩
theorem slices_ContainsFunc_string_string.calls (A0 : Option Addr) (c0 : Nat) (l0 : List ByteArray) (r : Bool) (w : World) (hr0 : Kd.C Kd.string w A0 l0.length l0) (hc0 : l0.length ≤ c0) (h : slices_ContainsFunc_string_string.f l0 = some r) :
    Calls Tryz.prog 32 #[.slice A0 l0.length c0, .func (.func 30) #[] #[]] w fun e w' => e = .returned (.bool r) ∧ Below w.heap.size w w' := by
  obtain rfl := Option.some.inj h
  exact conFunc_calls A0 c0 l0 given 30 #[] (enters_of Tryz.func30 (by kernel_rfl) rfl) w hr0 (given_asks w)
theorem run_append_zeros (W : World) (m : Nat) (h0 : 0 < m) (h1 : m ≤ 1000002) :
    (Builtin.append_ #[31, 3] 31 #[.slice none 0 0, .int .i64 m]).run Tryz.prog W =
      .ok (.slice (some ⟨W.heap.size, 0, none⟩) m (grownCap W m 0 9)) (W.drew.alloc (.cells (Builtin.zeroCells #[.string ⟨#[]⟩] m ++ Builtin.zeroCells #[.string ⟨#[]⟩] (grownCap W m 0 9 - m)) 9)) := by
  have hw : IntKind.i64.wrap (m : Int) = (m : Int) := by rw [i64_w]; unfold wrap64; omega
  have hneg : ¬ ((m : Int) < 0) := by omega
  obtain ⟨i, hi, hz, hsz, hby⟩ := info_parts info9
  have hbig : ¬ (281474976710656 < (m : Int) * 16) := by omega
  have hm0 : ¬ m = 0 := by omega
  have hcap := nextslicecap_zero h0
  have hm1 : ¬ (281474976710656 < m * 16) := by omega
  have h63 : ¬ (9223372036854775807 < (m : Int)) := by omega
  simp [Builtin.append_, run_underlying Tryz.underlying31, run_underlying Tryz.underlying3, sizeOf, typeInfo, zeroValue, hi, hz, hsz, hby, hw, hneg, hbig, hm0, hcap, hm1, h63, Question.forced, newRow, grownCap, go_sem]
theorem exec_append {P : Program} {a : Act} {o : Oper} {W w1 : World} {v vs vx : Value} {s x : Operand} {t tx ty : TypeId} (ho : o.op = .call { callee := .builtin .append, args := #[s, x], argTypes := #[t, tx] }) (hty : o.type = ty) (hs : a.eval s = vs) (hx : a.eval x = vx) (h : (Builtin.append_ #[t, tx] ty #[vs, vx]).run P W = .ok v w1) : (execOp a.eval o).run P W = .ok (.value v) w1 := by
  subst hty; subst hs; subst hx
  unfold execOp
  simp only [ho, resolve, invoke, builtin, Sem.run_bind, Sem.run_pure, Result.andThen_ok, List.map_toArray, List.map_cons, List.map_nil, h]
theorem grow_own (W : World) (m : Nat) (h1 : m ≤ 1000002) (cs : Array Value) (hs : cs.size = grownCap W m 0 9) : Kd.R Kd.string 9 (W.alloc (.cells cs 9)).drew W.heap.size (fun _ => True) (.slice (some ⟨W.heap.size, 0, none⟩) 0 (grownCap W m 0 9)) [] := by
  refine Kd.R_of_own (enc := Value.string) (xs := ([] : List ByteArray)) ⟨rfl, .inr ⟨W.heap.size, grownCap W m 0 9, cs, rfl, Nat.le_refl _, ?_, Nat.zero_le _, ?_, ?_, rfl⟩⟩ (fun _ _ => trivial)
  · exact blk_drew (blk_new W _)
  · exact grownCap_le_maxLen W m 0 9 (by unfold maxLen; omega)
  · rw [hs, Nat.mul_one]
set_option maxHeartbeats 4000000 in
set_option maxRecDepth 1000000 in
theorem grow_calls (m : Nat) (h0 : 0 < m) (h1 : m ≤ 1000002) (w : World) :
    Calls Tryz.prog 54 #[.slice none 0 0, .int .i64 m] w fun e w' => ∃ v, e = .returned v ∧ Kd.R Kd.string 9 w' w.heap.size (fun _ => True) v [] ∧ Below w.heap.size w w' := by
  have hm0 : decide ((m : Int) < 0) = false := decide_eq_false (by omega)
  have hm1 : decide ((m : Int) > 0) = true := decide_eq_true (by omega)
  have hm2 : (m : Int) - 0 = m := by omega
  have hm3 : (0 : Int) < (m : Int) := by omega
  have hr := fun W => Aside0.mk (run_append_zeros W m h0 h1)
  go_enter Tryz.func54, Tryz.ntmps54
  go_wp2_with ((with_reducible refine gate_builtin (b := .append) (xs := #[.tmp 20, .tmp 21]) rfl ?_); refine Kd.event_run (v := .slice (some ⟨w.heap.size, 0, none⟩) m (grownCap w m 0 9)) (w1 := w.drew.alloc (.cells (Builtin.zeroCells #[.string ⟨#[]⟩] m ++ Builtin.zeroCells #[.string ⟨#[]⟩] (grownCap w m 0 9 - m)) 9)) rfl ?hx ?_; (case hx => exact exec_append rfl rfl rfl rfl (hr w).out))
  go_ret
  refine ⟨_, rfl, grow_own w m h1 _ ?_, ?_⟩
  · have hge := grownCap_ge w m 0 9
    simp [Builtin.zeroCells]; omega
  · exact (below_alloc (Below.refl _ _) _).trans (below_drew1 (Below.refl _ _))
def parts3 (l1 l2 l3 : List ByteArray) : Nat → List ByteArray
  | 0 => []
  | 1 => l1
  | 2 => l1 ++ l2
  | _ => l1 ++ l2 ++ l3
set_option maxHeartbeats 4000000 in
set_option maxRecDepth 1000000 in
theorem concat_gen (V : World) (g : Nat) (A1 A2 A3 : Option Addr) (c1 c2 c3 : Nat) (l1 l2 l3 : List ByteArray) (h1 : V.cell? ⟨g, 0, none⟩ = some (.slice A1 l1.length c1)) (h2 : V.cell? ⟨g, 1, none⟩ = some (.slice A2 l2.length c2)) (h3 : V.cell? ⟨g, 2, none⟩ = some (.slice A3 l3.length c3))
    (r1 : Kd.C Kd.string V A1 l1.length l1) (r2 : Kd.C Kd.string V A2 l2.length l2) (r3 : Kd.C Kd.string V A3 l3.length l3) (hp : 0 < l1.length) (hs : l1.length + l2.length + l3.length ≤ 1000002) :
    Calls Tryz.prog 31 #[.slice (some ⟨g, 0, none⟩) 3 3] V fun e w' => ∃ v, e = .returned v ∧ Kd.R Kd.string 9 w' V.heap.size (fun _ => True) v (l1 ++ l2 ++ l3) ∧ Below V.heap.size V w' := by
  have R1 := Aside0.mk r1
  have R2 := Aside0.mk r2
  have R3 := Aside0.mk r3
  have HH := Aside0.mk (show ∀ k, k < 3 → ∃ A n c xs, V.cell? ⟨g, k, none⟩ = some (.slice A n c) ∧ n = xs.length ∧ parts3 l1 l2 l3 (k + 1) = parts3 l1 l2 l3 k ++ xs ∧ Kd.C Kd.string V A xs.length xs from fun k hk => by
    rcases (show k = 0 ∨ k = 1 ∨ k = 2 by omega) with rfl | rfl | rfl
    · exact ⟨_, _, _, l1, h1, rfl, rfl, r1⟩
    · exact ⟨_, _, _, l2, h2, rfl, rfl, r2⟩
    · exact ⟨_, _, _, l3, h3, rfl, rfl, r3⟩)
  have HS := Aside0.mk (show ∀ k, k ≤ 3 → (parts3 l1 l2 l3 k).length ≤ 1000002 from fun k hk => by
    rcases (show k = 0 ∨ k = 1 ∨ k = 2 ∨ k = 3 by omega) with rfl | rfl | rfl | rfl <;> simp [parts3] <;> omega)
  have H3 := Aside0.mk (show parts3 l1 l2 l3 3 = l1 ++ l2 ++ l3 from rfl)
  have HP := Aside0.mk (show 0 < (parts3 l1 l2 l3 3).length by simp [parts3]; omega)
  clear r1 r2 r3 h1 h2 h3
  have H0 := Aside0.mk (show parts3 l1 l2 l3 0 = [] from rfl)
  generalize parts3 l1 l2 l3 = ps at *
  go_enter Tryz.func31, Tryz.ntmps31
  go_wp2
  go_loopw [3, 11] (fun s i wr => ∃ k m : Nat, k ≤ 3 ∧ i = .int .i64 k ∧ s = .int .i64 (m : Int) ∧ V = wr ∧ Aside0 (m = (ps k).length)) (fun s i wr => 3 - (intOf i).toNat)
  case atStart => exact ⟨0, 0, by omega, rfl, rfl, rfl, ⟨by rw [H0.out]; rfl⟩⟩
  case round =>
    obtain ⟨k, m, hk, rfl, rfl, rfl, HM⟩ := hrel
    by_cases hlt : k < 3
    · obtain ⟨A, n, c, xs, hc, hn, he, _⟩ := HH.out k hlt
      have hb : m + n ≤ 1000002 := by
        have := HS.out (k + 1) (by omega)
        rw [he, List.length_append] at this
        rw [HM.out, hn]; exact this
      have HM2 := Aside0.mk (show m + n = (ps (k + 1)).length by rw [he, List.length_append, HM.out, hn])
      have hd : decide ((m : Int) + (n : Int) < 0) = false := decide_eq_false (by omega)
      clear he hn HM
      go_wp2
      go_roundw
      case rel => exact ⟨k + 1, m + n, by omega, by go_num, by go_num, by first | trivial | rfl, HM2⟩
      case measure => simp [intOf]; omega
    · obtain rfl : k = 3 := by omega
      have hm0 : 0 < m := by rw [HM.out]; exact HP.out
      have hm1 : m ≤ 1000002 := by rw [HM.out]; exact HS.out 3 (by omega)
      have HG := Aside0.mk (grow_calls m hm0 hm1)
      go_wp2_with (go_at_call 54; (with_reducible refine (HG.out _).mono ?_); rintro e w1 ⟨v0, rfl, ho, hb⟩; replace ho := Aside0.mk ho; replace hb := Aside0.mk hb)
      go_loopw [6, 27] (fun v i wr => ∃ k : Nat, k ≤ 3 ∧ i = .int .i64 k ∧ Aside0 (Kd.R Kd.string 9 wr V.heap.size (fun _ => True) v (ps k)) ∧ Aside0 (Below V.heap.size V wr)) (fun v i wr => 3 - (intOf i).toNat)
      case atStart => exact ⟨0, by omega, rfl, ⟨by rw [H0.out]; exact ho.out⟩, hb⟩
      case round =>
        clear ho hb
        obtain ⟨k, hk, rfl, HO, HB⟩ := hrel
        by_cases hlt : k < 3
        · obtain ⟨A, n, c, xs, hc, rfl, he, HR⟩ := HH.out k hlt
          have hcw := (HB.out.cell (World.block_lt_of_cell? _ _ hc)).trans hc
          clear hc
          have HRw := Aside0.mk (Kd.C_below HR HB.out)
          obtain ⟨ys, hys⟩ : ∃ ys, ys = ps (k + 1) := ⟨_, rfl⟩
          have HE := Aside0.mk (hys.trans he)
          have HY := Aside0.mk hys
          have HL := Aside0.mk (show (ps k).length + xs.length ≤ 1000002 by have := HS.out (k + 1) (by omega); rw [he, List.length_append] at this; exact this)
          clear he HR hys
          go_wp2_with ((with_reducible refine gate_builtin (b := .append) (xs := #[.tmp 31, .tmp 32]) rfl ?_); at_builtin; refine Kd.R_append_row Value.string ByteArray.empty (h1 := fun _ => rfl) (w0 := V) V.heap.size rfl (.tmp 31) (.tmp 32) 31 9 (.string ⟨#[]⟩) 16 rfl Tryz.underlying31 info9 rfl (by omega) u6 (ps k) xs A xs.length c (fun _ => True) rfl rfl ?aF ?aO ?aC ?aB ?aS ?aL ?_; (case aF => exact (fun _ _ => trivial)); (case aO => exact HO.out); (case aC => exact HRw.out); (case aB => exact HB.out); (case aS => exact (below_size HB.out)); (case aL => have := HL.out; omega); intro v350 w12 ho hb hg hat; rw [← HE.out] at ho; replace hb := Aside0.mk hb; replace ho := Aside0.mk ho; clear hg hat)
          go_roundw
          case rel => exact ⟨k + 1, by omega, by go_num, ⟨by rw [← HY.out]; exact ho.out⟩, hb⟩
          case measure => simp [intOf]; omega
        · obtain rfl : k = 3 := by omega
          go_wp2
          go_ret
          exact ⟨_, rfl, by rw [← H3.out]; exact HO.out, HB.out⟩
theorem C_single (W : World) (g : Nat) (a : ByteArray) (t : TypeId) (h : W.heap[g]? = some (.cells #[.string a] t (0, 0))) : Kd.C Kd.string W (some ⟨g, 0, none⟩) [a].length [a] := by
  refine ⟨rfl, by simp, fun _ => ⟨_, rfl, fun j p hj => ?_⟩⟩
  cases j with
  | zero =>
    simp only [List.getElem?_cons_zero, Option.some.injEq] at hj
    subst hj
    refine ⟨[.string a], rfl, rfl, fun i u hi => ?_⟩
    cases i with
    | zero => simp at hi; subst hi; exact (blk_cell h 0).trans rfl
    | succ i => simp at hi
  | succ j => simp at hj
theorem slices_Concat_string_string.calls (a : ByteArray) (A0 : Option Addr) (c0 : Nat) (l0 : List ByteArray) (b : ByteArray) (r : List ByteArray) (W : World) (hr0 : Kd.C Kd.string W A0 l0.length l0) (hc0 : l0.length ≤ c0) (h : slices_Concat_string_string.f a l0 b = some r) :
    Calls Tryz.prog 31 #[.slice (some ⟨W.heap.size + 2, 0, none⟩) 3 3] (((W.alloc (.cells #[.string a] 9)).alloc (.cells #[.string b] 9)).alloc (.cells #[.slice (some ⟨W.heap.size, 0, none⟩) 1 1, .slice A0 l0.length c0, .slice (some ⟨W.heap.size + 1, 0, none⟩) 1 1] 31))
      fun e w' => ∃ v0_ : Value, e = .returned v0_ ∧ Kd.R Kd.string 9 w' W.heap.size (fun _ => True) v0_ r ∧ Below W.heap.size W w' := by
  unfold slices_Concat_string_string.f at h
  by_cases c : l0.length ≤ 1000000
  · rw [if_pos c] at h
    injection h with h
    subst h
    have s1 : (W.alloc (.cells #[.string a] 9)).heap.size = W.heap.size + 1 := World.size_alloc _ _
    have s2 : ((W.alloc (.cells #[.string a] 9)).alloc (.cells #[.string b] 9)).heap.size = W.heap.size + 2 := by rw [World.size_alloc, s1]
    generalize hc3 : (Obj.cells #[.slice (some ⟨W.heap.size, 0, none⟩) 1 1, .slice A0 l0.length c0, .slice (some ⟨W.heap.size + 1, 0, none⟩) 1 1] 31) = o3
    have b3 := blk_new ((W.alloc (.cells #[.string a] 9)).alloc (.cells #[.string b] 9)) o3
    rw [s2, ← hc3] at b3
    have b1 := blk_alloc (blk_alloc (blk_new W (.cells #[.string a] 9)) (.cells #[.string b] 9)) o3
    have b2 := blk_alloc (blk_new (W.alloc (.cells #[.string a] 9)) (.cells #[.string b] 9)) o3
    rw [s1] at b2
    have hB : Below W.heap.size W (((W.alloc (.cells #[.string a] 9)).alloc (.cells #[.string b] 9)).alloc o3) := below_alloc (below_alloc (below_alloc (Below.refl _ _) _) _) _
    rw [hc3] at b3
    generalize ((W.alloc (.cells #[.string a] 9)).alloc (.cells #[.string b] 9)).alloc o3 = V at *
    subst hc3
    refine (concat_gen V (W.heap.size + 2) (some ⟨W.heap.size, 0, none⟩) A0 (some ⟨W.heap.size + 1, 0, none⟩) 1 c0 1 [a] l0 [b] ((blk_cell b3 0).trans rfl) ((blk_cell b3 1).trans rfl) ((blk_cell b3 2).trans rfl) (C_single V _ a 9 b1) (Kd.C_below hr0 hB) (C_single V _ b 9 b2) (by simp) (by simp; omega)).mono ?_
    rintro e w' ⟨v, rfl, ho, hb⟩
    have hs := hB.size
    exact ⟨v, rfl, Kd.R_lower ho hs, below_then hB hs hb⟩
  · rw [if_neg c] at h; cases h
end Go.Proofs.YtpklcnpmppaaoaaGreatDoor.Print
namespace Go.Proofs.YtpklcnpmppaaoaaGreatDoor.Print
open Go.RowKit Go.Proofs.YtpklcnpmppaaoaaGreatDoorW.PrintWords
def strings_Cut.f (a0 a1 : ByteArray) : Option (ByteArray × ByteArray × Bool) :=
  if a0.size ≤ 1000000 then some (⟨(Lib.cut a0.data.toList a1.data.toList).1.toArray⟩, ⟨(Lib.cut a0.data.toList a1.data.toList).2.1.toArray⟩, (Lib.cut a0.data.toList a1.data.toList).2.2) else none
theorem strings_Cut.calls (a0 a1 : ByteArray) (r1 r2 : ByteArray) (r3 : Bool) (w : World) (hG : Gw w) (h : strings_Cut.f a0 a1 = some (r1, r2, r3)) :
    Calls Tryz.prog 36 #[.string a0, .string a1] w fun e w' => e = .returned (.tuple #[.string r1, .string r2, .bool r3]) ∧ Below w.heap.size w w' := by
  unfold strings_Cut.f at h
  by_cases c : a0.size ≤ 1000000
  · rw [if_pos c] at h
    simp only [Option.some.injEq, Prod.mk.injEq] at h
    obtain ⟨rfl, rfl, rfl⟩ := h
    obtain ⟨m, hm⟩ := hG.maxLen
    refine (Tryz.strings_Cut a0 a1 m w (by omega) hm).mono ?_
    rintro e w' ⟨he, hd⟩
    exact ⟨he, Drawn0.below ⟨hd⟩⟩
  · rw [if_neg c] at h; cases h
end Go.Proofs.YtpklcnpmppaaoaaGreatDoor.Print
namespace Go.Proofs.YtpklcnpmppaaoaaGreatDoor.Print
open Go.RowKit Go.Proofs.YtpklcnpmppaaoaaGreatDoorW.PrintWords Go.Proofs.YtpklcnpmppaaoaaGreatDoorW.PrintLast Go.Proofs.YtpklcnpmppaaoaaGreatDoorW.PrintMore
attribute [local go_sem] max2_int min2_int max_two min_two max_three min_three max_four min_four
set_option linter.unusedVariables false
set_option linter.unusedSimpArgs false
def stringslite_CutPrefix.f (a0 : ByteArray) (a1 : ByteArray) : Option (ByteArray × Bool) := (stringslite_HasPrefix.f a0 a1).bind fun t431 => (if t431 = true then (if 0 ≤ (a1.size : Int) then (if (a1.size : Int) ≤ (a0.size : Int) then (some (a0.extract ((a1.size : Int) : Int).toNat a0.size, true)) else (none)) else (none)) else (some (a0, false)))
set_option maxHeartbeats 8000000 in
set_option maxRecDepth 100000 in
theorem stringslite_CutPrefix.calls (a0 : ByteArray) (a1 : ByteArray) (r1 : ByteArray) (r2 : Bool) (w : World) (h : stringslite_CutPrefix.f a0 a1 = some (r1, r2)) :
  Calls Tryz.prog 58 #[.string a0, .string a1] w fun e w' => e = .returned (.tuple #[.string r1, .bool r2]) ∧ Drawn0 w w' := by
 have H : ((stringslite_HasPrefix.f a0 a1).bind fun t431 => (if t431 = true then (if 0 ≤ (a1.size : Int) then (if (a1.size : Int) ≤ (a0.size : Int) then (some (a0.extract ((a1.size : Int) : Int).toNat a0.size, true)) else (none)) else (none)) else (some (a0, false)))) = some (r1, r2) := h
 clear h
 replace H := Option.bind_eq_some_iff.mp H
 obtain ⟨t431, A30, H⟩ := H
 replace H : (if t431 = true then (if 0 ≤ (a1.size : Int) then (if (a1.size : Int) ≤ (a0.size : Int) then (some (a0.extract ((a1.size : Int) : Int).toNat a0.size, true)) else (none)) else (none)) else (some (a0, false))) = some (r1, r2) := H
 have A3 := Aside0.mk A30
 clear A30
 by_cases c4 : t431 = true
 ·
  subst c4
  rw [if_pos rfl] at H
  by_cases c5 : 0 ≤ (a1.size : Int)
  ·
   rw [if_pos c5] at H
   have c5b0 := eq_true c5
   have c5b1 := decide_eq_true c5
   clear c5
   by_cases c6 : (a1.size : Int) ≤ (a0.size : Int)
   ·
    rw [if_pos c6] at H
    have c6b0 := eq_true c6
    have c6b1 := decide_eq_true c6
    clear c6
    simp only [Option.some.injEq, Prod.mk.injEq] at H
    obtain ⟨rfl, rfl⟩ := H
    go_enter Tryz.func58, Tryz.ntmps58
    go_wp2_with (first | ((with_reducible refine gate_callee (f := 90) rfl ?_); refine goesL_ (some 8) rfl rfl Tryz.func90 (by kernel_rfl) rfl #[.string a0, .string a1] rfl ap3 ?_; (with_reducible refine (stringslite_HasPrefix.calls a0 a1 true _ A3.out).mono ?_); rintro e w' ⟨rfl, ⟨nd, rfl⟩⟩; refine ⟨_, rfl, ?_⟩))
    go_ret2
    exact ⟨ap2, ap7⟩
   ·
    rw [if_neg c6] at H
    exact absurd H (by simp)
  ·
   rw [if_neg c5] at H
   exact absurd H (by simp)
 ·
  replace c4 := Bool.eq_false_iff.mpr c4
  subst c4
  rw [if_neg (show ¬ (false = true) by decide)] at H
  simp only [Option.some.injEq, Prod.mk.injEq] at H
  obtain ⟨rfl, rfl⟩ := H
  go_enter Tryz.func58, Tryz.ntmps58
  go_wp2_with (first | ((with_reducible refine gate_callee (f := 90) rfl ?_); refine goesL_ (some 8) rfl rfl Tryz.func90 (by kernel_rfl) rfl #[.string a0, .string a1] rfl ap3 ?_; (with_reducible refine (stringslite_HasPrefix.calls a0 a1 false _ A3.out).mono ?_); rintro e w' ⟨rfl, ⟨nd, rfl⟩⟩; refine ⟨_, rfl, ?_⟩))
  go_ret2
  exact ⟨ap2, ap7⟩
def strings_CutPrefix.f (a0 : ByteArray) (a1 : ByteArray) : Option (ByteArray × Bool) := (stringslite_CutPrefix.f a0 a1).bind fun bt432 => (some (bt432.1, bt432.2))
set_option maxHeartbeats 8000000 in
set_option maxRecDepth 100000 in
theorem strings_CutPrefix.calls (a0 : ByteArray) (a1 : ByteArray) (r1 : ByteArray) (r2 : Bool) (w : World) (h : strings_CutPrefix.f a0 a1 = some (r1, r2)) :
  Calls Tryz.prog 34 #[.string a0, .string a1] w fun e w' => e = .returned (.tuple #[.string r1, .bool r2]) ∧ Drawn0 w w' := by
 have H : ((stringslite_CutPrefix.f a0 a1).bind fun bt432 => (some (bt432.1, bt432.2))) = some (r1, r2) := h
 clear h
 replace H := Option.bind_eq_some_iff.mp H
 obtain ⟨⟨t432, t433⟩, A30, H⟩ := H
 replace H : (some (t432, t433)) = some (r1, r2) := H
 have A3 := Aside0.mk A30
 clear A30
 simp only [Option.some.injEq, Prod.mk.injEq] at H
 obtain ⟨rfl, rfl⟩ := H
 go_enter Tryz.func34, Tryz.ntmps34
 go_wp2_with (first | ((with_reducible refine gate_callee (f := 58) rfl ?_); refine goesL_ (some 8) rfl rfl Tryz.func58 (by kernel_rfl) rfl #[.string a0, .string a1] rfl ap3 ?_; (with_reducible refine (stringslite_CutPrefix.calls a0 a1 t432 t433 _ A3.out).mono ?_); rintro e w' ⟨rfl, ⟨nd, rfl⟩⟩; refine ⟨_, rfl, ?_⟩))
 go_ret2
 exact ⟨ap2, ap7⟩
def stringslite_HasSuffix.f (a0 : ByteArray) (a1 : ByteArray) : Option (Bool) := if (a0.size : Int) ≥ (a1.size : Int) then (if 0 ≤ (wrap64 ((a0.size : Int) - (a1.size : Int))) then (if (wrap64 ((a0.size : Int) - (a1.size : Int))) ≤ (a0.size : Int) then (some ((a0.extract ((wrap64 ((a0.size : Int) - (a1.size : Int))) : Int).toNat a0.size).toList == a1.toList)) else (none)) else (none)) else (some false)
set_option maxHeartbeats 8000000 in
set_option maxRecDepth 100000 in
theorem stringslite_HasSuffix.calls (a0 : ByteArray) (a1 : ByteArray) (r : Bool) (w : World) (h : stringslite_HasSuffix.f a0 a1 = some r) :
  Calls Tryz.prog 91 #[.string a0, .string a1] w fun e w' => e = .returned (.bool r) ∧ Drawn0 w w' := by
 have H : (if (a0.size : Int) ≥ (a1.size : Int) then (if 0 ≤ (wrap64 ((a0.size : Int) - (a1.size : Int))) then (if (wrap64 ((a0.size : Int) - (a1.size : Int))) ≤ (a0.size : Int) then (some ((a0.extract ((wrap64 ((a0.size : Int) - (a1.size : Int))) : Int).toNat a0.size).toList == a1.toList)) else (none)) else (none)) else (some false)) = some r := h
 clear h
 by_cases c3 : (a0.size : Int) ≥ (a1.size : Int)
 ·
  rw [if_pos c3] at H
  have c3b0 := decide_eq_true c3
  have c3b1 : decide (a1.size ≤ a0.size) = true := decide_eq_true (Int.ofNat_le.mp c3)
  clear c3
  obtain ⟨ji4, hji4⟩ : ∃ j_ : Int, (wrap64 ((a0.size : Int) - (a1.size : Int))) = j_ := ⟨_, rfl⟩
  replace H : (if 0 ≤ (ji4) then (if (ji4) ≤ (a0.size : Int) then (some ((a0.extract ((ji4) : Int).toNat a0.size).toList == a1.toList)) else (none)) else (none)) = some r := by first | (rw [hji4] at H; exact H) | (simp only [hji4] at H ⊢; exact H)
  have hji4w : (IntKind.i64.wrap ((a0.size : Int) - (a1.size : Int))) = ji4 := (i64_w _).trans hji4
  by_cases c5 : 0 ≤ (ji4)
  ·
   rw [if_pos c5] at H
   have c5b0 := eq_true c5
   have c5b1 := decide_eq_true c5
   clear c5
   by_cases c6 : (ji4) ≤ (a0.size : Int)
   ·
    rw [if_pos c6] at H
    have c6b0 := eq_true c6
    have c6b1 := decide_eq_true c6
    clear c6
    obtain rfl := Option.some.inj H
    go_enter Tryz.func91, Tryz.ntmps91
    go_wp2
    go_ret
    exact ⟨by first | rfl | (simp; done) | (simp only [← hji4] <;> (first | rfl | simp)) | (simp [*]; done), by repeat (first | exact Drawn0.refl _ | apply Drawn0.step)⟩
   ·
    rw [if_neg c6] at H
    exact absurd H (by simp)
  ·
   rw [if_neg c5] at H
   exact absurd H (by simp)
 ·
  rw [if_neg c3] at H
  have c3b0 := decide_eq_false c3
  have c3b1 : decide (a1.size ≤ a0.size) = false := decide_eq_false (fun h => c3 (Int.ofNat_le.mpr h))
  clear c3
  obtain rfl := Option.some.inj H
  go_enter Tryz.func91, Tryz.ntmps91
  go_wp2
  go_ret
  exact ⟨ap2, ap7⟩
def stringslite_CutSuffix.f (a0 : ByteArray) (a1 : ByteArray) : Option (ByteArray × Bool) := (stringslite_HasSuffix.f a0 a1).bind fun t434 => (if t434 = true then (if 0 ≤ (wrap64 ((a0.size : Int) - (a1.size : Int))) then (if (wrap64 ((a0.size : Int) - (a1.size : Int))) ≤ (a0.size : Int) then (some (a0.extract 0 ((wrap64 ((a0.size : Int) - (a1.size : Int))) : Int).toNat, true)) else (none)) else (none)) else (some (a0, false)))
set_option maxHeartbeats 8000000 in
set_option maxRecDepth 100000 in
theorem stringslite_CutSuffix.calls (a0 : ByteArray) (a1 : ByteArray) (r1 : ByteArray) (r2 : Bool) (w : World) (h : stringslite_CutSuffix.f a0 a1 = some (r1, r2)) :
  Calls Tryz.prog 59 #[.string a0, .string a1] w fun e w' => e = .returned (.tuple #[.string r1, .bool r2]) ∧ Drawn0 w w' := by
 have H : ((stringslite_HasSuffix.f a0 a1).bind fun t434 => (if t434 = true then (if 0 ≤ (wrap64 ((a0.size : Int) - (a1.size : Int))) then (if (wrap64 ((a0.size : Int) - (a1.size : Int))) ≤ (a0.size : Int) then (some (a0.extract 0 ((wrap64 ((a0.size : Int) - (a1.size : Int))) : Int).toNat, true)) else (none)) else (none)) else (some (a0, false)))) = some (r1, r2) := h
 clear h
 replace H := Option.bind_eq_some_iff.mp H
 obtain ⟨t434, A30, H⟩ := H
 replace H : (if t434 = true then (if 0 ≤ (wrap64 ((a0.size : Int) - (a1.size : Int))) then (if (wrap64 ((a0.size : Int) - (a1.size : Int))) ≤ (a0.size : Int) then (some (a0.extract 0 ((wrap64 ((a0.size : Int) - (a1.size : Int))) : Int).toNat, true)) else (none)) else (none)) else (some (a0, false))) = some (r1, r2) := H
 have A3 := Aside0.mk A30
 clear A30
 by_cases c4 : t434 = true
 ·
  subst c4
  rw [if_pos rfl] at H
  obtain ⟨ji5, hji5⟩ : ∃ j_ : Int, (wrap64 ((a0.size : Int) - (a1.size : Int))) = j_ := ⟨_, rfl⟩
  replace H : (if 0 ≤ (ji5) then (if (ji5) ≤ (a0.size : Int) then (some (a0.extract 0 ((ji5) : Int).toNat, true)) else (none)) else (none)) = some (r1, r2) := by first | (rw [hji5] at H; exact H) | (simp only [hji5] at H ⊢; exact H)
  (try rw [hji5] at A3)
  have hji5w : (IntKind.i64.wrap ((a0.size : Int) - (a1.size : Int))) = ji5 := (i64_w _).trans hji5
  by_cases c6 : 0 ≤ (ji5)
  ·
   rw [if_pos c6] at H
   have c6b0 := eq_true c6
   have c6b1 := decide_eq_true c6
   clear c6
   by_cases c7 : (ji5) ≤ (a0.size : Int)
   ·
    rw [if_pos c7] at H
    have c7b0 := eq_true c7
    have c7b1 := decide_eq_true c7
    clear c7
    simp only [Option.some.injEq, Prod.mk.injEq] at H
    obtain ⟨rfl, rfl⟩ := H
    go_enter Tryz.func59, Tryz.ntmps59
    go_wp2_with (first | ((with_reducible refine gate_callee (f := 91) rfl ?_); refine goesL_ (some 8) rfl rfl Tryz.func91 (by kernel_rfl) rfl #[.string a0, .string a1] rfl ap3 ?_; (with_reducible refine (stringslite_HasSuffix.calls a0 a1 true _ A3.out).mono ?_); rintro e w' ⟨rfl, ⟨nd, rfl⟩⟩; refine ⟨_, rfl, ?_⟩))
    go_ret2
    exact ⟨by first | rfl | (simp; done) | (simp only [← hji5] <;> (first | rfl | simp)) | (simp [*]; done), by repeat (first | exact Drawn0.refl _ | apply Drawn0.step)⟩
   ·
    rw [if_neg c7] at H
    exact absurd H (by simp)
  ·
   rw [if_neg c6] at H
   exact absurd H (by simp)
 ·
  replace c4 := Bool.eq_false_iff.mpr c4
  subst c4
  rw [if_neg (show ¬ (false = true) by decide)] at H
  simp only [Option.some.injEq, Prod.mk.injEq] at H
  obtain ⟨rfl, rfl⟩ := H
  go_enter Tryz.func59, Tryz.ntmps59
  go_wp2_with (first | ((with_reducible refine gate_callee (f := 91) rfl ?_); refine goesL_ (some 8) rfl rfl Tryz.func91 (by kernel_rfl) rfl #[.string a0, .string a1] rfl ap3 ?_; (with_reducible refine (stringslite_HasSuffix.calls a0 a1 false _ A3.out).mono ?_); rintro e w' ⟨rfl, ⟨nd, rfl⟩⟩; refine ⟨_, rfl, ?_⟩))
  go_ret2
  exact ⟨ap2, ap7⟩
def strings_CutSuffix.f (a0 : ByteArray) (a1 : ByteArray) : Option (ByteArray × Bool) := (stringslite_CutSuffix.f a0 a1).bind fun bt435 => (some (bt435.1, bt435.2))
set_option maxHeartbeats 8000000 in
set_option maxRecDepth 100000 in
theorem strings_CutSuffix.calls (a0 : ByteArray) (a1 : ByteArray) (r1 : ByteArray) (r2 : Bool) (w : World) (h : strings_CutSuffix.f a0 a1 = some (r1, r2)) :
  Calls Tryz.prog 35 #[.string a0, .string a1] w fun e w' => e = .returned (.tuple #[.string r1, .bool r2]) ∧ Drawn0 w w' := by
 have H : ((stringslite_CutSuffix.f a0 a1).bind fun bt435 => (some (bt435.1, bt435.2))) = some (r1, r2) := h
 clear h
 replace H := Option.bind_eq_some_iff.mp H
 obtain ⟨⟨t435, t436⟩, A30, H⟩ := H
 replace H : (some (t435, t436)) = some (r1, r2) := H
 have A3 := Aside0.mk A30
 clear A30
 simp only [Option.some.injEq, Prod.mk.injEq] at H
 obtain ⟨rfl, rfl⟩ := H
 go_enter Tryz.func35, Tryz.ntmps35
 go_wp2_with (first | ((with_reducible refine gate_callee (f := 59) rfl ?_); refine goesL_ (some 8) rfl rfl Tryz.func59 (by kernel_rfl) rfl #[.string a0, .string a1] rfl ap3 ?_; (with_reducible refine (stringslite_CutSuffix.calls a0 a1 t435 t436 _ A3.out).mono ?_); rintro e w' ⟨rfl, ⟨nd, rfl⟩⟩; refine ⟨_, rfl, ?_⟩))
 go_ret2
 exact ⟨ap2, ap7⟩
mutual
def attr_Part.j0 : Nat → ByteArray → List ByteArray → List ByteArray → Bool → ByteArray → Int → Bool → Option (Bool × Int)
 | 0, _, _, _, _, _, _, _ => none
 | k + 1, x1, x3, x13, x14, x438000, x438001, x438002 => if x14 = true then (if (x3.length : Int) > 8 then (attr_Part.j1 k x1 x13 true x438000 x438001 x438002) else ((slices_ContainsFunc_string_string.f x13).bind fun t441 => (attr_Part.j1 k x1 x13 (!t441) x438000 x438001 x438002))) else (attr_Part.j1 k x1 x13 true x438000 x438001 x438002)
def attr_Part.j1 : Nat → ByteArray → List ByteArray → Bool → ByteArray → Int → Bool → Option (Bool × Int)
 | 0, _, _, _, _, _, _ => none
 | k + 1, x1, x13, x56, x438000, x438001, x438002 => if x56 = true then (some (false, 20)) else ((attr_Normal.f k x438000 x438001 x438002 x1).bind fun bt442 => (if bt442.2 = 0 then (attr_Part.l0 k x13 bt442.1 (x13.length : Int) 0 x438000 x438001 x438002) else (some (false, bt442.2))))
def attr_Part.l0 : Nat → List ByteArray → ByteArray → Int → Int → ByteArray → Int → Bool → Option (Bool × Int)
 | 0, _, _, _, _, _, _, _ => none
 | k + 1, x13, x15, x67, x68, x438000, x438001, x438002 => if x68 < x67 then (if 0 ≤ x68 then (if x68 < (x13.length : Int) then ((attr_piece.f k x438000 x438001 x438002 (rdOf ByteArray.empty x13 x68)).bind fun bt445 => (if bt445.2 = 0 then (attr_Part.l0 k (x13.set (x68 : Int).toNat bt445.1) x15 x67 (wrap64 (x68 + 1)) x438000 x438001 x438002) else (some (false, bt445.2)))) else (none)) else (none)) else (if 0 < (x13.length : Int) then ((strings_CutPrefix.f x15 (rdOf ByteArray.empty x13 0)).bind fun bt449 => (if bt449.2 = true then (if 0 ≤ (wrap64 ((x13.length : Int) - 1)) then (if (wrap64 ((x13.length : Int) - 1)) < (x13.length : Int) then ((strings_CutSuffix.f bt449.1 (rdOf ByteArray.empty x13 (wrap64 ((x13.length : Int) - 1)))).bind fun bt452 => (if 1 ≤ (wrap64 ((x13.length : Int) - 1)) then (if (wrap64 ((x13.length : Int) - 1)) ≤ (x13.length : Int) then ((some ((x13.take ((wrap64 ((x13.length : Int) - 1)) : Int).toNat).drop 1 : List ByteArray)).bind fun y454 => (attr_Part.l1 k bt452.1 bt452.2 y454 (y454.length : Int) 0)) else (none)) else (none))) else (none)) else (none)) else (some (false, 0)))) else (none))
def attr_Part.l1 : Nat → ByteArray → Bool → List ByteArray → Int → Int → Option (Bool × Int)
 | 0, _, _, _, _, _ => none
 | k + 1, x15, x21, x112, x113, x114 => if x114 < x113 then (if 0 ≤ x114 then (if x114 < (x112.length : Int) then (if x21 = true then ((strings_Cut.f x15 (rdOf ByteArray.empty x112 x114)).bind fun bt459 => (attr_Part.l1 k bt459.2.1 bt459.2.2 x112 x113 (wrap64 (x114 + 1)))) else (some (x21, 0))) else (none)) else (none)) else (some (x21, 0))
end
def attr_Part.f (k : Nat) (a0_0 : ByteArray) (a0_1 : Int) (a0_2 : Bool) (a1 : ByteArray) (a2 : ByteArray) (l3 : List ByteArray) (a4 : ByteArray) : Option (Bool × Int) := (slices_Concat_string_string.f a2 l3 a4).bind fun t438 => (if a0_1 = 1 then (attr_Part.j0 k a1 l3 t438 true a0_0 a0_1 a0_2) else (if a0_1 = 2 then (attr_Part.j0 k a1 l3 t438 true a0_0 a0_1 a0_2) else (attr_Part.j0 k a1 l3 t438 (a0_1 == 7) a0_0 a0_1 a0_2)))
theorem attr_Part.mono_l : ∀ k, (∀ y0 y1 y2 y3 y4 y5 y6, LeO (attr_Part.j0 k y0 y1 y2 y3 y4 y5 y6) (attr_Part.j0 (k + 1) y0 y1 y2 y3 y4 y5 y6)) ∧ (∀ y0 y1 y2 y3 y4 y5, LeO (attr_Part.j1 k y0 y1 y2 y3 y4 y5) (attr_Part.j1 (k + 1) y0 y1 y2 y3 y4 y5)) ∧ (∀ y0 y1 y2 y3 y4 y5 y6, LeO (attr_Part.l0 k y0 y1 y2 y3 y4 y5 y6) (attr_Part.l0 (k + 1) y0 y1 y2 y3 y4 y5 y6)) ∧ (∀ y0 y1 y2 y3 y4, LeO (attr_Part.l1 k y0 y1 y2 y3 y4) (attr_Part.l1 (k + 1) y0 y1 y2 y3 y4))
 | 0 => ⟨fun _ _ _ _ _ _ _ r h => by simp [attr_Part.j0] at h, fun _ _ _ _ _ _ r h => by simp [attr_Part.j1] at h, fun _ _ _ _ _ _ _ r h => by simp [attr_Part.l0] at h, fun _ _ _ _ _ r h => by simp [attr_Part.l1] at h⟩
 | k + 1 => by
  obtain ⟨ih0, ih1, ih2, ih3⟩ := attr_Part.mono_l k
  refine ⟨?_, ?_, ?_, ?_⟩
  ·
   intro y0 y1 y2 y3 y4 y5 y6
   unfold attr_Part.j0
   repeat' first
   | (with_reducible exact ih0 _ _ _ _ _ _ _)
   | (with_reducible exact ih1 _ _ _ _ _ _)
   | (with_reducible exact ih2 _ _ _ _ _ _ _)
   | (with_reducible exact ih3 _ _ _ _ _)
   | (with_reducible exact attr_Normal.mono _ _ _ _ _)
   | (with_reducible exact attr_piece.mono _ _ _ _ _)
   | (with_reducible exact LeO.refl _)
   | (with_reducible exact LeO.none _)
   | (with_reducible refine LeO.ite ?_ ?_)
   | (with_reducible refine LeO.bind ?_ (fun _ => ?_))
  ·
   intro y0 y1 y2 y3 y4 y5
   unfold attr_Part.j1
   repeat' first
   | (with_reducible exact ih0 _ _ _ _ _ _ _)
   | (with_reducible exact ih1 _ _ _ _ _ _)
   | (with_reducible exact ih2 _ _ _ _ _ _ _)
   | (with_reducible exact ih3 _ _ _ _ _)
   | (with_reducible exact attr_Normal.mono _ _ _ _ _)
   | (with_reducible exact attr_piece.mono _ _ _ _ _)
   | (with_reducible exact LeO.refl _)
   | (with_reducible exact LeO.none _)
   | (with_reducible refine LeO.ite ?_ ?_)
   | (with_reducible refine LeO.bind ?_ (fun _ => ?_))
  ·
   intro y0 y1 y2 y3 y4 y5 y6
   unfold attr_Part.l0
   repeat' first
   | (with_reducible exact ih0 _ _ _ _ _ _ _)
   | (with_reducible exact ih1 _ _ _ _ _ _)
   | (with_reducible exact ih2 _ _ _ _ _ _ _)
   | (with_reducible exact ih3 _ _ _ _ _)
   | (with_reducible exact attr_Normal.mono _ _ _ _ _)
   | (with_reducible exact attr_piece.mono _ _ _ _ _)
   | (with_reducible exact LeO.refl _)
   | (with_reducible exact LeO.none _)
   | (with_reducible refine LeO.ite ?_ ?_)
   | (with_reducible refine LeO.bind ?_ (fun _ => ?_))
  ·
   intro y0 y1 y2 y3 y4
   unfold attr_Part.l1
   repeat' first
   | (with_reducible exact ih0 _ _ _ _ _ _ _)
   | (with_reducible exact ih1 _ _ _ _ _ _)
   | (with_reducible exact ih2 _ _ _ _ _ _ _)
   | (with_reducible exact ih3 _ _ _ _ _)
   | (with_reducible exact attr_Normal.mono _ _ _ _ _)
   | (with_reducible exact attr_piece.mono _ _ _ _ _)
   | (with_reducible exact LeO.refl _)
   | (with_reducible exact LeO.none _)
   | (with_reducible refine LeO.ite ?_ ?_)
   | (with_reducible refine LeO.bind ?_ (fun _ => ?_))
theorem attr_Part.mono : ∀ a0 a1 a2 a3 a4 a5 a6 k, LeO (attr_Part.f k a0 a1 a2 a3 a4 a5 a6) (attr_Part.f (k + 1) a0 a1 a2 a3 a4 a5 a6) := by
 intro a0 a1 a2 a3 a4 a5 a6 k
 obtain ⟨ih0, ih1, ih2, ih3⟩ := attr_Part.mono_l k
 unfold attr_Part.f
 repeat' first
   | (with_reducible exact ih0 _ _ _ _ _ _ _)
   | (with_reducible exact ih1 _ _ _ _ _ _)
   | (with_reducible exact ih2 _ _ _ _ _ _ _)
   | (with_reducible exact ih3 _ _ _ _ _)
   | (with_reducible exact attr_Normal.mono _ _ _ _ _)
   | (with_reducible exact attr_piece.mono _ _ _ _ _)
   | (with_reducible exact LeO.refl _)
   | (with_reducible exact LeO.none _)
   | (with_reducible refine LeO.ite ?_ ?_)
   | (with_reducible refine LeO.bind ?_ (fun _ => ?_))
set_option maxHeartbeats 8000000 in
set_option maxRecDepth 100000 in
theorem attr_Part.calls (k : Nat) (a0_0 : ByteArray) (a0_1 : Int) (a0_2 : Bool) (a1 : ByteArray) (a2 : ByteArray) (A3 : Option Addr) (c3 : Nat) (l3 : List ByteArray) (a4 : ByteArray) (r1 : Bool) (r2 : Int) (w : World) (hr3 : Kd.C Kd.string w A3 l3.length l3) (hc3 : l3.length ≤ c3) (hG : Gw w) (h : attr_Part.f k a0_0 a0_1 a0_2 a1 a2 l3 a4 = some (r1, r2)) :
  Calls Tryz.prog 14 #[.agg #[.string a0_0, .int .i64 a0_1, .bool a0_2], .string a1, .string a2, .slice A3 l3.length c3, .string a4] w fun e w' => e = .returned (.tuple #[.bool r1, .int .i64 r2]) ∧ Below w.heap.size w w' := by
 have hu23 := Tryz.underlying23
 have HR3 := Aside0.mk hr3
 have HC3 := Aside0.mk hc3
 clear hr3 hc3
 have HB := Aside0.mk (Below.refl w.heap.size w)
 have HG := Aside0.mk hG
 clear hG
 have H : ((slices_Concat_string_string.f a2 l3 a4).bind fun t438 => (if a0_1 = 1 then (attr_Part.j0 k a1 l3 t438 true a0_0 a0_1 a0_2) else (if a0_1 = 2 then (attr_Part.j0 k a1 l3 t438 true a0_0 a0_1 a0_2) else (attr_Part.j0 k a1 l3 t438 (a0_1 == 7) a0_0 a0_1 a0_2)))) = some (r1, r2) := h
 clear h
 replace H := Option.bind_eq_some_iff.mp H
 obtain ⟨t438, A60, H⟩ := H
 replace H : (if a0_1 = 1 then (attr_Part.j0 k a1 l3 t438 true a0_0 a0_1 a0_2) else (if a0_1 = 2 then (attr_Part.j0 k a1 l3 t438 true a0_0 a0_1 a0_2) else (attr_Part.j0 k a1 l3 t438 (a0_1 == 7) a0_0 a0_1 a0_2))) = some (r1, r2) := H
 have A6 := Aside0.mk A60
 clear A60
 have HC7 := Aside0.mk H
 clear H
 go_enter Tryz.func14, Tryz.ntmps14
 go_upto_region 3 with (first | ((with_reducible refine gate_dst (N := 5) rfl ?_); (try (refine gate_guard (by rfl) ?_; dsimp only)); refine box_event ?hg (N := 5) ?hd (cs := #[.string a0_0, .int .i64 a0_1, .bool a0_2]) (t := 23) ?hr ?_; (case hd => rfl); (case hg => rfl); (case hr => first | (go_simp; done) | (go_simp; rfl)); intro gb437 hg w8 hbox hb; have n0_ := Aside0.mk (below_step ap1 hb); have n1_ := Aside0.mk (hbox); have n2_ := Aside0.mk ((by rw [hg]; exact (below_size ap1) : w.heap.size ≤ gb437)); have n3_ := Aside0.mk ((by rw [hg]; exact (below_size ap1) : w.heap.size ≤ gb437)); clear HB; have HB := n0_; have BK437 := n1_; have GW437 := n2_; have GE437 := n3_; clear n0_ n1_ n2_ n3_; clear hb hbox hg) | ((with_reducible refine gate_callee (f := 31) rfl ?_); refine goesL_ (some 30) rfl rfl Tryz.func31 (by kernel_rfl) rfl #[.slice (some ⟨w8.heap.size + 2, 0, none⟩) 3 3] rfl (by first | done | rfl | (go_simp; done) | (go_simp; rfl) | (simp only [World.size_alloc])) ?_; (with_reducible refine (slices_Concat_string_string.calls a2 _ _ l3 a4 t438 w8 ?side1 ?side2 A6.out).mono ?_); (case side1 => repeat (first | exact (Kd.C_below HR3.out HB.out) | (with_reducible refine Kd.C_alloc ?_ _) | (with_reducible refine Kd.C_drewN ?_ _) | (with_reducible refine Kd.C_drew ?_))); (case side2 => exact HC3.out); rintro e w9 ⟨v439, rfl, ho0, hb⟩; refine ⟨_, rfl, ?_⟩; have n0_ := Aside0.mk (Kd.R_lower ho0 (below_size (apG GE437.out))); have n1_ := Aside0.mk (blk_below (g := gb437) (o := .cells #[.string a0_0, .int .i64 a0_1, .bool a0_2] 23 (0, 0)) (apB BK437.out) hb); have n2_ := Aside0.mk (below_step (apG GE437.out) hb); clear BK437; clear HB; have HO440 := n0_; have BK437 := n1_; have HB := n2_; clear n0_ n1_ n2_; (try clear hb); (try clear hb2); (try clear hk); (try clear hi); (try clear ho0)))
 (try simp only [Act.put, List.setIfInBounds_toArray, List.set_cons_zero, List.set_cons_succ])
 go_cut [14] (fun v14 wc => ∃ (kq : Nat) (x14_6 : Bool), v14 = .bool x14_6 ∧ Aside0 (attr_Part.j0 kq a1 l3 t438 x14_6 a0_0 a0_1 a0_2 = some (r1, r2)) ∧ Aside0 (kq ≤ k) ∧ Aside0 (Kd.R Kd.string 9 wc w.heap.size (fun _ => True) v439 t438) ∧ Aside0 (wc.heap[gb437]? = some (.cells #[.string a0_0, .int .i64 a0_1, .bool a0_2] 23 (0, 0))) ∧ Aside0 (Below w.heap.size w wc))
 case first =>
  have H := HC7.out
  clear HC7
  by_cases c10 : a0_1 = 1
  ·
   rw [if_pos c10] at H
   have c10b0 : (a0_1 == 1) = true := beq_iff_eq.mpr c10
   have c10b1 : (a0_1 != 1) = false := bne_eq_false_iff_eq.mpr c10
   clear c10
   (first | rw [c10b0] | (simp only [i64_w, i32_w]; rw [c10b0]) | skip)
   have H' := Aside0.mk H
   clear H
   have hcz11_0 : w9.cell? ⟨gb437, 0, none⟩ = some (.string a0_0) := (blk_cell BK437.out 0).trans rfl
   have hcz11_1 : w9.cell? ⟨gb437, 1, none⟩ = some (.int .i64 a0_1) := (blk_cell BK437.out 1).trans rfl
   have hcz11_2 : w9.cell? ⟨gb437, 2, none⟩ = some (.bool a0_2) := (blk_cell BK437.out 2).trans rfl
   have hfz11_0 := blk_frozen BK437.out 0
   have hfz11_1 := blk_frozen BK437.out 1
   have hfz11_2 := blk_frozen BK437.out 2
   go_wp2
   first | go_meet | (simp only [c10b0] at *; go_meet)
   case rel => exact ⟨_, (true), ap2, H', ⟨by first | omega | exact Nat.le_refl _⟩, ⟨by (with_reducible repeat (first | apply Kd.R_alloc | apply Kd.R_drewN | apply Kd.R_drew)); exact HO440.out⟩, ⟨by (with_reducible repeat (first | refine blk_drewN ?_ _ | refine blk_drew ?_ | refine blk_alloc ?_ _)); exact BK437.out⟩, ⟨by repeat (first | (with_reducible first | exact HB.out | apply below_alloc | apply pw_below_drewN | apply below_drew1 | refine below_set ?_ GE437.out) | exact HB.out)⟩⟩
  ·
   rw [if_neg c10] at H
   have c10b0 : (a0_1 == 1) = false := beq_eq_false_iff_ne.mpr c10
   have c10b1 : (a0_1 != 1) = true := bne_iff_ne.mpr c10
   (first | rw [c10b0] | (simp only [i64_w, i32_w]; rw [c10b0]) | skip)
   by_cases c12 : a0_1 = 2
   ·
    rw [if_pos c12] at H
    have c12b0 : (a0_1 == 2) = true := beq_iff_eq.mpr c12
    have c12b1 : (a0_1 != 2) = false := bne_eq_false_iff_eq.mpr c12
    clear c12
    have H' := Aside0.mk H
    clear H
    have hcz13_0 : w9.cell? ⟨gb437, 0, none⟩ = some (.string a0_0) := (blk_cell BK437.out 0).trans rfl
    have hcz13_1 : w9.cell? ⟨gb437, 1, none⟩ = some (.int .i64 a0_1) := (blk_cell BK437.out 1).trans rfl
    have hcz13_2 : w9.cell? ⟨gb437, 2, none⟩ = some (.bool a0_2) := (blk_cell BK437.out 2).trans rfl
    have hfz13_0 := blk_frozen BK437.out 0
    have hfz13_1 := blk_frozen BK437.out 1
    have hfz13_2 := blk_frozen BK437.out 2
    go_wp2
    first | go_meet | (simp only [c12b0] at *; go_meet) | (simp only [c10b0] at *; go_meet) | (simp only [c10b0] at *; go_meet)
    case rel => exact ⟨_, (true), ap2, H', ⟨by first | omega | exact Nat.le_refl _⟩, ⟨by (with_reducible repeat (first | apply Kd.R_alloc | apply Kd.R_drewN | apply Kd.R_drew)); exact HO440.out⟩, ⟨by (with_reducible repeat (first | refine blk_drewN ?_ _ | refine blk_drew ?_ | refine blk_alloc ?_ _)); exact BK437.out⟩, ⟨by repeat (first | (with_reducible first | exact HB.out | apply below_alloc | apply pw_below_drewN | apply below_drew1 | refine below_set ?_ GE437.out) | exact HB.out)⟩⟩
   ·
    rw [if_neg c12] at H
    have c12b0 : (a0_1 == 2) = false := beq_eq_false_iff_ne.mpr c12
    have c12b1 : (a0_1 != 2) = true := bne_iff_ne.mpr c12
    have H' := Aside0.mk H
    clear H
    have hcz14_0 : w9.cell? ⟨gb437, 0, none⟩ = some (.string a0_0) := (blk_cell BK437.out 0).trans rfl
    have hcz14_1 : w9.cell? ⟨gb437, 1, none⟩ = some (.int .i64 a0_1) := (blk_cell BK437.out 1).trans rfl
    have hcz14_2 : w9.cell? ⟨gb437, 2, none⟩ = some (.bool a0_2) := (blk_cell BK437.out 2).trans rfl
    have hfz14_0 := blk_frozen BK437.out 0
    have hfz14_1 := blk_frozen BK437.out 1
    have hfz14_2 := blk_frozen BK437.out 2
    go_wp2
    first | go_meet | (simp only [c12b0] at *; go_meet) | (simp only [c12b0] at *; go_meet) | (simp only [c10b0] at *; go_meet)
    case rel => exact ⟨_, ((a0_1 == 7)), ap2, H', ⟨by first | omega | exact Nat.le_refl _⟩, ⟨by (with_reducible repeat (first | apply Kd.R_alloc | apply Kd.R_drewN | apply Kd.R_drew)); exact HO440.out⟩, ⟨by (with_reducible repeat (first | refine blk_drewN ?_ _ | refine blk_drew ?_ | refine blk_alloc ?_ _)); exact BK437.out⟩, ⟨by repeat (first | (with_reducible first | exact HB.out | apply below_alloc | apply pw_below_drewN | apply below_drew1 | refine below_set ?_ GE437.out) | exact HB.out)⟩⟩
 case rest =>
  clear HC7
  try clear c1
  try clear p2
  try clear c3
  try clear c10
  try clear c10b0
  try clear c10b1
  try clear c12
  try clear c12b0
  try clear c12b1
  try clear c14
  try clear hcz11_0
  try clear hcz11_1
  try clear hcz11_2
  try clear hcz13_0
  try clear hcz13_1
  try clear hcz13_2
  try clear hcz14_0
  try clear hcz14_1
  try clear hcz14_2
  try clear hfz11_0
  try clear hfz11_1
  try clear hfz11_2
  try clear hfz13_0
  try clear hfz13_1
  try clear hfz13_2
  try clear hfz14_0
  try clear hfz14_1
  try clear hfz14_2
  obtain ⟨kq, x14_6, rfl, HA, HJ6, HO_13, BK437, HB⟩ := hcut
  cases kq with
  | zero => exact absurd HA.out (by simp [attr_Part.j0])
  | succ kj6 =>
   have H := HA.out
   clear HA
   simp only [attr_Part.j0] at H
   have HC15 := Aside0.mk H
   clear H
   go_upto_region 4 with (fail)
   go_cut [56] (fun v56 wc => ∃ (kq : Nat) (x56_14 : Bool), v56 = .bool x56_14 ∧ Aside0 (attr_Part.j1 kq a1 t438 x56_14 a0_0 a0_1 a0_2 = some (r1, r2)) ∧ Aside0 (kq ≤ kj6) ∧ Aside0 (Kd.R Kd.string 9 wc w.heap.size (fun _ => True) v439 t438) ∧ Aside0 (wc.heap[gb437]? = some (.cells #[.string a0_0, .int .i64 a0_1, .bool a0_2] 23 (0, 0))) ∧ Aside0 (Below w.heap.size w wc))
   case first =>
    have H := HC15.out
    clear HC15
    by_cases c16 : x14_6 = true
    ·
     subst c16
     rw [if_pos rfl] at H
     by_cases c17 : (l3.length : Int) > 8
     ·
      rw [if_pos c17] at H
      have c17b0 := decide_eq_true c17
      have c17b1 : decide (8 < l3.length) = true := decide_eq_true (by omega)
      clear c17
      (first | rw [c17b0] | (simp only [i64_w, i32_w]; rw [c17b0]) | skip)
      have H' := Aside0.mk H
      clear H
      go_wp2
      first | go_meet | (simp only [c12b0] at *; go_meet) | (simp only [c12b0] at *; go_meet) | (simp only [c10b0] at *; go_meet)
      case rel => exact ⟨_, (true), ap2, H', ⟨by have := HJ6.out; first | omega | exact Nat.le_refl _⟩, ⟨by (with_reducible repeat (first | apply Kd.R_alloc | apply Kd.R_drewN | apply Kd.R_drew)); exact HO_13.out⟩, ⟨by (with_reducible repeat (first | refine blk_drewN ?_ _ | refine blk_drew ?_ | refine blk_alloc ?_ _)); exact BK437.out⟩, ⟨by repeat (first | (with_reducible first | exact HB.out | apply below_alloc | apply pw_below_drewN | apply below_drew1 | refine below_set ?_ GE437.out) | exact HB.out)⟩⟩
     ·
      rw [if_neg c17] at H
      have c17b0 := decide_eq_false c17
      have c17b1 : decide (8 < l3.length) = false := decide_eq_false (by omega)
      clear c17
      (first | rw [c17b0] | (simp only [i64_w, i32_w]; rw [c17b0]) | skip)
      replace H := Option.bind_eq_some_iff.mp H
      obtain ⟨t441, A180, H⟩ := H
      replace H : (attr_Part.j1 kj6 a1 t438 (!t441) a0_0 a0_1 a0_2) = some (r1, r2) := H
      have A18 := Aside0.mk A180
      clear A180
      have H' := Aside0.mk H
      clear H
      obtain ⟨Ao19, co19, eo19⟩ := Kd.R_slice HO_13.out
      subst eo19
      go_wp2_with (first | (go_at_call 32; (with_reducible refine (slices_ContainsFunc_string_string.calls _ _ t438 t441 _ ?side1 ?side2 A18.out).mono ?_); (case side1 => repeat (first | exact (Kd.R_reads' HO_13.out).2.2 | (with_reducible refine Kd.C_alloc ?_ _) | (with_reducible refine Kd.C_drewN ?_ _) | (with_reducible refine Kd.C_drew ?_))); (case side2 => exact (Kd.R_reads' HO_13.out).2.1); rintro e w20 ⟨rfl, hb⟩; have n0_ := Aside0.mk (Kd.R_below (apAR HO_13.out) hb); have n1_ := Aside0.mk (blk_below (g := gb437) (o := .cells #[.string a0_0, .int .i64 a0_1, .bool a0_2] 23 (0, 0)) (apB BK437.out) hb); have n2_ := Aside0.mk (below_step (apG GE437.out) hb); clear HO_13; clear BK437; clear HB; have HO_13 := n0_; have BK437 := n1_; have HB := n2_; clear n0_ n1_ n2_; (try clear hb); (try clear hb2); (try clear hk); (try clear hi)))
      first | go_meet | (simp only [c12b0] at *; go_meet) | (simp only [c12b0] at *; go_meet) | (simp only [c10b0] at *; go_meet)
      case rel => exact ⟨_, (!t441), ap2, H', ⟨by have := HJ6.out; first | omega | exact Nat.le_refl _⟩, ⟨by (with_reducible repeat (first | apply Kd.R_alloc | apply Kd.R_drewN | apply Kd.R_drew)); exact HO_13.out⟩, ⟨by (with_reducible repeat (first | refine blk_drewN ?_ _ | refine blk_drew ?_ | refine blk_alloc ?_ _)); exact BK437.out⟩, ⟨by repeat (first | (with_reducible first | exact HB.out | apply below_alloc | apply pw_below_drewN | apply below_drew1 | refine below_set ?_ GE437.out) | exact HB.out)⟩⟩
    ·
     replace c16 := Bool.eq_false_iff.mpr c16
     subst c16
     rw [if_neg (show ¬ (false = true) by decide)] at H
     have H' := Aside0.mk H
     clear H
     go_wp2
     first | go_meet | (simp only [c12b0] at *; go_meet) | (simp only [c12b0] at *; go_meet) | (simp only [c10b0] at *; go_meet)
     case rel => exact ⟨_, (true), ap2, H', ⟨by have := HJ6.out; first | omega | exact Nat.le_refl _⟩, ⟨by (with_reducible repeat (first | apply Kd.R_alloc | apply Kd.R_drewN | apply Kd.R_drew)); exact HO_13.out⟩, ⟨by (with_reducible repeat (first | refine blk_drewN ?_ _ | refine blk_drew ?_ | refine blk_alloc ?_ _)); exact BK437.out⟩, ⟨by repeat (first | (with_reducible first | exact HB.out | apply below_alloc | apply pw_below_drewN | apply below_drew1 | refine below_set ?_ GE437.out) | exact HB.out)⟩⟩
   case rest =>
    clear HC15
    try clear c1
    try clear p2
    try clear c3
    try clear c10
    try clear c10b0
    try clear c10b1
    try clear c12
    try clear c12b0
    try clear c12b1
    try clear c14
    try clear c16
    try clear c17
    try clear c17b0
    try clear c17b1
    try clear hcz11_0
    try clear hcz11_1
    try clear hcz11_2
    try clear hcz13_0
    try clear hcz13_1
    try clear hcz13_2
    try clear hcz14_0
    try clear hcz14_1
    try clear hcz14_2
    try clear hfz11_0
    try clear hfz11_1
    try clear hfz11_2
    try clear hfz13_0
    try clear hfz13_1
    try clear hfz13_2
    try clear hfz14_0
    try clear hfz14_1
    try clear hfz14_2
    try clear p2
    obtain ⟨kq, x56_14, rfl, HA, HJ14, HO_13, BK437, HB⟩ := hcut
    cases kq with
    | zero => exact absurd HA.out (by simp [attr_Part.j1])
    | succ kj14 =>
     have H := HA.out
     clear HA
     simp only [attr_Part.j1] at H
     by_cases c21 : x56_14 = true
     ·
      subst c21
      rw [if_pos rfl] at H
      simp only [Option.some.injEq, Prod.mk.injEq] at H
      obtain ⟨rfl, rfl⟩ := H
      go_wp2
      go_ret2
      exact ⟨by first | rfl | (simp [errW_none, errW_some, bne_nil8, beq_nil8]; done) | (simp [errW_none, errW_some] <;> rfl) | (simp [*, errW_none, errW_some] <;> rfl), by repeat (first | (with_reducible first | exact HB.out | apply below_alloc | apply pw_below_drewN | apply below_drew1 | refine below_set ?_ GE437.out) | exact HB.out)⟩
     ·
      replace c21 := Bool.eq_false_iff.mpr c21
      subst c21
      rw [if_neg (show ¬ (false = true) by decide)] at H
      replace H := Option.bind_eq_some_iff.mp H
      obtain ⟨⟨t442, t443⟩, A220, H⟩ := H
      replace H : (if t443 = 0 then (attr_Part.l0 kj14 t438 t442 (t438.length : Int) 0 a0_0 a0_1 a0_2) else (some (false, t443))) = some (r1, r2) := H
      have A22 := Aside0.mk A220
      clear A220
      by_cases c23 : t443 = 0
      ·
       rw [if_pos c23] at H
       have c23b0 : (t443 == 0) = true := beq_iff_eq.mpr c23
       have c23b1 : (t443 != 0) = false := bne_eq_false_iff_eq.mpr c23
       clear c23
       have H' := Aside0.mk H
       clear H
       have hcz24_0 : wc.cell? ⟨gb437, 0, none⟩ = some (.string a0_0) := (blk_cell BK437.out 0).trans rfl
       have hcz24_1 : wc.cell? ⟨gb437, 1, none⟩ = some (.int .i64 a0_1) := (blk_cell BK437.out 1).trans rfl
       have hcz24_2 : wc.cell? ⟨gb437, 2, none⟩ = some (.bool a0_2) := (blk_cell BK437.out 2).trans rfl
       have hfz24_0 := blk_frozen BK437.out 0
       have hfz24_1 := blk_frozen BK437.out 1
       have hfz24_2 := blk_frozen BK437.out 2
       go_wp2_with (first | ((with_reducible refine gate_callee (f := 19) rfl ?_); refine goesL_ (some 60) rfl rfl Tryz.func19 (by kernel_rfl) rfl #[.agg #[.string a0_0, .int .i64 a0_1, .bool a0_2], .string a1] rfl ap3 ?_; (with_reducible refine (attr_Normal.calls kj14 a0_0 a0_1 a0_2 a1 t442 t443 _ ?side1 A22.out).mono ?_); (case side1 => first | exact HG.out | (refine Gw.below HG.out ?_; repeat (first | (with_reducible first | exact HB.out | apply below_alloc | apply pw_below_drewN | apply below_drew1 | refine below_set ?_ GE437.out) | exact HB.out))); rintro e w25 ⟨rfl, hb⟩; refine ⟨_, rfl, ?_⟩; have n0_ := Aside0.mk (Kd.R_below (apAR HO_13.out) hb); have n1_ := Aside0.mk (blk_below (g := gb437) (o := .cells #[.string a0_0, .int .i64 a0_1, .bool a0_2] 23 (0, 0)) (apB BK437.out) hb); have n2_ := Aside0.mk (below_step (apG GE437.out) hb); clear HO_13; clear BK437; clear HB; have HO_13 := n0_; have BK437 := n1_; have HB := n2_; clear n0_ n1_ n2_; (try clear hb); (try clear hb2); (try clear hk); (try clear hi); obtain ⟨Ao26, co26, eo26⟩ := Kd.R_slice HO_13.out; subst eo26))
       go_loopg [68] kj14 (fun kq v68 w' => ∃ (x13_3 : List ByteArray) (x68_3 : Int), v68 = .int .i64 x68_3 ∧ Aside0 (attr_Part.l0 kq x13_3 t442 (t438.length : Int) x68_3 a0_0 a0_1 a0_2 = some (r1, r2)) ∧ Aside0 (kq ≤ kj14) ∧ Aside0 (Kd.R Kd.string 9 w' w.heap.size (fun _ => True) (.slice Ao26 t438.length co26) x13_3) ∧ Aside0 (w'.heap[gb437]? = some (.cells #[.string a0_0, .int .i64 a0_1, .bool a0_2] 23 (0, 0))) ∧ Aside0 (Below w.heap.size w w'))
       case atStart => exact ⟨(t438), (0), ap2, H', ⟨Nat.le_refl _⟩, ⟨by (with_reducible repeat (first | apply Kd.R_alloc | apply Kd.R_drewN | apply Kd.R_drew)); exact HO_13.out⟩, ⟨by (with_reducible repeat (first | refine blk_drewN ?_ _ | refine blk_drew ?_ | refine blk_alloc ?_ _)); exact BK437.out⟩, ⟨by repeat (first | (with_reducible first | exact HB.out | apply below_alloc | apply pw_below_drewN | apply below_drew1 | refine below_set ?_ GE437.out) | exact HB.out)⟩⟩
       case round =>
        clear H'
        try clear c1
        try clear c2
        try clear p2
        try clear c3
        try clear c10
        try clear c10b0
        try clear c10b1
        try clear c12
        try clear c12b0
        try clear c12b1
        try clear c14
        try clear c16
        try clear c17
        try clear c17b0
        try clear c17b1
        try clear c19
        try clear c21
        try clear c23
        try clear c23b0
        try clear c23b1
        try clear hcz11_0
        try clear hcz11_1
        try clear hcz11_2
        try clear hcz13_0
        try clear hcz13_1
        try clear hcz13_2
        try clear hcz14_0
        try clear hcz14_1
        try clear hcz14_2
        try clear hcz24_0
        try clear hcz24_1
        try clear hcz24_2
        try clear hfz11_0
        try clear hfz11_1
        try clear hfz11_2
        try clear hfz13_0
        try clear hfz13_1
        try clear hfz13_2
        try clear hfz14_0
        try clear hfz14_1
        try clear hfz14_2
        try clear hfz24_0
        try clear hfz24_1
        try clear hfz24_2
        try clear p2
        obtain ⟨x13_3, x68_3, rfl, HA, HK3, HO_13, BK437, HB⟩ := hrel
        have hl13_3 := (Kd.R_reads' HO_13.out).1
        rw [hl13_3] at HO_13
        (try simp only [hl13_3])
        (try simp only [hl13_3] at BK437)
        cases gk with
        | zero => exact absurd HA.out (by simp [attr_Part.l0])
        | succ k3 =>
         have H := HA.out
         clear HA
         simp only [attr_Part.l0] at H
         by_cases c27 : x68_3 < (t438.length : Int)
         ·
          rw [if_pos c27] at H
          have c27b0 := decide_eq_true c27
          clear c27
          by_cases c28 : 0 ≤ x68_3
          ·
           rw [if_pos c28] at H
           have c28b0 := decide_eq_true c28
           clear c28
           by_cases c29 : x68_3 < (x13_3.length : Int)
           ·
            rw [if_pos c29] at H
            have c29b0 := decide_eq_true c29
            clear c29
            replace H := Option.bind_eq_some_iff.mp H
            obtain ⟨⟨t445, t446⟩, A300, H⟩ := H
            replace H : (if t446 = 0 then (attr_Part.l0 k3 (x13_3.set (x68_3 : Int).toNat t445) t442 (t438.length : Int) (wrap64 (x68_3 + 1)) a0_0 a0_1 a0_2) else (some (false, t446))) = some (r1, r2) := H
            have A30 := Aside0.mk A300
            clear A300
            by_cases c31 : t446 = 0
            ·
             rw [if_pos c31] at H
             have c31b0 : (t446 == 0) = true := beq_iff_eq.mpr c31
             have c31b1 : (t446 != 0) = false := bne_eq_false_iff_eq.mpr c31
             clear c31
             obtain ⟨y447, hy447⟩ : ∃ y_ : List ByteArray, y_ = (x13_3.set (x68_3 : Int).toNat t445) := ⟨_, rfl⟩
             replace H : (attr_Part.l0 k3 y447 t442 (t438.length : Int) (wrap64 (x68_3 + 1)) a0_0 a0_1 a0_2) = some (r1, r2) := by first | (rw [hy447]; with_reducible exact H) | (have H2_ := (Option.bind_some _ _).symm.trans H; rw [hy447]; with_reducible exact H2_) | (have H2_ := (Option.bind_some _ _).symm.trans H; with_reducible exact H2_) | with_reducible exact H | (rw [hy447]; exact H) | exact H
             have Ny447 := Aside0.mk hy447
             clear hy447
             have H' := Aside0.mk H
             clear H
             have p444 : 0 ≤ (x68_3 : Int) := of_decide_eq_true ap0
             have q444 : x68_3 < (x13_3.length : Int) := of_decide_eq_true ap0
             obtain ⟨ad444, e444, hx444_0⟩ := Kd.at_string (Kd.R_reads' HO_13.out).2.2 x68_3 p444 q444
             cases e444
             replace p444 := eq_true p444
             replace q444 := eq_true q444
             have hcz33_0 : wr.cell? ⟨gb437, 0, none⟩ = some (.string a0_0) := (blk_cell BK437.out 0).trans rfl
             have hcz33_1 : wr.cell? ⟨gb437, 1, none⟩ = some (.int .i64 a0_1) := (blk_cell BK437.out 1).trans rfl
             have hcz33_2 : wr.cell? ⟨gb437, 2, none⟩ = some (.bool a0_2) := (blk_cell BK437.out 2).trans rfl
             have hfz33_0 := blk_frozen BK437.out 0
             have hfz33_1 := blk_frozen BK437.out 1
             have hfz33_2 := blk_frozen BK437.out 2
             go_wp2_with (first | ((with_reducible refine gate_callee (f := 33) rfl ?_); refine goesL_ (some 76) rfl rfl Tryz.func33 (by kernel_rfl) rfl #[.agg #[.string a0_0, .int .i64 a0_1, .bool a0_2], .string (rdOf ByteArray.empty x13_3 x68_3)] rfl ap3 ?_; (with_reducible refine (attr_piece.calls k3 a0_0 a0_1 a0_2 (rdOf ByteArray.empty x13_3 x68_3) t445 t446 _ ?side1 A30.out).mono ?_); (case side1 => first | exact HG.out | (refine Gw.below HG.out ?_; repeat (first | (with_reducible first | exact HB.out | apply below_alloc | apply pw_below_drewN | apply below_drew1 | refine below_set ?_ GE437.out) | exact HB.out))); rintro e w34 ⟨rfl, hb⟩; refine ⟨_, rfl, ?_⟩; have n0_ := Aside0.mk (Kd.R_below (apAR HO_13.out) hb); have n1_ := Aside0.mk (blk_below (g := gb437) (o := .cells #[.string a0_0, .int .i64 a0_1, .bool a0_2] 23 (0, 0)) (apB BK437.out) hb); have n2_ := Aside0.mk (below_step (apG GE437.out) hb); clear HO_13; clear BK437; clear HB; have HO_13 := n0_; have BK437 := n1_; have HB := n2_; clear n0_ n1_ n2_; (try clear hb); (try clear hb2); (try clear hk); (try clear hi); have p32 : 0 ≤ (x68_3 : Int) := of_decide_eq_true ap0; have q32 : (x68_3 : Int) < ((x13_3.length : Int) : Int) := of_decide_eq_true ap0; obtain ⟨go32, co32, eo32, gb32, gl32, cl32, HG32⟩ := Kd.R_form HO_13.out (by omega); (first | cases eo32 | (injection eo32 with ea_ en_ ec_; (first | subst ea_ | (injection ea_ with ea_; subst ea_)); subst ec_; clear en_)); have GB32 := Aside0.mk gb32; have GG32 := Aside0.mk HG32; clear gb32 gl32 HG32; (first | simp only [add_plain] at hx444_0 | skip); obtain ⟨hx32_0, hf32_0⟩ := Kd.R_celln (⟨#[]⟩ : ByteArray) HO_13.out (x68_3 : Int) p32 q32; replace p32 := eq_true p32; replace q32 := eq_true q32; obtain ⟨hy35_, hz35_⟩ := Kd.R_celln (⟨#[]⟩ : ByteArray) HO_13.out (x68_3 : Int) (of_decide_eq_true ap0) (of_decide_eq_true ap0); have HP35 := Kd.R_putg HO_13.out (x68_3 : Int) t445) | ((with_reducible refine gate_store (t := 9) (p := 85) rfl ?_); refine store_event (t := 9) (p := 85) (v := ?vo_w36) (w1 := (w34.setCell ⟨go32, (x68_3 : Int).toNat, none⟩ (.string t445))) ?hg ?ho ?hn ?hr ?_; (case ho => rfl); (case hg => rfl); (case hn => rfl); (case hr => first | (go_simp; done) | (go_simp; rfl)); intro w36 hw; have hg : w34.grownBy w36 (some go32) := (by rw [hw]; exact HP35.2); have hp_ : Kd.R Kd.string 9 w36 w.heap.size (fun _ => True) (.slice (some ⟨go32, 0, none⟩) x13_3.length co26) y447 := (by rw [hw, Ny447.out]; exact HP35.1); clear HP35; have n0_ := Aside0.mk (hp_); have n1_ := Aside0.mk (blk_grown (g := gb437) (o := .cells #[.string a0_0, .int .i64 a0_1, .bool a0_2] 23 (0, 0)) (apB BK437.out) hg (Kd.R_ne HO_13.out BK437.out (by decide))); have n2_ := Aside0.mk ((by rw [hw]; exact below_set (HB.out) GB32.out : Below w.heap.size w w36)); clear HO_13; clear BK437; clear HB; have HO_13 := n0_; have BK437 := n1_; have HB := n2_; clear n0_ n1_ n2_; clear hg hw hp_))
             (try simp only [← hl13_3])
             go_roundg k3
             case measure => have := HJ6.out; have := HJ14.out; have := HK3.out; omega
             case rel => exact ⟨(y447), (wrap64 (x68_3 + 1)), ap2, H', ⟨by have := HJ6.out; have := HJ14.out; have := HK3.out; omega⟩, ⟨by (try simp only [hl13_3]); (with_reducible repeat (first | apply Kd.R_alloc | apply Kd.R_drewN | apply Kd.R_drew)); exact HO_13.out⟩, ⟨by (try simp only [hl13_3]); (with_reducible repeat (first | refine blk_drewN ?_ _ | refine blk_drew ?_ | refine blk_alloc ?_ _)); exact BK437.out⟩, ⟨by repeat (first | (with_reducible first | exact HB.out | apply below_alloc | apply pw_below_drewN | apply below_drew1 | refine below_set ?_ GE437.out) | exact HB.out)⟩⟩
            ·
             rw [if_neg c31] at H
             have c31b0 : (t446 == 0) = false := beq_eq_false_iff_ne.mpr c31
             have c31b1 : (t446 != 0) = true := bne_iff_ne.mpr c31
             simp only [Option.some.injEq, Prod.mk.injEq] at H
             obtain ⟨rfl, rfl⟩ := H
             have p444 : 0 ≤ (x68_3 : Int) := of_decide_eq_true ap0
             have q444 : x68_3 < (x13_3.length : Int) := of_decide_eq_true ap0
             obtain ⟨ad444, e444, hx444_0⟩ := Kd.at_string (Kd.R_reads' HO_13.out).2.2 x68_3 p444 q444
             cases e444
             replace p444 := eq_true p444
             replace q444 := eq_true q444
             have hcz37_0 : wr.cell? ⟨gb437, 0, none⟩ = some (.string a0_0) := (blk_cell BK437.out 0).trans rfl
             have hcz37_1 : wr.cell? ⟨gb437, 1, none⟩ = some (.int .i64 a0_1) := (blk_cell BK437.out 1).trans rfl
             have hcz37_2 : wr.cell? ⟨gb437, 2, none⟩ = some (.bool a0_2) := (blk_cell BK437.out 2).trans rfl
             have hfz37_0 := blk_frozen BK437.out 0
             have hfz37_1 := blk_frozen BK437.out 1
             have hfz37_2 := blk_frozen BK437.out 2
             go_wp2_with (first | ((with_reducible refine gate_callee (f := 33) rfl ?_); refine goesL_ (some 76) rfl rfl Tryz.func33 (by kernel_rfl) rfl #[.agg #[.string a0_0, .int .i64 a0_1, .bool a0_2], .string (rdOf ByteArray.empty x13_3 x68_3)] rfl ap3 ?_; (with_reducible refine (attr_piece.calls k3 a0_0 a0_1 a0_2 (rdOf ByteArray.empty x13_3 x68_3) t445 t446 _ ?side1 A30.out).mono ?_); (case side1 => first | exact HG.out | (refine Gw.below HG.out ?_; repeat (first | (with_reducible first | exact HB.out | apply below_alloc | apply pw_below_drewN | apply below_drew1 | refine below_set ?_ GE437.out) | exact HB.out))); rintro e w38 ⟨rfl, hb⟩; refine ⟨_, rfl, ?_⟩; have n0_ := Aside0.mk (Kd.R_below (apAR HO_13.out) hb); have n1_ := Aside0.mk (blk_below (g := gb437) (o := .cells #[.string a0_0, .int .i64 a0_1, .bool a0_2] 23 (0, 0)) (apB BK437.out) hb); have n2_ := Aside0.mk (below_step (apG GE437.out) hb); clear HO_13; clear BK437; clear HB; have HO_13 := n0_; have BK437 := n1_; have HB := n2_; clear n0_ n1_ n2_; (try clear hb); (try clear hb2); (try clear hk); (try clear hi)))
             go_ret2
             exact ⟨by first | rfl | (simp [errW_none, errW_some, bne_nil8, beq_nil8]; done) | (simp [errW_none, errW_some] <;> rfl) | (simp [*, errW_none, errW_some] <;> rfl), by repeat (first | (with_reducible first | exact HB.out | apply below_alloc | apply pw_below_drewN | apply below_drew1 | refine below_set ?_ GE437.out) | exact HB.out)⟩
           ·
            rw [if_neg c29] at H
            exact absurd H (by simp)
          ·
           rw [if_neg c28] at H
           exact absurd H (by simp)
         ·
          rw [if_neg c27] at H
          have c27b0 := decide_eq_false c27
          have c27b9 : decide (x68_3 < (x13_3.length : Int)) = false := by rw [← hl13_3]; exact c27b0
          have c27b9 : decide (x68_3 < (x13_3.length : Int)) = false := by rw [← hl13_3]; exact c27b0
          have c27b9 : decide (x68_3 < (x13_3.length : Int)) = false := by rw [← hl13_3]; exact c27b0
          clear c27
          by_cases c39 : 0 < (x13_3.length : Int)
          ·
           rw [if_pos c39] at H
           have c39b0 := decide_eq_true c39
           have c39b1 : decide (0 < x13_3.length) = true := decide_eq_true (by omega)
           clear c39
           replace H := Option.bind_eq_some_iff.mp H
           obtain ⟨⟨t449, t450⟩, A400, H⟩ := H
           replace H : (if t450 = true then (if 0 ≤ (wrap64 ((x13_3.length : Int) - 1)) then (if (wrap64 ((x13_3.length : Int) - 1)) < (x13_3.length : Int) then ((strings_CutSuffix.f t449 (rdOf ByteArray.empty x13_3 (wrap64 ((x13_3.length : Int) - 1)))).bind fun bt452 => (if 1 ≤ (wrap64 ((x13_3.length : Int) - 1)) then (if (wrap64 ((x13_3.length : Int) - 1)) ≤ (x13_3.length : Int) then ((some ((x13_3.take ((wrap64 ((x13_3.length : Int) - 1)) : Int).toNat).drop 1 : List ByteArray)).bind fun y454 => (attr_Part.l1 k3 bt452.1 bt452.2 y454 (y454.length : Int) 0)) else (none)) else (none))) else (none)) else (none)) else (some (false, 0))) = some (r1, r2) := H
           have A40 := Aside0.mk A400
           clear A400
           by_cases c41 : t450 = true
           ·
            subst c41
            rw [if_pos rfl] at H
            obtain ⟨ji42, hji42⟩ : ∃ j_ : Int, (wrap64 ((x13_3.length : Int) - 1)) = j_ := ⟨_, rfl⟩
            replace H : (if 0 ≤ (ji42) then (if (ji42) < (x13_3.length : Int) then ((strings_CutSuffix.f t449 (rdOf ByteArray.empty x13_3 (ji42))).bind fun bt452 => (if 1 ≤ (ji42) then (if (ji42) ≤ (x13_3.length : Int) then ((some ((x13_3.take ((ji42) : Int).toNat).drop 1 : List ByteArray)).bind fun y454 => (attr_Part.l1 k3 bt452.1 bt452.2 y454 (y454.length : Int) 0)) else (none)) else (none))) else (none)) else (none)) = some (r1, r2) := by first | (rw [hji42] at H; exact H) | (simp only [hji42] at H ⊢; exact H)
            (try rw [hji42] at A40)
            have hji42w : (IntKind.i64.wrap ((x13_3.length : Int) - 1)) = ji42 := (i64_w _).trans hji42
            by_cases c43 : 0 ≤ (ji42)
            ·
             rw [if_pos c43] at H
             have c43b0 := decide_eq_true c43
             clear c43
             by_cases c44 : (ji42) < (x13_3.length : Int)
             ·
              rw [if_pos c44] at H
              have c44b0 := decide_eq_true c44
              clear c44
              replace H := Option.bind_eq_some_iff.mp H
              obtain ⟨⟨t452, t453⟩, A450, H⟩ := H
              replace H : (if 1 ≤ (ji42) then (if (ji42) ≤ (x13_3.length : Int) then ((some ((x13_3.take ((ji42) : Int).toNat).drop 1 : List ByteArray)).bind fun y454 => (attr_Part.l1 k3 t452 t453 y454 (y454.length : Int) 0)) else (none)) else (none)) = some (r1, r2) := H
              have A45 := Aside0.mk A450
              clear A450
              by_cases c46 : 1 ≤ (ji42)
              ·
               rw [if_pos c46] at H
               have c46b0 := eq_true c46
               have c46b1 := decide_eq_true c46
               clear c46
               by_cases c47 : (ji42) ≤ (x13_3.length : Int)
               ·
                rw [if_pos c47] at H
                have c47b0 := eq_true c47
                have c47b1 := decide_eq_true c47
                clear c47
                obtain ⟨y454, hy454⟩ : ∃ y_ : List ByteArray, y_ = ((x13_3.take ((ji42) : Int).toNat).drop 1) := ⟨_, rfl⟩
                replace H : (attr_Part.l1 k3 t452 t453 y454 (y454.length : Int) 0) = some (r1, r2) := by first | (rw [hy454]; with_reducible exact H) | (have H2_ := (Option.bind_some _ _).symm.trans H; rw [hy454]; with_reducible exact H2_) | (have H2_ := (Option.bind_some _ _).symm.trans H; with_reducible exact H2_) | with_reducible exact H | (rw [hy454]; exact H) | exact H
                have Ny454 := Aside0.mk hy454
                clear hy454
                have H' := Aside0.mk H
                clear H
                have p448 : 0 ≤ (0 : Int) := (by omega)
                have q448 : 0 < (x13_3.length : Int) := of_decide_eq_true ap0
                obtain ⟨ad448, e448, hx448_0⟩ := Kd.at_string (Kd.R_reads' HO_13.out).2.2 0 p448 q448
                cases e448
                have qi448 : (0 < x13_3.length) = True := eq_true (by omega)
                (try rw [show ((0 : Int)).toNat = 0 from rfl] at hx448_0)
                (try rw [Addr.add_zero'] at hx448_0)
                replace p448 := eq_true p448
                replace q448 := eq_true q448
                go_wp2_with (first | ((with_reducible refine gate_callee (f := 34) rfl ?_); refine goesL_ (some 92) rfl rfl Tryz.func34 (by kernel_rfl) rfl #[.string t442, .string (rdOf ByteArray.empty x13_3 0)] rfl ap3 ?_; (with_reducible refine (strings_CutPrefix.calls t442 (rdOf ByteArray.empty x13_3 0) t449 true _ A40.out).mono ?_); rintro e w' ⟨rfl, ⟨nd, rfl⟩⟩; refine ⟨_, rfl, ?_⟩; have p451 : 0 ≤ ((ji42) : Int) := of_decide_eq_true ap0; have q451 : (ji42) < (x13_3.length : Int) := of_decide_eq_true ap0; obtain ⟨ad451, e451, hx451_0⟩ := Kd.at_string (Kd.R_reads' HO_13.out).2.2 (ji42) p451 q451; obtain rfl : ad448 = ad451 := (by injection e451); replace p451 := eq_true p451; replace q451 := eq_true q451) | ((with_reducible refine gate_callee (f := 35) rfl ?_); refine goesL_ (some 105) rfl rfl Tryz.func35 (by kernel_rfl) rfl #[.string t449, .string (rdOf ByteArray.empty x13_3 (ji42))] rfl (by (try simp only [List.map_toArray, List.map_cons, List.map_nil]); first | done | (simp only [hji42]; rfl) | rfl | (simp only [List.length_drop, List.length_take]; rfl)) ?_; (with_reducible refine (strings_CutSuffix.calls t449 (rdOf ByteArray.empty x13_3 (ji42)) t452 t453 _ A45.out).mono ?_); rintro e w' ⟨rfl, ⟨nd, rfl⟩⟩; refine ⟨_, rfl, ?_⟩; have q48 : ((ji42) : Int) ≤ ((x13_3.length : Int) : Int) := of_decide_eq_true ap0; obtain ⟨i048, hi048, _, hsz48, _⟩ := info_parts info9; have hroom48 : x13_3.length ≤ co26 := (Kd.R_reads' HO_13.out).2.1; have hC48 : Kd.C Kd.string _ (some ad448) x13_3.length x13_3 := (Kd.R_reads' HO_13.out).2.2; have ql48 : (1 : Int) ≤ ((ji42) : Int) := of_decide_eq_true ap0; have hcut48 := cut_mid (P := Tryz.prog) 31 9 .i64 .i64 Tryz.underlying31 hi048 1 hsz48 (some ad448) x13_3.length co26 1 (ji42) (by omega) ql48 q48 hroom48; have hr48 := Kd.C_mid (lo := (1 : Int).toNat) (hi := ((ji42) : Int).toNat) (c := co26) hC48 (by omega) (by omega) hroom48; obtain ⟨A48, hA48⟩ : ∃ A1, A1 = (if co26 = (1 : Int).toNat then (some ad448) else ((some ad448) : Option Addr).map (·.add ((1 : Int).toNat * 1))) := ⟨_, rfl⟩; obtain ⟨c48, hc48⟩ : ∃ c1, c1 = co26 - (1 : Int).toNat := ⟨_, rfl⟩; have hy48 : y454.length = ((ji42) : Int).toNat - (1 : Int).toNat := (by rw [Ny454.out, List.length_drop, List.length_take] <;> omega); rw [show ((x13_3).take ((ji42) : Int).toNat).drop (1 : Int).toNat = y454 from Ny454.out.symm] at hr48; replace hr48 : Kd.C Kd.string _ A48 y454.length y454 := (by rw [hA48]; exact hr48); rw [← hy48, ← hA48, ← hc48] at hcut48; have HR457 := Aside0.mk hr48; have HC457 := Aside0.mk (show y454.length ≤ c48 from by rw [hy48, hc48]; exact Nat.sub_le_sub_right (Nat.le_trans (by omega) hroom48) _); clear hr48 hC48 hroom48 hi048 hsz48 hc48; have KY48 := Aside0.mk hy48; have KA48 := Aside0.mk hA48; clear hy48 hA48; have KL48 := Aside0.mk (show ((ji42) : Int).toNat ≤ x13_3.length from by omega); have KM48 := Aside0.mk (show 1 ≤ ((ji42) : Int).toNat from by omega); replace q48 := eq_true q48))
                go_loopg [15, 21, 114] k3 (fun kq v15 v21 v114 w' => ∃ (x15_4 : ByteArray) (x21_4 : Bool) (x114_4 : Int), v15 = .string x15_4 ∧ v21 = .bool x21_4 ∧ v114 = .int .i64 x114_4 ∧ Aside0 (attr_Part.l1 kq x15_4 x21_4 y454 (y454.length : Int) x114_4 = some (r1, r2)) ∧ Aside0 (kq ≤ k3) ∧ Aside0 (w'.heap[gb437]? = some (.cells #[.string a0_0, .int .i64 a0_1, .bool a0_2] 23 (0, 0))) ∧ Aside0 (Kd.C Kd.string w' A48 y454.length y454) ∧ Aside0 (Below w.heap.size w w'))
                case atStart => exact ⟨(t452), (t453), (0), ap2, ap2, ap2, H', ⟨Nat.le_refl _⟩, ⟨by (try simp only [hl13_3]); (with_reducible repeat (first | refine blk_drewN ?_ _ | refine blk_drew ?_ | refine blk_alloc ?_ _)); exact BK437.out⟩, ⟨by repeat (first | (with_reducible exact HR457.out) | (with_reducible refine Kd.C_alloc ?_ _) | (with_reducible refine Kd.C_drewN ?_ _) | (with_reducible refine Kd.C_drew ?_) | exact HR457.out)⟩, ⟨by repeat (first | (with_reducible first | exact HB.out | apply below_alloc | apply pw_below_drewN | apply below_drew1 | refine below_set ?_ GE437.out) | exact HB.out)⟩⟩
                case round =>
                 clear H'
                 try clear c1
                 try clear c2
                 try clear p2
                 try clear c3
                 try clear p3
                 try clear q3
                 try clear hx3
                 try clear c4
                 try clear p4
                 try clear q4
                 try clear hx4
                 try clear qi4
                 try clear p6
                 try clear c10
                 try clear c10b0
                 try clear c10b1
                 try clear c12
                 try clear c12b0
                 try clear c12b1
                 try clear c14
                 try clear c16
                 try clear c17
                 try clear c17b0
                 try clear c17b1
                 try clear c19
                 try clear c21
                 try clear c23
                 try clear c23b0
                 try clear c23b1
                 try clear c27
                 try clear c27b0
                 try clear c28
                 try clear c28b0
                 try clear c29
                 try clear c29b0
                 try clear c31
                 try clear c31b0
                 try clear c31b1
                 try clear p32
                 try clear q32
                 try clear hx32
                 try clear hf32
                 try clear c33
                 try clear c34
                 try clear c35
                 try clear c39
                 try clear c39b0
                 try clear c39b1
                 try clear c41
                 try clear c43
                 try clear c43b0
                 try clear c44
                 try clear c44b0
                 try clear p44
                 try clear q44
                 try clear hx44
                 try clear qi44
                 try clear p45
                 try clear q45
                 try clear hx45
                 try clear c46
                 try clear c46b0
                 try clear c46b1
                 try clear c47
                 try clear c47b0
                 try clear c47b1
                 try clear c48
                 try clear q48
                 try clear hcz11_0
                 try clear hcz11_1
                 try clear hcz11_2
                 try clear hcz13_0
                 try clear hcz13_1
                 try clear hcz13_2
                 try clear hcz14_0
                 try clear hcz14_1
                 try clear hcz14_2
                 try clear hcz24_0
                 try clear hcz24_1
                 try clear hcz24_2
                 try clear hcz33_0
                 try clear hcz33_1
                 try clear hcz33_2
                 try clear hcz37_0
                 try clear hcz37_1
                 try clear hcz37_2
                 try clear hfz11_0
                 try clear hfz11_1
                 try clear hfz11_2
                 try clear hfz13_0
                 try clear hfz13_1
                 try clear hfz13_2
                 try clear hfz14_0
                 try clear hfz14_1
                 try clear hfz14_2
                 try clear hfz24_0
                 try clear hfz24_1
                 try clear hfz24_2
                 try clear hfz33_0
                 try clear hfz33_1
                 try clear hfz33_2
                 try clear hfz37_0
                 try clear hfz37_1
                 try clear hfz37_2
                 try clear hx32_0
                 try clear hx444_0
                 try clear hx448_0
                 try clear hx451_0
                 try clear p2
                 try clear p32
                 try clear p444
                 try clear p448
                 try clear p451
                 try clear q32
                 try clear q444
                 try clear q448
                 try clear q451
                 try clear q48
                 obtain ⟨x15_4, x21_4, x114_4, rfl, rfl, rfl, HA, HK4, BK437, HR457, HB⟩ := hrel
                 cases gk with
                 | zero => exact absurd HA.out (by simp [attr_Part.l1])
                 | succ k4 =>
                  have H := HA.out
                  clear HA
                  simp only [attr_Part.l1] at H
                  by_cases c49 : x114_4 < (y454.length : Int)
                  ·
                   rw [if_pos c49] at H
                   have c49b0 := decide_eq_true c49
                   clear c49
                   by_cases c50 : 0 ≤ x114_4
                   ·
                    rw [if_pos c50] at H
                    have c50b0 := decide_eq_true c50
                    clear c50
                    by_cases c51 : x114_4 < (y454.length : Int)
                    ·
                     rw [if_pos c51] at H
                     have c51b0 := decide_eq_true c51
                     clear c51
                     by_cases c52 : x21_4 = true
                     ·
                      subst c52
                      rw [if_pos rfl] at H
                      replace H := Option.bind_eq_some_iff.mp H
                      obtain ⟨⟨t459, t460, t461⟩, A530, H⟩ := H
                      replace H : (attr_Part.l1 k4 t460 t461 y454 (y454.length : Int) (wrap64 (x114_4 + 1))) = some (r1, r2) := H
                      have A53 := Aside0.mk A530
                      clear A530
                      have H' := Aside0.mk H
                      clear H
                      have p458 : 0 ≤ (x114_4 : Int) := of_decide_eq_true ap0
                      have q458 : x114_4 < (y454.length : Int) := of_decide_eq_true ap0
                      obtain ⟨ad458, e458, hx458_0⟩ := Kd.at_string HR457.out x114_4 p458 q458
                      cases e458
                      try replace hx458_0 := (HB.out.cell (World.block_lt_of_cell? w _ hx458_0)).trans hx458_0
                      replace p458 := eq_true p458
                      replace q458 := eq_true q458
                      go_wp2_with (first | ((with_reducible refine gate_callee (f := 36) rfl ?_); refine goesL_ (some 123) rfl rfl Tryz.func36 (by kernel_rfl) rfl #[.string x15_4, .string (rdOf ByteArray.empty y454 x114_4)] rfl ap3 ?_; (with_reducible refine (strings_Cut.calls x15_4 (rdOf ByteArray.empty y454 x114_4) t459 t460 t461 _ ?side1 A53.out).mono ?_); (case side1 => first | exact HG.out | (refine Gw.below HG.out ?_; repeat (first | (with_reducible first | exact HB.out | apply below_alloc | apply pw_below_drewN | apply below_drew1 | refine below_set ?_ GE437.out) | exact HB.out))); rintro e w54 ⟨rfl, hb⟩; refine ⟨_, rfl, ?_⟩; have n0_ := Aside0.mk (blk_below (g := gb437) (o := .cells #[.string a0_0, .int .i64 a0_1, .bool a0_2] 23 (0, 0)) (apB BK437.out) hb); have n1_ := Aside0.mk (Kd.C_below (apC HR457.out) hb); have n2_ := Aside0.mk (below_step (apG GE437.out) hb); clear BK437; clear HR457; clear HB; have BK437 := n0_; have HR457 := n1_; have HB := n2_; clear n0_ n1_ n2_; (try clear hb); (try clear hb2); (try clear hk); (try clear hi)))
                      go_roundg k4
                      case measure => have := HJ6.out; have := HJ14.out; have := HK3.out; have := HK4.out; omega
                      case rel => exact ⟨(t460), (t461), (wrap64 (x114_4 + 1)), ap2, ap2, ap2, H', ⟨by have := HJ6.out; have := HJ14.out; have := HK3.out; have := HK4.out; omega⟩, ⟨by (try simp only [hl13_3]); (with_reducible repeat (first | refine blk_drewN ?_ _ | refine blk_drew ?_ | refine blk_alloc ?_ _)); exact BK437.out⟩, ⟨by repeat (first | (with_reducible exact HR457.out) | (with_reducible refine Kd.C_alloc ?_ _) | (with_reducible refine Kd.C_drewN ?_ _) | (with_reducible refine Kd.C_drew ?_) | exact HR457.out)⟩, ⟨by repeat (first | (with_reducible first | exact HB.out | apply below_alloc | apply pw_below_drewN | apply below_drew1 | refine below_set ?_ GE437.out) | exact HB.out)⟩⟩
                     ·
                      replace c52 := Bool.eq_false_iff.mpr c52
                      subst c52
                      rw [if_neg (show ¬ (false = true) by decide)] at H
                      simp only [Option.some.injEq, Prod.mk.injEq] at H
                      obtain ⟨rfl, rfl⟩ := H
                      have p458 : 0 ≤ (x114_4 : Int) := of_decide_eq_true ap0
                      have q458 : x114_4 < (y454.length : Int) := of_decide_eq_true ap0
                      obtain ⟨ad458, e458, hx458_0⟩ := Kd.at_string HR457.out x114_4 p458 q458
                      cases e458
                      try replace hx458_0 := (HB.out.cell (World.block_lt_of_cell? w _ hx458_0)).trans hx458_0
                      replace p458 := eq_true p458
                      replace q458 := eq_true q458
                      go_wp2
                      go_ret2
                      exact ⟨by first | rfl | (simp [errW_none, errW_some, bne_nil8, beq_nil8]; done) | (simp [errW_none, errW_some] <;> rfl) | (simp only [← hji42]; first | rfl | (simp [errW_none, errW_some] <;> rfl)) | (simp [*, errW_none, errW_some] <;> rfl), by repeat (first | (with_reducible first | exact HB.out | apply below_alloc | apply pw_below_drewN | apply below_drew1 | refine below_set ?_ GE437.out) | exact HB.out)⟩
                    ·
                     rw [if_neg c51] at H
                     exact absurd H (by simp)
                   ·
                    rw [if_neg c50] at H
                    exact absurd H (by simp)
                  ·
                   rw [if_neg c49] at H
                   have c49b0 := decide_eq_false c49
                   clear c49
                   simp only [Option.some.injEq, Prod.mk.injEq] at H
                   obtain ⟨rfl, rfl⟩ := H
                   go_wp2
                   go_ret2
                   exact ⟨by first | rfl | (simp [errW_none, errW_some, bne_nil8, beq_nil8]; done) | (simp [errW_none, errW_some] <;> rfl) | (simp only [← hji42]; first | rfl | (simp [errW_none, errW_some] <;> rfl)) | (simp [*, errW_none, errW_some] <;> rfl), by repeat (first | (with_reducible first | exact HB.out | apply below_alloc | apply pw_below_drewN | apply below_drew1 | refine below_set ?_ GE437.out) | exact HB.out)⟩
               ·
                rw [if_neg c47] at H
                exact absurd H (by simp)
              ·
               rw [if_neg c46] at H
               exact absurd H (by simp)
             ·
              rw [if_neg c44] at H
              exact absurd H (by simp)
            ·
             rw [if_neg c43] at H
             exact absurd H (by simp)
           ·
            replace c41 := Bool.eq_false_iff.mpr c41
            subst c41
            rw [if_neg (show ¬ (false = true) by decide)] at H
            simp only [Option.some.injEq, Prod.mk.injEq] at H
            obtain ⟨rfl, rfl⟩ := H
            have p448 : 0 ≤ (0 : Int) := (by omega)
            have q448 : 0 < (x13_3.length : Int) := of_decide_eq_true ap0
            obtain ⟨ad448, e448, hx448_0⟩ := Kd.at_string (Kd.R_reads' HO_13.out).2.2 0 p448 q448
            cases e448
            have qi448 : (0 < x13_3.length) = True := eq_true (by omega)
            (try rw [show ((0 : Int)).toNat = 0 from rfl] at hx448_0)
            (try rw [Addr.add_zero'] at hx448_0)
            replace p448 := eq_true p448
            replace q448 := eq_true q448
            go_wp2_with (first | ((with_reducible refine gate_callee (f := 34) rfl ?_); refine goesL_ (some 92) rfl rfl Tryz.func34 (by kernel_rfl) rfl #[.string t442, .string (rdOf ByteArray.empty x13_3 0)] rfl ap3 ?_; (with_reducible refine (strings_CutPrefix.calls t442 (rdOf ByteArray.empty x13_3 0) t449 false _ A40.out).mono ?_); rintro e w' ⟨rfl, ⟨nd, rfl⟩⟩; refine ⟨_, rfl, ?_⟩))
            go_ret2
            exact ⟨by first | rfl | (simp [errW_none, errW_some, bne_nil8, beq_nil8]; done) | (simp [errW_none, errW_some] <;> rfl) | (simp [*, errW_none, errW_some] <;> rfl), by repeat (first | (with_reducible first | exact HB.out | apply below_alloc | apply pw_below_drewN | apply below_drew1 | refine below_set ?_ GE437.out) | exact HB.out)⟩
          ·
           rw [if_neg c39] at H
           exact absurd H (by simp)
      ·
       rw [if_neg c23] at H
       have c23b0 : (t443 == 0) = false := beq_eq_false_iff_ne.mpr c23
       have c23b1 : (t443 != 0) = true := bne_iff_ne.mpr c23
       simp only [Option.some.injEq, Prod.mk.injEq] at H
       obtain ⟨rfl, rfl⟩ := H
       have hcz55_0 : wc.cell? ⟨gb437, 0, none⟩ = some (.string a0_0) := (blk_cell BK437.out 0).trans rfl
       have hcz55_1 : wc.cell? ⟨gb437, 1, none⟩ = some (.int .i64 a0_1) := (blk_cell BK437.out 1).trans rfl
       have hcz55_2 : wc.cell? ⟨gb437, 2, none⟩ = some (.bool a0_2) := (blk_cell BK437.out 2).trans rfl
       have hfz55_0 := blk_frozen BK437.out 0
       have hfz55_1 := blk_frozen BK437.out 1
       have hfz55_2 := blk_frozen BK437.out 2
       go_wp2_with (first | ((with_reducible refine gate_callee (f := 19) rfl ?_); refine goesL_ (some 60) rfl rfl Tryz.func19 (by kernel_rfl) rfl #[.agg #[.string a0_0, .int .i64 a0_1, .bool a0_2], .string a1] rfl ap3 ?_; (with_reducible refine (attr_Normal.calls kj14 a0_0 a0_1 a0_2 a1 t442 t443 _ ?side1 A22.out).mono ?_); (case side1 => first | exact HG.out | (refine Gw.below HG.out ?_; repeat (first | (with_reducible first | exact HB.out | apply below_alloc | apply pw_below_drewN | apply below_drew1 | refine below_set ?_ GE437.out) | exact HB.out))); rintro e w56 ⟨rfl, hb⟩; refine ⟨_, rfl, ?_⟩; have n0_ := Aside0.mk (Kd.R_below (apAR HO_13.out) hb); have n1_ := Aside0.mk (blk_below (g := gb437) (o := .cells #[.string a0_0, .int .i64 a0_1, .bool a0_2] 23 (0, 0)) (apB BK437.out) hb); have n2_ := Aside0.mk (below_step (apG GE437.out) hb); clear HO_13; clear BK437; clear HB; have HO_13 := n0_; have BK437 := n1_; have HB := n2_; clear n0_ n1_ n2_; (try clear hb); (try clear hb2); (try clear hk); (try clear hi)))
       go_ret2
       exact ⟨by first | rfl | (simp [errW_none, errW_some, bne_nil8, beq_nil8]; done) | (simp [errW_none, errW_some] <;> rfl) | (simp [*, errW_none, errW_some] <;> rfl), by repeat (first | (with_reducible first | exact HB.out | apply below_alloc | apply pw_below_drewN | apply below_drew1 | refine below_set ?_ GE437.out) | exact HB.out)⟩
def L16awake.f (k : Nat)  : Option (Bool) := (attr_Find.f (⟨#[67, 78]⟩ : ByteArray)).bind fun bt462 => ((attr_Find.f (⟨#[117, 105, 100, 110, 117, 109, 98, 101, 114]⟩ : ByteArray)).bind fun bt467 => ((attr_Equal.f k bt462.1 bt462.2.1 bt462.2.2.1 (⟨#[65, 110, 110, 32, 32, 66]⟩ : ByteArray) (⟨#[97, 110, 110, 32, 98]⟩ : ByteArray)).bind fun bt472 => ((attr_Order.f k bt467.1 bt467.2.1 bt467.2.2.1 (⟨#[57]⟩ : ByteArray) (⟨#[49, 48]⟩ : ByteArray)).bind fun bt474 => ((attr_Part.f k bt462.1 bt462.2.1 bt462.2.2.1 (⟨#[65, 110, 110, 97, 98, 101, 108]⟩ : ByteArray) (⟨#[97, 110]⟩ : ByteArray) ([] : List ByteArray) (⟨#[101, 108]⟩ : ByteArray)).bind fun bt476 => (if bt462.2.2.2 = true then (if bt467.2.2.2 = true then (if bt472.1 = true then (if bt472.2 = 0 then (if bt474.1 = (-1) then (if bt474.2 = 0 then (if bt476.1 = true then (some (bt476.2 == 0)) else (some false)) else (some false)) else (some false)) else (some false)) else (some false)) else (some false)) else (some false))))))
theorem L16awake.mono : ∀ k, LeO (L16awake.f k ) (L16awake.f (k + 1) ) := by
 intro  k
 unfold L16awake.f
 repeat' first
   | (with_reducible exact attr_Equal.mono _ _ _ _ _ _)
   | (with_reducible exact attr_Order.mono _ _ _ _ _ _)
   | (with_reducible exact attr_Part.mono _ _ _ _ _ _ _ _)
   | (with_reducible exact LeO.refl _)
   | (with_reducible exact LeO.none _)
   | (with_reducible refine LeO.ite ?_ ?_)
   | (with_reducible refine LeO.bind ?_ (fun _ => ?_))
set_option maxHeartbeats 8000000 in
set_option maxRecDepth 100000 in
theorem L16awake.calls (k : Nat)  (r : Bool) (w : World) (hG : Gw w) (h : L16awake.f k  = some r) :
  Calls Tryz.prog 9 #[] w fun e w' => e = .returned (.bool r) ∧ Below w.heap.size w w' := by
 have hu23 := Tryz.underlying23
 have HB := Aside0.mk (Below.refl w.heap.size w)
 have HG := Aside0.mk hG
 clear hG
 have H : ((attr_Find.f (⟨#[67, 78]⟩ : ByteArray)).bind fun bt462 => ((attr_Find.f (⟨#[117, 105, 100, 110, 117, 109, 98, 101, 114]⟩ : ByteArray)).bind fun bt467 => ((attr_Equal.f k bt462.1 bt462.2.1 bt462.2.2.1 (⟨#[65, 110, 110, 32, 32, 66]⟩ : ByteArray) (⟨#[97, 110, 110, 32, 98]⟩ : ByteArray)).bind fun bt472 => ((attr_Order.f k bt467.1 bt467.2.1 bt467.2.2.1 (⟨#[57]⟩ : ByteArray) (⟨#[49, 48]⟩ : ByteArray)).bind fun bt474 => ((attr_Part.f k bt462.1 bt462.2.1 bt462.2.2.1 (⟨#[65, 110, 110, 97, 98, 101, 108]⟩ : ByteArray) (⟨#[97, 110]⟩ : ByteArray) ([] : List ByteArray) (⟨#[101, 108]⟩ : ByteArray)).bind fun bt476 => (if bt462.2.2.2 = true then (if bt467.2.2.2 = true then (if bt472.1 = true then (if bt472.2 = 0 then (if bt474.1 = (-1) then (if bt474.2 = 0 then (if bt476.1 = true then (some (bt476.2 == 0)) else (some false)) else (some false)) else (some false)) else (some false)) else (some false)) else (some false)) else (some false))))))) = some r := h
 clear h
 replace H := Option.bind_eq_some_iff.mp H
 obtain ⟨⟨t462, t463, t464, t465⟩, A10, H⟩ := H
 replace H : ((attr_Find.f (⟨#[117, 105, 100, 110, 117, 109, 98, 101, 114]⟩ : ByteArray)).bind fun bt467 => ((attr_Equal.f k t462 t463 t464 (⟨#[65, 110, 110, 32, 32, 66]⟩ : ByteArray) (⟨#[97, 110, 110, 32, 98]⟩ : ByteArray)).bind fun bt472 => ((attr_Order.f k bt467.1 bt467.2.1 bt467.2.2.1 (⟨#[57]⟩ : ByteArray) (⟨#[49, 48]⟩ : ByteArray)).bind fun bt474 => ((attr_Part.f k t462 t463 t464 (⟨#[65, 110, 110, 97, 98, 101, 108]⟩ : ByteArray) (⟨#[97, 110]⟩ : ByteArray) ([] : List ByteArray) (⟨#[101, 108]⟩ : ByteArray)).bind fun bt476 => (if t465 = true then (if bt467.2.2.2 = true then (if bt472.1 = true then (if bt472.2 = 0 then (if bt474.1 = (-1) then (if bt474.2 = 0 then (if bt476.1 = true then (some (bt476.2 == 0)) else (some false)) else (some false)) else (some false)) else (some false)) else (some false)) else (some false)) else (some false)))))) = some r := H
 have A1 := Aside0.mk A10
 clear A10
 replace H := Option.bind_eq_some_iff.mp H
 obtain ⟨⟨t467, t468, t469, t470⟩, A20, H⟩ := H
 replace H : ((attr_Equal.f k t462 t463 t464 (⟨#[65, 110, 110, 32, 32, 66]⟩ : ByteArray) (⟨#[97, 110, 110, 32, 98]⟩ : ByteArray)).bind fun bt472 => ((attr_Order.f k t467 t468 t469 (⟨#[57]⟩ : ByteArray) (⟨#[49, 48]⟩ : ByteArray)).bind fun bt474 => ((attr_Part.f k t462 t463 t464 (⟨#[65, 110, 110, 97, 98, 101, 108]⟩ : ByteArray) (⟨#[97, 110]⟩ : ByteArray) ([] : List ByteArray) (⟨#[101, 108]⟩ : ByteArray)).bind fun bt476 => (if t465 = true then (if t470 = true then (if bt472.1 = true then (if bt472.2 = 0 then (if bt474.1 = (-1) then (if bt474.2 = 0 then (if bt476.1 = true then (some (bt476.2 == 0)) else (some false)) else (some false)) else (some false)) else (some false)) else (some false)) else (some false)) else (some false))))) = some r := H
 have A2 := Aside0.mk A20
 clear A20
 replace H := Option.bind_eq_some_iff.mp H
 obtain ⟨⟨t472, t473⟩, A30, H⟩ := H
 replace H : ((attr_Order.f k t467 t468 t469 (⟨#[57]⟩ : ByteArray) (⟨#[49, 48]⟩ : ByteArray)).bind fun bt474 => ((attr_Part.f k t462 t463 t464 (⟨#[65, 110, 110, 97, 98, 101, 108]⟩ : ByteArray) (⟨#[97, 110]⟩ : ByteArray) ([] : List ByteArray) (⟨#[101, 108]⟩ : ByteArray)).bind fun bt476 => (if t465 = true then (if t470 = true then (if t472 = true then (if t473 = 0 then (if bt474.1 = (-1) then (if bt474.2 = 0 then (if bt476.1 = true then (some (bt476.2 == 0)) else (some false)) else (some false)) else (some false)) else (some false)) else (some false)) else (some false)) else (some false)))) = some r := H
 have A3 := Aside0.mk A30
 clear A30
 replace H := Option.bind_eq_some_iff.mp H
 obtain ⟨⟨t474, t475⟩, A40, H⟩ := H
 replace H : ((attr_Part.f k t462 t463 t464 (⟨#[65, 110, 110, 97, 98, 101, 108]⟩ : ByteArray) (⟨#[97, 110]⟩ : ByteArray) ([] : List ByteArray) (⟨#[101, 108]⟩ : ByteArray)).bind fun bt476 => (if t465 = true then (if t470 = true then (if t472 = true then (if t473 = 0 then (if t474 = (-1) then (if t475 = 0 then (if bt476.1 = true then (some (bt476.2 == 0)) else (some false)) else (some false)) else (some false)) else (some false)) else (some false)) else (some false)) else (some false))) = some r := H
 have A4 := Aside0.mk A40
 clear A40
 replace H := Option.bind_eq_some_iff.mp H
 obtain ⟨⟨t476, t477⟩, A50, H⟩ := H
 replace H : (if t465 = true then (if t470 = true then (if t472 = true then (if t473 = 0 then (if t474 = (-1) then (if t475 = 0 then (if t476 = true then (some (t477 == 0)) else (some false)) else (some false)) else (some false)) else (some false)) else (some false)) else (some false)) else (some false)) = some r := H
 have A5 := Aside0.mk A50
 clear A50
 by_cases c6 : t465 = true
 ·
  subst c6
  rw [if_pos rfl] at H
  by_cases c7 : t470 = true
  ·
   subst c7
   rw [if_pos rfl] at H
   by_cases c8 : t472 = true
   ·
    subst c8
    rw [if_pos rfl] at H
    by_cases c9 : t473 = 0
    ·
     rw [if_pos c9] at H
     have c9b0 : (t473 == 0) = true := beq_iff_eq.mpr c9
     have c9b1 : (t473 != 0) = false := bne_eq_false_iff_eq.mpr c9
     clear c9
     by_cases c10 : t474 = (-1)
     ·
      rw [if_pos c10] at H
      have c10b0 : (t474 == (-1)) = true := beq_iff_eq.mpr c10
      have c10b1 : (t474 != (-1)) = false := bne_eq_false_iff_eq.mpr c10
      clear c10
      by_cases c11 : t475 = 0
      ·
       rw [if_pos c11] at H
       have c11b0 : (t475 == 0) = true := beq_iff_eq.mpr c11
       have c11b1 : (t475 != 0) = false := bne_eq_false_iff_eq.mpr c11
       clear c11
       by_cases c12 : t476 = true
       ·
        subst c12
        rw [if_pos rfl] at H
        obtain rfl := Option.some.inj H
        go_enter Tryz.func9, Tryz.ntmps9
        go_wp2_with (first | ((with_reducible refine gate_callee (f := 16) rfl ?_); refine goesL_ (some 12) rfl rfl Tryz.func16 (by kernel_rfl) rfl #[.string (⟨#[67, 78]⟩ : ByteArray)] rfl ap3 ?_; (with_reducible refine (attr_Find.calls (⟨#[67, 78]⟩ : ByteArray) t462 t463 t464 true _ ?side1 A1.out).mono ?_); (case side1 => exact ap6); rintro e w13 ⟨rfl, hb⟩; refine ⟨_, rfl, ?_⟩; have n0_ := Aside0.mk (below_step ap1 hb); clear HB; have HB := n0_; clear n0_; (try clear hb); (try clear hb2); (try clear hk); (try clear hi)) | ((with_reducible refine gate_dst (N := 1) rfl ?_); refine box_event ?hg (N := 1) ?hd (cs := #[.string (⟨#[]⟩ : ByteArray), .int .i64 0, .bool false]) (t := 23) ?hr ?_; (case hd => rfl); (case hg => rfl); (case hr => first | (go_simp; done) | (go_simp; rfl)); intro gb466 hg w14 hbox hb; have n0_ := Aside0.mk (below_step ap1 hb); have n1_ := Aside0.mk (hbox); have n2_ := Aside0.mk ((by rw [hg]; exact (below_size ap1) : w.heap.size ≤ gb466)); have n3_ := Aside0.mk ((by rw [hg]; exact (below_size ap1) : w.heap.size ≤ gb466)); clear HB; have HB := n0_; have BK466 := n1_; have GW466 := n2_; have GE466 := n3_; clear n0_ n1_ n2_ n3_; clear hb hbox hg; have hcz15_0 : w14.cell? ⟨gb466, 0, none⟩ = some (.string (⟨#[]⟩ : ByteArray)) := (blk_cell BK466.out 0).trans rfl; have hcz15_1 : w14.cell? ⟨gb466, 1, none⟩ = some (.int .i64 0) := (blk_cell BK466.out 1).trans rfl; have hcz15_2 : w14.cell? ⟨gb466, 2, none⟩ = some (.bool false) := (blk_cell BK466.out 2).trans rfl; have hfz15_0 := blk_frozen BK466.out 0; have hfz15_1 := blk_frozen BK466.out 1; have hfz15_2 := blk_frozen BK466.out 2) | ((with_reducible refine gate_callee (f := 16) rfl ?_); refine goesL_ (some 16) rfl rfl Tryz.func16 (by kernel_rfl) rfl #[.string (⟨#[117, 105, 100, 110, 117, 109, 98, 101, 114]⟩ : ByteArray)] rfl ap3 ?_; (with_reducible refine (attr_Find.calls (⟨#[117, 105, 100, 110, 117, 109, 98, 101, 114]⟩ : ByteArray) t467 t468 t469 true _ ?side1 A2.out).mono ?_); (case side1 => first | exact HG.out | (refine Gw.below HG.out ?_; repeat (first | (with_reducible first | exact HB.out | apply below_alloc | apply pw_below_drewN | apply below_drew1 | refine below_set ?_ GE466.out) | exact HB.out))); rintro e w16 ⟨rfl, hb⟩; refine ⟨_, rfl, ?_⟩; have n0_ := Aside0.mk (blk_below (g := gb466) (o := .cells #[.string t462, .int .i64 t463, .bool t464] 23 (0, 0)) (by (with_reducible repeat (first | refine blk_drewN ?_ _ | refine blk_drew ?_ | refine blk_alloc ?_ _)); refine blk_put (cs := #[.string t462, .int .i64 t463, .bool false]) ?_ 2 _ rfl; (with_reducible repeat (first | refine blk_drewN ?_ _ | refine blk_drew ?_ | refine blk_alloc ?_ _)); refine blk_put (cs := #[.string t462, .int .i64 0, .bool false]) ?_ 1 _ rfl; (with_reducible repeat (first | refine blk_drewN ?_ _ | refine blk_drew ?_ | refine blk_alloc ?_ _)); refine blk_put (cs := #[.string (⟨#[]⟩ : ByteArray), .int .i64 0, .bool false]) ?_ 0 _ rfl; (with_reducible repeat (first | refine blk_drewN ?_ _ | refine blk_drew ?_ | refine blk_alloc ?_ _)); exact BK466.out) hb); have n1_ := Aside0.mk (below_step (apG GE466.out) hb); clear BK466; clear HB; have BK466 := n0_; have HB := n1_; clear n0_ n1_; (try clear hb); (try clear hb2); (try clear hk); (try clear hi)) | ((with_reducible refine gate_dst (N := 3) rfl ?_); refine box_event ?hg (N := 3) ?hd (cs := #[.string (⟨#[]⟩ : ByteArray), .int .i64 0, .bool false]) (t := 23) ?hr ?_; (case hd => rfl); (case hg => rfl); (case hr => first | (go_simp; done) | (go_simp; rfl)); intro gb471 hg w17 hbox hb; have n0_ := Aside0.mk (blk_below (g := gb466) (o := .cells #[.string t462, .int .i64 t463, .bool t464] 23 (0, 0)) (apB BK466.out) hb); have n1_ := Aside0.mk (below_step (apG GE466.out) hb); have n2_ := Aside0.mk (hbox); have n3_ := Aside0.mk ((by rw [hg]; exact (below_size (apG GE466.out)) : w.heap.size ≤ gb471)); have n4_ := Aside0.mk ((by rw [hg]; exact (below_size (apG GE466.out)) : w.heap.size ≤ gb471)); have n5_ := Aside0.mk ((by rw [hg]; exact Nat.ne_of_lt (blk_lt (g := gb466) (o := .cells #[.string t462, .int .i64 t463, .bool t464] 23 (0, 0)) (apB BK466.out)) : gb466 ≠ gb471)); have n6_ := Aside0.mk ((by rw [hg]; exact Nat.ne_of_gt (blk_lt (g := gb466) (o := .cells #[.string t462, .int .i64 t463, .bool t464] 23 (0, 0)) (apB BK466.out)) : gb471 ≠ gb466)); clear BK466; clear HB; have BK466 := n0_; have HB := n1_; have BK471 := n2_; have GW471 := n3_; have GE471 := n4_; have NB466_471 := n5_; have NB471_466 := n6_; clear n0_ n1_ n2_ n3_ n4_ n5_ n6_; clear hb hbox hg; have hnb18 := NB471_466.out; have hnc18 := NB466_471.out; have hcz19_0 : w17.cell? ⟨gb471, 0, none⟩ = some (.string (⟨#[]⟩ : ByteArray)) := (blk_cell BK471.out 0).trans rfl; have hcz19_1 : w17.cell? ⟨gb471, 1, none⟩ = some (.int .i64 0) := (blk_cell BK471.out 1).trans rfl; have hcz19_2 : w17.cell? ⟨gb471, 2, none⟩ = some (.bool false) := (blk_cell BK471.out 2).trans rfl; have hfz19_0 := blk_frozen BK471.out 0; have hfz19_1 := blk_frozen BK471.out 1; have hfz19_2 := blk_frozen BK471.out 2; have hcz20_0 : w17.cell? ⟨gb466, 0, none⟩ = some (.string t462) := (blk_cell BK466.out 0).trans rfl; have hcz20_1 : w17.cell? ⟨gb466, 1, none⟩ = some (.int .i64 t463) := (blk_cell BK466.out 1).trans rfl; have hcz20_2 : w17.cell? ⟨gb466, 2, none⟩ = some (.bool t464) := (blk_cell BK466.out 2).trans rfl; have hfz20_0 := blk_frozen BK466.out 0; have hfz20_1 := blk_frozen BK466.out 1; have hfz20_2 := blk_frozen BK466.out 2) | ((with_reducible refine gate_callee (f := 10) rfl ?_); refine goesL_ (some 21) rfl rfl Tryz.func10 (by kernel_rfl) rfl #[.agg #[.string t462, .int .i64 t463, .bool t464], .string (⟨#[65, 110, 110, 32, 32, 66]⟩ : ByteArray), .string (⟨#[97, 110, 110, 32, 98]⟩ : ByteArray)] rfl ap3 ?_; (with_reducible refine (attr_Equal.calls k t462 t463 t464 (⟨#[65, 110, 110, 32, 32, 66]⟩ : ByteArray) (⟨#[97, 110, 110, 32, 98]⟩ : ByteArray) true t473 _ ?side1 A3.out).mono ?_); (case side1 => first | exact HG.out | (refine Gw.below HG.out ?_; repeat (first | (with_reducible first | exact HB.out | apply below_alloc | apply pw_below_drewN | apply below_drew1 | refine below_set ?_ GE466.out | refine below_set ?_ GE471.out) | exact HB.out))); rintro e w21 ⟨rfl, hb⟩; refine ⟨_, rfl, ?_⟩; have n0_ := Aside0.mk (blk_below (g := gb466) (o := .cells #[.string t462, .int .i64 t463, .bool t464] 23 (0, 0)) (by (with_reducible repeat (first | refine blk_drewN ?_ _ | refine blk_drew ?_ | refine blk_alloc ?_ _)); refine blk_far ?_ NB466_471.out _; (with_reducible repeat (first | refine blk_drewN ?_ _ | refine blk_drew ?_ | refine blk_alloc ?_ _)); refine blk_far ?_ NB466_471.out _; (with_reducible repeat (first | refine blk_drewN ?_ _ | refine blk_drew ?_ | refine blk_alloc ?_ _)); refine blk_far ?_ NB466_471.out _; (with_reducible repeat (first | refine blk_drewN ?_ _ | refine blk_drew ?_ | refine blk_alloc ?_ _)); exact BK466.out) hb); have n1_ := Aside0.mk (blk_below (g := gb471) (o := .cells #[.string t467, .int .i64 t468, .bool t469] 23 (0, 0)) (by (with_reducible repeat (first | refine blk_drewN ?_ _ | refine blk_drew ?_ | refine blk_alloc ?_ _)); refine blk_put (cs := #[.string t467, .int .i64 t468, .bool false]) ?_ 2 _ rfl; (with_reducible repeat (first | refine blk_drewN ?_ _ | refine blk_drew ?_ | refine blk_alloc ?_ _)); refine blk_put (cs := #[.string t467, .int .i64 0, .bool false]) ?_ 1 _ rfl; (with_reducible repeat (first | refine blk_drewN ?_ _ | refine blk_drew ?_ | refine blk_alloc ?_ _)); refine blk_put (cs := #[.string (⟨#[]⟩ : ByteArray), .int .i64 0, .bool false]) ?_ 0 _ rfl; (with_reducible repeat (first | refine blk_drewN ?_ _ | refine blk_drew ?_ | refine blk_alloc ?_ _)); exact BK471.out) hb); have n2_ := Aside0.mk (below_step (by repeat (first | (with_reducible first | exact HB.out | apply below_alloc | apply pw_below_drewN | apply below_drew1 | refine below_set ?_ GE466.out | refine below_set ?_ GE471.out) | exact HB.out)) hb); clear BK466; clear BK471; clear HB; have BK466 := n0_; have BK471 := n1_; have HB := n2_; clear n0_ n1_ n2_; (try clear hb); (try clear hb2); (try clear hk); (try clear hi); have hcz22_0 : w21.cell? ⟨gb471, 0, none⟩ = some (.string t467) := (blk_cell BK471.out 0).trans rfl; have hcz22_1 : w21.cell? ⟨gb471, 1, none⟩ = some (.int .i64 t468) := (blk_cell BK471.out 1).trans rfl; have hcz22_2 : w21.cell? ⟨gb471, 2, none⟩ = some (.bool t469) := (blk_cell BK471.out 2).trans rfl; have hfz22_0 := blk_frozen BK471.out 0; have hfz22_1 := blk_frozen BK471.out 1; have hfz22_2 := blk_frozen BK471.out 2) | ((with_reducible refine gate_callee (f := 12) rfl ?_); refine goesL_ (some 26) rfl rfl Tryz.func12 (by kernel_rfl) rfl #[.agg #[.string t467, .int .i64 t468, .bool t469], .string (⟨#[57]⟩ : ByteArray), .string (⟨#[49, 48]⟩ : ByteArray)] rfl ap3 ?_; (with_reducible refine (attr_Order.calls k t467 t468 t469 (⟨#[57]⟩ : ByteArray) (⟨#[49, 48]⟩ : ByteArray) t474 t475 _ ?side1 A4.out).mono ?_); (case side1 => first | exact HG.out | (refine Gw.below HG.out ?_; repeat (first | (with_reducible first | exact HB.out | apply below_alloc | apply pw_below_drewN | apply below_drew1 | refine below_set ?_ GE466.out | refine below_set ?_ GE471.out) | exact HB.out))); rintro e w23 ⟨rfl, hb⟩; refine ⟨_, rfl, ?_⟩; have n0_ := Aside0.mk (blk_below (g := gb466) (o := .cells #[.string t462, .int .i64 t463, .bool t464] 23 (0, 0)) (apB BK466.out) hb); have n1_ := Aside0.mk (blk_below (g := gb471) (o := .cells #[.string t467, .int .i64 t468, .bool t469] 23 (0, 0)) (apB BK471.out) hb); have n2_ := Aside0.mk (below_step (by repeat (first | (with_reducible first | exact HB.out | apply below_alloc | apply pw_below_drewN | apply below_drew1 | refine below_set ?_ GE466.out | refine below_set ?_ GE471.out) | exact HB.out)) hb); clear BK466; clear BK471; clear HB; have BK466 := n0_; have BK471 := n1_; have HB := n2_; clear n0_ n1_ n2_; (try clear hb); (try clear hb2); (try clear hk); (try clear hi); have hcz24_0 : w23.cell? ⟨gb466, 0, none⟩ = some (.string t462) := (blk_cell BK466.out 0).trans rfl; have hcz24_1 : w23.cell? ⟨gb466, 1, none⟩ = some (.int .i64 t463) := (blk_cell BK466.out 1).trans rfl; have hcz24_2 : w23.cell? ⟨gb466, 2, none⟩ = some (.bool t464) := (blk_cell BK466.out 2).trans rfl; have hfz24_0 := blk_frozen BK466.out 0; have hfz24_1 := blk_frozen BK466.out 1; have hfz24_2 := blk_frozen BK466.out 2) | ((with_reducible refine gate_callee (f := 14) rfl ?_); refine goesL_ (some 31) rfl rfl Tryz.func14 (by kernel_rfl) rfl #[.agg #[.string t462, .int .i64 t463, .bool t464], .string (⟨#[65, 110, 110, 97, 98, 101, 108]⟩ : ByteArray), .string (⟨#[97, 110]⟩ : ByteArray), .slice none 0 0, .string (⟨#[101, 108]⟩ : ByteArray)] rfl ap3 ?_; (refine (attr_Part.calls k t462 t463 t464 (⟨#[65, 110, 110, 97, 98, 101, 108]⟩ : ByteArray) (⟨#[97, 110]⟩ : ByteArray) _ _ ([] : List ByteArray) (⟨#[101, 108]⟩ : ByteArray) true t477 _ ?side1 ?side2 ?side3 A5.out).mono ?_); (case side1 => exact Kd.C_nil _ _); (case side2 => exact Nat.le_refl _); (case side3 => first | exact HG.out | (refine Gw.below HG.out ?_; repeat (first | (with_reducible first | exact HB.out | apply below_alloc | apply pw_below_drewN | apply below_drew1 | refine below_set ?_ GE466.out | refine below_set ?_ GE471.out) | exact HB.out))); rintro e w25 ⟨rfl, hb⟩; refine ⟨_, rfl, ?_⟩; have n0_ := Aside0.mk (blk_below (g := gb466) (o := .cells #[.string t462, .int .i64 t463, .bool t464] 23 (0, 0)) (apB BK466.out) hb); have n1_ := Aside0.mk (blk_below (g := gb471) (o := .cells #[.string t467, .int .i64 t468, .bool t469] 23 (0, 0)) (apB BK471.out) hb); have n2_ := Aside0.mk (below_step (by repeat (first | (with_reducible first | exact HB.out | apply below_alloc | apply pw_below_drewN | apply below_drew1 | refine below_set ?_ GE466.out | refine below_set ?_ GE471.out) | exact HB.out)) hb); clear BK466; clear BK471; clear HB; have BK466 := n0_; have BK471 := n1_; have HB := n2_; clear n0_ n1_ n2_; (try clear hb); (try clear hb2); (try clear hk); (try clear hi)))
        go_ret
        exact ⟨by first | rfl | (simp [errW_none, errW_some, bne_nil8, beq_nil8]; done) | (simp [errW_none, errW_some] <;> rfl) | (simp [*, errW_none, errW_some] <;> rfl), by repeat (first | (with_reducible first | exact HB.out | apply below_alloc | apply pw_below_drewN | apply below_drew1 | refine below_set ?_ GE466.out | refine below_set ?_ GE471.out) | exact HB.out)⟩
       ·
        replace c12 := Bool.eq_false_iff.mpr c12
        subst c12
        rw [if_neg (show ¬ (false = true) by decide)] at H
        obtain rfl := Option.some.inj H
        go_enter Tryz.func9, Tryz.ntmps9
        go_wp2_with (first | ((with_reducible refine gate_callee (f := 16) rfl ?_); refine goesL_ (some 12) rfl rfl Tryz.func16 (by kernel_rfl) rfl #[.string (⟨#[67, 78]⟩ : ByteArray)] rfl ap3 ?_; (with_reducible refine (attr_Find.calls (⟨#[67, 78]⟩ : ByteArray) t462 t463 t464 true _ ?side1 A1.out).mono ?_); (case side1 => exact ap6); rintro e w26 ⟨rfl, hb⟩; refine ⟨_, rfl, ?_⟩; have n0_ := Aside0.mk (below_step ap1 hb); clear HB; have HB := n0_; clear n0_; (try clear hb); (try clear hb2); (try clear hk); (try clear hi)) | ((with_reducible refine gate_dst (N := 1) rfl ?_); refine box_event ?hg (N := 1) ?hd (cs := #[.string (⟨#[]⟩ : ByteArray), .int .i64 0, .bool false]) (t := 23) ?hr ?_; (case hd => rfl); (case hg => rfl); (case hr => first | (go_simp; done) | (go_simp; rfl)); intro gb466 hg w27 hbox hb; have n0_ := Aside0.mk (below_step ap1 hb); have n1_ := Aside0.mk (hbox); have n2_ := Aside0.mk ((by rw [hg]; exact (below_size ap1) : w.heap.size ≤ gb466)); have n3_ := Aside0.mk ((by rw [hg]; exact (below_size ap1) : w.heap.size ≤ gb466)); clear HB; have HB := n0_; have BK466 := n1_; have GW466 := n2_; have GE466 := n3_; clear n0_ n1_ n2_ n3_; clear hb hbox hg; have hcz28_0 : w27.cell? ⟨gb466, 0, none⟩ = some (.string (⟨#[]⟩ : ByteArray)) := (blk_cell BK466.out 0).trans rfl; have hcz28_1 : w27.cell? ⟨gb466, 1, none⟩ = some (.int .i64 0) := (blk_cell BK466.out 1).trans rfl; have hcz28_2 : w27.cell? ⟨gb466, 2, none⟩ = some (.bool false) := (blk_cell BK466.out 2).trans rfl; have hfz28_0 := blk_frozen BK466.out 0; have hfz28_1 := blk_frozen BK466.out 1; have hfz28_2 := blk_frozen BK466.out 2) | ((with_reducible refine gate_callee (f := 16) rfl ?_); refine goesL_ (some 16) rfl rfl Tryz.func16 (by kernel_rfl) rfl #[.string (⟨#[117, 105, 100, 110, 117, 109, 98, 101, 114]⟩ : ByteArray)] rfl ap3 ?_; (with_reducible refine (attr_Find.calls (⟨#[117, 105, 100, 110, 117, 109, 98, 101, 114]⟩ : ByteArray) t467 t468 t469 true _ ?side1 A2.out).mono ?_); (case side1 => first | exact HG.out | (refine Gw.below HG.out ?_; repeat (first | (with_reducible first | exact HB.out | apply below_alloc | apply pw_below_drewN | apply below_drew1 | refine below_set ?_ GE466.out) | exact HB.out))); rintro e w29 ⟨rfl, hb⟩; refine ⟨_, rfl, ?_⟩; have n0_ := Aside0.mk (blk_below (g := gb466) (o := .cells #[.string t462, .int .i64 t463, .bool t464] 23 (0, 0)) (by (with_reducible repeat (first | refine blk_drewN ?_ _ | refine blk_drew ?_ | refine blk_alloc ?_ _)); refine blk_put (cs := #[.string t462, .int .i64 t463, .bool false]) ?_ 2 _ rfl; (with_reducible repeat (first | refine blk_drewN ?_ _ | refine blk_drew ?_ | refine blk_alloc ?_ _)); refine blk_put (cs := #[.string t462, .int .i64 0, .bool false]) ?_ 1 _ rfl; (with_reducible repeat (first | refine blk_drewN ?_ _ | refine blk_drew ?_ | refine blk_alloc ?_ _)); refine blk_put (cs := #[.string (⟨#[]⟩ : ByteArray), .int .i64 0, .bool false]) ?_ 0 _ rfl; (with_reducible repeat (first | refine blk_drewN ?_ _ | refine blk_drew ?_ | refine blk_alloc ?_ _)); exact BK466.out) hb); have n1_ := Aside0.mk (below_step (apG GE466.out) hb); clear BK466; clear HB; have BK466 := n0_; have HB := n1_; clear n0_ n1_; (try clear hb); (try clear hb2); (try clear hk); (try clear hi)) | ((with_reducible refine gate_dst (N := 3) rfl ?_); refine box_event ?hg (N := 3) ?hd (cs := #[.string (⟨#[]⟩ : ByteArray), .int .i64 0, .bool false]) (t := 23) ?hr ?_; (case hd => rfl); (case hg => rfl); (case hr => first | (go_simp; done) | (go_simp; rfl)); intro gb471 hg w30 hbox hb; have n0_ := Aside0.mk (blk_below (g := gb466) (o := .cells #[.string t462, .int .i64 t463, .bool t464] 23 (0, 0)) (apB BK466.out) hb); have n1_ := Aside0.mk (below_step (apG GE466.out) hb); have n2_ := Aside0.mk (hbox); have n3_ := Aside0.mk ((by rw [hg]; exact (below_size (apG GE466.out)) : w.heap.size ≤ gb471)); have n4_ := Aside0.mk ((by rw [hg]; exact (below_size (apG GE466.out)) : w.heap.size ≤ gb471)); have n5_ := Aside0.mk ((by rw [hg]; exact Nat.ne_of_lt (blk_lt (g := gb466) (o := .cells #[.string t462, .int .i64 t463, .bool t464] 23 (0, 0)) (apB BK466.out)) : gb466 ≠ gb471)); have n6_ := Aside0.mk ((by rw [hg]; exact Nat.ne_of_gt (blk_lt (g := gb466) (o := .cells #[.string t462, .int .i64 t463, .bool t464] 23 (0, 0)) (apB BK466.out)) : gb471 ≠ gb466)); clear BK466; clear HB; have BK466 := n0_; have HB := n1_; have BK471 := n2_; have GW471 := n3_; have GE471 := n4_; have NB466_471 := n5_; have NB471_466 := n6_; clear n0_ n1_ n2_ n3_ n4_ n5_ n6_; clear hb hbox hg; have hnb31 := NB471_466.out; have hnc31 := NB466_471.out; have hcz32_0 : w30.cell? ⟨gb471, 0, none⟩ = some (.string (⟨#[]⟩ : ByteArray)) := (blk_cell BK471.out 0).trans rfl; have hcz32_1 : w30.cell? ⟨gb471, 1, none⟩ = some (.int .i64 0) := (blk_cell BK471.out 1).trans rfl; have hcz32_2 : w30.cell? ⟨gb471, 2, none⟩ = some (.bool false) := (blk_cell BK471.out 2).trans rfl; have hfz32_0 := blk_frozen BK471.out 0; have hfz32_1 := blk_frozen BK471.out 1; have hfz32_2 := blk_frozen BK471.out 2; have hcz33_0 : w30.cell? ⟨gb466, 0, none⟩ = some (.string t462) := (blk_cell BK466.out 0).trans rfl; have hcz33_1 : w30.cell? ⟨gb466, 1, none⟩ = some (.int .i64 t463) := (blk_cell BK466.out 1).trans rfl; have hcz33_2 : w30.cell? ⟨gb466, 2, none⟩ = some (.bool t464) := (blk_cell BK466.out 2).trans rfl; have hfz33_0 := blk_frozen BK466.out 0; have hfz33_1 := blk_frozen BK466.out 1; have hfz33_2 := blk_frozen BK466.out 2) | ((with_reducible refine gate_callee (f := 10) rfl ?_); refine goesL_ (some 21) rfl rfl Tryz.func10 (by kernel_rfl) rfl #[.agg #[.string t462, .int .i64 t463, .bool t464], .string (⟨#[65, 110, 110, 32, 32, 66]⟩ : ByteArray), .string (⟨#[97, 110, 110, 32, 98]⟩ : ByteArray)] rfl ap3 ?_; (with_reducible refine (attr_Equal.calls k t462 t463 t464 (⟨#[65, 110, 110, 32, 32, 66]⟩ : ByteArray) (⟨#[97, 110, 110, 32, 98]⟩ : ByteArray) true t473 _ ?side1 A3.out).mono ?_); (case side1 => first | exact HG.out | (refine Gw.below HG.out ?_; repeat (first | (with_reducible first | exact HB.out | apply below_alloc | apply pw_below_drewN | apply below_drew1 | refine below_set ?_ GE466.out | refine below_set ?_ GE471.out) | exact HB.out))); rintro e w34 ⟨rfl, hb⟩; refine ⟨_, rfl, ?_⟩; have n0_ := Aside0.mk (blk_below (g := gb466) (o := .cells #[.string t462, .int .i64 t463, .bool t464] 23 (0, 0)) (by (with_reducible repeat (first | refine blk_drewN ?_ _ | refine blk_drew ?_ | refine blk_alloc ?_ _)); refine blk_far ?_ NB466_471.out _; (with_reducible repeat (first | refine blk_drewN ?_ _ | refine blk_drew ?_ | refine blk_alloc ?_ _)); refine blk_far ?_ NB466_471.out _; (with_reducible repeat (first | refine blk_drewN ?_ _ | refine blk_drew ?_ | refine blk_alloc ?_ _)); refine blk_far ?_ NB466_471.out _; (with_reducible repeat (first | refine blk_drewN ?_ _ | refine blk_drew ?_ | refine blk_alloc ?_ _)); exact BK466.out) hb); have n1_ := Aside0.mk (blk_below (g := gb471) (o := .cells #[.string t467, .int .i64 t468, .bool t469] 23 (0, 0)) (by (with_reducible repeat (first | refine blk_drewN ?_ _ | refine blk_drew ?_ | refine blk_alloc ?_ _)); refine blk_put (cs := #[.string t467, .int .i64 t468, .bool false]) ?_ 2 _ rfl; (with_reducible repeat (first | refine blk_drewN ?_ _ | refine blk_drew ?_ | refine blk_alloc ?_ _)); refine blk_put (cs := #[.string t467, .int .i64 0, .bool false]) ?_ 1 _ rfl; (with_reducible repeat (first | refine blk_drewN ?_ _ | refine blk_drew ?_ | refine blk_alloc ?_ _)); refine blk_put (cs := #[.string (⟨#[]⟩ : ByteArray), .int .i64 0, .bool false]) ?_ 0 _ rfl; (with_reducible repeat (first | refine blk_drewN ?_ _ | refine blk_drew ?_ | refine blk_alloc ?_ _)); exact BK471.out) hb); have n2_ := Aside0.mk (below_step (by repeat (first | (with_reducible first | exact HB.out | apply below_alloc | apply pw_below_drewN | apply below_drew1 | refine below_set ?_ GE466.out | refine below_set ?_ GE471.out) | exact HB.out)) hb); clear BK466; clear BK471; clear HB; have BK466 := n0_; have BK471 := n1_; have HB := n2_; clear n0_ n1_ n2_; (try clear hb); (try clear hb2); (try clear hk); (try clear hi); have hcz35_0 : w34.cell? ⟨gb471, 0, none⟩ = some (.string t467) := (blk_cell BK471.out 0).trans rfl; have hcz35_1 : w34.cell? ⟨gb471, 1, none⟩ = some (.int .i64 t468) := (blk_cell BK471.out 1).trans rfl; have hcz35_2 : w34.cell? ⟨gb471, 2, none⟩ = some (.bool t469) := (blk_cell BK471.out 2).trans rfl; have hfz35_0 := blk_frozen BK471.out 0; have hfz35_1 := blk_frozen BK471.out 1; have hfz35_2 := blk_frozen BK471.out 2) | ((with_reducible refine gate_callee (f := 12) rfl ?_); refine goesL_ (some 26) rfl rfl Tryz.func12 (by kernel_rfl) rfl #[.agg #[.string t467, .int .i64 t468, .bool t469], .string (⟨#[57]⟩ : ByteArray), .string (⟨#[49, 48]⟩ : ByteArray)] rfl ap3 ?_; (with_reducible refine (attr_Order.calls k t467 t468 t469 (⟨#[57]⟩ : ByteArray) (⟨#[49, 48]⟩ : ByteArray) t474 t475 _ ?side1 A4.out).mono ?_); (case side1 => first | exact HG.out | (refine Gw.below HG.out ?_; repeat (first | (with_reducible first | exact HB.out | apply below_alloc | apply pw_below_drewN | apply below_drew1 | refine below_set ?_ GE466.out | refine below_set ?_ GE471.out) | exact HB.out))); rintro e w36 ⟨rfl, hb⟩; refine ⟨_, rfl, ?_⟩; have n0_ := Aside0.mk (blk_below (g := gb466) (o := .cells #[.string t462, .int .i64 t463, .bool t464] 23 (0, 0)) (apB BK466.out) hb); have n1_ := Aside0.mk (blk_below (g := gb471) (o := .cells #[.string t467, .int .i64 t468, .bool t469] 23 (0, 0)) (apB BK471.out) hb); have n2_ := Aside0.mk (below_step (by repeat (first | (with_reducible first | exact HB.out | apply below_alloc | apply pw_below_drewN | apply below_drew1 | refine below_set ?_ GE466.out | refine below_set ?_ GE471.out) | exact HB.out)) hb); clear BK466; clear BK471; clear HB; have BK466 := n0_; have BK471 := n1_; have HB := n2_; clear n0_ n1_ n2_; (try clear hb); (try clear hb2); (try clear hk); (try clear hi); have hcz37_0 : w36.cell? ⟨gb466, 0, none⟩ = some (.string t462) := (blk_cell BK466.out 0).trans rfl; have hcz37_1 : w36.cell? ⟨gb466, 1, none⟩ = some (.int .i64 t463) := (blk_cell BK466.out 1).trans rfl; have hcz37_2 : w36.cell? ⟨gb466, 2, none⟩ = some (.bool t464) := (blk_cell BK466.out 2).trans rfl; have hfz37_0 := blk_frozen BK466.out 0; have hfz37_1 := blk_frozen BK466.out 1; have hfz37_2 := blk_frozen BK466.out 2) | ((with_reducible refine gate_callee (f := 14) rfl ?_); refine goesL_ (some 31) rfl rfl Tryz.func14 (by kernel_rfl) rfl #[.agg #[.string t462, .int .i64 t463, .bool t464], .string (⟨#[65, 110, 110, 97, 98, 101, 108]⟩ : ByteArray), .string (⟨#[97, 110]⟩ : ByteArray), .slice none 0 0, .string (⟨#[101, 108]⟩ : ByteArray)] rfl ap3 ?_; (refine (attr_Part.calls k t462 t463 t464 (⟨#[65, 110, 110, 97, 98, 101, 108]⟩ : ByteArray) (⟨#[97, 110]⟩ : ByteArray) _ _ ([] : List ByteArray) (⟨#[101, 108]⟩ : ByteArray) false t477 _ ?side1 ?side2 ?side3 A5.out).mono ?_); (case side1 => exact Kd.C_nil _ _); (case side2 => exact Nat.le_refl _); (case side3 => first | exact HG.out | (refine Gw.below HG.out ?_; repeat (first | (with_reducible first | exact HB.out | apply below_alloc | apply pw_below_drewN | apply below_drew1 | refine below_set ?_ GE466.out | refine below_set ?_ GE471.out) | exact HB.out))); rintro e w38 ⟨rfl, hb⟩; refine ⟨_, rfl, ?_⟩; have n0_ := Aside0.mk (blk_below (g := gb466) (o := .cells #[.string t462, .int .i64 t463, .bool t464] 23 (0, 0)) (apB BK466.out) hb); have n1_ := Aside0.mk (blk_below (g := gb471) (o := .cells #[.string t467, .int .i64 t468, .bool t469] 23 (0, 0)) (apB BK471.out) hb); have n2_ := Aside0.mk (below_step (by repeat (first | (with_reducible first | exact HB.out | apply below_alloc | apply pw_below_drewN | apply below_drew1 | refine below_set ?_ GE466.out | refine below_set ?_ GE471.out) | exact HB.out)) hb); clear BK466; clear BK471; clear HB; have BK466 := n0_; have BK471 := n1_; have HB := n2_; clear n0_ n1_ n2_; (try clear hb); (try clear hb2); (try clear hk); (try clear hi)))
        go_ret
        exact ⟨by first | rfl | (simp [errW_none, errW_some, bne_nil8, beq_nil8]; done) | (simp [errW_none, errW_some] <;> rfl) | (simp [*, errW_none, errW_some] <;> rfl), by repeat (first | (with_reducible first | exact HB.out | apply below_alloc | apply pw_below_drewN | apply below_drew1 | refine below_set ?_ GE466.out | refine below_set ?_ GE471.out) | exact HB.out)⟩
      ·
       rw [if_neg c11] at H
       have c11b0 : (t475 == 0) = false := beq_eq_false_iff_ne.mpr c11
       have c11b1 : (t475 != 0) = true := bne_iff_ne.mpr c11
       obtain rfl := Option.some.inj H
       go_enter Tryz.func9, Tryz.ntmps9
       go_wp2_with (first | ((with_reducible refine gate_callee (f := 16) rfl ?_); refine goesL_ (some 12) rfl rfl Tryz.func16 (by kernel_rfl) rfl #[.string (⟨#[67, 78]⟩ : ByteArray)] rfl ap3 ?_; (with_reducible refine (attr_Find.calls (⟨#[67, 78]⟩ : ByteArray) t462 t463 t464 true _ ?side1 A1.out).mono ?_); (case side1 => exact ap6); rintro e w39 ⟨rfl, hb⟩; refine ⟨_, rfl, ?_⟩; have n0_ := Aside0.mk (below_step ap1 hb); clear HB; have HB := n0_; clear n0_; (try clear hb); (try clear hb2); (try clear hk); (try clear hi)) | ((with_reducible refine gate_dst (N := 1) rfl ?_); refine box_event ?hg (N := 1) ?hd (cs := #[.string (⟨#[]⟩ : ByteArray), .int .i64 0, .bool false]) (t := 23) ?hr ?_; (case hd => rfl); (case hg => rfl); (case hr => first | (go_simp; done) | (go_simp; rfl)); intro gb466 hg w40 hbox hb; have n0_ := Aside0.mk (below_step ap1 hb); have n1_ := Aside0.mk (hbox); have n2_ := Aside0.mk ((by rw [hg]; exact (below_size ap1) : w.heap.size ≤ gb466)); have n3_ := Aside0.mk ((by rw [hg]; exact (below_size ap1) : w.heap.size ≤ gb466)); clear HB; have HB := n0_; have BK466 := n1_; have GW466 := n2_; have GE466 := n3_; clear n0_ n1_ n2_ n3_; clear hb hbox hg; have hcz41_0 : w40.cell? ⟨gb466, 0, none⟩ = some (.string (⟨#[]⟩ : ByteArray)) := (blk_cell BK466.out 0).trans rfl; have hcz41_1 : w40.cell? ⟨gb466, 1, none⟩ = some (.int .i64 0) := (blk_cell BK466.out 1).trans rfl; have hcz41_2 : w40.cell? ⟨gb466, 2, none⟩ = some (.bool false) := (blk_cell BK466.out 2).trans rfl; have hfz41_0 := blk_frozen BK466.out 0; have hfz41_1 := blk_frozen BK466.out 1; have hfz41_2 := blk_frozen BK466.out 2) | ((with_reducible refine gate_callee (f := 16) rfl ?_); refine goesL_ (some 16) rfl rfl Tryz.func16 (by kernel_rfl) rfl #[.string (⟨#[117, 105, 100, 110, 117, 109, 98, 101, 114]⟩ : ByteArray)] rfl ap3 ?_; (with_reducible refine (attr_Find.calls (⟨#[117, 105, 100, 110, 117, 109, 98, 101, 114]⟩ : ByteArray) t467 t468 t469 true _ ?side1 A2.out).mono ?_); (case side1 => first | exact HG.out | (refine Gw.below HG.out ?_; repeat (first | (with_reducible first | exact HB.out | apply below_alloc | apply pw_below_drewN | apply below_drew1 | refine below_set ?_ GE466.out) | exact HB.out))); rintro e w42 ⟨rfl, hb⟩; refine ⟨_, rfl, ?_⟩; have n0_ := Aside0.mk (blk_below (g := gb466) (o := .cells #[.string t462, .int .i64 t463, .bool t464] 23 (0, 0)) (by (with_reducible repeat (first | refine blk_drewN ?_ _ | refine blk_drew ?_ | refine blk_alloc ?_ _)); refine blk_put (cs := #[.string t462, .int .i64 t463, .bool false]) ?_ 2 _ rfl; (with_reducible repeat (first | refine blk_drewN ?_ _ | refine blk_drew ?_ | refine blk_alloc ?_ _)); refine blk_put (cs := #[.string t462, .int .i64 0, .bool false]) ?_ 1 _ rfl; (with_reducible repeat (first | refine blk_drewN ?_ _ | refine blk_drew ?_ | refine blk_alloc ?_ _)); refine blk_put (cs := #[.string (⟨#[]⟩ : ByteArray), .int .i64 0, .bool false]) ?_ 0 _ rfl; (with_reducible repeat (first | refine blk_drewN ?_ _ | refine blk_drew ?_ | refine blk_alloc ?_ _)); exact BK466.out) hb); have n1_ := Aside0.mk (below_step (apG GE466.out) hb); clear BK466; clear HB; have BK466 := n0_; have HB := n1_; clear n0_ n1_; (try clear hb); (try clear hb2); (try clear hk); (try clear hi)) | ((with_reducible refine gate_dst (N := 3) rfl ?_); refine box_event ?hg (N := 3) ?hd (cs := #[.string (⟨#[]⟩ : ByteArray), .int .i64 0, .bool false]) (t := 23) ?hr ?_; (case hd => rfl); (case hg => rfl); (case hr => first | (go_simp; done) | (go_simp; rfl)); intro gb471 hg w43 hbox hb; have n0_ := Aside0.mk (blk_below (g := gb466) (o := .cells #[.string t462, .int .i64 t463, .bool t464] 23 (0, 0)) (apB BK466.out) hb); have n1_ := Aside0.mk (below_step (apG GE466.out) hb); have n2_ := Aside0.mk (hbox); have n3_ := Aside0.mk ((by rw [hg]; exact (below_size (apG GE466.out)) : w.heap.size ≤ gb471)); have n4_ := Aside0.mk ((by rw [hg]; exact (below_size (apG GE466.out)) : w.heap.size ≤ gb471)); have n5_ := Aside0.mk ((by rw [hg]; exact Nat.ne_of_lt (blk_lt (g := gb466) (o := .cells #[.string t462, .int .i64 t463, .bool t464] 23 (0, 0)) (apB BK466.out)) : gb466 ≠ gb471)); have n6_ := Aside0.mk ((by rw [hg]; exact Nat.ne_of_gt (blk_lt (g := gb466) (o := .cells #[.string t462, .int .i64 t463, .bool t464] 23 (0, 0)) (apB BK466.out)) : gb471 ≠ gb466)); clear BK466; clear HB; have BK466 := n0_; have HB := n1_; have BK471 := n2_; have GW471 := n3_; have GE471 := n4_; have NB466_471 := n5_; have NB471_466 := n6_; clear n0_ n1_ n2_ n3_ n4_ n5_ n6_; clear hb hbox hg; have hnb44 := NB471_466.out; have hnc44 := NB466_471.out; have hcz45_0 : w43.cell? ⟨gb471, 0, none⟩ = some (.string (⟨#[]⟩ : ByteArray)) := (blk_cell BK471.out 0).trans rfl; have hcz45_1 : w43.cell? ⟨gb471, 1, none⟩ = some (.int .i64 0) := (blk_cell BK471.out 1).trans rfl; have hcz45_2 : w43.cell? ⟨gb471, 2, none⟩ = some (.bool false) := (blk_cell BK471.out 2).trans rfl; have hfz45_0 := blk_frozen BK471.out 0; have hfz45_1 := blk_frozen BK471.out 1; have hfz45_2 := blk_frozen BK471.out 2; have hcz46_0 : w43.cell? ⟨gb466, 0, none⟩ = some (.string t462) := (blk_cell BK466.out 0).trans rfl; have hcz46_1 : w43.cell? ⟨gb466, 1, none⟩ = some (.int .i64 t463) := (blk_cell BK466.out 1).trans rfl; have hcz46_2 : w43.cell? ⟨gb466, 2, none⟩ = some (.bool t464) := (blk_cell BK466.out 2).trans rfl; have hfz46_0 := blk_frozen BK466.out 0; have hfz46_1 := blk_frozen BK466.out 1; have hfz46_2 := blk_frozen BK466.out 2) | ((with_reducible refine gate_callee (f := 10) rfl ?_); refine goesL_ (some 21) rfl rfl Tryz.func10 (by kernel_rfl) rfl #[.agg #[.string t462, .int .i64 t463, .bool t464], .string (⟨#[65, 110, 110, 32, 32, 66]⟩ : ByteArray), .string (⟨#[97, 110, 110, 32, 98]⟩ : ByteArray)] rfl ap3 ?_; (with_reducible refine (attr_Equal.calls k t462 t463 t464 (⟨#[65, 110, 110, 32, 32, 66]⟩ : ByteArray) (⟨#[97, 110, 110, 32, 98]⟩ : ByteArray) true t473 _ ?side1 A3.out).mono ?_); (case side1 => first | exact HG.out | (refine Gw.below HG.out ?_; repeat (first | (with_reducible first | exact HB.out | apply below_alloc | apply pw_below_drewN | apply below_drew1 | refine below_set ?_ GE466.out | refine below_set ?_ GE471.out) | exact HB.out))); rintro e w47 ⟨rfl, hb⟩; refine ⟨_, rfl, ?_⟩; have n0_ := Aside0.mk (blk_below (g := gb466) (o := .cells #[.string t462, .int .i64 t463, .bool t464] 23 (0, 0)) (by (with_reducible repeat (first | refine blk_drewN ?_ _ | refine blk_drew ?_ | refine blk_alloc ?_ _)); refine blk_far ?_ NB466_471.out _; (with_reducible repeat (first | refine blk_drewN ?_ _ | refine blk_drew ?_ | refine blk_alloc ?_ _)); refine blk_far ?_ NB466_471.out _; (with_reducible repeat (first | refine blk_drewN ?_ _ | refine blk_drew ?_ | refine blk_alloc ?_ _)); refine blk_far ?_ NB466_471.out _; (with_reducible repeat (first | refine blk_drewN ?_ _ | refine blk_drew ?_ | refine blk_alloc ?_ _)); exact BK466.out) hb); have n1_ := Aside0.mk (blk_below (g := gb471) (o := .cells #[.string t467, .int .i64 t468, .bool t469] 23 (0, 0)) (by (with_reducible repeat (first | refine blk_drewN ?_ _ | refine blk_drew ?_ | refine blk_alloc ?_ _)); refine blk_put (cs := #[.string t467, .int .i64 t468, .bool false]) ?_ 2 _ rfl; (with_reducible repeat (first | refine blk_drewN ?_ _ | refine blk_drew ?_ | refine blk_alloc ?_ _)); refine blk_put (cs := #[.string t467, .int .i64 0, .bool false]) ?_ 1 _ rfl; (with_reducible repeat (first | refine blk_drewN ?_ _ | refine blk_drew ?_ | refine blk_alloc ?_ _)); refine blk_put (cs := #[.string (⟨#[]⟩ : ByteArray), .int .i64 0, .bool false]) ?_ 0 _ rfl; (with_reducible repeat (first | refine blk_drewN ?_ _ | refine blk_drew ?_ | refine blk_alloc ?_ _)); exact BK471.out) hb); have n2_ := Aside0.mk (below_step (by repeat (first | (with_reducible first | exact HB.out | apply below_alloc | apply pw_below_drewN | apply below_drew1 | refine below_set ?_ GE466.out | refine below_set ?_ GE471.out) | exact HB.out)) hb); clear BK466; clear BK471; clear HB; have BK466 := n0_; have BK471 := n1_; have HB := n2_; clear n0_ n1_ n2_; (try clear hb); (try clear hb2); (try clear hk); (try clear hi); have hcz48_0 : w47.cell? ⟨gb471, 0, none⟩ = some (.string t467) := (blk_cell BK471.out 0).trans rfl; have hcz48_1 : w47.cell? ⟨gb471, 1, none⟩ = some (.int .i64 t468) := (blk_cell BK471.out 1).trans rfl; have hcz48_2 : w47.cell? ⟨gb471, 2, none⟩ = some (.bool t469) := (blk_cell BK471.out 2).trans rfl; have hfz48_0 := blk_frozen BK471.out 0; have hfz48_1 := blk_frozen BK471.out 1; have hfz48_2 := blk_frozen BK471.out 2) | ((with_reducible refine gate_callee (f := 12) rfl ?_); refine goesL_ (some 26) rfl rfl Tryz.func12 (by kernel_rfl) rfl #[.agg #[.string t467, .int .i64 t468, .bool t469], .string (⟨#[57]⟩ : ByteArray), .string (⟨#[49, 48]⟩ : ByteArray)] rfl ap3 ?_; (with_reducible refine (attr_Order.calls k t467 t468 t469 (⟨#[57]⟩ : ByteArray) (⟨#[49, 48]⟩ : ByteArray) t474 t475 _ ?side1 A4.out).mono ?_); (case side1 => first | exact HG.out | (refine Gw.below HG.out ?_; repeat (first | (with_reducible first | exact HB.out | apply below_alloc | apply pw_below_drewN | apply below_drew1 | refine below_set ?_ GE466.out | refine below_set ?_ GE471.out) | exact HB.out))); rintro e w49 ⟨rfl, hb⟩; refine ⟨_, rfl, ?_⟩; have n0_ := Aside0.mk (blk_below (g := gb466) (o := .cells #[.string t462, .int .i64 t463, .bool t464] 23 (0, 0)) (apB BK466.out) hb); have n1_ := Aside0.mk (blk_below (g := gb471) (o := .cells #[.string t467, .int .i64 t468, .bool t469] 23 (0, 0)) (apB BK471.out) hb); have n2_ := Aside0.mk (below_step (by repeat (first | (with_reducible first | exact HB.out | apply below_alloc | apply pw_below_drewN | apply below_drew1 | refine below_set ?_ GE466.out | refine below_set ?_ GE471.out) | exact HB.out)) hb); clear BK466; clear BK471; clear HB; have BK466 := n0_; have BK471 := n1_; have HB := n2_; clear n0_ n1_ n2_; (try clear hb); (try clear hb2); (try clear hk); (try clear hi); have hcz50_0 : w49.cell? ⟨gb466, 0, none⟩ = some (.string t462) := (blk_cell BK466.out 0).trans rfl; have hcz50_1 : w49.cell? ⟨gb466, 1, none⟩ = some (.int .i64 t463) := (blk_cell BK466.out 1).trans rfl; have hcz50_2 : w49.cell? ⟨gb466, 2, none⟩ = some (.bool t464) := (blk_cell BK466.out 2).trans rfl; have hfz50_0 := blk_frozen BK466.out 0; have hfz50_1 := blk_frozen BK466.out 1; have hfz50_2 := blk_frozen BK466.out 2) | ((with_reducible refine gate_callee (f := 14) rfl ?_); refine goesL_ (some 31) rfl rfl Tryz.func14 (by kernel_rfl) rfl #[.agg #[.string t462, .int .i64 t463, .bool t464], .string (⟨#[65, 110, 110, 97, 98, 101, 108]⟩ : ByteArray), .string (⟨#[97, 110]⟩ : ByteArray), .slice none 0 0, .string (⟨#[101, 108]⟩ : ByteArray)] rfl ap3 ?_; (refine (attr_Part.calls k t462 t463 t464 (⟨#[65, 110, 110, 97, 98, 101, 108]⟩ : ByteArray) (⟨#[97, 110]⟩ : ByteArray) _ _ ([] : List ByteArray) (⟨#[101, 108]⟩ : ByteArray) t476 t477 _ ?side1 ?side2 ?side3 A5.out).mono ?_); (case side1 => exact Kd.C_nil _ _); (case side2 => exact Nat.le_refl _); (case side3 => first | exact HG.out | (refine Gw.below HG.out ?_; repeat (first | (with_reducible first | exact HB.out | apply below_alloc | apply pw_below_drewN | apply below_drew1 | refine below_set ?_ GE466.out | refine below_set ?_ GE471.out) | exact HB.out))); rintro e w51 ⟨rfl, hb⟩; refine ⟨_, rfl, ?_⟩; have n0_ := Aside0.mk (blk_below (g := gb466) (o := .cells #[.string t462, .int .i64 t463, .bool t464] 23 (0, 0)) (apB BK466.out) hb); have n1_ := Aside0.mk (blk_below (g := gb471) (o := .cells #[.string t467, .int .i64 t468, .bool t469] 23 (0, 0)) (apB BK471.out) hb); have n2_ := Aside0.mk (below_step (by repeat (first | (with_reducible first | exact HB.out | apply below_alloc | apply pw_below_drewN | apply below_drew1 | refine below_set ?_ GE466.out | refine below_set ?_ GE471.out) | exact HB.out)) hb); clear BK466; clear BK471; clear HB; have BK466 := n0_; have BK471 := n1_; have HB := n2_; clear n0_ n1_ n2_; (try clear hb); (try clear hb2); (try clear hk); (try clear hi)))
       go_ret
       exact ⟨by first | rfl | (simp [errW_none, errW_some, bne_nil8, beq_nil8]; done) | (simp [errW_none, errW_some] <;> rfl) | (simp [*, errW_none, errW_some] <;> rfl), by repeat (first | (with_reducible first | exact HB.out | apply below_alloc | apply pw_below_drewN | apply below_drew1 | refine below_set ?_ GE466.out | refine below_set ?_ GE471.out) | exact HB.out)⟩
     ·
      rw [if_neg c10] at H
      have c10b0 : (t474 == (-1)) = false := beq_eq_false_iff_ne.mpr c10
      have c10b1 : (t474 != (-1)) = true := bne_iff_ne.mpr c10
      obtain rfl := Option.some.inj H
      go_enter Tryz.func9, Tryz.ntmps9
      go_wp2_with (first | ((with_reducible refine gate_callee (f := 16) rfl ?_); refine goesL_ (some 12) rfl rfl Tryz.func16 (by kernel_rfl) rfl #[.string (⟨#[67, 78]⟩ : ByteArray)] rfl ap3 ?_; (with_reducible refine (attr_Find.calls (⟨#[67, 78]⟩ : ByteArray) t462 t463 t464 true _ ?side1 A1.out).mono ?_); (case side1 => exact ap6); rintro e w52 ⟨rfl, hb⟩; refine ⟨_, rfl, ?_⟩; have n0_ := Aside0.mk (below_step ap1 hb); clear HB; have HB := n0_; clear n0_; (try clear hb); (try clear hb2); (try clear hk); (try clear hi)) | ((with_reducible refine gate_dst (N := 1) rfl ?_); refine box_event ?hg (N := 1) ?hd (cs := #[.string (⟨#[]⟩ : ByteArray), .int .i64 0, .bool false]) (t := 23) ?hr ?_; (case hd => rfl); (case hg => rfl); (case hr => first | (go_simp; done) | (go_simp; rfl)); intro gb466 hg w53 hbox hb; have n0_ := Aside0.mk (below_step ap1 hb); have n1_ := Aside0.mk (hbox); have n2_ := Aside0.mk ((by rw [hg]; exact (below_size ap1) : w.heap.size ≤ gb466)); have n3_ := Aside0.mk ((by rw [hg]; exact (below_size ap1) : w.heap.size ≤ gb466)); clear HB; have HB := n0_; have BK466 := n1_; have GW466 := n2_; have GE466 := n3_; clear n0_ n1_ n2_ n3_; clear hb hbox hg; have hcz54_0 : w53.cell? ⟨gb466, 0, none⟩ = some (.string (⟨#[]⟩ : ByteArray)) := (blk_cell BK466.out 0).trans rfl; have hcz54_1 : w53.cell? ⟨gb466, 1, none⟩ = some (.int .i64 0) := (blk_cell BK466.out 1).trans rfl; have hcz54_2 : w53.cell? ⟨gb466, 2, none⟩ = some (.bool false) := (blk_cell BK466.out 2).trans rfl; have hfz54_0 := blk_frozen BK466.out 0; have hfz54_1 := blk_frozen BK466.out 1; have hfz54_2 := blk_frozen BK466.out 2) | ((with_reducible refine gate_callee (f := 16) rfl ?_); refine goesL_ (some 16) rfl rfl Tryz.func16 (by kernel_rfl) rfl #[.string (⟨#[117, 105, 100, 110, 117, 109, 98, 101, 114]⟩ : ByteArray)] rfl ap3 ?_; (with_reducible refine (attr_Find.calls (⟨#[117, 105, 100, 110, 117, 109, 98, 101, 114]⟩ : ByteArray) t467 t468 t469 true _ ?side1 A2.out).mono ?_); (case side1 => first | exact HG.out | (refine Gw.below HG.out ?_; repeat (first | (with_reducible first | exact HB.out | apply below_alloc | apply pw_below_drewN | apply below_drew1 | refine below_set ?_ GE466.out) | exact HB.out))); rintro e w55 ⟨rfl, hb⟩; refine ⟨_, rfl, ?_⟩; have n0_ := Aside0.mk (blk_below (g := gb466) (o := .cells #[.string t462, .int .i64 t463, .bool t464] 23 (0, 0)) (by (with_reducible repeat (first | refine blk_drewN ?_ _ | refine blk_drew ?_ | refine blk_alloc ?_ _)); refine blk_put (cs := #[.string t462, .int .i64 t463, .bool false]) ?_ 2 _ rfl; (with_reducible repeat (first | refine blk_drewN ?_ _ | refine blk_drew ?_ | refine blk_alloc ?_ _)); refine blk_put (cs := #[.string t462, .int .i64 0, .bool false]) ?_ 1 _ rfl; (with_reducible repeat (first | refine blk_drewN ?_ _ | refine blk_drew ?_ | refine blk_alloc ?_ _)); refine blk_put (cs := #[.string (⟨#[]⟩ : ByteArray), .int .i64 0, .bool false]) ?_ 0 _ rfl; (with_reducible repeat (first | refine blk_drewN ?_ _ | refine blk_drew ?_ | refine blk_alloc ?_ _)); exact BK466.out) hb); have n1_ := Aside0.mk (below_step (apG GE466.out) hb); clear BK466; clear HB; have BK466 := n0_; have HB := n1_; clear n0_ n1_; (try clear hb); (try clear hb2); (try clear hk); (try clear hi)) | ((with_reducible refine gate_dst (N := 3) rfl ?_); refine box_event ?hg (N := 3) ?hd (cs := #[.string (⟨#[]⟩ : ByteArray), .int .i64 0, .bool false]) (t := 23) ?hr ?_; (case hd => rfl); (case hg => rfl); (case hr => first | (go_simp; done) | (go_simp; rfl)); intro gb471 hg w56 hbox hb; have n0_ := Aside0.mk (blk_below (g := gb466) (o := .cells #[.string t462, .int .i64 t463, .bool t464] 23 (0, 0)) (apB BK466.out) hb); have n1_ := Aside0.mk (below_step (apG GE466.out) hb); have n2_ := Aside0.mk (hbox); have n3_ := Aside0.mk ((by rw [hg]; exact (below_size (apG GE466.out)) : w.heap.size ≤ gb471)); have n4_ := Aside0.mk ((by rw [hg]; exact (below_size (apG GE466.out)) : w.heap.size ≤ gb471)); have n5_ := Aside0.mk ((by rw [hg]; exact Nat.ne_of_lt (blk_lt (g := gb466) (o := .cells #[.string t462, .int .i64 t463, .bool t464] 23 (0, 0)) (apB BK466.out)) : gb466 ≠ gb471)); have n6_ := Aside0.mk ((by rw [hg]; exact Nat.ne_of_gt (blk_lt (g := gb466) (o := .cells #[.string t462, .int .i64 t463, .bool t464] 23 (0, 0)) (apB BK466.out)) : gb471 ≠ gb466)); clear BK466; clear HB; have BK466 := n0_; have HB := n1_; have BK471 := n2_; have GW471 := n3_; have GE471 := n4_; have NB466_471 := n5_; have NB471_466 := n6_; clear n0_ n1_ n2_ n3_ n4_ n5_ n6_; clear hb hbox hg; have hnb57 := NB471_466.out; have hnc57 := NB466_471.out; have hcz58_0 : w56.cell? ⟨gb471, 0, none⟩ = some (.string (⟨#[]⟩ : ByteArray)) := (blk_cell BK471.out 0).trans rfl; have hcz58_1 : w56.cell? ⟨gb471, 1, none⟩ = some (.int .i64 0) := (blk_cell BK471.out 1).trans rfl; have hcz58_2 : w56.cell? ⟨gb471, 2, none⟩ = some (.bool false) := (blk_cell BK471.out 2).trans rfl; have hfz58_0 := blk_frozen BK471.out 0; have hfz58_1 := blk_frozen BK471.out 1; have hfz58_2 := blk_frozen BK471.out 2; have hcz59_0 : w56.cell? ⟨gb466, 0, none⟩ = some (.string t462) := (blk_cell BK466.out 0).trans rfl; have hcz59_1 : w56.cell? ⟨gb466, 1, none⟩ = some (.int .i64 t463) := (blk_cell BK466.out 1).trans rfl; have hcz59_2 : w56.cell? ⟨gb466, 2, none⟩ = some (.bool t464) := (blk_cell BK466.out 2).trans rfl; have hfz59_0 := blk_frozen BK466.out 0; have hfz59_1 := blk_frozen BK466.out 1; have hfz59_2 := blk_frozen BK466.out 2) | ((with_reducible refine gate_callee (f := 10) rfl ?_); refine goesL_ (some 21) rfl rfl Tryz.func10 (by kernel_rfl) rfl #[.agg #[.string t462, .int .i64 t463, .bool t464], .string (⟨#[65, 110, 110, 32, 32, 66]⟩ : ByteArray), .string (⟨#[97, 110, 110, 32, 98]⟩ : ByteArray)] rfl ap3 ?_; (with_reducible refine (attr_Equal.calls k t462 t463 t464 (⟨#[65, 110, 110, 32, 32, 66]⟩ : ByteArray) (⟨#[97, 110, 110, 32, 98]⟩ : ByteArray) true t473 _ ?side1 A3.out).mono ?_); (case side1 => first | exact HG.out | (refine Gw.below HG.out ?_; repeat (first | (with_reducible first | exact HB.out | apply below_alloc | apply pw_below_drewN | apply below_drew1 | refine below_set ?_ GE466.out | refine below_set ?_ GE471.out) | exact HB.out))); rintro e w60 ⟨rfl, hb⟩; refine ⟨_, rfl, ?_⟩; have n0_ := Aside0.mk (blk_below (g := gb466) (o := .cells #[.string t462, .int .i64 t463, .bool t464] 23 (0, 0)) (by (with_reducible repeat (first | refine blk_drewN ?_ _ | refine blk_drew ?_ | refine blk_alloc ?_ _)); refine blk_far ?_ NB466_471.out _; (with_reducible repeat (first | refine blk_drewN ?_ _ | refine blk_drew ?_ | refine blk_alloc ?_ _)); refine blk_far ?_ NB466_471.out _; (with_reducible repeat (first | refine blk_drewN ?_ _ | refine blk_drew ?_ | refine blk_alloc ?_ _)); refine blk_far ?_ NB466_471.out _; (with_reducible repeat (first | refine blk_drewN ?_ _ | refine blk_drew ?_ | refine blk_alloc ?_ _)); exact BK466.out) hb); have n1_ := Aside0.mk (blk_below (g := gb471) (o := .cells #[.string t467, .int .i64 t468, .bool t469] 23 (0, 0)) (by (with_reducible repeat (first | refine blk_drewN ?_ _ | refine blk_drew ?_ | refine blk_alloc ?_ _)); refine blk_put (cs := #[.string t467, .int .i64 t468, .bool false]) ?_ 2 _ rfl; (with_reducible repeat (first | refine blk_drewN ?_ _ | refine blk_drew ?_ | refine blk_alloc ?_ _)); refine blk_put (cs := #[.string t467, .int .i64 0, .bool false]) ?_ 1 _ rfl; (with_reducible repeat (first | refine blk_drewN ?_ _ | refine blk_drew ?_ | refine blk_alloc ?_ _)); refine blk_put (cs := #[.string (⟨#[]⟩ : ByteArray), .int .i64 0, .bool false]) ?_ 0 _ rfl; (with_reducible repeat (first | refine blk_drewN ?_ _ | refine blk_drew ?_ | refine blk_alloc ?_ _)); exact BK471.out) hb); have n2_ := Aside0.mk (below_step (by repeat (first | (with_reducible first | exact HB.out | apply below_alloc | apply pw_below_drewN | apply below_drew1 | refine below_set ?_ GE466.out | refine below_set ?_ GE471.out) | exact HB.out)) hb); clear BK466; clear BK471; clear HB; have BK466 := n0_; have BK471 := n1_; have HB := n2_; clear n0_ n1_ n2_; (try clear hb); (try clear hb2); (try clear hk); (try clear hi); have hcz61_0 : w60.cell? ⟨gb471, 0, none⟩ = some (.string t467) := (blk_cell BK471.out 0).trans rfl; have hcz61_1 : w60.cell? ⟨gb471, 1, none⟩ = some (.int .i64 t468) := (blk_cell BK471.out 1).trans rfl; have hcz61_2 : w60.cell? ⟨gb471, 2, none⟩ = some (.bool t469) := (blk_cell BK471.out 2).trans rfl; have hfz61_0 := blk_frozen BK471.out 0; have hfz61_1 := blk_frozen BK471.out 1; have hfz61_2 := blk_frozen BK471.out 2) | ((with_reducible refine gate_callee (f := 12) rfl ?_); refine goesL_ (some 26) rfl rfl Tryz.func12 (by kernel_rfl) rfl #[.agg #[.string t467, .int .i64 t468, .bool t469], .string (⟨#[57]⟩ : ByteArray), .string (⟨#[49, 48]⟩ : ByteArray)] rfl ap3 ?_; (with_reducible refine (attr_Order.calls k t467 t468 t469 (⟨#[57]⟩ : ByteArray) (⟨#[49, 48]⟩ : ByteArray) t474 t475 _ ?side1 A4.out).mono ?_); (case side1 => first | exact HG.out | (refine Gw.below HG.out ?_; repeat (first | (with_reducible first | exact HB.out | apply below_alloc | apply pw_below_drewN | apply below_drew1 | refine below_set ?_ GE466.out | refine below_set ?_ GE471.out) | exact HB.out))); rintro e w62 ⟨rfl, hb⟩; refine ⟨_, rfl, ?_⟩; have n0_ := Aside0.mk (blk_below (g := gb466) (o := .cells #[.string t462, .int .i64 t463, .bool t464] 23 (0, 0)) (apB BK466.out) hb); have n1_ := Aside0.mk (blk_below (g := gb471) (o := .cells #[.string t467, .int .i64 t468, .bool t469] 23 (0, 0)) (apB BK471.out) hb); have n2_ := Aside0.mk (below_step (by repeat (first | (with_reducible first | exact HB.out | apply below_alloc | apply pw_below_drewN | apply below_drew1 | refine below_set ?_ GE466.out | refine below_set ?_ GE471.out) | exact HB.out)) hb); clear BK466; clear BK471; clear HB; have BK466 := n0_; have BK471 := n1_; have HB := n2_; clear n0_ n1_ n2_; (try clear hb); (try clear hb2); (try clear hk); (try clear hi); have hcz63_0 : w62.cell? ⟨gb466, 0, none⟩ = some (.string t462) := (blk_cell BK466.out 0).trans rfl; have hcz63_1 : w62.cell? ⟨gb466, 1, none⟩ = some (.int .i64 t463) := (blk_cell BK466.out 1).trans rfl; have hcz63_2 : w62.cell? ⟨gb466, 2, none⟩ = some (.bool t464) := (blk_cell BK466.out 2).trans rfl; have hfz63_0 := blk_frozen BK466.out 0; have hfz63_1 := blk_frozen BK466.out 1; have hfz63_2 := blk_frozen BK466.out 2) | ((with_reducible refine gate_callee (f := 14) rfl ?_); refine goesL_ (some 31) rfl rfl Tryz.func14 (by kernel_rfl) rfl #[.agg #[.string t462, .int .i64 t463, .bool t464], .string (⟨#[65, 110, 110, 97, 98, 101, 108]⟩ : ByteArray), .string (⟨#[97, 110]⟩ : ByteArray), .slice none 0 0, .string (⟨#[101, 108]⟩ : ByteArray)] rfl ap3 ?_; (refine (attr_Part.calls k t462 t463 t464 (⟨#[65, 110, 110, 97, 98, 101, 108]⟩ : ByteArray) (⟨#[97, 110]⟩ : ByteArray) _ _ ([] : List ByteArray) (⟨#[101, 108]⟩ : ByteArray) t476 t477 _ ?side1 ?side2 ?side3 A5.out).mono ?_); (case side1 => exact Kd.C_nil _ _); (case side2 => exact Nat.le_refl _); (case side3 => first | exact HG.out | (refine Gw.below HG.out ?_; repeat (first | (with_reducible first | exact HB.out | apply below_alloc | apply pw_below_drewN | apply below_drew1 | refine below_set ?_ GE466.out | refine below_set ?_ GE471.out) | exact HB.out))); rintro e w64 ⟨rfl, hb⟩; refine ⟨_, rfl, ?_⟩; have n0_ := Aside0.mk (blk_below (g := gb466) (o := .cells #[.string t462, .int .i64 t463, .bool t464] 23 (0, 0)) (apB BK466.out) hb); have n1_ := Aside0.mk (blk_below (g := gb471) (o := .cells #[.string t467, .int .i64 t468, .bool t469] 23 (0, 0)) (apB BK471.out) hb); have n2_ := Aside0.mk (below_step (by repeat (first | (with_reducible first | exact HB.out | apply below_alloc | apply pw_below_drewN | apply below_drew1 | refine below_set ?_ GE466.out | refine below_set ?_ GE471.out) | exact HB.out)) hb); clear BK466; clear BK471; clear HB; have BK466 := n0_; have BK471 := n1_; have HB := n2_; clear n0_ n1_ n2_; (try clear hb); (try clear hb2); (try clear hk); (try clear hi)))
      go_ret
      exact ⟨by first | rfl | (simp [errW_none, errW_some, bne_nil8, beq_nil8]; done) | (simp [errW_none, errW_some] <;> rfl) | (simp [*, errW_none, errW_some] <;> rfl), by repeat (first | (with_reducible first | exact HB.out | apply below_alloc | apply pw_below_drewN | apply below_drew1 | refine below_set ?_ GE466.out | refine below_set ?_ GE471.out) | exact HB.out)⟩
    ·
     rw [if_neg c9] at H
     have c9b0 : (t473 == 0) = false := beq_eq_false_iff_ne.mpr c9
     have c9b1 : (t473 != 0) = true := bne_iff_ne.mpr c9
     obtain rfl := Option.some.inj H
     go_enter Tryz.func9, Tryz.ntmps9
     go_wp2_with (first | ((with_reducible refine gate_callee (f := 16) rfl ?_); refine goesL_ (some 12) rfl rfl Tryz.func16 (by kernel_rfl) rfl #[.string (⟨#[67, 78]⟩ : ByteArray)] rfl ap3 ?_; (with_reducible refine (attr_Find.calls (⟨#[67, 78]⟩ : ByteArray) t462 t463 t464 true _ ?side1 A1.out).mono ?_); (case side1 => exact ap6); rintro e w65 ⟨rfl, hb⟩; refine ⟨_, rfl, ?_⟩; have n0_ := Aside0.mk (below_step ap1 hb); clear HB; have HB := n0_; clear n0_; (try clear hb); (try clear hb2); (try clear hk); (try clear hi)) | ((with_reducible refine gate_dst (N := 1) rfl ?_); refine box_event ?hg (N := 1) ?hd (cs := #[.string (⟨#[]⟩ : ByteArray), .int .i64 0, .bool false]) (t := 23) ?hr ?_; (case hd => rfl); (case hg => rfl); (case hr => first | (go_simp; done) | (go_simp; rfl)); intro gb466 hg w66 hbox hb; have n0_ := Aside0.mk (below_step ap1 hb); have n1_ := Aside0.mk (hbox); have n2_ := Aside0.mk ((by rw [hg]; exact (below_size ap1) : w.heap.size ≤ gb466)); have n3_ := Aside0.mk ((by rw [hg]; exact (below_size ap1) : w.heap.size ≤ gb466)); clear HB; have HB := n0_; have BK466 := n1_; have GW466 := n2_; have GE466 := n3_; clear n0_ n1_ n2_ n3_; clear hb hbox hg; have hcz67_0 : w66.cell? ⟨gb466, 0, none⟩ = some (.string (⟨#[]⟩ : ByteArray)) := (blk_cell BK466.out 0).trans rfl; have hcz67_1 : w66.cell? ⟨gb466, 1, none⟩ = some (.int .i64 0) := (blk_cell BK466.out 1).trans rfl; have hcz67_2 : w66.cell? ⟨gb466, 2, none⟩ = some (.bool false) := (blk_cell BK466.out 2).trans rfl; have hfz67_0 := blk_frozen BK466.out 0; have hfz67_1 := blk_frozen BK466.out 1; have hfz67_2 := blk_frozen BK466.out 2) | ((with_reducible refine gate_callee (f := 16) rfl ?_); refine goesL_ (some 16) rfl rfl Tryz.func16 (by kernel_rfl) rfl #[.string (⟨#[117, 105, 100, 110, 117, 109, 98, 101, 114]⟩ : ByteArray)] rfl ap3 ?_; (with_reducible refine (attr_Find.calls (⟨#[117, 105, 100, 110, 117, 109, 98, 101, 114]⟩ : ByteArray) t467 t468 t469 true _ ?side1 A2.out).mono ?_); (case side1 => first | exact HG.out | (refine Gw.below HG.out ?_; repeat (first | (with_reducible first | exact HB.out | apply below_alloc | apply pw_below_drewN | apply below_drew1 | refine below_set ?_ GE466.out) | exact HB.out))); rintro e w68 ⟨rfl, hb⟩; refine ⟨_, rfl, ?_⟩; have n0_ := Aside0.mk (blk_below (g := gb466) (o := .cells #[.string t462, .int .i64 t463, .bool t464] 23 (0, 0)) (by (with_reducible repeat (first | refine blk_drewN ?_ _ | refine blk_drew ?_ | refine blk_alloc ?_ _)); refine blk_put (cs := #[.string t462, .int .i64 t463, .bool false]) ?_ 2 _ rfl; (with_reducible repeat (first | refine blk_drewN ?_ _ | refine blk_drew ?_ | refine blk_alloc ?_ _)); refine blk_put (cs := #[.string t462, .int .i64 0, .bool false]) ?_ 1 _ rfl; (with_reducible repeat (first | refine blk_drewN ?_ _ | refine blk_drew ?_ | refine blk_alloc ?_ _)); refine blk_put (cs := #[.string (⟨#[]⟩ : ByteArray), .int .i64 0, .bool false]) ?_ 0 _ rfl; (with_reducible repeat (first | refine blk_drewN ?_ _ | refine blk_drew ?_ | refine blk_alloc ?_ _)); exact BK466.out) hb); have n1_ := Aside0.mk (below_step (apG GE466.out) hb); clear BK466; clear HB; have BK466 := n0_; have HB := n1_; clear n0_ n1_; (try clear hb); (try clear hb2); (try clear hk); (try clear hi)) | ((with_reducible refine gate_dst (N := 3) rfl ?_); refine box_event ?hg (N := 3) ?hd (cs := #[.string (⟨#[]⟩ : ByteArray), .int .i64 0, .bool false]) (t := 23) ?hr ?_; (case hd => rfl); (case hg => rfl); (case hr => first | (go_simp; done) | (go_simp; rfl)); intro gb471 hg w69 hbox hb; have n0_ := Aside0.mk (blk_below (g := gb466) (o := .cells #[.string t462, .int .i64 t463, .bool t464] 23 (0, 0)) (apB BK466.out) hb); have n1_ := Aside0.mk (below_step (apG GE466.out) hb); have n2_ := Aside0.mk (hbox); have n3_ := Aside0.mk ((by rw [hg]; exact (below_size (apG GE466.out)) : w.heap.size ≤ gb471)); have n4_ := Aside0.mk ((by rw [hg]; exact (below_size (apG GE466.out)) : w.heap.size ≤ gb471)); have n5_ := Aside0.mk ((by rw [hg]; exact Nat.ne_of_lt (blk_lt (g := gb466) (o := .cells #[.string t462, .int .i64 t463, .bool t464] 23 (0, 0)) (apB BK466.out)) : gb466 ≠ gb471)); have n6_ := Aside0.mk ((by rw [hg]; exact Nat.ne_of_gt (blk_lt (g := gb466) (o := .cells #[.string t462, .int .i64 t463, .bool t464] 23 (0, 0)) (apB BK466.out)) : gb471 ≠ gb466)); clear BK466; clear HB; have BK466 := n0_; have HB := n1_; have BK471 := n2_; have GW471 := n3_; have GE471 := n4_; have NB466_471 := n5_; have NB471_466 := n6_; clear n0_ n1_ n2_ n3_ n4_ n5_ n6_; clear hb hbox hg; have hnb70 := NB471_466.out; have hnc70 := NB466_471.out; have hcz71_0 : w69.cell? ⟨gb471, 0, none⟩ = some (.string (⟨#[]⟩ : ByteArray)) := (blk_cell BK471.out 0).trans rfl; have hcz71_1 : w69.cell? ⟨gb471, 1, none⟩ = some (.int .i64 0) := (blk_cell BK471.out 1).trans rfl; have hcz71_2 : w69.cell? ⟨gb471, 2, none⟩ = some (.bool false) := (blk_cell BK471.out 2).trans rfl; have hfz71_0 := blk_frozen BK471.out 0; have hfz71_1 := blk_frozen BK471.out 1; have hfz71_2 := blk_frozen BK471.out 2; have hcz72_0 : w69.cell? ⟨gb466, 0, none⟩ = some (.string t462) := (blk_cell BK466.out 0).trans rfl; have hcz72_1 : w69.cell? ⟨gb466, 1, none⟩ = some (.int .i64 t463) := (blk_cell BK466.out 1).trans rfl; have hcz72_2 : w69.cell? ⟨gb466, 2, none⟩ = some (.bool t464) := (blk_cell BK466.out 2).trans rfl; have hfz72_0 := blk_frozen BK466.out 0; have hfz72_1 := blk_frozen BK466.out 1; have hfz72_2 := blk_frozen BK466.out 2) | ((with_reducible refine gate_callee (f := 10) rfl ?_); refine goesL_ (some 21) rfl rfl Tryz.func10 (by kernel_rfl) rfl #[.agg #[.string t462, .int .i64 t463, .bool t464], .string (⟨#[65, 110, 110, 32, 32, 66]⟩ : ByteArray), .string (⟨#[97, 110, 110, 32, 98]⟩ : ByteArray)] rfl ap3 ?_; (with_reducible refine (attr_Equal.calls k t462 t463 t464 (⟨#[65, 110, 110, 32, 32, 66]⟩ : ByteArray) (⟨#[97, 110, 110, 32, 98]⟩ : ByteArray) true t473 _ ?side1 A3.out).mono ?_); (case side1 => first | exact HG.out | (refine Gw.below HG.out ?_; repeat (first | (with_reducible first | exact HB.out | apply below_alloc | apply pw_below_drewN | apply below_drew1 | refine below_set ?_ GE466.out | refine below_set ?_ GE471.out) | exact HB.out))); rintro e w73 ⟨rfl, hb⟩; refine ⟨_, rfl, ?_⟩; have n0_ := Aside0.mk (blk_below (g := gb466) (o := .cells #[.string t462, .int .i64 t463, .bool t464] 23 (0, 0)) (by (with_reducible repeat (first | refine blk_drewN ?_ _ | refine blk_drew ?_ | refine blk_alloc ?_ _)); refine blk_far ?_ NB466_471.out _; (with_reducible repeat (first | refine blk_drewN ?_ _ | refine blk_drew ?_ | refine blk_alloc ?_ _)); refine blk_far ?_ NB466_471.out _; (with_reducible repeat (first | refine blk_drewN ?_ _ | refine blk_drew ?_ | refine blk_alloc ?_ _)); refine blk_far ?_ NB466_471.out _; (with_reducible repeat (first | refine blk_drewN ?_ _ | refine blk_drew ?_ | refine blk_alloc ?_ _)); exact BK466.out) hb); have n1_ := Aside0.mk (blk_below (g := gb471) (o := .cells #[.string t467, .int .i64 t468, .bool t469] 23 (0, 0)) (by (with_reducible repeat (first | refine blk_drewN ?_ _ | refine blk_drew ?_ | refine blk_alloc ?_ _)); refine blk_put (cs := #[.string t467, .int .i64 t468, .bool false]) ?_ 2 _ rfl; (with_reducible repeat (first | refine blk_drewN ?_ _ | refine blk_drew ?_ | refine blk_alloc ?_ _)); refine blk_put (cs := #[.string t467, .int .i64 0, .bool false]) ?_ 1 _ rfl; (with_reducible repeat (first | refine blk_drewN ?_ _ | refine blk_drew ?_ | refine blk_alloc ?_ _)); refine blk_put (cs := #[.string (⟨#[]⟩ : ByteArray), .int .i64 0, .bool false]) ?_ 0 _ rfl; (with_reducible repeat (first | refine blk_drewN ?_ _ | refine blk_drew ?_ | refine blk_alloc ?_ _)); exact BK471.out) hb); have n2_ := Aside0.mk (below_step (by repeat (first | (with_reducible first | exact HB.out | apply below_alloc | apply pw_below_drewN | apply below_drew1 | refine below_set ?_ GE466.out | refine below_set ?_ GE471.out) | exact HB.out)) hb); clear BK466; clear BK471; clear HB; have BK466 := n0_; have BK471 := n1_; have HB := n2_; clear n0_ n1_ n2_; (try clear hb); (try clear hb2); (try clear hk); (try clear hi); have hcz74_0 : w73.cell? ⟨gb471, 0, none⟩ = some (.string t467) := (blk_cell BK471.out 0).trans rfl; have hcz74_1 : w73.cell? ⟨gb471, 1, none⟩ = some (.int .i64 t468) := (blk_cell BK471.out 1).trans rfl; have hcz74_2 : w73.cell? ⟨gb471, 2, none⟩ = some (.bool t469) := (blk_cell BK471.out 2).trans rfl; have hfz74_0 := blk_frozen BK471.out 0; have hfz74_1 := blk_frozen BK471.out 1; have hfz74_2 := blk_frozen BK471.out 2) | ((with_reducible refine gate_callee (f := 12) rfl ?_); refine goesL_ (some 26) rfl rfl Tryz.func12 (by kernel_rfl) rfl #[.agg #[.string t467, .int .i64 t468, .bool t469], .string (⟨#[57]⟩ : ByteArray), .string (⟨#[49, 48]⟩ : ByteArray)] rfl ap3 ?_; (with_reducible refine (attr_Order.calls k t467 t468 t469 (⟨#[57]⟩ : ByteArray) (⟨#[49, 48]⟩ : ByteArray) t474 t475 _ ?side1 A4.out).mono ?_); (case side1 => first | exact HG.out | (refine Gw.below HG.out ?_; repeat (first | (with_reducible first | exact HB.out | apply below_alloc | apply pw_below_drewN | apply below_drew1 | refine below_set ?_ GE466.out | refine below_set ?_ GE471.out) | exact HB.out))); rintro e w75 ⟨rfl, hb⟩; refine ⟨_, rfl, ?_⟩; have n0_ := Aside0.mk (blk_below (g := gb466) (o := .cells #[.string t462, .int .i64 t463, .bool t464] 23 (0, 0)) (apB BK466.out) hb); have n1_ := Aside0.mk (blk_below (g := gb471) (o := .cells #[.string t467, .int .i64 t468, .bool t469] 23 (0, 0)) (apB BK471.out) hb); have n2_ := Aside0.mk (below_step (by repeat (first | (with_reducible first | exact HB.out | apply below_alloc | apply pw_below_drewN | apply below_drew1 | refine below_set ?_ GE466.out | refine below_set ?_ GE471.out) | exact HB.out)) hb); clear BK466; clear BK471; clear HB; have BK466 := n0_; have BK471 := n1_; have HB := n2_; clear n0_ n1_ n2_; (try clear hb); (try clear hb2); (try clear hk); (try clear hi); have hcz76_0 : w75.cell? ⟨gb466, 0, none⟩ = some (.string t462) := (blk_cell BK466.out 0).trans rfl; have hcz76_1 : w75.cell? ⟨gb466, 1, none⟩ = some (.int .i64 t463) := (blk_cell BK466.out 1).trans rfl; have hcz76_2 : w75.cell? ⟨gb466, 2, none⟩ = some (.bool t464) := (blk_cell BK466.out 2).trans rfl; have hfz76_0 := blk_frozen BK466.out 0; have hfz76_1 := blk_frozen BK466.out 1; have hfz76_2 := blk_frozen BK466.out 2) | ((with_reducible refine gate_callee (f := 14) rfl ?_); refine goesL_ (some 31) rfl rfl Tryz.func14 (by kernel_rfl) rfl #[.agg #[.string t462, .int .i64 t463, .bool t464], .string (⟨#[65, 110, 110, 97, 98, 101, 108]⟩ : ByteArray), .string (⟨#[97, 110]⟩ : ByteArray), .slice none 0 0, .string (⟨#[101, 108]⟩ : ByteArray)] rfl ap3 ?_; (refine (attr_Part.calls k t462 t463 t464 (⟨#[65, 110, 110, 97, 98, 101, 108]⟩ : ByteArray) (⟨#[97, 110]⟩ : ByteArray) _ _ ([] : List ByteArray) (⟨#[101, 108]⟩ : ByteArray) t476 t477 _ ?side1 ?side2 ?side3 A5.out).mono ?_); (case side1 => exact Kd.C_nil _ _); (case side2 => exact Nat.le_refl _); (case side3 => first | exact HG.out | (refine Gw.below HG.out ?_; repeat (first | (with_reducible first | exact HB.out | apply below_alloc | apply pw_below_drewN | apply below_drew1 | refine below_set ?_ GE466.out | refine below_set ?_ GE471.out) | exact HB.out))); rintro e w77 ⟨rfl, hb⟩; refine ⟨_, rfl, ?_⟩; have n0_ := Aside0.mk (blk_below (g := gb466) (o := .cells #[.string t462, .int .i64 t463, .bool t464] 23 (0, 0)) (apB BK466.out) hb); have n1_ := Aside0.mk (blk_below (g := gb471) (o := .cells #[.string t467, .int .i64 t468, .bool t469] 23 (0, 0)) (apB BK471.out) hb); have n2_ := Aside0.mk (below_step (by repeat (first | (with_reducible first | exact HB.out | apply below_alloc | apply pw_below_drewN | apply below_drew1 | refine below_set ?_ GE466.out | refine below_set ?_ GE471.out) | exact HB.out)) hb); clear BK466; clear BK471; clear HB; have BK466 := n0_; have BK471 := n1_; have HB := n2_; clear n0_ n1_ n2_; (try clear hb); (try clear hb2); (try clear hk); (try clear hi)))
     go_ret
     exact ⟨by first | rfl | (simp [errW_none, errW_some, bne_nil8, beq_nil8]; done) | (simp [errW_none, errW_some] <;> rfl) | (simp [*, errW_none, errW_some] <;> rfl), by repeat (first | (with_reducible first | exact HB.out | apply below_alloc | apply pw_below_drewN | apply below_drew1 | refine below_set ?_ GE466.out | refine below_set ?_ GE471.out) | exact HB.out)⟩
   ·
    replace c8 := Bool.eq_false_iff.mpr c8
    subst c8
    rw [if_neg (show ¬ (false = true) by decide)] at H
    obtain rfl := Option.some.inj H
    go_enter Tryz.func9, Tryz.ntmps9
    go_wp2_with (first | ((with_reducible refine gate_callee (f := 16) rfl ?_); refine goesL_ (some 12) rfl rfl Tryz.func16 (by kernel_rfl) rfl #[.string (⟨#[67, 78]⟩ : ByteArray)] rfl ap3 ?_; (with_reducible refine (attr_Find.calls (⟨#[67, 78]⟩ : ByteArray) t462 t463 t464 true _ ?side1 A1.out).mono ?_); (case side1 => exact ap6); rintro e w78 ⟨rfl, hb⟩; refine ⟨_, rfl, ?_⟩; have n0_ := Aside0.mk (below_step ap1 hb); clear HB; have HB := n0_; clear n0_; (try clear hb); (try clear hb2); (try clear hk); (try clear hi)) | ((with_reducible refine gate_dst (N := 1) rfl ?_); refine box_event ?hg (N := 1) ?hd (cs := #[.string (⟨#[]⟩ : ByteArray), .int .i64 0, .bool false]) (t := 23) ?hr ?_; (case hd => rfl); (case hg => rfl); (case hr => first | (go_simp; done) | (go_simp; rfl)); intro gb466 hg w79 hbox hb; have n0_ := Aside0.mk (below_step ap1 hb); have n1_ := Aside0.mk (hbox); have n2_ := Aside0.mk ((by rw [hg]; exact (below_size ap1) : w.heap.size ≤ gb466)); have n3_ := Aside0.mk ((by rw [hg]; exact (below_size ap1) : w.heap.size ≤ gb466)); clear HB; have HB := n0_; have BK466 := n1_; have GW466 := n2_; have GE466 := n3_; clear n0_ n1_ n2_ n3_; clear hb hbox hg; have hcz80_0 : w79.cell? ⟨gb466, 0, none⟩ = some (.string (⟨#[]⟩ : ByteArray)) := (blk_cell BK466.out 0).trans rfl; have hcz80_1 : w79.cell? ⟨gb466, 1, none⟩ = some (.int .i64 0) := (blk_cell BK466.out 1).trans rfl; have hcz80_2 : w79.cell? ⟨gb466, 2, none⟩ = some (.bool false) := (blk_cell BK466.out 2).trans rfl; have hfz80_0 := blk_frozen BK466.out 0; have hfz80_1 := blk_frozen BK466.out 1; have hfz80_2 := blk_frozen BK466.out 2) | ((with_reducible refine gate_callee (f := 16) rfl ?_); refine goesL_ (some 16) rfl rfl Tryz.func16 (by kernel_rfl) rfl #[.string (⟨#[117, 105, 100, 110, 117, 109, 98, 101, 114]⟩ : ByteArray)] rfl ap3 ?_; (with_reducible refine (attr_Find.calls (⟨#[117, 105, 100, 110, 117, 109, 98, 101, 114]⟩ : ByteArray) t467 t468 t469 true _ ?side1 A2.out).mono ?_); (case side1 => first | exact HG.out | (refine Gw.below HG.out ?_; repeat (first | (with_reducible first | exact HB.out | apply below_alloc | apply pw_below_drewN | apply below_drew1 | refine below_set ?_ GE466.out) | exact HB.out))); rintro e w81 ⟨rfl, hb⟩; refine ⟨_, rfl, ?_⟩; have n0_ := Aside0.mk (blk_below (g := gb466) (o := .cells #[.string t462, .int .i64 t463, .bool t464] 23 (0, 0)) (by (with_reducible repeat (first | refine blk_drewN ?_ _ | refine blk_drew ?_ | refine blk_alloc ?_ _)); refine blk_put (cs := #[.string t462, .int .i64 t463, .bool false]) ?_ 2 _ rfl; (with_reducible repeat (first | refine blk_drewN ?_ _ | refine blk_drew ?_ | refine blk_alloc ?_ _)); refine blk_put (cs := #[.string t462, .int .i64 0, .bool false]) ?_ 1 _ rfl; (with_reducible repeat (first | refine blk_drewN ?_ _ | refine blk_drew ?_ | refine blk_alloc ?_ _)); refine blk_put (cs := #[.string (⟨#[]⟩ : ByteArray), .int .i64 0, .bool false]) ?_ 0 _ rfl; (with_reducible repeat (first | refine blk_drewN ?_ _ | refine blk_drew ?_ | refine blk_alloc ?_ _)); exact BK466.out) hb); have n1_ := Aside0.mk (below_step (apG GE466.out) hb); clear BK466; clear HB; have BK466 := n0_; have HB := n1_; clear n0_ n1_; (try clear hb); (try clear hb2); (try clear hk); (try clear hi)) | ((with_reducible refine gate_dst (N := 3) rfl ?_); refine box_event ?hg (N := 3) ?hd (cs := #[.string (⟨#[]⟩ : ByteArray), .int .i64 0, .bool false]) (t := 23) ?hr ?_; (case hd => rfl); (case hg => rfl); (case hr => first | (go_simp; done) | (go_simp; rfl)); intro gb471 hg w82 hbox hb; have n0_ := Aside0.mk (blk_below (g := gb466) (o := .cells #[.string t462, .int .i64 t463, .bool t464] 23 (0, 0)) (apB BK466.out) hb); have n1_ := Aside0.mk (below_step (apG GE466.out) hb); have n2_ := Aside0.mk (hbox); have n3_ := Aside0.mk ((by rw [hg]; exact (below_size (apG GE466.out)) : w.heap.size ≤ gb471)); have n4_ := Aside0.mk ((by rw [hg]; exact (below_size (apG GE466.out)) : w.heap.size ≤ gb471)); have n5_ := Aside0.mk ((by rw [hg]; exact Nat.ne_of_lt (blk_lt (g := gb466) (o := .cells #[.string t462, .int .i64 t463, .bool t464] 23 (0, 0)) (apB BK466.out)) : gb466 ≠ gb471)); have n6_ := Aside0.mk ((by rw [hg]; exact Nat.ne_of_gt (blk_lt (g := gb466) (o := .cells #[.string t462, .int .i64 t463, .bool t464] 23 (0, 0)) (apB BK466.out)) : gb471 ≠ gb466)); clear BK466; clear HB; have BK466 := n0_; have HB := n1_; have BK471 := n2_; have GW471 := n3_; have GE471 := n4_; have NB466_471 := n5_; have NB471_466 := n6_; clear n0_ n1_ n2_ n3_ n4_ n5_ n6_; clear hb hbox hg; have hnb83 := NB471_466.out; have hnc83 := NB466_471.out; have hcz84_0 : w82.cell? ⟨gb471, 0, none⟩ = some (.string (⟨#[]⟩ : ByteArray)) := (blk_cell BK471.out 0).trans rfl; have hcz84_1 : w82.cell? ⟨gb471, 1, none⟩ = some (.int .i64 0) := (blk_cell BK471.out 1).trans rfl; have hcz84_2 : w82.cell? ⟨gb471, 2, none⟩ = some (.bool false) := (blk_cell BK471.out 2).trans rfl; have hfz84_0 := blk_frozen BK471.out 0; have hfz84_1 := blk_frozen BK471.out 1; have hfz84_2 := blk_frozen BK471.out 2; have hcz85_0 : w82.cell? ⟨gb466, 0, none⟩ = some (.string t462) := (blk_cell BK466.out 0).trans rfl; have hcz85_1 : w82.cell? ⟨gb466, 1, none⟩ = some (.int .i64 t463) := (blk_cell BK466.out 1).trans rfl; have hcz85_2 : w82.cell? ⟨gb466, 2, none⟩ = some (.bool t464) := (blk_cell BK466.out 2).trans rfl; have hfz85_0 := blk_frozen BK466.out 0; have hfz85_1 := blk_frozen BK466.out 1; have hfz85_2 := blk_frozen BK466.out 2) | ((with_reducible refine gate_callee (f := 10) rfl ?_); refine goesL_ (some 21) rfl rfl Tryz.func10 (by kernel_rfl) rfl #[.agg #[.string t462, .int .i64 t463, .bool t464], .string (⟨#[65, 110, 110, 32, 32, 66]⟩ : ByteArray), .string (⟨#[97, 110, 110, 32, 98]⟩ : ByteArray)] rfl ap3 ?_; (with_reducible refine (attr_Equal.calls k t462 t463 t464 (⟨#[65, 110, 110, 32, 32, 66]⟩ : ByteArray) (⟨#[97, 110, 110, 32, 98]⟩ : ByteArray) false t473 _ ?side1 A3.out).mono ?_); (case side1 => first | exact HG.out | (refine Gw.below HG.out ?_; repeat (first | (with_reducible first | exact HB.out | apply below_alloc | apply pw_below_drewN | apply below_drew1 | refine below_set ?_ GE466.out | refine below_set ?_ GE471.out) | exact HB.out))); rintro e w86 ⟨rfl, hb⟩; refine ⟨_, rfl, ?_⟩; have n0_ := Aside0.mk (blk_below (g := gb466) (o := .cells #[.string t462, .int .i64 t463, .bool t464] 23 (0, 0)) (by (with_reducible repeat (first | refine blk_drewN ?_ _ | refine blk_drew ?_ | refine blk_alloc ?_ _)); refine blk_far ?_ NB466_471.out _; (with_reducible repeat (first | refine blk_drewN ?_ _ | refine blk_drew ?_ | refine blk_alloc ?_ _)); refine blk_far ?_ NB466_471.out _; (with_reducible repeat (first | refine blk_drewN ?_ _ | refine blk_drew ?_ | refine blk_alloc ?_ _)); refine blk_far ?_ NB466_471.out _; (with_reducible repeat (first | refine blk_drewN ?_ _ | refine blk_drew ?_ | refine blk_alloc ?_ _)); exact BK466.out) hb); have n1_ := Aside0.mk (blk_below (g := gb471) (o := .cells #[.string t467, .int .i64 t468, .bool t469] 23 (0, 0)) (by (with_reducible repeat (first | refine blk_drewN ?_ _ | refine blk_drew ?_ | refine blk_alloc ?_ _)); refine blk_put (cs := #[.string t467, .int .i64 t468, .bool false]) ?_ 2 _ rfl; (with_reducible repeat (first | refine blk_drewN ?_ _ | refine blk_drew ?_ | refine blk_alloc ?_ _)); refine blk_put (cs := #[.string t467, .int .i64 0, .bool false]) ?_ 1 _ rfl; (with_reducible repeat (first | refine blk_drewN ?_ _ | refine blk_drew ?_ | refine blk_alloc ?_ _)); refine blk_put (cs := #[.string (⟨#[]⟩ : ByteArray), .int .i64 0, .bool false]) ?_ 0 _ rfl; (with_reducible repeat (first | refine blk_drewN ?_ _ | refine blk_drew ?_ | refine blk_alloc ?_ _)); exact BK471.out) hb); have n2_ := Aside0.mk (below_step (by repeat (first | (with_reducible first | exact HB.out | apply below_alloc | apply pw_below_drewN | apply below_drew1 | refine below_set ?_ GE466.out | refine below_set ?_ GE471.out) | exact HB.out)) hb); clear BK466; clear BK471; clear HB; have BK466 := n0_; have BK471 := n1_; have HB := n2_; clear n0_ n1_ n2_; (try clear hb); (try clear hb2); (try clear hk); (try clear hi); have hcz87_0 : w86.cell? ⟨gb471, 0, none⟩ = some (.string t467) := (blk_cell BK471.out 0).trans rfl; have hcz87_1 : w86.cell? ⟨gb471, 1, none⟩ = some (.int .i64 t468) := (blk_cell BK471.out 1).trans rfl; have hcz87_2 : w86.cell? ⟨gb471, 2, none⟩ = some (.bool t469) := (blk_cell BK471.out 2).trans rfl; have hfz87_0 := blk_frozen BK471.out 0; have hfz87_1 := blk_frozen BK471.out 1; have hfz87_2 := blk_frozen BK471.out 2) | ((with_reducible refine gate_callee (f := 12) rfl ?_); refine goesL_ (some 26) rfl rfl Tryz.func12 (by kernel_rfl) rfl #[.agg #[.string t467, .int .i64 t468, .bool t469], .string (⟨#[57]⟩ : ByteArray), .string (⟨#[49, 48]⟩ : ByteArray)] rfl ap3 ?_; (with_reducible refine (attr_Order.calls k t467 t468 t469 (⟨#[57]⟩ : ByteArray) (⟨#[49, 48]⟩ : ByteArray) t474 t475 _ ?side1 A4.out).mono ?_); (case side1 => first | exact HG.out | (refine Gw.below HG.out ?_; repeat (first | (with_reducible first | exact HB.out | apply below_alloc | apply pw_below_drewN | apply below_drew1 | refine below_set ?_ GE466.out | refine below_set ?_ GE471.out) | exact HB.out))); rintro e w88 ⟨rfl, hb⟩; refine ⟨_, rfl, ?_⟩; have n0_ := Aside0.mk (blk_below (g := gb466) (o := .cells #[.string t462, .int .i64 t463, .bool t464] 23 (0, 0)) (apB BK466.out) hb); have n1_ := Aside0.mk (blk_below (g := gb471) (o := .cells #[.string t467, .int .i64 t468, .bool t469] 23 (0, 0)) (apB BK471.out) hb); have n2_ := Aside0.mk (below_step (by repeat (first | (with_reducible first | exact HB.out | apply below_alloc | apply pw_below_drewN | apply below_drew1 | refine below_set ?_ GE466.out | refine below_set ?_ GE471.out) | exact HB.out)) hb); clear BK466; clear BK471; clear HB; have BK466 := n0_; have BK471 := n1_; have HB := n2_; clear n0_ n1_ n2_; (try clear hb); (try clear hb2); (try clear hk); (try clear hi); have hcz89_0 : w88.cell? ⟨gb466, 0, none⟩ = some (.string t462) := (blk_cell BK466.out 0).trans rfl; have hcz89_1 : w88.cell? ⟨gb466, 1, none⟩ = some (.int .i64 t463) := (blk_cell BK466.out 1).trans rfl; have hcz89_2 : w88.cell? ⟨gb466, 2, none⟩ = some (.bool t464) := (blk_cell BK466.out 2).trans rfl; have hfz89_0 := blk_frozen BK466.out 0; have hfz89_1 := blk_frozen BK466.out 1; have hfz89_2 := blk_frozen BK466.out 2) | ((with_reducible refine gate_callee (f := 14) rfl ?_); refine goesL_ (some 31) rfl rfl Tryz.func14 (by kernel_rfl) rfl #[.agg #[.string t462, .int .i64 t463, .bool t464], .string (⟨#[65, 110, 110, 97, 98, 101, 108]⟩ : ByteArray), .string (⟨#[97, 110]⟩ : ByteArray), .slice none 0 0, .string (⟨#[101, 108]⟩ : ByteArray)] rfl ap3 ?_; (refine (attr_Part.calls k t462 t463 t464 (⟨#[65, 110, 110, 97, 98, 101, 108]⟩ : ByteArray) (⟨#[97, 110]⟩ : ByteArray) _ _ ([] : List ByteArray) (⟨#[101, 108]⟩ : ByteArray) t476 t477 _ ?side1 ?side2 ?side3 A5.out).mono ?_); (case side1 => exact Kd.C_nil _ _); (case side2 => exact Nat.le_refl _); (case side3 => first | exact HG.out | (refine Gw.below HG.out ?_; repeat (first | (with_reducible first | exact HB.out | apply below_alloc | apply pw_below_drewN | apply below_drew1 | refine below_set ?_ GE466.out | refine below_set ?_ GE471.out) | exact HB.out))); rintro e w90 ⟨rfl, hb⟩; refine ⟨_, rfl, ?_⟩; have n0_ := Aside0.mk (blk_below (g := gb466) (o := .cells #[.string t462, .int .i64 t463, .bool t464] 23 (0, 0)) (apB BK466.out) hb); have n1_ := Aside0.mk (blk_below (g := gb471) (o := .cells #[.string t467, .int .i64 t468, .bool t469] 23 (0, 0)) (apB BK471.out) hb); have n2_ := Aside0.mk (below_step (by repeat (first | (with_reducible first | exact HB.out | apply below_alloc | apply pw_below_drewN | apply below_drew1 | refine below_set ?_ GE466.out | refine below_set ?_ GE471.out) | exact HB.out)) hb); clear BK466; clear BK471; clear HB; have BK466 := n0_; have BK471 := n1_; have HB := n2_; clear n0_ n1_ n2_; (try clear hb); (try clear hb2); (try clear hk); (try clear hi)))
    go_ret
    exact ⟨by first | rfl | (simp [errW_none, errW_some, bne_nil8, beq_nil8]; done) | (simp [errW_none, errW_some] <;> rfl) | (simp [*, errW_none, errW_some] <;> rfl), by repeat (first | (with_reducible first | exact HB.out | apply below_alloc | apply pw_below_drewN | apply below_drew1 | refine below_set ?_ GE466.out | refine below_set ?_ GE471.out) | exact HB.out)⟩
  ·
   replace c7 := Bool.eq_false_iff.mpr c7
   subst c7
   rw [if_neg (show ¬ (false = true) by decide)] at H
   obtain rfl := Option.some.inj H
   go_enter Tryz.func9, Tryz.ntmps9
   go_wp2_with (first | ((with_reducible refine gate_callee (f := 16) rfl ?_); refine goesL_ (some 12) rfl rfl Tryz.func16 (by kernel_rfl) rfl #[.string (⟨#[67, 78]⟩ : ByteArray)] rfl ap3 ?_; (with_reducible refine (attr_Find.calls (⟨#[67, 78]⟩ : ByteArray) t462 t463 t464 true _ ?side1 A1.out).mono ?_); (case side1 => exact ap6); rintro e w91 ⟨rfl, hb⟩; refine ⟨_, rfl, ?_⟩; have n0_ := Aside0.mk (below_step ap1 hb); clear HB; have HB := n0_; clear n0_; (try clear hb); (try clear hb2); (try clear hk); (try clear hi)) | ((with_reducible refine gate_dst (N := 1) rfl ?_); refine box_event ?hg (N := 1) ?hd (cs := #[.string (⟨#[]⟩ : ByteArray), .int .i64 0, .bool false]) (t := 23) ?hr ?_; (case hd => rfl); (case hg => rfl); (case hr => first | (go_simp; done) | (go_simp; rfl)); intro gb466 hg w92 hbox hb; have n0_ := Aside0.mk (below_step ap1 hb); have n1_ := Aside0.mk (hbox); have n2_ := Aside0.mk ((by rw [hg]; exact (below_size ap1) : w.heap.size ≤ gb466)); have n3_ := Aside0.mk ((by rw [hg]; exact (below_size ap1) : w.heap.size ≤ gb466)); clear HB; have HB := n0_; have BK466 := n1_; have GW466 := n2_; have GE466 := n3_; clear n0_ n1_ n2_ n3_; clear hb hbox hg; have hcz93_0 : w92.cell? ⟨gb466, 0, none⟩ = some (.string (⟨#[]⟩ : ByteArray)) := (blk_cell BK466.out 0).trans rfl; have hcz93_1 : w92.cell? ⟨gb466, 1, none⟩ = some (.int .i64 0) := (blk_cell BK466.out 1).trans rfl; have hcz93_2 : w92.cell? ⟨gb466, 2, none⟩ = some (.bool false) := (blk_cell BK466.out 2).trans rfl; have hfz93_0 := blk_frozen BK466.out 0; have hfz93_1 := blk_frozen BK466.out 1; have hfz93_2 := blk_frozen BK466.out 2) | ((with_reducible refine gate_callee (f := 16) rfl ?_); refine goesL_ (some 16) rfl rfl Tryz.func16 (by kernel_rfl) rfl #[.string (⟨#[117, 105, 100, 110, 117, 109, 98, 101, 114]⟩ : ByteArray)] rfl ap3 ?_; (with_reducible refine (attr_Find.calls (⟨#[117, 105, 100, 110, 117, 109, 98, 101, 114]⟩ : ByteArray) t467 t468 t469 false _ ?side1 A2.out).mono ?_); (case side1 => first | exact HG.out | (refine Gw.below HG.out ?_; repeat (first | (with_reducible first | exact HB.out | apply below_alloc | apply pw_below_drewN | apply below_drew1 | refine below_set ?_ GE466.out) | exact HB.out))); rintro e w94 ⟨rfl, hb⟩; refine ⟨_, rfl, ?_⟩; have n0_ := Aside0.mk (blk_below (g := gb466) (o := .cells #[.string t462, .int .i64 t463, .bool t464] 23 (0, 0)) (by (with_reducible repeat (first | refine blk_drewN ?_ _ | refine blk_drew ?_ | refine blk_alloc ?_ _)); refine blk_put (cs := #[.string t462, .int .i64 t463, .bool false]) ?_ 2 _ rfl; (with_reducible repeat (first | refine blk_drewN ?_ _ | refine blk_drew ?_ | refine blk_alloc ?_ _)); refine blk_put (cs := #[.string t462, .int .i64 0, .bool false]) ?_ 1 _ rfl; (with_reducible repeat (first | refine blk_drewN ?_ _ | refine blk_drew ?_ | refine blk_alloc ?_ _)); refine blk_put (cs := #[.string (⟨#[]⟩ : ByteArray), .int .i64 0, .bool false]) ?_ 0 _ rfl; (with_reducible repeat (first | refine blk_drewN ?_ _ | refine blk_drew ?_ | refine blk_alloc ?_ _)); exact BK466.out) hb); have n1_ := Aside0.mk (below_step (apG GE466.out) hb); clear BK466; clear HB; have BK466 := n0_; have HB := n1_; clear n0_ n1_; (try clear hb); (try clear hb2); (try clear hk); (try clear hi)) | ((with_reducible refine gate_dst (N := 3) rfl ?_); refine box_event ?hg (N := 3) ?hd (cs := #[.string (⟨#[]⟩ : ByteArray), .int .i64 0, .bool false]) (t := 23) ?hr ?_; (case hd => rfl); (case hg => rfl); (case hr => first | (go_simp; done) | (go_simp; rfl)); intro gb471 hg w95 hbox hb; have n0_ := Aside0.mk (blk_below (g := gb466) (o := .cells #[.string t462, .int .i64 t463, .bool t464] 23 (0, 0)) (apB BK466.out) hb); have n1_ := Aside0.mk (below_step (apG GE466.out) hb); have n2_ := Aside0.mk (hbox); have n3_ := Aside0.mk ((by rw [hg]; exact (below_size (apG GE466.out)) : w.heap.size ≤ gb471)); have n4_ := Aside0.mk ((by rw [hg]; exact (below_size (apG GE466.out)) : w.heap.size ≤ gb471)); have n5_ := Aside0.mk ((by rw [hg]; exact Nat.ne_of_lt (blk_lt (g := gb466) (o := .cells #[.string t462, .int .i64 t463, .bool t464] 23 (0, 0)) (apB BK466.out)) : gb466 ≠ gb471)); have n6_ := Aside0.mk ((by rw [hg]; exact Nat.ne_of_gt (blk_lt (g := gb466) (o := .cells #[.string t462, .int .i64 t463, .bool t464] 23 (0, 0)) (apB BK466.out)) : gb471 ≠ gb466)); clear BK466; clear HB; have BK466 := n0_; have HB := n1_; have BK471 := n2_; have GW471 := n3_; have GE471 := n4_; have NB466_471 := n5_; have NB471_466 := n6_; clear n0_ n1_ n2_ n3_ n4_ n5_ n6_; clear hb hbox hg; have hnb96 := NB471_466.out; have hnc96 := NB466_471.out; have hcz97_0 : w95.cell? ⟨gb471, 0, none⟩ = some (.string (⟨#[]⟩ : ByteArray)) := (blk_cell BK471.out 0).trans rfl; have hcz97_1 : w95.cell? ⟨gb471, 1, none⟩ = some (.int .i64 0) := (blk_cell BK471.out 1).trans rfl; have hcz97_2 : w95.cell? ⟨gb471, 2, none⟩ = some (.bool false) := (blk_cell BK471.out 2).trans rfl; have hfz97_0 := blk_frozen BK471.out 0; have hfz97_1 := blk_frozen BK471.out 1; have hfz97_2 := blk_frozen BK471.out 2; have hcz98_0 : w95.cell? ⟨gb466, 0, none⟩ = some (.string t462) := (blk_cell BK466.out 0).trans rfl; have hcz98_1 : w95.cell? ⟨gb466, 1, none⟩ = some (.int .i64 t463) := (blk_cell BK466.out 1).trans rfl; have hcz98_2 : w95.cell? ⟨gb466, 2, none⟩ = some (.bool t464) := (blk_cell BK466.out 2).trans rfl; have hfz98_0 := blk_frozen BK466.out 0; have hfz98_1 := blk_frozen BK466.out 1; have hfz98_2 := blk_frozen BK466.out 2) | ((with_reducible refine gate_callee (f := 10) rfl ?_); refine goesL_ (some 21) rfl rfl Tryz.func10 (by kernel_rfl) rfl #[.agg #[.string t462, .int .i64 t463, .bool t464], .string (⟨#[65, 110, 110, 32, 32, 66]⟩ : ByteArray), .string (⟨#[97, 110, 110, 32, 98]⟩ : ByteArray)] rfl ap3 ?_; (with_reducible refine (attr_Equal.calls k t462 t463 t464 (⟨#[65, 110, 110, 32, 32, 66]⟩ : ByteArray) (⟨#[97, 110, 110, 32, 98]⟩ : ByteArray) t472 t473 _ ?side1 A3.out).mono ?_); (case side1 => first | exact HG.out | (refine Gw.below HG.out ?_; repeat (first | (with_reducible first | exact HB.out | apply below_alloc | apply pw_below_drewN | apply below_drew1 | refine below_set ?_ GE466.out | refine below_set ?_ GE471.out) | exact HB.out))); rintro e w99 ⟨rfl, hb⟩; refine ⟨_, rfl, ?_⟩; have n0_ := Aside0.mk (blk_below (g := gb466) (o := .cells #[.string t462, .int .i64 t463, .bool t464] 23 (0, 0)) (by (with_reducible repeat (first | refine blk_drewN ?_ _ | refine blk_drew ?_ | refine blk_alloc ?_ _)); refine blk_far ?_ NB466_471.out _; (with_reducible repeat (first | refine blk_drewN ?_ _ | refine blk_drew ?_ | refine blk_alloc ?_ _)); refine blk_far ?_ NB466_471.out _; (with_reducible repeat (first | refine blk_drewN ?_ _ | refine blk_drew ?_ | refine blk_alloc ?_ _)); refine blk_far ?_ NB466_471.out _; (with_reducible repeat (first | refine blk_drewN ?_ _ | refine blk_drew ?_ | refine blk_alloc ?_ _)); exact BK466.out) hb); have n1_ := Aside0.mk (blk_below (g := gb471) (o := .cells #[.string t467, .int .i64 t468, .bool t469] 23 (0, 0)) (by (with_reducible repeat (first | refine blk_drewN ?_ _ | refine blk_drew ?_ | refine blk_alloc ?_ _)); refine blk_put (cs := #[.string t467, .int .i64 t468, .bool false]) ?_ 2 _ rfl; (with_reducible repeat (first | refine blk_drewN ?_ _ | refine blk_drew ?_ | refine blk_alloc ?_ _)); refine blk_put (cs := #[.string t467, .int .i64 0, .bool false]) ?_ 1 _ rfl; (with_reducible repeat (first | refine blk_drewN ?_ _ | refine blk_drew ?_ | refine blk_alloc ?_ _)); refine blk_put (cs := #[.string (⟨#[]⟩ : ByteArray), .int .i64 0, .bool false]) ?_ 0 _ rfl; (with_reducible repeat (first | refine blk_drewN ?_ _ | refine blk_drew ?_ | refine blk_alloc ?_ _)); exact BK471.out) hb); have n2_ := Aside0.mk (below_step (by repeat (first | (with_reducible first | exact HB.out | apply below_alloc | apply pw_below_drewN | apply below_drew1 | refine below_set ?_ GE466.out | refine below_set ?_ GE471.out) | exact HB.out)) hb); clear BK466; clear BK471; clear HB; have BK466 := n0_; have BK471 := n1_; have HB := n2_; clear n0_ n1_ n2_; (try clear hb); (try clear hb2); (try clear hk); (try clear hi); have hcz100_0 : w99.cell? ⟨gb471, 0, none⟩ = some (.string t467) := (blk_cell BK471.out 0).trans rfl; have hcz100_1 : w99.cell? ⟨gb471, 1, none⟩ = some (.int .i64 t468) := (blk_cell BK471.out 1).trans rfl; have hcz100_2 : w99.cell? ⟨gb471, 2, none⟩ = some (.bool t469) := (blk_cell BK471.out 2).trans rfl; have hfz100_0 := blk_frozen BK471.out 0; have hfz100_1 := blk_frozen BK471.out 1; have hfz100_2 := blk_frozen BK471.out 2) | ((with_reducible refine gate_callee (f := 12) rfl ?_); refine goesL_ (some 26) rfl rfl Tryz.func12 (by kernel_rfl) rfl #[.agg #[.string t467, .int .i64 t468, .bool t469], .string (⟨#[57]⟩ : ByteArray), .string (⟨#[49, 48]⟩ : ByteArray)] rfl ap3 ?_; (with_reducible refine (attr_Order.calls k t467 t468 t469 (⟨#[57]⟩ : ByteArray) (⟨#[49, 48]⟩ : ByteArray) t474 t475 _ ?side1 A4.out).mono ?_); (case side1 => first | exact HG.out | (refine Gw.below HG.out ?_; repeat (first | (with_reducible first | exact HB.out | apply below_alloc | apply pw_below_drewN | apply below_drew1 | refine below_set ?_ GE466.out | refine below_set ?_ GE471.out) | exact HB.out))); rintro e w101 ⟨rfl, hb⟩; refine ⟨_, rfl, ?_⟩; have n0_ := Aside0.mk (blk_below (g := gb466) (o := .cells #[.string t462, .int .i64 t463, .bool t464] 23 (0, 0)) (apB BK466.out) hb); have n1_ := Aside0.mk (blk_below (g := gb471) (o := .cells #[.string t467, .int .i64 t468, .bool t469] 23 (0, 0)) (apB BK471.out) hb); have n2_ := Aside0.mk (below_step (by repeat (first | (with_reducible first | exact HB.out | apply below_alloc | apply pw_below_drewN | apply below_drew1 | refine below_set ?_ GE466.out | refine below_set ?_ GE471.out) | exact HB.out)) hb); clear BK466; clear BK471; clear HB; have BK466 := n0_; have BK471 := n1_; have HB := n2_; clear n0_ n1_ n2_; (try clear hb); (try clear hb2); (try clear hk); (try clear hi); have hcz102_0 : w101.cell? ⟨gb466, 0, none⟩ = some (.string t462) := (blk_cell BK466.out 0).trans rfl; have hcz102_1 : w101.cell? ⟨gb466, 1, none⟩ = some (.int .i64 t463) := (blk_cell BK466.out 1).trans rfl; have hcz102_2 : w101.cell? ⟨gb466, 2, none⟩ = some (.bool t464) := (blk_cell BK466.out 2).trans rfl; have hfz102_0 := blk_frozen BK466.out 0; have hfz102_1 := blk_frozen BK466.out 1; have hfz102_2 := blk_frozen BK466.out 2) | ((with_reducible refine gate_callee (f := 14) rfl ?_); refine goesL_ (some 31) rfl rfl Tryz.func14 (by kernel_rfl) rfl #[.agg #[.string t462, .int .i64 t463, .bool t464], .string (⟨#[65, 110, 110, 97, 98, 101, 108]⟩ : ByteArray), .string (⟨#[97, 110]⟩ : ByteArray), .slice none 0 0, .string (⟨#[101, 108]⟩ : ByteArray)] rfl ap3 ?_; (refine (attr_Part.calls k t462 t463 t464 (⟨#[65, 110, 110, 97, 98, 101, 108]⟩ : ByteArray) (⟨#[97, 110]⟩ : ByteArray) _ _ ([] : List ByteArray) (⟨#[101, 108]⟩ : ByteArray) t476 t477 _ ?side1 ?side2 ?side3 A5.out).mono ?_); (case side1 => exact Kd.C_nil _ _); (case side2 => exact Nat.le_refl _); (case side3 => first | exact HG.out | (refine Gw.below HG.out ?_; repeat (first | (with_reducible first | exact HB.out | apply below_alloc | apply pw_below_drewN | apply below_drew1 | refine below_set ?_ GE466.out | refine below_set ?_ GE471.out) | exact HB.out))); rintro e w103 ⟨rfl, hb⟩; refine ⟨_, rfl, ?_⟩; have n0_ := Aside0.mk (blk_below (g := gb466) (o := .cells #[.string t462, .int .i64 t463, .bool t464] 23 (0, 0)) (apB BK466.out) hb); have n1_ := Aside0.mk (blk_below (g := gb471) (o := .cells #[.string t467, .int .i64 t468, .bool t469] 23 (0, 0)) (apB BK471.out) hb); have n2_ := Aside0.mk (below_step (by repeat (first | (with_reducible first | exact HB.out | apply below_alloc | apply pw_below_drewN | apply below_drew1 | refine below_set ?_ GE466.out | refine below_set ?_ GE471.out) | exact HB.out)) hb); clear BK466; clear BK471; clear HB; have BK466 := n0_; have BK471 := n1_; have HB := n2_; clear n0_ n1_ n2_; (try clear hb); (try clear hb2); (try clear hk); (try clear hi)))
   go_ret
   exact ⟨by first | rfl | (simp [errW_none, errW_some, bne_nil8, beq_nil8]; done) | (simp [errW_none, errW_some] <;> rfl) | (simp [*, errW_none, errW_some] <;> rfl), by repeat (first | (with_reducible first | exact HB.out | apply below_alloc | apply pw_below_drewN | apply below_drew1 | refine below_set ?_ GE466.out | refine below_set ?_ GE471.out) | exact HB.out)⟩
 ·
  replace c6 := Bool.eq_false_iff.mpr c6
  subst c6
  rw [if_neg (show ¬ (false = true) by decide)] at H
  obtain rfl := Option.some.inj H
  go_enter Tryz.func9, Tryz.ntmps9
  go_wp2_with (first | ((with_reducible refine gate_callee (f := 16) rfl ?_); refine goesL_ (some 12) rfl rfl Tryz.func16 (by kernel_rfl) rfl #[.string (⟨#[67, 78]⟩ : ByteArray)] rfl ap3 ?_; (with_reducible refine (attr_Find.calls (⟨#[67, 78]⟩ : ByteArray) t462 t463 t464 false _ ?side1 A1.out).mono ?_); (case side1 => exact ap6); rintro e w104 ⟨rfl, hb⟩; refine ⟨_, rfl, ?_⟩; have n0_ := Aside0.mk (below_step ap1 hb); clear HB; have HB := n0_; clear n0_; (try clear hb); (try clear hb2); (try clear hk); (try clear hi)) | ((with_reducible refine gate_dst (N := 1) rfl ?_); refine box_event ?hg (N := 1) ?hd (cs := #[.string (⟨#[]⟩ : ByteArray), .int .i64 0, .bool false]) (t := 23) ?hr ?_; (case hd => rfl); (case hg => rfl); (case hr => first | (go_simp; done) | (go_simp; rfl)); intro gb466 hg w105 hbox hb; have n0_ := Aside0.mk (below_step ap1 hb); have n1_ := Aside0.mk (hbox); have n2_ := Aside0.mk ((by rw [hg]; exact (below_size ap1) : w.heap.size ≤ gb466)); have n3_ := Aside0.mk ((by rw [hg]; exact (below_size ap1) : w.heap.size ≤ gb466)); clear HB; have HB := n0_; have BK466 := n1_; have GW466 := n2_; have GE466 := n3_; clear n0_ n1_ n2_ n3_; clear hb hbox hg; have hcz106_0 : w105.cell? ⟨gb466, 0, none⟩ = some (.string (⟨#[]⟩ : ByteArray)) := (blk_cell BK466.out 0).trans rfl; have hcz106_1 : w105.cell? ⟨gb466, 1, none⟩ = some (.int .i64 0) := (blk_cell BK466.out 1).trans rfl; have hcz106_2 : w105.cell? ⟨gb466, 2, none⟩ = some (.bool false) := (blk_cell BK466.out 2).trans rfl; have hfz106_0 := blk_frozen BK466.out 0; have hfz106_1 := blk_frozen BK466.out 1; have hfz106_2 := blk_frozen BK466.out 2) | ((with_reducible refine gate_callee (f := 16) rfl ?_); refine goesL_ (some 16) rfl rfl Tryz.func16 (by kernel_rfl) rfl #[.string (⟨#[117, 105, 100, 110, 117, 109, 98, 101, 114]⟩ : ByteArray)] rfl ap3 ?_; (with_reducible refine (attr_Find.calls (⟨#[117, 105, 100, 110, 117, 109, 98, 101, 114]⟩ : ByteArray) t467 t468 t469 t470 _ ?side1 A2.out).mono ?_); (case side1 => first | exact HG.out | (refine Gw.below HG.out ?_; repeat (first | (with_reducible first | exact HB.out | apply below_alloc | apply pw_below_drewN | apply below_drew1 | refine below_set ?_ GE466.out) | exact HB.out))); rintro e w107 ⟨rfl, hb⟩; refine ⟨_, rfl, ?_⟩; have n0_ := Aside0.mk (blk_below (g := gb466) (o := .cells #[.string t462, .int .i64 t463, .bool t464] 23 (0, 0)) (by (with_reducible repeat (first | refine blk_drewN ?_ _ | refine blk_drew ?_ | refine blk_alloc ?_ _)); refine blk_put (cs := #[.string t462, .int .i64 t463, .bool false]) ?_ 2 _ rfl; (with_reducible repeat (first | refine blk_drewN ?_ _ | refine blk_drew ?_ | refine blk_alloc ?_ _)); refine blk_put (cs := #[.string t462, .int .i64 0, .bool false]) ?_ 1 _ rfl; (with_reducible repeat (first | refine blk_drewN ?_ _ | refine blk_drew ?_ | refine blk_alloc ?_ _)); refine blk_put (cs := #[.string (⟨#[]⟩ : ByteArray), .int .i64 0, .bool false]) ?_ 0 _ rfl; (with_reducible repeat (first | refine blk_drewN ?_ _ | refine blk_drew ?_ | refine blk_alloc ?_ _)); exact BK466.out) hb); have n1_ := Aside0.mk (below_step (apG GE466.out) hb); clear BK466; clear HB; have BK466 := n0_; have HB := n1_; clear n0_ n1_; (try clear hb); (try clear hb2); (try clear hk); (try clear hi)) | ((with_reducible refine gate_dst (N := 3) rfl ?_); refine box_event ?hg (N := 3) ?hd (cs := #[.string (⟨#[]⟩ : ByteArray), .int .i64 0, .bool false]) (t := 23) ?hr ?_; (case hd => rfl); (case hg => rfl); (case hr => first | (go_simp; done) | (go_simp; rfl)); intro gb471 hg w108 hbox hb; have n0_ := Aside0.mk (blk_below (g := gb466) (o := .cells #[.string t462, .int .i64 t463, .bool t464] 23 (0, 0)) (apB BK466.out) hb); have n1_ := Aside0.mk (below_step (apG GE466.out) hb); have n2_ := Aside0.mk (hbox); have n3_ := Aside0.mk ((by rw [hg]; exact (below_size (apG GE466.out)) : w.heap.size ≤ gb471)); have n4_ := Aside0.mk ((by rw [hg]; exact (below_size (apG GE466.out)) : w.heap.size ≤ gb471)); have n5_ := Aside0.mk ((by rw [hg]; exact Nat.ne_of_lt (blk_lt (g := gb466) (o := .cells #[.string t462, .int .i64 t463, .bool t464] 23 (0, 0)) (apB BK466.out)) : gb466 ≠ gb471)); have n6_ := Aside0.mk ((by rw [hg]; exact Nat.ne_of_gt (blk_lt (g := gb466) (o := .cells #[.string t462, .int .i64 t463, .bool t464] 23 (0, 0)) (apB BK466.out)) : gb471 ≠ gb466)); clear BK466; clear HB; have BK466 := n0_; have HB := n1_; have BK471 := n2_; have GW471 := n3_; have GE471 := n4_; have NB466_471 := n5_; have NB471_466 := n6_; clear n0_ n1_ n2_ n3_ n4_ n5_ n6_; clear hb hbox hg; have hnb109 := NB471_466.out; have hnc109 := NB466_471.out; have hcz110_0 : w108.cell? ⟨gb471, 0, none⟩ = some (.string (⟨#[]⟩ : ByteArray)) := (blk_cell BK471.out 0).trans rfl; have hcz110_1 : w108.cell? ⟨gb471, 1, none⟩ = some (.int .i64 0) := (blk_cell BK471.out 1).trans rfl; have hcz110_2 : w108.cell? ⟨gb471, 2, none⟩ = some (.bool false) := (blk_cell BK471.out 2).trans rfl; have hfz110_0 := blk_frozen BK471.out 0; have hfz110_1 := blk_frozen BK471.out 1; have hfz110_2 := blk_frozen BK471.out 2; have hcz111_0 : w108.cell? ⟨gb466, 0, none⟩ = some (.string t462) := (blk_cell BK466.out 0).trans rfl; have hcz111_1 : w108.cell? ⟨gb466, 1, none⟩ = some (.int .i64 t463) := (blk_cell BK466.out 1).trans rfl; have hcz111_2 : w108.cell? ⟨gb466, 2, none⟩ = some (.bool t464) := (blk_cell BK466.out 2).trans rfl; have hfz111_0 := blk_frozen BK466.out 0; have hfz111_1 := blk_frozen BK466.out 1; have hfz111_2 := blk_frozen BK466.out 2) | ((with_reducible refine gate_callee (f := 10) rfl ?_); refine goesL_ (some 21) rfl rfl Tryz.func10 (by kernel_rfl) rfl #[.agg #[.string t462, .int .i64 t463, .bool t464], .string (⟨#[65, 110, 110, 32, 32, 66]⟩ : ByteArray), .string (⟨#[97, 110, 110, 32, 98]⟩ : ByteArray)] rfl ap3 ?_; (with_reducible refine (attr_Equal.calls k t462 t463 t464 (⟨#[65, 110, 110, 32, 32, 66]⟩ : ByteArray) (⟨#[97, 110, 110, 32, 98]⟩ : ByteArray) t472 t473 _ ?side1 A3.out).mono ?_); (case side1 => first | exact HG.out | (refine Gw.below HG.out ?_; repeat (first | (with_reducible first | exact HB.out | apply below_alloc | apply pw_below_drewN | apply below_drew1 | refine below_set ?_ GE466.out | refine below_set ?_ GE471.out) | exact HB.out))); rintro e w112 ⟨rfl, hb⟩; refine ⟨_, rfl, ?_⟩; have n0_ := Aside0.mk (blk_below (g := gb466) (o := .cells #[.string t462, .int .i64 t463, .bool t464] 23 (0, 0)) (by (with_reducible repeat (first | refine blk_drewN ?_ _ | refine blk_drew ?_ | refine blk_alloc ?_ _)); refine blk_far ?_ NB466_471.out _; (with_reducible repeat (first | refine blk_drewN ?_ _ | refine blk_drew ?_ | refine blk_alloc ?_ _)); refine blk_far ?_ NB466_471.out _; (with_reducible repeat (first | refine blk_drewN ?_ _ | refine blk_drew ?_ | refine blk_alloc ?_ _)); refine blk_far ?_ NB466_471.out _; (with_reducible repeat (first | refine blk_drewN ?_ _ | refine blk_drew ?_ | refine blk_alloc ?_ _)); exact BK466.out) hb); have n1_ := Aside0.mk (blk_below (g := gb471) (o := .cells #[.string t467, .int .i64 t468, .bool t469] 23 (0, 0)) (by (with_reducible repeat (first | refine blk_drewN ?_ _ | refine blk_drew ?_ | refine blk_alloc ?_ _)); refine blk_put (cs := #[.string t467, .int .i64 t468, .bool false]) ?_ 2 _ rfl; (with_reducible repeat (first | refine blk_drewN ?_ _ | refine blk_drew ?_ | refine blk_alloc ?_ _)); refine blk_put (cs := #[.string t467, .int .i64 0, .bool false]) ?_ 1 _ rfl; (with_reducible repeat (first | refine blk_drewN ?_ _ | refine blk_drew ?_ | refine blk_alloc ?_ _)); refine blk_put (cs := #[.string (⟨#[]⟩ : ByteArray), .int .i64 0, .bool false]) ?_ 0 _ rfl; (with_reducible repeat (first | refine blk_drewN ?_ _ | refine blk_drew ?_ | refine blk_alloc ?_ _)); exact BK471.out) hb); have n2_ := Aside0.mk (below_step (by repeat (first | (with_reducible first | exact HB.out | apply below_alloc | apply pw_below_drewN | apply below_drew1 | refine below_set ?_ GE466.out | refine below_set ?_ GE471.out) | exact HB.out)) hb); clear BK466; clear BK471; clear HB; have BK466 := n0_; have BK471 := n1_; have HB := n2_; clear n0_ n1_ n2_; (try clear hb); (try clear hb2); (try clear hk); (try clear hi); have hcz113_0 : w112.cell? ⟨gb471, 0, none⟩ = some (.string t467) := (blk_cell BK471.out 0).trans rfl; have hcz113_1 : w112.cell? ⟨gb471, 1, none⟩ = some (.int .i64 t468) := (blk_cell BK471.out 1).trans rfl; have hcz113_2 : w112.cell? ⟨gb471, 2, none⟩ = some (.bool t469) := (blk_cell BK471.out 2).trans rfl; have hfz113_0 := blk_frozen BK471.out 0; have hfz113_1 := blk_frozen BK471.out 1; have hfz113_2 := blk_frozen BK471.out 2) | ((with_reducible refine gate_callee (f := 12) rfl ?_); refine goesL_ (some 26) rfl rfl Tryz.func12 (by kernel_rfl) rfl #[.agg #[.string t467, .int .i64 t468, .bool t469], .string (⟨#[57]⟩ : ByteArray), .string (⟨#[49, 48]⟩ : ByteArray)] rfl ap3 ?_; (with_reducible refine (attr_Order.calls k t467 t468 t469 (⟨#[57]⟩ : ByteArray) (⟨#[49, 48]⟩ : ByteArray) t474 t475 _ ?side1 A4.out).mono ?_); (case side1 => first | exact HG.out | (refine Gw.below HG.out ?_; repeat (first | (with_reducible first | exact HB.out | apply below_alloc | apply pw_below_drewN | apply below_drew1 | refine below_set ?_ GE466.out | refine below_set ?_ GE471.out) | exact HB.out))); rintro e w114 ⟨rfl, hb⟩; refine ⟨_, rfl, ?_⟩; have n0_ := Aside0.mk (blk_below (g := gb466) (o := .cells #[.string t462, .int .i64 t463, .bool t464] 23 (0, 0)) (apB BK466.out) hb); have n1_ := Aside0.mk (blk_below (g := gb471) (o := .cells #[.string t467, .int .i64 t468, .bool t469] 23 (0, 0)) (apB BK471.out) hb); have n2_ := Aside0.mk (below_step (by repeat (first | (with_reducible first | exact HB.out | apply below_alloc | apply pw_below_drewN | apply below_drew1 | refine below_set ?_ GE466.out | refine below_set ?_ GE471.out) | exact HB.out)) hb); clear BK466; clear BK471; clear HB; have BK466 := n0_; have BK471 := n1_; have HB := n2_; clear n0_ n1_ n2_; (try clear hb); (try clear hb2); (try clear hk); (try clear hi); have hcz115_0 : w114.cell? ⟨gb466, 0, none⟩ = some (.string t462) := (blk_cell BK466.out 0).trans rfl; have hcz115_1 : w114.cell? ⟨gb466, 1, none⟩ = some (.int .i64 t463) := (blk_cell BK466.out 1).trans rfl; have hcz115_2 : w114.cell? ⟨gb466, 2, none⟩ = some (.bool t464) := (blk_cell BK466.out 2).trans rfl; have hfz115_0 := blk_frozen BK466.out 0; have hfz115_1 := blk_frozen BK466.out 1; have hfz115_2 := blk_frozen BK466.out 2) | ((with_reducible refine gate_callee (f := 14) rfl ?_); refine goesL_ (some 31) rfl rfl Tryz.func14 (by kernel_rfl) rfl #[.agg #[.string t462, .int .i64 t463, .bool t464], .string (⟨#[65, 110, 110, 97, 98, 101, 108]⟩ : ByteArray), .string (⟨#[97, 110]⟩ : ByteArray), .slice none 0 0, .string (⟨#[101, 108]⟩ : ByteArray)] rfl ap3 ?_; (refine (attr_Part.calls k t462 t463 t464 (⟨#[65, 110, 110, 97, 98, 101, 108]⟩ : ByteArray) (⟨#[97, 110]⟩ : ByteArray) _ _ ([] : List ByteArray) (⟨#[101, 108]⟩ : ByteArray) t476 t477 _ ?side1 ?side2 ?side3 A5.out).mono ?_); (case side1 => exact Kd.C_nil _ _); (case side2 => exact Nat.le_refl _); (case side3 => first | exact HG.out | (refine Gw.below HG.out ?_; repeat (first | (with_reducible first | exact HB.out | apply below_alloc | apply pw_below_drewN | apply below_drew1 | refine below_set ?_ GE466.out | refine below_set ?_ GE471.out) | exact HB.out))); rintro e w116 ⟨rfl, hb⟩; refine ⟨_, rfl, ?_⟩; have n0_ := Aside0.mk (blk_below (g := gb466) (o := .cells #[.string t462, .int .i64 t463, .bool t464] 23 (0, 0)) (apB BK466.out) hb); have n1_ := Aside0.mk (blk_below (g := gb471) (o := .cells #[.string t467, .int .i64 t468, .bool t469] 23 (0, 0)) (apB BK471.out) hb); have n2_ := Aside0.mk (below_step (by repeat (first | (with_reducible first | exact HB.out | apply below_alloc | apply pw_below_drewN | apply below_drew1 | refine below_set ?_ GE466.out | refine below_set ?_ GE471.out) | exact HB.out)) hb); clear BK466; clear BK471; clear HB; have BK466 := n0_; have BK471 := n1_; have HB := n2_; clear n0_ n1_ n2_; (try clear hb); (try clear hb2); (try clear hk); (try clear hi)))
  go_ret
  exact ⟨by first | rfl | (simp [errW_none, errW_some, bne_nil8, beq_nil8]; done) | (simp [errW_none, errW_some] <;> rfl) | (simp [*, errW_none, errW_some] <;> rfl), by repeat (first | (with_reducible first | exact HB.out | apply below_alloc | apply pw_below_drewN | apply below_drew1 | refine below_set ?_ GE466.out | refine below_set ?_ GE471.out) | exact HB.out)⟩
end Go.Proofs.YtpklcnpmppaaoaaGreatDoor.Print
namespace Go.Proofs.YtpklcnpmppaaoaaGreatDoor.Print
open Go.RowKit Go.Proofs.YtpklcnpmppaaoaaGreatDoorW.PrintWords Go.Proofs.YtpklcnpmppaaoaaGreatDoorW.PrintLast Go.Proofs.YtpklcnpmppaaoaaGreatDoorW.PrintMore Go.Proofs.YtpklcnpmppaaoaaGreatDoor.Pure
set_option linter.unusedVariables false
set_option linter.unusedSimpArgs false
set_option maxRecDepth 100000 in
theorem awake16 : L16awake.f 60 = some true := by kernel_rfl
theorem awake16_ev : Ev (fun k => L16awake.f k) true := ev_mono L16awake.mono 60 awake16
end Go.Proofs.YtpklcnpmppaaoaaGreatDoor.Print
namespace Go.Proofs.YtpklcnpmppaaoaaGreatDoor.Print
open Go.RowKit Go.Proofs.YtpklcnpmppaaoaaGreatDoorW.PrintWords Go.Proofs.YtpklcnpmppaaoaaGreatDoorW.PrintLast Go.Proofs.YtpklcnpmppaaoaaGreatDoorW.PrintMore
attribute [local go_sem] max2_int min2_int max_two min_two max_three min_three max_four min_four
set_option linter.unusedVariables false
set_option linter.unusedSimpArgs false
def R16Small.l0 : Nat → ByteArray → List Int → Int → Option (ByteArray)
 | 0, _, _, _ => none
 | k + 1, x0, x3, x4 => if x4 < (x0.size : Int) then (if 0 ≤ x4 then (if (bt x0 x4) ≥ 65 then (if (bt x0 x4) ≤ 90 then (if x3.length < 140737488355328 then (R16Small.l0 k x0 (x3 ++ [((bt x0 x4) + 32) % 256]) (wrap64 (x4 + 1))) else (none)) else (if x3.length < 140737488355328 then (R16Small.l0 k x0 (x3 ++ [bt x0 x4]) (wrap64 (x4 + 1))) else (none))) else (if x3.length < 140737488355328 then (R16Small.l0 k x0 (x3 ++ [bt x0 x4]) (wrap64 (x4 + 1))) else (none))) else (none)) else (some (strOfNums x3))
def R16Small.f (k : Nat) (a0 : ByteArray) : Option (ByteArray) := R16Small.l0 k a0 (([] : List Int)) 0
theorem R16Small.mono_l : ∀ k, (∀ y0 y1 y2, LeO (R16Small.l0 k y0 y1 y2) (R16Small.l0 (k + 1) y0 y1 y2))
 | 0 => fun _ _ _ r h => by simp [R16Small.l0] at h
 | k + 1 => by
  have ih0 := R16Small.mono_l k
  ·
   intro y0 y1 y2
   unfold R16Small.l0
   repeat' first
   | (with_reducible exact ih0 _ _ _)
   | (with_reducible exact LeO.refl _)
   | (with_reducible exact LeO.none _)
   | (with_reducible refine LeO.ite ?_ ?_)
   | (with_reducible refine LeO.bind ?_ (fun _ => ?_))
theorem R16Small.mono : ∀ a0 k, LeO (R16Small.f k a0) (R16Small.f (k + 1) a0) := by
 intro a0 k
 have ih0 := R16Small.mono_l k
 unfold R16Small.f
 repeat' first
   | (with_reducible exact ih0 _ _ _)
   | (with_reducible exact LeO.refl _)
   | (with_reducible exact LeO.none _)
   | (with_reducible refine LeO.ite ?_ ?_)
   | (with_reducible refine LeO.bind ?_ (fun _ => ?_))
set_option maxHeartbeats 8000000 in
set_option maxRecDepth 100000 in
theorem R16Small.calls (k : Nat) (a0 : ByteArray) (r : ByteArray) (w : World) (h : R16Small.f k a0 = some r) :
  Calls Tryz.prog 48 #[.string a0] w fun e w' => e = .returned (.string r) ∧ Below w.heap.size w w' := by
 have HB := Aside0.mk (Below.refl w.heap.size w)
 have H : (R16Small.l0 k a0 (([] : List Int)) 0) = some r := h
 clear h
 obtain ⟨y905, hy905⟩ : ∃ y_ : List Int, y_ = (([] : List Int)) := ⟨_, rfl⟩
 replace H : (R16Small.l0 k a0 y905 0) = some r := by first | (rw [hy905]; with_reducible exact H) | (have H2_ := (Option.bind_some _ _).symm.trans H; rw [hy905]; with_reducible exact H2_) | (have H2_ := (Option.bind_some _ _).symm.trans H; with_reducible exact H2_) | with_reducible exact H | (rw [hy905]; exact H) | exact H
 have Ny905 := Aside0.mk hy905
 clear hy905
 have H' := Aside0.mk H
 clear H
 go_enter Tryz.func48, Tryz.ntmps48
 go_wp2_with (first | ((with_reducible refine gate_dst (N := 6) rfl ?_); refine Kd.R_lit (Kd.int .u8) _ 5 ?hg (N := 6) ?hd (xs := ([] : List Int)) (inner := []) (ok := fun _ => True) (okp := fun _ => True) ?hr ?hp (fun _ hk => hk) trivial (Below.refl _ _) (Nat.le_refl _) (by simp) ?_; (case hd => rfl); (case hg => rfl); (case hr => first | (go_simp; done) | (go_simp; rfl)); (case hp => exact (Reps.none _ _)); intro v906 w2 ho3 hb hg_ hnew_; clear hg_ hnew_; (first | rw [← Ny905.out] at ho3 | (simp only [Int.reduceToNat] at ho3; rw [← Ny905.out] at ho3)); have n0_ := Aside0.mk (Kd.R_lower ho3 (below_size ap1)); have n1_ := Aside0.mk (below_step ap1 hb); clear HB; have HO907 := n0_; have HB := n1_; clear n0_ n1_; clear hb ho3))
 go_loopg [3, 4] k (fun kq v3 v4 w' => ∃ (x3_1 : List Int) (x4_1 : Int), v4 = .int .i64 x4_1 ∧ Aside0 (R16Small.l0 kq a0 x3_1 x4_1 = some r) ∧ Aside0 (kq ≤ k) ∧ Aside0 (Kd.R (Kd.int .u8) 5 w' w.heap.size (fun _ => True) v3 x3_1) ∧ Aside0 (Below w.heap.size w w'))
 case atStart => exact ⟨(y905), (0), ap2, H', ⟨Nat.le_refl _⟩, ⟨by (with_reducible repeat (first | apply Kd.R_alloc | apply Kd.R_drewN | apply Kd.R_drew)); exact HO907.out⟩, ⟨by repeat (first | (with_reducible first | exact HB.out | apply below_alloc | apply pw_below_drewN | apply below_drew1) | exact HB.out)⟩⟩
 case round =>
  clear H'
  try clear p2
  obtain ⟨x3_1, x4_1, rfl, HA, HK1, HO_3, HB⟩ := hrel
  cases gk with
  | zero => exact absurd HA.out (by simp [R16Small.l0])
  | succ k1 =>
   have H := HA.out
   clear HA
   simp only [R16Small.l0] at H
   by_cases c4 : x4_1 < (a0.size : Int)
   ·
    rw [if_pos c4] at H
    have c4b0 := decide_eq_true c4
    clear c4
    by_cases c5 : 0 ≤ x4_1
    ·
     rw [if_pos c5] at H
     have c5b0 := decide_eq_true c5
     clear c5
     by_cases c7 : (bt a0 x4_1) ≥ 65
     ·
      rw [if_pos c7] at H
      have c7b0 := decide_eq_true c7
      clear c7
      by_cases c8 : (bt a0 x4_1) ≤ 90
      ·
       rw [if_pos c8] at H
       have c8b0 := decide_eq_true c8
       clear c8
       by_cases c9 : x3_1.length < 140737488355328
       ·
        rw [if_pos c9] at H
        have LMc9 := Aside0.mk c9
        clear c9
        obtain ⟨y908, hy908⟩ : ∃ y_ : List Int, y_ = (x3_1 ++ [((bt a0 x4_1) + 32) % 256]) := ⟨_, rfl⟩
        replace H : (R16Small.l0 k1 a0 y908 (wrap64 (x4_1 + 1))) = some r := by first | (rw [hy908]; with_reducible exact H) | (have H2_ := (Option.bind_some _ _).symm.trans H; rw [hy908]; with_reducible exact H2_) | (have H2_ := (Option.bind_some _ _).symm.trans H; with_reducible exact H2_) | with_reducible exact H | (rw [hy908]; exact H) | exact H
        have Ny908 := Aside0.mk hy908
        clear hy908
        have H' := Aside0.mk H
        clear H
        have p6 : 0 ≤ (x4_1 : Int) := of_decide_eq_true ap0
        have q6 : x4_1 < (a0.size : Int) := of_decide_eq_true ap0
        have hx6 := bt_at a0 x4_1
        replace p6 := eq_true p6
        replace q6 := eq_true q6
        go_wp2_with (first | ((with_reducible refine gate_builtin (b := .append) (xs := #[.tmp 24, .tmp 26]) rfl ?_); at_builtin; refine Kd.R_append (Kd.int .u8) (w0 := w) w.heap.size rfl (.tmp 24) (.tmp 26) 82 5 (.int .u8 0) 1 rfl Tryz.underlying82 info5 rfl (by decide) (by omega) u3 x3_1 (((bt a0 x4_1) + 32) % 256) [.int .u8 (((bt a0 x4_1) + 32) % 256)] (fun _ => True) (fun _ => False) rfl rfl ?aP (fun _ hk => hk.elim) ?aF ?aO ?aB ?aS ?aL ?_; (case aP => exact rfl); (case aB => exact ap1); (case aF => exact (fun _ _ => trivial)); (case aO => exact (apAR HO_3.out)); (case aS => exact (below_size ap1)); (case aL => have := LMc9.out; omega); intro v909 w10 ho hb hg hat; rw [← Ny908.out] at ho; have n0_ := Aside0.mk (hb); have n1_ := Aside0.mk (ho); clear HB; clear HO_3; have HB := n0_; have HO910 := n1_; clear n0_ n1_; clear ho hb hg hat))
        go_roundg k1
        case measure => have := HK1.out; omega
        case rel => exact ⟨(y908), (wrap64 (x4_1 + 1)), ap2, H', ⟨by have := HK1.out; omega⟩, ⟨by (with_reducible repeat (first | apply Kd.R_alloc | apply Kd.R_drewN | apply Kd.R_drew)); exact HO910.out⟩, ⟨by repeat (first | (with_reducible first | exact HB.out | apply below_alloc | apply pw_below_drewN | apply below_drew1) | exact HB.out)⟩⟩
       ·
        rw [if_neg c9] at H
        exact absurd H (by simp)
      ·
       rw [if_neg c8] at H
       have c8b0 := decide_eq_false c8
       clear c8
       by_cases c11 : x3_1.length < 140737488355328
       ·
        rw [if_pos c11] at H
        have LMc11 := Aside0.mk c11
        clear c11
        obtain ⟨y911, hy911⟩ : ∃ y_ : List Int, y_ = (x3_1 ++ [bt a0 x4_1]) := ⟨_, rfl⟩
        replace H : (R16Small.l0 k1 a0 y911 (wrap64 (x4_1 + 1))) = some r := by first | (rw [hy911]; with_reducible exact H) | (have H2_ := (Option.bind_some _ _).symm.trans H; rw [hy911]; with_reducible exact H2_) | (have H2_ := (Option.bind_some _ _).symm.trans H; with_reducible exact H2_) | with_reducible exact H | (rw [hy911]; exact H) | exact H
        have Ny911 := Aside0.mk hy911
        clear hy911
        have H' := Aside0.mk H
        clear H
        have p6 : 0 ≤ (x4_1 : Int) := of_decide_eq_true ap0
        have q6 : x4_1 < (a0.size : Int) := of_decide_eq_true ap0
        have hx6 := bt_at a0 x4_1
        replace p6 := eq_true p6
        replace q6 := eq_true q6
        go_wp2_with (first | ((with_reducible refine gate_builtin (b := .append) (xs := #[.tmp 24, .tmp 26]) rfl ?_); at_builtin; refine Kd.R_append (Kd.int .u8) (w0 := w) w.heap.size rfl (.tmp 24) (.tmp 26) 82 5 (.int .u8 0) 1 rfl Tryz.underlying82 info5 rfl (by decide) (by omega) u3 x3_1 (bt a0 x4_1) [.int .u8 (bt a0 x4_1)] (fun _ => True) (fun _ => False) rfl rfl ?aP (fun _ hk => hk.elim) ?aF ?aO ?aB ?aS ?aL ?_; (case aP => exact rfl); (case aB => exact ap1); (case aF => exact (fun _ _ => trivial)); (case aO => exact (apAR HO_3.out)); (case aS => exact (below_size ap1)); (case aL => have := LMc11.out; omega); intro v912 w12 ho hb hg hat; rw [← Ny911.out] at ho; have n0_ := Aside0.mk (hb); have n1_ := Aside0.mk (ho); clear HB; clear HO_3; have HB := n0_; have HO913 := n1_; clear n0_ n1_; clear ho hb hg hat))
        go_roundg k1
        case measure => have := HK1.out; omega
        case rel => exact ⟨(y911), (wrap64 (x4_1 + 1)), ap2, H', ⟨by have := HK1.out; omega⟩, ⟨by (with_reducible repeat (first | apply Kd.R_alloc | apply Kd.R_drewN | apply Kd.R_drew)); exact HO913.out⟩, ⟨by repeat (first | (with_reducible first | exact HB.out | apply below_alloc | apply pw_below_drewN | apply below_drew1) | exact HB.out)⟩⟩
       ·
        rw [if_neg c11] at H
        exact absurd H (by simp)
     ·
      rw [if_neg c7] at H
      have c7b0 := decide_eq_false c7
      clear c7
      by_cases c13 : x3_1.length < 140737488355328
      ·
       rw [if_pos c13] at H
       have LMc13 := Aside0.mk c13
       clear c13
       obtain ⟨y914, hy914⟩ : ∃ y_ : List Int, y_ = (x3_1 ++ [bt a0 x4_1]) := ⟨_, rfl⟩
       replace H : (R16Small.l0 k1 a0 y914 (wrap64 (x4_1 + 1))) = some r := by first | (rw [hy914]; with_reducible exact H) | (have H2_ := (Option.bind_some _ _).symm.trans H; rw [hy914]; with_reducible exact H2_) | (have H2_ := (Option.bind_some _ _).symm.trans H; with_reducible exact H2_) | with_reducible exact H | (rw [hy914]; exact H) | exact H
       have Ny914 := Aside0.mk hy914
       clear hy914
       have H' := Aside0.mk H
       clear H
       have p6 : 0 ≤ (x4_1 : Int) := of_decide_eq_true ap0
       have q6 : x4_1 < (a0.size : Int) := of_decide_eq_true ap0
       have hx6 := bt_at a0 x4_1
       replace p6 := eq_true p6
       replace q6 := eq_true q6
       go_wp2_with (first | ((with_reducible refine gate_builtin (b := .append) (xs := #[.tmp 24, .tmp 26]) rfl ?_); at_builtin; refine Kd.R_append (Kd.int .u8) (w0 := w) w.heap.size rfl (.tmp 24) (.tmp 26) 82 5 (.int .u8 0) 1 rfl Tryz.underlying82 info5 rfl (by decide) (by omega) u3 x3_1 (bt a0 x4_1) [.int .u8 (bt a0 x4_1)] (fun _ => True) (fun _ => False) rfl rfl ?aP (fun _ hk => hk.elim) ?aF ?aO ?aB ?aS ?aL ?_; (case aP => exact rfl); (case aB => exact ap1); (case aF => exact (fun _ _ => trivial)); (case aO => exact (apAR HO_3.out)); (case aS => exact (below_size ap1)); (case aL => have := LMc13.out; omega); intro v915 w14 ho hb hg hat; rw [← Ny914.out] at ho; have n0_ := Aside0.mk (hb); have n1_ := Aside0.mk (ho); clear HB; clear HO_3; have HB := n0_; have HO916 := n1_; clear n0_ n1_; clear ho hb hg hat))
       go_roundg k1
       case measure => have := HK1.out; omega
       case rel => exact ⟨(y914), (wrap64 (x4_1 + 1)), ap2, H', ⟨by have := HK1.out; omega⟩, ⟨by (with_reducible repeat (first | apply Kd.R_alloc | apply Kd.R_drewN | apply Kd.R_drew)); exact HO916.out⟩, ⟨by repeat (first | (with_reducible first | exact HB.out | apply below_alloc | apply pw_below_drewN | apply below_drew1) | exact HB.out)⟩⟩
      ·
       rw [if_neg c13] at H
       exact absurd H (by simp)
    ·
     rw [if_neg c5] at H
     exact absurd H (by simp)
   ·
    rw [if_neg c4] at H
    have c4b0 := decide_eq_false c4
    clear c4
    obtain rfl := Option.some.inj H
    have hcv15 := own_string (P := Tryz.prog) Tryz.underlying82 Tryz.underlying5 Tryz.underlying9 (Kd.own_of_R HO_3.out)
    go_wp2
    go_ret
    exact ⟨by first | rfl | (simp [errW_none, errW_some, bne_nil8, beq_nil8]; done) | (simp [errW_none, errW_some] <;> rfl) | (simp [*, errW_none, errW_some] <;> rfl), by repeat (first | (with_reducible first | exact HB.out | apply below_alloc | apply pw_below_drewN | apply below_drew1) | exact HB.out)⟩
mutual
def R16Syntax.j0 : Nat → ByteArray → Bool → Option (Int)
 | 0, _, _ => none
 | k + 1, x3, x4 => if x4 = true then (some 1) else (if x3.toList = ([115, 101, 114, 105, 97, 108, 110, 117, 109, 98, 101, 114] : List UInt8) then (some 2) else (if x3.toList = ([117, 115, 101, 114, 112, 97, 115, 115, 119, 111, 114, 100] : List UInt8) then (R16Syntax.j1 k x3 (x3.toList == ([117, 115, 101, 114, 112, 97, 115, 115, 119, 111, 114, 100] : List UInt8))) else (R16Syntax.j1 k x3 (x3.toList == ([112, 104, 111, 116, 111] : List UInt8)))))
def R16Syntax.j1 : Nat → ByteArray → Bool → Option (Int)
 | 0, _, _ => none
 | k + 1, x3, x18 => if x18 = true then (some 3) else (if x3.toList = ([117, 105, 100, 110, 117, 109, 98, 101, 114] : List UInt8) then (R16Syntax.j2 k x3 (x3.toList == ([117, 105, 100, 110, 117, 109, 98, 101, 114] : List UInt8))) else (R16Syntax.j2 k x3 (x3.toList == ([108, 105, 109, 105, 116] : List UInt8))))
def R16Syntax.j2 : Nat → ByteArray → Bool → Option (Int)
 | 0, _, _ => none
 | k + 1, x3, x21 => if x21 = true then (some 4) else (if x3.toList = ([101, 110, 97, 98, 108, 101, 100] : List UInt8) then (some 5) else (if x3.toList = ([109, 101, 109, 98, 101, 114] : List UInt8) then (R16Syntax.j3 k x3 (x3.toList == ([109, 101, 109, 98, 101, 114] : List UInt8))) else (R16Syntax.j3 k x3 (x3.toList == ([115, 101, 101, 97, 108, 115, 111] : List UInt8)))))
def R16Syntax.j3 : Nat → ByteArray → Bool → Option (Int)
 | 0, _, _ => none
 | k + 1, x3, x26 => if x26 = true then (some 6) else (if x3.toList = ([116, 101, 108, 101, 112, 104, 111, 110, 101, 110, 117, 109, 98, 101, 114] : List UInt8) then (some 7) else (some 0))
end
def R16Syntax.f (k : Nat) (a0 : ByteArray) : Option (Int) := if a0.toList = ([111, 98, 106, 101, 99, 116, 99, 108, 97, 115, 115] : List UInt8) then (R16Syntax.j0 k a0 (a0.toList == ([111, 98, 106, 101, 99, 116, 99, 108, 97, 115, 115] : List UInt8))) else (if a0.toList = ([99, 110] : List UInt8) then (R16Syntax.j0 k a0 (a0.toList == ([99, 110] : List UInt8))) else (if a0.toList = ([115, 110] : List UInt8) then (R16Syntax.j0 k a0 (a0.toList == ([115, 110] : List UInt8))) else (if a0.toList = ([111, 117] : List UInt8) then (R16Syntax.j0 k a0 (a0.toList == ([111, 117] : List UInt8))) else (if a0.toList = ([111] : List UInt8) then (R16Syntax.j0 k a0 (a0.toList == ([111] : List UInt8))) else (if a0.toList = ([100, 99] : List UInt8) then (R16Syntax.j0 k a0 (a0.toList == ([100, 99] : List UInt8))) else (if a0.toList = ([117, 105, 100] : List UInt8) then (R16Syntax.j0 k a0 (a0.toList == ([117, 105, 100] : List UInt8))) else (if a0.toList = ([109, 97, 105, 108] : List UInt8) then (R16Syntax.j0 k a0 (a0.toList == ([109, 97, 105, 108] : List UInt8))) else (if a0.toList = ([100, 101, 115, 99, 114, 105, 112, 116, 105, 111, 110] : List UInt8) then (R16Syntax.j0 k a0 (a0.toList == ([100, 101, 115, 99, 114, 105, 112, 116, 105, 111, 110] : List UInt8))) else (if a0.toList = ([116, 105, 116, 108, 101] : List UInt8) then (R16Syntax.j0 k a0 (a0.toList == ([116, 105, 116, 108, 101] : List UInt8))) else (R16Syntax.j0 k a0 (a0.toList == ([108] : List UInt8))))))))))))
theorem R16Syntax.mono_l : ∀ k, (∀ y0 y1, LeO (R16Syntax.j0 k y0 y1) (R16Syntax.j0 (k + 1) y0 y1)) ∧ (∀ y0 y1, LeO (R16Syntax.j1 k y0 y1) (R16Syntax.j1 (k + 1) y0 y1)) ∧ (∀ y0 y1, LeO (R16Syntax.j2 k y0 y1) (R16Syntax.j2 (k + 1) y0 y1)) ∧ (∀ y0 y1, LeO (R16Syntax.j3 k y0 y1) (R16Syntax.j3 (k + 1) y0 y1))
 | 0 => ⟨fun _ _ r h => by simp [R16Syntax.j0] at h, fun _ _ r h => by simp [R16Syntax.j1] at h, fun _ _ r h => by simp [R16Syntax.j2] at h, fun _ _ r h => by simp [R16Syntax.j3] at h⟩
 | k + 1 => by
  obtain ⟨ih0, ih1, ih2, ih3⟩ := R16Syntax.mono_l k
  refine ⟨?_, ?_, ?_, ?_⟩
  ·
   intro y0 y1
   unfold R16Syntax.j0
   repeat' first
   | (with_reducible exact ih0 _ _)
   | (with_reducible exact ih1 _ _)
   | (with_reducible exact ih2 _ _)
   | (with_reducible exact ih3 _ _)
   | (with_reducible exact LeO.refl _)
   | (with_reducible exact LeO.none _)
   | (with_reducible refine LeO.ite ?_ ?_)
   | (with_reducible refine LeO.bind ?_ (fun _ => ?_))
  ·
   intro y0 y1
   unfold R16Syntax.j1
   repeat' first
   | (with_reducible exact ih0 _ _)
   | (with_reducible exact ih1 _ _)
   | (with_reducible exact ih2 _ _)
   | (with_reducible exact ih3 _ _)
   | (with_reducible exact LeO.refl _)
   | (with_reducible exact LeO.none _)
   | (with_reducible refine LeO.ite ?_ ?_)
   | (with_reducible refine LeO.bind ?_ (fun _ => ?_))
  ·
   intro y0 y1
   unfold R16Syntax.j2
   repeat' first
   | (with_reducible exact ih0 _ _)
   | (with_reducible exact ih1 _ _)
   | (with_reducible exact ih2 _ _)
   | (with_reducible exact ih3 _ _)
   | (with_reducible exact LeO.refl _)
   | (with_reducible exact LeO.none _)
   | (with_reducible refine LeO.ite ?_ ?_)
   | (with_reducible refine LeO.bind ?_ (fun _ => ?_))
  ·
   intro y0 y1
   unfold R16Syntax.j3
   repeat' first
   | (with_reducible exact ih0 _ _)
   | (with_reducible exact ih1 _ _)
   | (with_reducible exact ih2 _ _)
   | (with_reducible exact ih3 _ _)
   | (with_reducible exact LeO.refl _)
   | (with_reducible exact LeO.none _)
   | (with_reducible refine LeO.ite ?_ ?_)
   | (with_reducible refine LeO.bind ?_ (fun _ => ?_))
theorem R16Syntax.mono : ∀ a0 k, LeO (R16Syntax.f k a0) (R16Syntax.f (k + 1) a0) := by
 intro a0 k
 obtain ⟨ih0, ih1, ih2, ih3⟩ := R16Syntax.mono_l k
 unfold R16Syntax.f
 repeat' first
   | (with_reducible exact ih0 _ _)
   | (with_reducible exact ih1 _ _)
   | (with_reducible exact ih2 _ _)
   | (with_reducible exact ih3 _ _)
   | (with_reducible exact LeO.refl _)
   | (with_reducible exact LeO.none _)
   | (with_reducible refine LeO.ite ?_ ?_)
   | (with_reducible refine LeO.bind ?_ (fun _ => ?_))
end Go.Proofs.YtpklcnpmppaaoaaGreatDoor.Print
