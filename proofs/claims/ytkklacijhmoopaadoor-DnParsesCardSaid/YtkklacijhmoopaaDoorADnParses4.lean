-- laid together by pack.py (a program of this session)
import Derived.Test.YtkklacijhmoopaaDoorADnParses3
namespace Go.Proofs.YtkklacijhmoopaaDoor.Print
open Go.RowKit Go.Proofs.YtkklacijhmoopaaDoorW.PrintWords Go.Proofs.YtkklacijhmoopaaDoorW.PrintLast Go.Proofs.YtkklacijhmoopaaDoorW.PrintMore
attribute [local go_sem] max2_int min2_int max_two min_two max_three min_three max_four min_four
set_option linter.unusedVariables false
set_option linter.unusedSimpArgs false
set_option maxHeartbeats 8000000 in
set_option maxRecDepth 100000 in
theorem R15Pair.calls (k : Nat) (A0 : Option Addr) (c0 : Nat) (l0 : List (S67)) (r1 : ByteArray) (r2 : ByteArray) (r3 : Bool) (w : World) (hr0 : Kd.C k67 w A0 l0.length l0) (hc0 : l0.length ≤ c0) (h : R15Pair.f k l0 = some (r1, r2, r3)) :
  Calls Tryd.prog 38 #[.slice A0 l0.length c0] w fun e w' => e = .returned (.tuple #[.agg #[.string r1, .string r2], .bool r3]) ∧ Below w.heap.size w w' := by
 have hu40 := Tryd.underlying40
 have HR0 := Aside0.mk hr0
 have HC0 := Aside0.mk hc0
 clear hr0 hc0
 have HB := Aside0.mk (Below.refl w.heap.size w)
 have H : (R15Pair.l0 k l0 0) = some (r1, r2, r3) := h
 clear h
 have HC2 := Aside0.mk H
 clear H
 go_enter Tryd.func38, Tryd.ntmps38
 go_upto_block 0 with (first | ((with_reducible refine gate_dst (N := 2) rfl ?_); refine box_event ?hg (N := 2) ?hd (cs := #[.string (⟨#[]⟩ : ByteArray), .string (⟨#[]⟩ : ByteArray)]) (t := 40) ?hr ?_; (case hd => rfl); (case hg => rfl); (case hr => first | (go_simp; done) | (go_simp; rfl)); intro gb469 hg w3 hbox hb; have n0_ := Aside0.mk (below_step ap1 hb); have n1_ := Aside0.mk (hbox); have n2_ := Aside0.mk ((by rw [hg]; exact (below_size ap1) : w.heap.size ≤ gb469)); have n3_ := Aside0.mk ((by rw [hg]; exact (below_size ap1) : w.heap.size ≤ gb469)); clear HB; have HB := n0_; have BK469 := n1_; have GW469 := n2_; have GE469 := n3_; clear n0_ n1_ n2_ n3_; clear hb hbox hg))
 (try simp only [Act.put, List.setIfInBounds_toArray, List.set_cons_zero, List.set_cons_succ])
 go_cut [4] (fun v4 wc => ∃ (kq : Nat) (x4_1 : Int), v4 = .int .i64 x4_1 ∧ Aside0 (R15Pair.j1 kq l0 x4_1 = some (r1, r2, r3)) ∧ Aside0 (kq ≤ k) ∧ Aside0 (wc.heap[gb469]? = some (.cells #[.string (⟨#[]⟩ : ByteArray), .string (⟨#[]⟩ : ByteArray)] 40 (0, 0))) ∧ Aside0 (Below w.heap.size w wc))
 case first =>
  have H := HC2.out
  clear HC2
  have H' := Aside0.mk H
  clear H
  go_wp2
  go_loopg [4] k (fun kq v4 w' => ∃ (x4_1 : Int), v4 = .int .i64 x4_1 ∧ Aside0 (R15Pair.l0 kq l0 x4_1 = some (r1, r2, r3)) ∧ Aside0 (kq ≤ k) ∧ Aside0 (w'.heap[gb469]? = some (.cells #[.string (⟨#[]⟩ : ByteArray), .string (⟨#[]⟩ : ByteArray)] 40 (0, 0))) ∧ Aside0 (Below w.heap.size w w'))
  case atStart => exact ⟨(0), ap2, H', ⟨Nat.le_refl _⟩, ⟨by (with_reducible repeat (first | refine blk_drewN ?_ _ | refine blk_drew ?_ | refine blk_alloc ?_ _)); exact BK469.out⟩, ⟨by repeat (first | (with_reducible first | exact HB.out | apply below_alloc | apply pw_below_drewN | apply below_drew1 | refine below_set ?_ GE469.out) | exact HB.out)⟩⟩
  case round =>
   clear H'
   try clear p2
   try clear c3
   obtain ⟨x4_1, rfl, HA, HK1, BK469, HB⟩ := hrel
   cases gk with
   | zero => exact absurd HA.out (by simp [R15Pair.l0])
   | succ k1 =>
    have H := HA.out
    clear HA
    simp only [R15Pair.l0] at H
    by_cases c4 : x4_1 < (l0.length : Int)
    ·
     rw [if_pos c4] at H
     have c4b0 := decide_eq_true c4
     clear c4
     (first | rw [c4b0] | (simp only [i64_w, i32_w]; rw [c4b0]) | skip)
     by_cases c5 : 0 ≤ x4_1
     ·
      rw [if_pos c5] at H
      have c5b0 := decide_eq_true c5
      clear c5
      obtain ⟨bq6, hbq6⟩ : ∃ b_ : Bool, b_ = ((rd_T67 l0 x4_1).f1) := ⟨_, rfl⟩
      replace H : (if bq6 = true then (if (((rd_T67 l0 x4_1).f0) = 61) then (R15Pair.j1 k1 l0 x4_1) else (R15Pair.l0 k1 l0 (wrap64 (x4_1 + 1)))) else (R15Pair.l0 k1 l0 (wrap64 (x4_1 + 1)))) = some (r1, r2, r3) := by rw [← hbq6] at H; exact H
      have Nbq6 := Aside0.mk hbq6
      clear hbq6
      by_cases c7 : bq6 = true
      ·
       subst c7
       rw [if_pos rfl] at H
       by_cases c8 : (((rd_T67 l0 x4_1).f0) = 61)
       ·
        rw [if_pos c8] at H
        have c8b0 : (((rd_T67 l0 x4_1).f0) == 61) = true := beq_iff_eq.mpr c8
        have c8b1 : (((rd_T67 l0 x4_1).f0) != 61) = false := bne_eq_false_iff_eq.mpr c8
        clear c8
        have H' := Aside0.mk H
        clear H
        have p470 : 0 ≤ (x4_1 : Int) := of_decide_eq_true ap0
        have q470 : x4_1 < (l0.length : Int) := of_decide_eq_true ap0
        obtain ⟨ad470, e470, hx470_0, hx470_1⟩ := at_T67 HR0.out x4_1 p470 q470
        (try rw [← Nbq6.out] at hx470_1)
        cases e470
        replace hx470_0 := (HB.out.cell (World.block_lt_of_cell? w _ hx470_0)).trans hx470_0
        replace hx470_1 := (HB.out.cell (World.block_lt_of_cell? w _ hx470_1)).trans hx470_1
        replace p470 := eq_true p470
        replace q470 := eq_true q470
        have p471 : 0 ≤ (x4_1 : Int) := of_decide_eq_true ap0
        have q471 : x4_1 < (l0.length : Int) := of_decide_eq_true ap0
        obtain ⟨ad471, e471, hx471_0, hx471_1⟩ := at_T67 HR0.out x4_1 p471 q471
        (try rw [← Nbq6.out] at hx471_1)
        obtain rfl : ad470 = ad471 := (by injection e471)
        replace hx471_0 := (HB.out.cell (World.block_lt_of_cell? w _ hx471_0)).trans hx471_0
        replace hx471_1 := (HB.out.cell (World.block_lt_of_cell? w _ hx471_1)).trans hx471_1
        replace p471 := eq_true p471
        replace q471 := eq_true q471
        go_wp2
        first | go_meet | (simp only [c8b0] at *; go_meet)
        case rel => exact ⟨_, (x4_1), ap2, H', ⟨by have := HK1.out; first | omega | exact Nat.le_refl _⟩, ⟨by (with_reducible repeat (first | refine blk_drewN ?_ _ | refine blk_drew ?_ | refine blk_alloc ?_ _)); exact BK469.out⟩, ⟨by repeat (first | (with_reducible first | exact HB.out | apply below_alloc | apply pw_below_drewN | apply below_drew1 | refine below_set ?_ GE469.out) | exact HB.out)⟩⟩
       ·
        rw [if_neg c8] at H
        have c8b0 : (((rd_T67 l0 x4_1).f0) == 61) = false := beq_eq_false_iff_ne.mpr c8
        have c8b1 : (((rd_T67 l0 x4_1).f0) != 61) = true := bne_iff_ne.mpr c8
        have H' := Aside0.mk H
        clear H
        have p470 : 0 ≤ (x4_1 : Int) := of_decide_eq_true ap0
        have q470 : x4_1 < (l0.length : Int) := of_decide_eq_true ap0
        obtain ⟨ad470, e470, hx470_0, hx470_1⟩ := at_T67 HR0.out x4_1 p470 q470
        (try rw [← Nbq6.out] at hx470_1)
        cases e470
        replace hx470_0 := (HB.out.cell (World.block_lt_of_cell? w _ hx470_0)).trans hx470_0
        replace hx470_1 := (HB.out.cell (World.block_lt_of_cell? w _ hx470_1)).trans hx470_1
        replace p470 := eq_true p470
        replace q470 := eq_true q470
        have p471 : 0 ≤ (x4_1 : Int) := of_decide_eq_true ap0
        have q471 : x4_1 < (l0.length : Int) := of_decide_eq_true ap0
        obtain ⟨ad471, e471, hx471_0, hx471_1⟩ := at_T67 HR0.out x4_1 p471 q471
        (try rw [← Nbq6.out] at hx471_1)
        obtain rfl : ad470 = ad471 := (by injection e471)
        replace hx471_0 := (HB.out.cell (World.block_lt_of_cell? w _ hx471_0)).trans hx471_0
        replace hx471_1 := (HB.out.cell (World.block_lt_of_cell? w _ hx471_1)).trans hx471_1
        replace p471 := eq_true p471
        replace q471 := eq_true q471
        go_wp2
        go_roundg k1
        case measure => have := HK1.out; omega
        case rel => exact ⟨(wrap64 (x4_1 + 1)), ap2, H', ⟨by have := HK1.out; omega⟩, ⟨by (with_reducible repeat (first | refine blk_drewN ?_ _ | refine blk_drew ?_ | refine blk_alloc ?_ _)); exact BK469.out⟩, ⟨by repeat (first | (with_reducible first | exact HB.out | apply below_alloc | apply pw_below_drewN | apply below_drew1 | refine below_set ?_ GE469.out) | exact HB.out)⟩⟩
      ·
       replace c7 := Bool.eq_false_iff.mpr c7
       subst c7
       rw [if_neg (show ¬ (false = true) by decide)] at H
       have H' := Aside0.mk H
       clear H
       have p470 : 0 ≤ (x4_1 : Int) := of_decide_eq_true ap0
       have q470 : x4_1 < (l0.length : Int) := of_decide_eq_true ap0
       obtain ⟨ad470, e470, hx470_0, hx470_1⟩ := at_T67 HR0.out x4_1 p470 q470
       (try rw [← Nbq6.out] at hx470_1)
       cases e470
       replace hx470_0 := (HB.out.cell (World.block_lt_of_cell? w _ hx470_0)).trans hx470_0
       replace hx470_1 := (HB.out.cell (World.block_lt_of_cell? w _ hx470_1)).trans hx470_1
       replace p470 := eq_true p470
       replace q470 := eq_true q470
       go_wp2
       go_roundg k1
       case measure => have := HK1.out; omega
       case rel => exact ⟨(wrap64 (x4_1 + 1)), ap2, H', ⟨by have := HK1.out; omega⟩, ⟨by (with_reducible repeat (first | refine blk_drewN ?_ _ | refine blk_drew ?_ | refine blk_alloc ?_ _)); exact BK469.out⟩, ⟨by repeat (first | (with_reducible first | exact HB.out | apply below_alloc | apply pw_below_drewN | apply below_drew1 | refine below_set ?_ GE469.out) | exact HB.out)⟩⟩
     ·
      rw [if_neg c5] at H
      exact absurd H (by simp)
    ·
     rw [if_neg c4] at H
     have c4b0 := decide_eq_false c4
     clear c4
     (first | rw [c4b0] | (simp only [i64_w, i32_w]; rw [c4b0]) | skip)
     have H' := Aside0.mk H
     clear H
     go_wp2
     first | go_meet | (simp only [c8b0] at *; go_meet) | (simp only [c8b0] at *; go_meet)
     case rel => exact ⟨_, (x4_1), ap2, H', ⟨by have := HK1.out; first | omega | exact Nat.le_refl _⟩, ⟨by (with_reducible repeat (first | refine blk_drewN ?_ _ | refine blk_drew ?_ | refine blk_alloc ?_ _)); exact BK469.out⟩, ⟨by repeat (first | (with_reducible first | exact HB.out | apply below_alloc | apply pw_below_drewN | apply below_drew1 | refine below_set ?_ GE469.out) | exact HB.out)⟩⟩
 case rest =>
  clear HC2
  try clear p2
  try clear c3
  try clear c4
  try clear c4b0
  try clear p4
  try clear q4
  try clear hx4
  try clear c5
  try clear c5b0
  try clear p6
  try clear q6
  try clear c7
  try clear c8
  try clear c8b0
  try clear c8b1
  try clear hx470_0
  try clear hx470_1
  try clear hx471_0
  try clear hx471_1
  try clear p2
  try clear p470
  try clear p471
  try clear q470
  try clear q471
  obtain ⟨kq, x4_1, rfl, HA, HJ1, BK469, HB⟩ := hcut
  cases kq with
  | zero => exact absurd HA.out (by simp [R15Pair.j1])
  | succ kj1 =>
   have H := HA.out
   clear HA
   simp only [R15Pair.j1] at H
   by_cases c9 : x4_1 = (l0.length : Int)
   ·
    rw [if_pos c9] at H
    have c9b0 : (x4_1 == (l0.length : Int)) = true := beq_iff_eq.mpr c9
    have c9b1 : (x4_1 != (l0.length : Int)) = false := bne_eq_false_iff_eq.mpr c9
    clear c9
    simp only [Option.some.injEq, Prod.mk.injEq] at H
    obtain ⟨rfl, rfl, rfl⟩ := H
    have hcz10_0 : wc.cell? ⟨gb469, 0, none⟩ = some (.string (⟨#[]⟩ : ByteArray)) := (blk_cell BK469.out 0).trans rfl
    have hcz10_1 : wc.cell? ⟨gb469, 1, none⟩ = some (.string (⟨#[]⟩ : ByteArray)) := (blk_cell BK469.out 1).trans rfl
    have hfz10_0 := blk_frozen BK469.out 0
    have hfz10_1 := blk_frozen BK469.out 1
    go_wp2
    refine bodyPost_ret (results_ct rfl _ _ gb469 40 #[.string (⟨#[]⟩ : ByteArray), .string (⟨#[]⟩ : ByteArray)] (0, 0) _ rfl (by (with_reducible repeat (first | refine blk_drewN ?_ _ | refine blk_drew ?_ | refine blk_alloc ?_ _)); refine blk_put (cs := #[.string (⟨#[]⟩ : ByteArray), .string (⟨#[]⟩ : ByteArray)]) ?_ 1 _ rfl; (with_reducible repeat (first | refine blk_drewN ?_ _ | refine blk_drew ?_ | refine blk_alloc ?_ _)); refine blk_put (cs := #[.string (⟨#[]⟩ : ByteArray), .string (⟨#[]⟩ : ByteArray)]) ?_ 0 _ rfl; (with_reducible repeat (first | refine blk_drewN ?_ _ | refine blk_drew ?_ | refine blk_alloc ?_ _)); exact BK469.out) Tryd.underlying40 rfl (by kernel_rfl)) rfl ?_
    exact ⟨by first | rfl | (simp [errW_none, errW_some, bne_nil8, beq_nil8]; done) | (simp [errW_none, errW_some] <;> rfl) | (simp [*, errW_none, errW_some] <;> rfl), by repeat (first | (with_reducible first | exact HB.out | apply below_alloc | apply pw_below_drewN | apply below_drew1 | refine below_set ?_ GE469.out) | exact HB.out)⟩
   ·
    rw [if_neg c9] at H
    have c9b0 : (x4_1 == (l0.length : Int)) = false := beq_eq_false_iff_ne.mpr c9
    have c9b1 : (x4_1 != (l0.length : Int)) = true := bne_iff_ne.mpr c9
    by_cases c11 : 0 ≤ x4_1
    ·
     rw [if_pos c11] at H
     have c11b0 := eq_true c11
     have c11b1 := decide_eq_true c11
     clear c11
     by_cases c12 : x4_1 ≤ (l0.length : Int)
     ·
      rw [if_pos c12] at H
      have c12b0 := eq_true c12
      have c12b1 := decide_eq_true c12
      clear c12
      obtain ⟨y472, hy472⟩ : ∃ y_ : List (S67), y_ = (l0.take (x4_1 : Int).toNat) := ⟨_, rfl⟩
      replace H : ((R15Trim.f kj1 y472).bind fun t476 => (if 0 ≤ (wrap64 (x4_1 + 1)) then (if (wrap64 (x4_1 + 1)) ≤ (l0.length : Int) then ((R15Trim.f kj1 (l0.drop ((wrap64 (x4_1 + 1)) : Int).toNat)).bind fun t483 => (R15Pair.l1 kj1 t476 t483 (([] : List Int)) 0)) else (none)) else (none))) = some (r1, r2, r3) := by first | (rw [hy472]; with_reducible exact H) | (have H2_ := (Option.bind_some _ _).symm.trans H; rw [hy472]; with_reducible exact H2_) | (have H2_ := (Option.bind_some _ _).symm.trans H; with_reducible exact H2_) | with_reducible exact H | (rw [hy472]; exact H) | exact H
      have Ny472 := Aside0.mk hy472
      clear hy472
      replace H := Option.bind_eq_some_iff.mp H
      obtain ⟨t476, A130, H⟩ := H
      replace H : (if 0 ≤ (wrap64 (x4_1 + 1)) then (if (wrap64 (x4_1 + 1)) ≤ (l0.length : Int) then ((R15Trim.f kj1 (l0.drop ((wrap64 (x4_1 + 1)) : Int).toNat)).bind fun t483 => (R15Pair.l1 kj1 t476 t483 (([] : List Int)) 0)) else (none)) else (none)) = some (r1, r2, r3) := H
      have A13 := Aside0.mk A130
      clear A130
      obtain ⟨ji14, hji14⟩ : ∃ j_ : Int, (wrap64 (x4_1 + 1)) = j_ := ⟨_, rfl⟩
      replace H : (if 0 ≤ (ji14) then (if (ji14) ≤ (l0.length : Int) then ((R15Trim.f kj1 (l0.drop ((ji14) : Int).toNat)).bind fun t483 => (R15Pair.l1 kj1 t476 t483 (([] : List Int)) 0)) else (none)) else (none)) = some (r1, r2, r3) := by first | (rw [hji14] at H; exact H) | (simp only [hji14] at H ⊢; exact H)
      (try rw [hji14] at A13)
      have hji14w : (IntKind.i64.wrap (x4_1 + 1)) = ji14 := (i64_w _).trans hji14
      by_cases c15 : 0 ≤ (ji14)
      ·
       rw [if_pos c15] at H
       have c15b0 := eq_true c15
       have c15b1 := decide_eq_true c15
       clear c15
       by_cases c16 : (ji14) ≤ (l0.length : Int)
       ·
        rw [if_pos c16] at H
        have c16b0 := eq_true c16
        have c16b1 := decide_eq_true c16
        clear c16
        obtain ⟨y479, hy479⟩ : ∃ y_ : List (S67), y_ = (l0.drop ((ji14) : Int).toNat) := ⟨_, rfl⟩
        replace H : ((R15Trim.f kj1 y479).bind fun t483 => (R15Pair.l1 kj1 t476 t483 (([] : List Int)) 0)) = some (r1, r2, r3) := by first | (rw [hy479]; with_reducible exact H) | (have H2_ := (Option.bind_some _ _).symm.trans H; rw [hy479]; with_reducible exact H2_) | (have H2_ := (Option.bind_some _ _).symm.trans H; with_reducible exact H2_) | with_reducible exact H | (rw [hy479]; exact H) | exact H
        have Ny479 := Aside0.mk hy479
        clear hy479
        replace H := Option.bind_eq_some_iff.mp H
        obtain ⟨t483, A170, H⟩ := H
        replace H : (R15Pair.l1 kj1 t476 t483 (([] : List Int)) 0) = some (r1, r2, r3) := H
        have A17 := Aside0.mk A170
        clear A170
        obtain ⟨y486, hy486⟩ : ∃ y_ : List Int, y_ = (([] : List Int)) := ⟨_, rfl⟩
        replace H : (R15Pair.l1 kj1 t476 t483 y486 0) = some (r1, r2, r3) := by first | (rw [hy486]; with_reducible exact H) | (have H2_ := (Option.bind_some _ _).symm.trans H; rw [hy486]; with_reducible exact H2_) | (have H2_ := (Option.bind_some _ _).symm.trans H; with_reducible exact H2_) | with_reducible exact H | (rw [hy486]; exact H) | exact H
        have Ny486 := Aside0.mk hy486
        clear hy486
        have H' := Aside0.mk H
        clear H
        have q18 : (x4_1 : Int) ≤ ((l0.length : Int) : Int) := of_decide_eq_true ap0
        obtain ⟨i018, hi018, _, hsz18, _⟩ := info_parts info67
        have hroom18 : l0.length ≤ c0 := HC0.out
        have hC18 : Kd.C k67 _ A0 l0.length l0 := HR0.out
        have hcut18 := cut_to (P := Tryd.prog) 62 67 .i64 Tryd.underlying62 hi018 A0 l0.length c0 x4_1 (of_decide_eq_true ap0) q18 hroom18
        have hr18 := Kd.C_take (m := (x4_1 : Int).toNat) hC18 (by omega)
        have hy18 : y472.length = (x4_1 : Int).toNat := (by rw [Ny472.out, List.length_take]; omega)
        rw [← Ny472.out] at hr18
        rw [← hy18] at hcut18
        have HR475 := Aside0.mk hr18
        have HC475 := Aside0.mk (show y472.length ≤ c0 from by omega)
        clear hr18 hC18 hroom18 hi018 hsz18
        have KY18 := Aside0.mk hy18
        clear hy18
        replace q18 := eq_true q18
        go_wp2_with (first | ((with_reducible refine gate_callee (f := 37) rfl ?_); refine goesL_ (some 43) rfl rfl Tryd.func37 (by kernel_rfl) rfl #[.slice A0 y472.length c0] rfl ap3 ?_; (with_reducible refine (R15Trim.calls kj1 (fun k_ => k_ < w.heap.size) _ _ y472 t476 _ ?side1 A13.out).mono ?_); (case side1 => exact Kd.V_mk HC475.out (Kd.F_below (Kd.C_F k67_heap HR475.out) (apG GE469.out))); rintro e w19 ⟨v477, rfl, ho0, hb⟩; refine ⟨_, rfl, ?_⟩; have n0_ := Aside0.mk (Kd.V_lower (Kd.V_mono (ok' := fun k_ => k_ ≠ gb469) ho0 (fun k_ hk_ => Or.elim hk_ (fun hs_ => fun e_ => Nat.not_le.2 hs_ (by rw [e_]; exact GW469.out)) (fun hn_ => (Kd.freshB (g := gb469) (o := .cells #[.string (⟨#[]⟩ : ByteArray), .string (⟨#[]⟩ : ByteArray)] 40 (0, 0)) (apB BK469.out) k_ hn_)))) (below_size (apG GE469.out))); have n1_ := Aside0.mk (blk_below (g := gb469) (o := .cells #[.string (⟨#[]⟩ : ByteArray), .string (⟨#[]⟩ : ByteArray)] 40 (0, 0)) (apB BK469.out) hb); have n2_ := Aside0.mk (below_step (apG GE469.out) hb); clear BK469; clear HB; have HO478 := n0_; have BK469 := n1_; have HB := n2_; clear n0_ n1_ n2_; (try clear hb); (try clear hb2); (try clear hk); (try clear hi); (try clear ho0); have q20 : ((ji14) : Int) ≤ ((l0.length : Int) : Int) := of_decide_eq_true ap0; obtain ⟨i020, hi020, _, hsz20, _⟩ := info_parts info67; have hroom20 : l0.length ≤ c0 := HC0.out; have hC20 : Kd.C k67 _ A0 l0.length l0 := HR0.out; have q020 : (0 : Int) ≤ ((ji14) : Int) := of_decide_eq_true ap0; have hcut20 := cut_from (P := Tryd.prog) 62 67 .i64 Tryd.underlying62 hi020 2 hsz20 A0 l0.length c0 (ji14) q020 q20; have hr20 := Kd.C_drop (m := ((ji14) : Int).toNat) (c := c0) hC20 (by omega) hroom20; obtain ⟨A20, hA20⟩ : ∃ A1, A1 = (if c0 = ((ji14) : Int).toNat then A0 else (A0 : Option Addr).map (·.add (((ji14) : Int).toNat * 2))) := ⟨_, rfl⟩; obtain ⟨c20, hc20⟩ : ∃ c1, c1 = c0 - ((ji14) : Int).toNat := ⟨_, rfl⟩; have hy20 : y479.length = l0.length - ((ji14) : Int).toNat := (by rw [Ny479.out, List.length_drop] <;> omega); rw [show (l0).drop ((ji14) : Int).toNat = y479 from Ny479.out.symm] at hr20; replace hr20 : Kd.C k67 _ A20 y479.length y479 := (by rw [hA20]; exact hr20); rw [← hy20, ← hA20, ← hc20] at hcut20; have HR482 := Aside0.mk hr20; have HC482 := Aside0.mk (show y479.length ≤ c20 from by rw [hy20, hc20]; exact Nat.sub_le_sub_right hroom20 _); clear hr20 hC20 hroom20 hi020 hsz20 hc20; have KY20 := Aside0.mk hy20; have KA20 := Aside0.mk hA20; clear hy20 hA20; replace q20 := eq_true q20) | ((with_reducible refine gate_callee (f := 37) rfl ?_); refine goesL_ (some 48) rfl rfl Tryd.func37 (by kernel_rfl) rfl #[.slice A20 y479.length c20] rfl ap3 ?_; (with_reducible refine (R15Trim.calls kj1 (fun k_ => k_ < w.heap.size) _ _ y479 t483 _ ?side1 A17.out).mono ?_); (case side1 => exact Kd.V_mk HC482.out (Kd.F_below (Kd.C_F k67_heap HR482.out) (apG GE469.out))); rintro e w21 ⟨v484, rfl, ho0, hb⟩; refine ⟨_, rfl, ?_⟩; have n0_ := Aside0.mk (Kd.V_below (apAV HO478.out) hb); have n1_ := Aside0.mk (Kd.V_lower (Kd.V_mono (ok' := fun k_ => k_ ≠ gb469) ho0 (fun k_ hk_ => Or.elim hk_ (fun hs_ => fun e_ => Nat.not_le.2 hs_ (by rw [e_]; exact GW469.out)) (fun hn_ => (Kd.freshB (g := gb469) (o := .cells #[.string (⟨#[]⟩ : ByteArray), .string (⟨#[]⟩ : ByteArray)] 40 (0, 0)) (apB BK469.out) k_ hn_)))) (below_size (apG GE469.out))); have n2_ := Aside0.mk (blk_below (g := gb469) (o := .cells #[.string (⟨#[]⟩ : ByteArray), .string (⟨#[]⟩ : ByteArray)] 40 (0, 0)) (apB BK469.out) hb); have n3_ := Aside0.mk (below_step (apG GE469.out) hb); clear HO478; clear BK469; clear HB; have HO478 := n0_; have HO485 := n1_; have BK469 := n2_; have HB := n3_; clear n0_ n1_ n2_ n3_; (try clear hb); (try clear hb2); (try clear hk); (try clear hi); (try clear ho0)) | ((with_reducible refine gate_dst (N := 49) rfl ?_); refine Kd.R_lit (Kd.int .u8) _ 5 ?hg (N := 49) ?hd (xs := ([] : List Int)) (inner := []) (ok := fun _ => True) (okp := fun _ => True) ?hr ?hp (fun _ hk => hk) trivial (Below.refl _ _) (Nat.le_refl _) (by simp) ?_; (case hd => rfl); (case hg => rfl); (case hr => first | (go_simp; done) | (go_simp; rfl)); (case hp => exact (Reps.none _ _)); intro v487 w22 ho23 hb hg_ hnew_; clear hg_ hnew_; (first | rw [← Ny486.out] at ho23 | (simp only [Int.reduceToNat] at ho23; rw [← Ny486.out] at ho23)); have n0_ := Aside0.mk (Kd.V_elder' (apAV HO478.out) (Kd.R_base ho23) hb); have n1_ := Aside0.mk (Kd.V_elder' (apAV HO485.out) (Kd.R_base ho23) hb); have n2_ := Aside0.mk (Kd.R_lower ho23 (below_size (apG GE469.out))); have n3_ := Aside0.mk (blk_below (g := gb469) (o := .cells #[.string (⟨#[]⟩ : ByteArray), .string (⟨#[]⟩ : ByteArray)] 40 (0, 0)) (apB BK469.out) hb); have n4_ := Aside0.mk (below_step (apG GE469.out) hb); clear HO478; clear HO485; clear BK469; clear HB; have HO478 := n0_; have HO485 := n1_; have HO488 := n2_; have BK469 := n3_; have HB := n4_; clear n0_ n1_ n2_ n3_ n4_; clear hb ho23))
        go_loopg [7, 8] kj1 (fun kq v7 v8 w' => ∃ (x7_2 : List Int) (x8_2 : Int) (x470000_2 : ByteArray) (x470001_2 : ByteArray), v8 = .int .i64 x8_2 ∧ Aside0 (R15Pair.l1 kq t476 t483 x7_2 x8_2 = some (r1, r2, r3)) ∧ Aside0 (kq ≤ kj1) ∧ Aside0 (Kd.V k67 67 w' w.heap.size (fun k_ => some k_ ≠ (v7 : Value).ownBlock ∧ k_ ≠ gb469) v477 t476) ∧ Aside0 (Kd.V k67 67 w' w.heap.size (fun k_ => some k_ ≠ (v7 : Value).ownBlock ∧ k_ ≠ gb469) v484 t483) ∧ Aside0 (Kd.R (Kd.int .u8) 5 w' w.heap.size (fun _ => True) v7 x7_2) ∧ Aside0 (w'.heap[gb469]? = some (.cells #[.string x470000_2, .string x470001_2] 40 (0, 0))) ∧ Aside0 (Below w.heap.size w w'))
        case atStart => exact ⟨(y486), (0), ((⟨#[]⟩ : ByteArray)), ((⟨#[]⟩ : ByteArray)), ap2, H', ⟨Nat.le_refl _⟩, ⟨by (with_reducible repeat (first | apply Kd.V_alloc | apply Kd.V_drewN | apply Kd.V_drew)); exact Kd.V_mono HO478.out (fun _ hk => ⟨hk.2, hk.1⟩)⟩, ⟨by (with_reducible repeat (first | apply Kd.V_alloc | apply Kd.V_drewN | apply Kd.V_drew)); exact Kd.V_mono HO485.out (fun _ hk => ⟨hk.2, hk.1⟩)⟩, ⟨by (with_reducible repeat (first | apply Kd.R_alloc | apply Kd.R_drewN | apply Kd.R_drew)); exact HO488.out⟩, ⟨by (with_reducible repeat (first | refine blk_drewN ?_ _ | refine blk_drew ?_ | refine blk_alloc ?_ _)); exact BK469.out⟩, ⟨by repeat (first | (with_reducible first | exact HB.out | apply below_alloc | apply pw_below_drewN | apply below_drew1 | refine below_set ?_ GE469.out) | exact HB.out)⟩⟩
        case round =>
         clear H'
         try clear c1
         try clear q1
         try clear c2
         try clear p2
         try clear q2
         try clear c3
         try clear c4
         try clear c4b0
         try clear p4
         try clear q4
         try clear hx4
         try clear c5
         try clear c5b0
         try clear p6
         try clear q6
         try clear c7
         try clear c8
         try clear c8b0
         try clear c8b1
         try clear c9
         try clear c9b0
         try clear c9b1
         try clear c11
         try clear c11b0
         try clear c11b1
         try clear c12
         try clear c12b0
         try clear c12b1
         try clear c15
         try clear c15b0
         try clear c15b1
         try clear c16
         try clear c16b0
         try clear c16b1
         try clear q18
         try clear c20
         try clear q20
         try clear hcz10_0
         try clear hcz10_1
         try clear hfz10_0
         try clear hfz10_1
         try clear hx470_0
         try clear hx470_1
         try clear hx471_0
         try clear hx471_1
         try clear p2
         try clear p4
         try clear p470
         try clear p471
         try clear p6
         try clear q020
         try clear q18
         try clear q20
         try clear q4
         try clear q470
         try clear q471
         try clear q6
         obtain ⟨x7_2, x8_2, x470000_2, x470001_2, rfl, HA, HK2, HO_5, HO_6, HO_7, BK469, HB⟩ := hrel
         cases gk with
         | zero => exact absurd HA.out (by simp [R15Pair.l1])
         | succ k2 =>
          have H := HA.out
          clear HA
          simp only [R15Pair.l1] at H
          by_cases c24 : x8_2 < (t476.length : Int)
          ·
           rw [if_pos c24] at H
           have c24b0 := decide_eq_true c24
           clear c24
           by_cases c25 : 0 ≤ x8_2
           ·
            rw [if_pos c25] at H
            have c25b0 := decide_eq_true c25
            clear c25
            obtain ⟨bq26, hbq26⟩ : ∃ b_ : Bool, b_ = ((rd_T67 t476 x8_2).f1) := ⟨_, rfl⟩
            replace H : (if (bq26 = true) then (if ((rd_T67 t476 x8_2).f0) ≥ 65 then (if ((rd_T67 t476 x8_2).f0) ≤ 90 then (if x7_2.length < 140737488355328 then (R15Pair.l1 k2 t476 t483 (x7_2 ++ [(((rd_T67 t476 x8_2).f0) + 32) % 256]) (wrap64 (x8_2 + 1))) else (none)) else (if x7_2.length < 140737488355328 then (R15Pair.l1 k2 t476 t483 (x7_2 ++ [(rd_T67 t476 x8_2).f0]) (wrap64 (x8_2 + 1))) else (none))) else (if x7_2.length < 140737488355328 then (R15Pair.l1 k2 t476 t483 (x7_2 ++ [(rd_T67 t476 x8_2).f0]) (wrap64 (x8_2 + 1))) else (none))) else (some ((⟨#[]⟩ : ByteArray), (⟨#[]⟩ : ByteArray), false))) = some (r1, r2, r3) := by rw [← hbq26] at H; exact H
            have Nbq26 := Aside0.mk hbq26
            clear hbq26
            by_cases c27 : (bq26 = true)
            ·
             subst c27
             rw [if_pos rfl] at H
             by_cases c28 : ((rd_T67 t476 x8_2).f0) ≥ 65
             ·
              rw [if_pos c28] at H
              have c28b0 := decide_eq_true c28
              clear c28
              by_cases c29 : ((rd_T67 t476 x8_2).f0) ≤ 90
              ·
               rw [if_pos c29] at H
               have c29b0 := decide_eq_true c29
               clear c29
               by_cases c30 : x7_2.length < 140737488355328
               ·
                rw [if_pos c30] at H
                have LMc30 := Aside0.mk c30
                clear c30
                obtain ⟨y491, hy491⟩ : ∃ y_ : List Int, y_ = (x7_2 ++ [(((rd_T67 t476 x8_2).f0) + 32) % 256]) := ⟨_, rfl⟩
                replace H : (R15Pair.l1 k2 t476 t483 y491 (wrap64 (x8_2 + 1))) = some (r1, r2, r3) := by first | (rw [hy491]; with_reducible exact H) | (have H2_ := (Option.bind_some _ _).symm.trans H; rw [hy491]; with_reducible exact H2_) | (have H2_ := (Option.bind_some _ _).symm.trans H; with_reducible exact H2_) | with_reducible exact H | (rw [hy491]; exact H) | exact H
                have Ny491 := Aside0.mk hy491
                clear hy491
                have H' := Aside0.mk H
                clear H
                obtain ⟨Ao31, co31, eo31⟩ := Kd.V_slice HO_5.out
                subst eo31
                have p489 : 0 ≤ (x8_2 : Int) := of_decide_eq_true ap0
                have q489 : x8_2 < (t476.length : Int) := of_decide_eq_true ap0
                obtain ⟨ad489, e489, hx489_0, hx489_1⟩ := at_T67 (Kd.V_reads' HO_5.out).2.2 x8_2 p489 q489
                (try rw [← Nbq26.out] at hx489_1)
                cases e489
                replace p489 := eq_true p489
                replace q489 := eq_true q489
                have p490 : 0 ≤ (x8_2 : Int) := of_decide_eq_true ap0
                have q490 : x8_2 < (t476.length : Int) := of_decide_eq_true ap0
                obtain ⟨ad490, e490, hx490_0, hx490_1⟩ := at_T67 (Kd.V_reads' HO_5.out).2.2 x8_2 p490 q490
                (try rw [← Nbq26.out] at hx490_1)
                obtain rfl : ad489 = ad490 := (by injection e490)
                replace p490 := eq_true p490
                replace q490 := eq_true q490
                go_wp2_with (first | ((with_reducible refine gate_builtin (b := .append) (xs := #[.tmp 76, .tmp 78]) rfl ?_); at_builtin; refine Kd.R_append (Kd.int .u8) (w0 := w) w.heap.size rfl (.tmp 76) (.tmp 78) 72 5 (.int .u8 0) 1 rfl Tryd.underlying72 info5 rfl (by decide) (by omega) u7 x7_2 ((((rd_T67 t476 x8_2).f0) + 32) % 256) [.int .u8 ((((rd_T67 t476 x8_2).f0) + 32) % 256)] (fun _ => True) (fun _ => False) rfl rfl ?aP (fun _ hk => hk.elim) ?aF ?aO ?aB ?aS ?aL ?_; (case aP => exact rfl); (case aB => exact (apG GE469.out)); (case aF => exact (fun _ _ => trivial)); (case aO => exact (apAR HO_7.out)); (case aS => exact (below_size (apG GE469.out))); (case aL => have := LMc30.out; omega); intro v492 w32 ho hb hg hat; rw [← Ny491.out] at ho; have n0_ := Aside0.mk (Kd.V_afterv (ok := (fun k_ => k_ ≠ gb469)) (by (with_reducible repeat (first | apply Kd.V_alloc | apply Kd.V_drewN | apply Kd.V_drew)); exact Kd.V_mono HO_5.out (fun _ hk => ⟨hk.2, hk.1⟩)) hg hat); have n1_ := Aside0.mk (Kd.V_afterv (ok := (fun k_ => k_ ≠ gb469)) (by (with_reducible repeat (first | apply Kd.V_alloc | apply Kd.V_drewN | apply Kd.V_drew)); exact Kd.V_mono HO_6.out (fun _ hk => ⟨hk.2, hk.1⟩)) hg hat); have n2_ := Aside0.mk (blk_grown (g := gb469) (o := .cells #[.string x470000_2, .string x470001_2] 40 (0, 0)) (apB BK469.out) hg (Kd.R_ne HO_7.out BK469.out (by decide))); have n3_ := Aside0.mk (hb); have n4_ := Aside0.mk (ho); clear HO_5; clear HO_6; clear BK469; clear HB; clear HO_7; have HO_5 := n0_; have HO_6 := n1_; have BK469 := n2_; have HB := n3_; have HO493 := n4_; clear n0_ n1_ n2_ n3_ n4_; clear ho hb hg hat))
                go_roundg k2
                case measure => have := HJ1.out; have := HK2.out; omega
                case rel => exact ⟨(y491), (wrap64 (x8_2 + 1)), (x470000_2), (x470001_2), ap2, H', ⟨by have := HJ1.out; have := HK2.out; omega⟩, ⟨by (with_reducible repeat (first | apply Kd.V_alloc | apply Kd.V_drewN | apply Kd.V_drew)); exact Kd.V_mono HO_5.out (fun _ hk => ⟨hk.2, hk.1⟩)⟩, ⟨by (with_reducible repeat (first | apply Kd.V_alloc | apply Kd.V_drewN | apply Kd.V_drew)); exact Kd.V_mono HO_6.out (fun _ hk => ⟨hk.2, hk.1⟩)⟩, ⟨by (with_reducible repeat (first | apply Kd.R_alloc | apply Kd.R_drewN | apply Kd.R_drew)); exact HO493.out⟩, ⟨by (with_reducible repeat (first | refine blk_drewN ?_ _ | refine blk_drew ?_ | refine blk_alloc ?_ _)); exact BK469.out⟩, ⟨by repeat (first | (with_reducible first | exact HB.out | apply below_alloc | apply pw_below_drewN | apply below_drew1 | refine below_set ?_ GE469.out) | exact HB.out)⟩⟩
               ·
                rw [if_neg c30] at H
                exact absurd H (by simp)
              ·
               rw [if_neg c29] at H
               have c29b0 := decide_eq_false c29
               clear c29
               by_cases c33 : x7_2.length < 140737488355328
               ·
                rw [if_pos c33] at H
                have LMc33 := Aside0.mk c33
                clear c33
                obtain ⟨y494, hy494⟩ : ∃ y_ : List Int, y_ = (x7_2 ++ [(rd_T67 t476 x8_2).f0]) := ⟨_, rfl⟩
                replace H : (R15Pair.l1 k2 t476 t483 y494 (wrap64 (x8_2 + 1))) = some (r1, r2, r3) := by first | (rw [hy494]; with_reducible exact H) | (have H2_ := (Option.bind_some _ _).symm.trans H; rw [hy494]; with_reducible exact H2_) | (have H2_ := (Option.bind_some _ _).symm.trans H; with_reducible exact H2_) | with_reducible exact H | (rw [hy494]; exact H) | exact H
                have Ny494 := Aside0.mk hy494
                clear hy494
                have H' := Aside0.mk H
                clear H
                obtain ⟨Ao34, co34, eo34⟩ := Kd.V_slice HO_5.out
                subst eo34
                have p489 : 0 ≤ (x8_2 : Int) := of_decide_eq_true ap0
                have q489 : x8_2 < (t476.length : Int) := of_decide_eq_true ap0
                obtain ⟨ad489, e489, hx489_0, hx489_1⟩ := at_T67 (Kd.V_reads' HO_5.out).2.2 x8_2 p489 q489
                (try rw [← Nbq26.out] at hx489_1)
                cases e489
                replace p489 := eq_true p489
                replace q489 := eq_true q489
                have p490 : 0 ≤ (x8_2 : Int) := of_decide_eq_true ap0
                have q490 : x8_2 < (t476.length : Int) := of_decide_eq_true ap0
                obtain ⟨ad490, e490, hx490_0, hx490_1⟩ := at_T67 (Kd.V_reads' HO_5.out).2.2 x8_2 p490 q490
                (try rw [← Nbq26.out] at hx490_1)
                obtain rfl : ad489 = ad490 := (by injection e490)
                replace p490 := eq_true p490
                replace q490 := eq_true q490
                go_wp2_with (first | ((with_reducible refine gate_builtin (b := .append) (xs := #[.tmp 76, .tmp 78]) rfl ?_); at_builtin; refine Kd.R_append (Kd.int .u8) (w0 := w) w.heap.size rfl (.tmp 76) (.tmp 78) 72 5 (.int .u8 0) 1 rfl Tryd.underlying72 info5 rfl (by decide) (by omega) u7 x7_2 ((rd_T67 t476 x8_2).f0) [.int .u8 ((rd_T67 t476 x8_2).f0)] (fun _ => True) (fun _ => False) rfl rfl ?aP (fun _ hk => hk.elim) ?aF ?aO ?aB ?aS ?aL ?_; (case aP => exact rfl); (case aB => exact (apG GE469.out)); (case aF => exact (fun _ _ => trivial)); (case aO => exact (apAR HO_7.out)); (case aS => exact (below_size (apG GE469.out))); (case aL => have := LMc33.out; omega); intro v495 w35 ho hb hg hat; rw [← Ny494.out] at ho; have n0_ := Aside0.mk (Kd.V_afterv (ok := (fun k_ => k_ ≠ gb469)) (by (with_reducible repeat (first | apply Kd.V_alloc | apply Kd.V_drewN | apply Kd.V_drew)); exact Kd.V_mono HO_5.out (fun _ hk => ⟨hk.2, hk.1⟩)) hg hat); have n1_ := Aside0.mk (Kd.V_afterv (ok := (fun k_ => k_ ≠ gb469)) (by (with_reducible repeat (first | apply Kd.V_alloc | apply Kd.V_drewN | apply Kd.V_drew)); exact Kd.V_mono HO_6.out (fun _ hk => ⟨hk.2, hk.1⟩)) hg hat); have n2_ := Aside0.mk (blk_grown (g := gb469) (o := .cells #[.string x470000_2, .string x470001_2] 40 (0, 0)) (apB BK469.out) hg (Kd.R_ne HO_7.out BK469.out (by decide))); have n3_ := Aside0.mk (hb); have n4_ := Aside0.mk (ho); clear HO_5; clear HO_6; clear BK469; clear HB; clear HO_7; have HO_5 := n0_; have HO_6 := n1_; have BK469 := n2_; have HB := n3_; have HO496 := n4_; clear n0_ n1_ n2_ n3_ n4_; clear ho hb hg hat))
                go_roundg k2
                case measure => have := HJ1.out; have := HK2.out; omega
                case rel => exact ⟨(y494), (wrap64 (x8_2 + 1)), (x470000_2), (x470001_2), ap2, H', ⟨by have := HJ1.out; have := HK2.out; omega⟩, ⟨by (with_reducible repeat (first | apply Kd.V_alloc | apply Kd.V_drewN | apply Kd.V_drew)); exact Kd.V_mono HO_5.out (fun _ hk => ⟨hk.2, hk.1⟩)⟩, ⟨by (with_reducible repeat (first | apply Kd.V_alloc | apply Kd.V_drewN | apply Kd.V_drew)); exact Kd.V_mono HO_6.out (fun _ hk => ⟨hk.2, hk.1⟩)⟩, ⟨by (with_reducible repeat (first | apply Kd.R_alloc | apply Kd.R_drewN | apply Kd.R_drew)); exact HO496.out⟩, ⟨by (with_reducible repeat (first | refine blk_drewN ?_ _ | refine blk_drew ?_ | refine blk_alloc ?_ _)); exact BK469.out⟩, ⟨by repeat (first | (with_reducible first | exact HB.out | apply below_alloc | apply pw_below_drewN | apply below_drew1 | refine below_set ?_ GE469.out) | exact HB.out)⟩⟩
               ·
                rw [if_neg c33] at H
                exact absurd H (by simp)
             ·
              rw [if_neg c28] at H
              have c28b0 := decide_eq_false c28
              clear c28
              by_cases c36 : x7_2.length < 140737488355328
              ·
               rw [if_pos c36] at H
               have LMc36 := Aside0.mk c36
               clear c36
               obtain ⟨y497, hy497⟩ : ∃ y_ : List Int, y_ = (x7_2 ++ [(rd_T67 t476 x8_2).f0]) := ⟨_, rfl⟩
               replace H : (R15Pair.l1 k2 t476 t483 y497 (wrap64 (x8_2 + 1))) = some (r1, r2, r3) := by first | (rw [hy497]; with_reducible exact H) | (have H2_ := (Option.bind_some _ _).symm.trans H; rw [hy497]; with_reducible exact H2_) | (have H2_ := (Option.bind_some _ _).symm.trans H; with_reducible exact H2_) | with_reducible exact H | (rw [hy497]; exact H) | exact H
               have Ny497 := Aside0.mk hy497
               clear hy497
               have H' := Aside0.mk H
               clear H
               obtain ⟨Ao37, co37, eo37⟩ := Kd.V_slice HO_5.out
               subst eo37
               have p489 : 0 ≤ (x8_2 : Int) := of_decide_eq_true ap0
               have q489 : x8_2 < (t476.length : Int) := of_decide_eq_true ap0
               obtain ⟨ad489, e489, hx489_0, hx489_1⟩ := at_T67 (Kd.V_reads' HO_5.out).2.2 x8_2 p489 q489
               (try rw [← Nbq26.out] at hx489_1)
               cases e489
               replace p489 := eq_true p489
               replace q489 := eq_true q489
               have p490 : 0 ≤ (x8_2 : Int) := of_decide_eq_true ap0
               have q490 : x8_2 < (t476.length : Int) := of_decide_eq_true ap0
               obtain ⟨ad490, e490, hx490_0, hx490_1⟩ := at_T67 (Kd.V_reads' HO_5.out).2.2 x8_2 p490 q490
               (try rw [← Nbq26.out] at hx490_1)
               obtain rfl : ad489 = ad490 := (by injection e490)
               replace p490 := eq_true p490
               replace q490 := eq_true q490
               go_wp2_with (first | ((with_reducible refine gate_builtin (b := .append) (xs := #[.tmp 76, .tmp 78]) rfl ?_); at_builtin; refine Kd.R_append (Kd.int .u8) (w0 := w) w.heap.size rfl (.tmp 76) (.tmp 78) 72 5 (.int .u8 0) 1 rfl Tryd.underlying72 info5 rfl (by decide) (by omega) u7 x7_2 ((rd_T67 t476 x8_2).f0) [.int .u8 ((rd_T67 t476 x8_2).f0)] (fun _ => True) (fun _ => False) rfl rfl ?aP (fun _ hk => hk.elim) ?aF ?aO ?aB ?aS ?aL ?_; (case aP => exact rfl); (case aB => exact (apG GE469.out)); (case aF => exact (fun _ _ => trivial)); (case aO => exact (apAR HO_7.out)); (case aS => exact (below_size (apG GE469.out))); (case aL => have := LMc36.out; omega); intro v498 w38 ho hb hg hat; rw [← Ny497.out] at ho; have n0_ := Aside0.mk (Kd.V_afterv (ok := (fun k_ => k_ ≠ gb469)) (by (with_reducible repeat (first | apply Kd.V_alloc | apply Kd.V_drewN | apply Kd.V_drew)); exact Kd.V_mono HO_5.out (fun _ hk => ⟨hk.2, hk.1⟩)) hg hat); have n1_ := Aside0.mk (Kd.V_afterv (ok := (fun k_ => k_ ≠ gb469)) (by (with_reducible repeat (first | apply Kd.V_alloc | apply Kd.V_drewN | apply Kd.V_drew)); exact Kd.V_mono HO_6.out (fun _ hk => ⟨hk.2, hk.1⟩)) hg hat); have n2_ := Aside0.mk (blk_grown (g := gb469) (o := .cells #[.string x470000_2, .string x470001_2] 40 (0, 0)) (apB BK469.out) hg (Kd.R_ne HO_7.out BK469.out (by decide))); have n3_ := Aside0.mk (hb); have n4_ := Aside0.mk (ho); clear HO_5; clear HO_6; clear BK469; clear HB; clear HO_7; have HO_5 := n0_; have HO_6 := n1_; have BK469 := n2_; have HB := n3_; have HO499 := n4_; clear n0_ n1_ n2_ n3_ n4_; clear ho hb hg hat))
               go_roundg k2
               case measure => have := HJ1.out; have := HK2.out; omega
               case rel => exact ⟨(y497), (wrap64 (x8_2 + 1)), (x470000_2), (x470001_2), ap2, H', ⟨by have := HJ1.out; have := HK2.out; omega⟩, ⟨by (with_reducible repeat (first | apply Kd.V_alloc | apply Kd.V_drewN | apply Kd.V_drew)); exact Kd.V_mono HO_5.out (fun _ hk => ⟨hk.2, hk.1⟩)⟩, ⟨by (with_reducible repeat (first | apply Kd.V_alloc | apply Kd.V_drewN | apply Kd.V_drew)); exact Kd.V_mono HO_6.out (fun _ hk => ⟨hk.2, hk.1⟩)⟩, ⟨by (with_reducible repeat (first | apply Kd.R_alloc | apply Kd.R_drewN | apply Kd.R_drew)); exact HO499.out⟩, ⟨by (with_reducible repeat (first | refine blk_drewN ?_ _ | refine blk_drew ?_ | refine blk_alloc ?_ _)); exact BK469.out⟩, ⟨by repeat (first | (with_reducible first | exact HB.out | apply below_alloc | apply pw_below_drewN | apply below_drew1 | refine below_set ?_ GE469.out) | exact HB.out)⟩⟩
              ·
               rw [if_neg c36] at H
               exact absurd H (by simp)
            ·
             replace c27 := Bool.eq_false_iff.mpr c27
             subst c27
             rw [if_neg (show ¬ (false = true) by decide)] at H
             simp only [Option.some.injEq, Prod.mk.injEq] at H
             obtain ⟨rfl, rfl, rfl⟩ := H
             obtain ⟨Ao39, co39, eo39⟩ := Kd.V_slice HO_5.out
             subst eo39
             have p489 : 0 ≤ (x8_2 : Int) := of_decide_eq_true ap0
             have q489 : x8_2 < (t476.length : Int) := of_decide_eq_true ap0
             obtain ⟨ad489, e489, hx489_0, hx489_1⟩ := at_T67 (Kd.V_reads' HO_5.out).2.2 x8_2 p489 q489
             (try rw [← Nbq26.out] at hx489_1)
             cases e489
             replace p489 := eq_true p489
             replace q489 := eq_true q489
             have p490 : 0 ≤ (x8_2 : Int) := of_decide_eq_true ap0
             have q490 : x8_2 < (t476.length : Int) := of_decide_eq_true ap0
             obtain ⟨ad490, e490, hx490_0, hx490_1⟩ := at_T67 (Kd.V_reads' HO_5.out).2.2 x8_2 p490 q490
             (try rw [← Nbq26.out] at hx490_1)
             obtain rfl : ad489 = ad490 := (by injection e490)
             replace p490 := eq_true p490
             replace q490 := eq_true q490
             have hcz40_0 : wr.cell? ⟨gb469, 0, none⟩ = some (.string x470000_2) := (blk_cell BK469.out 0).trans rfl
             have hcz40_1 : wr.cell? ⟨gb469, 1, none⟩ = some (.string x470001_2) := (blk_cell BK469.out 1).trans rfl
             have hfz40_0 := blk_frozen BK469.out 0
             have hfz40_1 := blk_frozen BK469.out 1
             go_wp2
             refine bodyPost_ret (results_ct rfl _ _ gb469 40 #[.string (⟨#[]⟩ : ByteArray), .string (⟨#[]⟩ : ByteArray)] (0, 0) _ rfl (by (with_reducible repeat (first | refine blk_drewN ?_ _ | refine blk_drew ?_ | refine blk_alloc ?_ _)); refine blk_put (cs := #[.string (⟨#[]⟩ : ByteArray), .string x470001_2]) ?_ 1 _ rfl; (with_reducible repeat (first | refine blk_drewN ?_ _ | refine blk_drew ?_ | refine blk_alloc ?_ _)); refine blk_put (cs := #[.string x470000_2, .string x470001_2]) ?_ 0 _ rfl; (with_reducible repeat (first | refine blk_drewN ?_ _ | refine blk_drew ?_ | refine blk_alloc ?_ _)); exact BK469.out) Tryd.underlying40 rfl (by kernel_rfl)) rfl ?_
             exact ⟨by first | rfl | (simp [errW_none, errW_some, bne_nil8, beq_nil8]; done) | (simp [errW_none, errW_some] <;> rfl) | (simp only [← hji14]; first | rfl | (simp [errW_none, errW_some] <;> rfl)) | (simp [*, errW_none, errW_some] <;> rfl), by repeat (first | (with_reducible first | exact HB.out | apply below_alloc | apply pw_below_drewN | apply below_drew1 | refine below_set ?_ GE469.out) | exact HB.out)⟩
           ·
            rw [if_neg c25] at H
            exact absurd H (by simp)
          ·
           rw [if_neg c24] at H
           have c24b0 := decide_eq_false c24
           clear c24
           obtain ⟨y500, hy500⟩ : ∃ y_ : List Int, y_ = (([] : List Int)) := ⟨_, rfl⟩
           replace H : (R15Pair.l2 k2 t483 x7_2 y500 0) = some (r1, r2, r3) := by first | (rw [hy500]; with_reducible exact H) | (have H2_ := (Option.bind_some _ _).symm.trans H; rw [hy500]; with_reducible exact H2_) | (have H2_ := (Option.bind_some _ _).symm.trans H; with_reducible exact H2_) | with_reducible exact H | (rw [hy500]; exact H) | exact H
           have Ny500 := Aside0.mk hy500
           clear hy500
           have H' := Aside0.mk H
           clear H
           obtain ⟨Ao41, co41, eo41⟩ := Kd.V_slice HO_5.out
           subst eo41
           go_wp2_with (first | ((with_reducible refine gate_dst (N := 80) rfl ?_); refine Kd.R_lit (Kd.int .u8) _ 5 ?hg (N := 80) ?hd (xs := ([] : List Int)) (inner := []) (ok := fun _ => True) (okp := fun _ => True) ?hr ?hp (fun _ hk => hk) trivial (Below.refl _ _) (Nat.le_refl _) (by simp) ?_; (case hd => rfl); (case hg => rfl); (case hr => first | (go_simp; done) | (go_simp; rfl)); (case hp => exact (Reps.none _ _)); intro v501 w42 ho43 hb hg_ hnew_; clear hg_ hnew_; (first | rw [← Ny500.out] at ho43 | (simp only [Int.reduceToNat] at ho43; rw [← Ny500.out] at ho43)); have n0_ := Aside0.mk (Kd.V_elder' (apAV HO_5.out) (Kd.R_base ho43) hb); have n1_ := Aside0.mk (Kd.V_elder' (apAV HO_6.out) (Kd.R_base ho43) hb); have n2_ := Aside0.mk (Kd.R_elder' (apAR HO_7.out) (Kd.R_base ho43) hb); have n3_ := Aside0.mk (Kd.R_lower (Kd.R_new' ho43 (Kd.R_lt (apAR HO_7.out))) (below_size (apG GE469.out))); have n4_ := Aside0.mk (blk_below (g := gb469) (o := .cells #[.string x470000_2, .string x470001_2] 40 (0, 0)) (apB BK469.out) hb); have n5_ := Aside0.mk (below_step (apG GE469.out) hb); clear HO_5; clear HO_6; clear HO_7; clear BK469; clear HB; have HO_5 := n0_; have HO_6 := n1_; have HO_7 := n2_; have HO502 := n3_; have BK469 := n4_; have HB := n5_; clear n0_ n1_ n2_ n3_ n4_ n5_; clear hb ho43))
           go_loopg [10, 11] k2 (fun kq v10 v11 w' => ∃ (x10_3 : List Int) (x11_3 : Int) (x470000_3 : ByteArray) (x470001_3 : ByteArray), v11 = .int .i64 x11_3 ∧ Aside0 (R15Pair.l2 kq t483 x7_2 x10_3 x11_3 = some (r1, r2, r3)) ∧ Aside0 (kq ≤ k2) ∧ Aside0 (Kd.V k67 67 w' w.heap.size (fun k_ => some k_ ≠ (u7 : Value).ownBlock ∧ some k_ ≠ (v10 : Value).ownBlock ∧ k_ ≠ gb469) v484 t483) ∧ Aside0 (Kd.R (Kd.int .u8) 5 w' w.heap.size (fun k_ => some k_ ≠ (v10 : Value).ownBlock) u7 x7_2) ∧ Aside0 (Kd.R (Kd.int .u8) 5 w' w.heap.size (fun k_ => some k_ ≠ (u7 : Value).ownBlock) v10 x10_3) ∧ Aside0 (w'.heap[gb469]? = some (.cells #[.string x470000_3, .string x470001_3] 40 (0, 0))) ∧ Aside0 (Below w.heap.size w w'))
           case atStart => exact ⟨(y500), (0), (x470000_2), (x470001_2), ap2, H', ⟨Nat.le_refl _⟩, ⟨by (with_reducible repeat (first | apply Kd.V_alloc | apply Kd.V_drewN | apply Kd.V_drew)); exact Kd.V_mono HO_6.out (fun _ hk => ⟨hk.1.1, ⟨hk.2, hk.1.2⟩⟩)⟩, ⟨by (with_reducible repeat (first | apply Kd.R_alloc | apply Kd.R_drewN | apply Kd.R_drew)); exact Kd.R_mono HO_7.out (fun _ hk => hk.2)⟩, ⟨by (with_reducible repeat (first | apply Kd.R_alloc | apply Kd.R_drewN | apply Kd.R_drew)); exact Kd.R_mono HO502.out (fun _ hk => hk.2)⟩, ⟨by (with_reducible repeat (first | refine blk_drewN ?_ _ | refine blk_drew ?_ | refine blk_alloc ?_ _)); exact BK469.out⟩, ⟨by repeat (first | (with_reducible first | exact HB.out | apply below_alloc | apply pw_below_drewN | apply below_drew1 | refine below_set ?_ GE469.out) | exact HB.out)⟩⟩
           case round =>
            clear H'
            try clear c1
            try clear q1
            try clear c2
            try clear p2
            try clear q2
            try clear c3
            try clear c4
            try clear c4b0
            try clear p4
            try clear q4
            try clear hx4
            try clear c5
            try clear c5b0
            try clear p6
            try clear q6
            try clear c7
            try clear c8
            try clear c8b0
            try clear c8b1
            try clear c9
            try clear c9b0
            try clear c9b1
            try clear c11
            try clear c11b0
            try clear c11b1
            try clear c12
            try clear c12b0
            try clear c12b1
            try clear c15
            try clear c15b0
            try clear c15b1
            try clear c16
            try clear c16b0
            try clear c16b1
            try clear q18
            try clear c20
            try clear q20
            try clear c24
            try clear c24b0
            try clear c25
            try clear c25b0
            try clear q26
            try clear c27
            try clear c28
            try clear c28b0
            try clear c29
            try clear c29b0
            try clear c30
            try clear c33
            try clear c36
            try clear c37
            try clear c38
            try clear hcz10_0
            try clear hcz10_1
            try clear hcz40_0
            try clear hcz40_1
            try clear hfz10_0
            try clear hfz10_1
            try clear hfz40_0
            try clear hfz40_1
            try clear hx470_0
            try clear hx470_1
            try clear hx471_0
            try clear hx471_1
            try clear hx489_0
            try clear hx489_1
            try clear hx490_0
            try clear hx490_1
            try clear p2
            try clear p4
            try clear p470
            try clear p471
            try clear p489
            try clear p490
            try clear p6
            try clear q020
            try clear q1
            try clear q18
            try clear q2
            try clear q20
            try clear q4
            try clear q470
            try clear q471
            try clear q489
            try clear q490
            try clear q6
            obtain ⟨x10_3, x11_3, x470000_3, x470001_3, rfl, HA, HK3, HO_6, HO_7, HO_10, BK469, HB⟩ := hrel
            cases gk with
            | zero => exact absurd HA.out (by simp [R15Pair.l2])
            | succ k3 =>
             have H := HA.out
             clear HA
             simp only [R15Pair.l2] at H
             by_cases c44 : x11_3 < (t483.length : Int)
             ·
              rw [if_pos c44] at H
              have c44b0 := decide_eq_true c44
              clear c44
              by_cases c45 : 0 ≤ x11_3
              ·
               rw [if_pos c45] at H
               have c45b0 := decide_eq_true c45
               clear c45
               obtain ⟨bq46, hbq46⟩ : ∃ b_ : Bool, b_ = ((rd_T67 t483 x11_3).f1) := ⟨_, rfl⟩
               replace H : (if bq46 = true then (if ((rd_T67 t483 x11_3).f0) = 34 then (some ((⟨#[]⟩ : ByteArray), (⟨#[]⟩ : ByteArray), false)) else (if ((rd_T67 t483 x11_3).f0) = 60 then (some ((⟨#[]⟩ : ByteArray), (⟨#[]⟩ : ByteArray), false)) else (if ((rd_T67 t483 x11_3).f0) = 62 then (some ((⟨#[]⟩ : ByteArray), (⟨#[]⟩ : ByteArray), false)) else (if ((rd_T67 t483 x11_3).f0) = 35 then (if x11_3 = 0 then (some ((⟨#[]⟩ : ByteArray), (⟨#[]⟩ : ByteArray), false)) else (if x10_3.length < 140737488355328 then (R15Pair.l2 k3 t483 x7_2 (x10_3 ++ [(rd_T67 t483 x11_3).f0]) (wrap64 (x11_3 + 1))) else (none))) else (if x10_3.length < 140737488355328 then (R15Pair.l2 k3 t483 x7_2 (x10_3 ++ [(rd_T67 t483 x11_3).f0]) (wrap64 (x11_3 + 1))) else (none)))))) else (if x10_3.length < 140737488355328 then (R15Pair.l2 k3 t483 x7_2 (x10_3 ++ [(rd_T67 t483 x11_3).f0]) (wrap64 (x11_3 + 1))) else (none))) = some (r1, r2, r3) := by rw [← hbq46] at H; exact H
               have Nbq46 := Aside0.mk hbq46
               clear hbq46
               by_cases c47 : bq46 = true
               ·
                subst c47
                rw [if_pos rfl] at H
                by_cases c48 : ((rd_T67 t483 x11_3).f0) = 34
                ·
                 rw [if_pos c48] at H
                 have c48b0 : (((rd_T67 t483 x11_3).f0) == 34) = true := beq_iff_eq.mpr c48
                 have c48b1 : (((rd_T67 t483 x11_3).f0) != 34) = false := bne_eq_false_iff_eq.mpr c48
                 clear c48
                 simp only [Option.some.injEq, Prod.mk.injEq] at H
                 obtain ⟨rfl, rfl, rfl⟩ := H
                 obtain ⟨Ao49, co49, eo49⟩ := Kd.V_slice HO_6.out
                 subst eo49
                 have p503 : 0 ≤ (x11_3 : Int) := of_decide_eq_true ap0
                 have q503 : x11_3 < (t483.length : Int) := of_decide_eq_true ap0
                 obtain ⟨ad503, e503, hx503_0, hx503_1⟩ := at_T67 (Kd.V_reads' HO_6.out).2.2 x11_3 p503 q503
                 (try rw [← Nbq46.out] at hx503_1)
                 cases e503
                 replace p503 := eq_true p503
                 replace q503 := eq_true q503
                 have p504 : 0 ≤ (x11_3 : Int) := of_decide_eq_true ap0
                 have q504 : x11_3 < (t483.length : Int) := of_decide_eq_true ap0
                 obtain ⟨ad504, e504, hx504_0, hx504_1⟩ := at_T67 (Kd.V_reads' HO_6.out).2.2 x11_3 p504 q504
                 (try rw [← Nbq46.out] at hx504_1)
                 obtain rfl : ad503 = ad504 := (by injection e504)
                 replace p504 := eq_true p504
                 replace q504 := eq_true q504
                 have hcz50_0 : wr.cell? ⟨gb469, 0, none⟩ = some (.string x470000_3) := (blk_cell BK469.out 0).trans rfl
                 have hcz50_1 : wr.cell? ⟨gb469, 1, none⟩ = some (.string x470001_3) := (blk_cell BK469.out 1).trans rfl
                 have hfz50_0 := blk_frozen BK469.out 0
                 have hfz50_1 := blk_frozen BK469.out 1
                 go_wp2
                 refine bodyPost_ret (results_ct rfl _ _ gb469 40 #[.string (⟨#[]⟩ : ByteArray), .string (⟨#[]⟩ : ByteArray)] (0, 0) _ rfl (by (with_reducible repeat (first | refine blk_drewN ?_ _ | refine blk_drew ?_ | refine blk_alloc ?_ _)); refine blk_put (cs := #[.string (⟨#[]⟩ : ByteArray), .string x470001_3]) ?_ 1 _ rfl; (with_reducible repeat (first | refine blk_drewN ?_ _ | refine blk_drew ?_ | refine blk_alloc ?_ _)); refine blk_put (cs := #[.string x470000_3, .string x470001_3]) ?_ 0 _ rfl; (with_reducible repeat (first | refine blk_drewN ?_ _ | refine blk_drew ?_ | refine blk_alloc ?_ _)); exact BK469.out) Tryd.underlying40 rfl (by kernel_rfl)) rfl ?_
                 exact ⟨by first | rfl | (simp [errW_none, errW_some, bne_nil8, beq_nil8]; done) | (simp [errW_none, errW_some] <;> rfl) | (simp only [← hji14]; first | rfl | (simp [errW_none, errW_some] <;> rfl)) | (simp [*, errW_none, errW_some] <;> rfl), by repeat (first | (with_reducible first | exact HB.out | apply below_alloc | apply pw_below_drewN | apply below_drew1 | refine below_set ?_ GE469.out) | exact HB.out)⟩
                ·
                 rw [if_neg c48] at H
                 have c48b0 : (((rd_T67 t483 x11_3).f0) == 34) = false := beq_eq_false_iff_ne.mpr c48
                 have c48b1 : (((rd_T67 t483 x11_3).f0) != 34) = true := bne_iff_ne.mpr c48
                 by_cases c51 : ((rd_T67 t483 x11_3).f0) = 60
                 ·
                  rw [if_pos c51] at H
                  have c51b0 : (((rd_T67 t483 x11_3).f0) == 60) = true := beq_iff_eq.mpr c51
                  have c51b1 : (((rd_T67 t483 x11_3).f0) != 60) = false := bne_eq_false_iff_eq.mpr c51
                  clear c51
                  simp only [Option.some.injEq, Prod.mk.injEq] at H
                  obtain ⟨rfl, rfl, rfl⟩ := H
                  obtain ⟨Ao52, co52, eo52⟩ := Kd.V_slice HO_6.out
                  subst eo52
                  have p503 : 0 ≤ (x11_3 : Int) := of_decide_eq_true ap0
                  have q503 : x11_3 < (t483.length : Int) := of_decide_eq_true ap0
                  obtain ⟨ad503, e503, hx503_0, hx503_1⟩ := at_T67 (Kd.V_reads' HO_6.out).2.2 x11_3 p503 q503
                  (try rw [← Nbq46.out] at hx503_1)
                  cases e503
                  replace p503 := eq_true p503
                  replace q503 := eq_true q503
                  have p504 : 0 ≤ (x11_3 : Int) := of_decide_eq_true ap0
                  have q504 : x11_3 < (t483.length : Int) := of_decide_eq_true ap0
                  obtain ⟨ad504, e504, hx504_0, hx504_1⟩ := at_T67 (Kd.V_reads' HO_6.out).2.2 x11_3 p504 q504
                  (try rw [← Nbq46.out] at hx504_1)
                  obtain rfl : ad503 = ad504 := (by injection e504)
                  replace p504 := eq_true p504
                  replace q504 := eq_true q504
                  have hcz53_0 : wr.cell? ⟨gb469, 0, none⟩ = some (.string x470000_3) := (blk_cell BK469.out 0).trans rfl
                  have hcz53_1 : wr.cell? ⟨gb469, 1, none⟩ = some (.string x470001_3) := (blk_cell BK469.out 1).trans rfl
                  have hfz53_0 := blk_frozen BK469.out 0
                  have hfz53_1 := blk_frozen BK469.out 1
                  go_wp2
                  refine bodyPost_ret (results_ct rfl _ _ gb469 40 #[.string (⟨#[]⟩ : ByteArray), .string (⟨#[]⟩ : ByteArray)] (0, 0) _ rfl (by (with_reducible repeat (first | refine blk_drewN ?_ _ | refine blk_drew ?_ | refine blk_alloc ?_ _)); refine blk_put (cs := #[.string (⟨#[]⟩ : ByteArray), .string x470001_3]) ?_ 1 _ rfl; (with_reducible repeat (first | refine blk_drewN ?_ _ | refine blk_drew ?_ | refine blk_alloc ?_ _)); refine blk_put (cs := #[.string x470000_3, .string x470001_3]) ?_ 0 _ rfl; (with_reducible repeat (first | refine blk_drewN ?_ _ | refine blk_drew ?_ | refine blk_alloc ?_ _)); exact BK469.out) Tryd.underlying40 rfl (by kernel_rfl)) rfl ?_
                  exact ⟨by first | rfl | (simp [errW_none, errW_some, bne_nil8, beq_nil8]; done) | (simp [errW_none, errW_some] <;> rfl) | (simp only [← hji14]; first | rfl | (simp [errW_none, errW_some] <;> rfl)) | (simp [*, errW_none, errW_some] <;> rfl), by repeat (first | (with_reducible first | exact HB.out | apply below_alloc | apply pw_below_drewN | apply below_drew1 | refine below_set ?_ GE469.out) | exact HB.out)⟩
                 ·
                  rw [if_neg c51] at H
                  have c51b0 : (((rd_T67 t483 x11_3).f0) == 60) = false := beq_eq_false_iff_ne.mpr c51
                  have c51b1 : (((rd_T67 t483 x11_3).f0) != 60) = true := bne_iff_ne.mpr c51
                  by_cases c54 : ((rd_T67 t483 x11_3).f0) = 62
                  ·
                   rw [if_pos c54] at H
                   have c54b0 : (((rd_T67 t483 x11_3).f0) == 62) = true := beq_iff_eq.mpr c54
                   have c54b1 : (((rd_T67 t483 x11_3).f0) != 62) = false := bne_eq_false_iff_eq.mpr c54
                   clear c54
                   simp only [Option.some.injEq, Prod.mk.injEq] at H
                   obtain ⟨rfl, rfl, rfl⟩ := H
                   obtain ⟨Ao55, co55, eo55⟩ := Kd.V_slice HO_6.out
                   subst eo55
                   have p503 : 0 ≤ (x11_3 : Int) := of_decide_eq_true ap0
                   have q503 : x11_3 < (t483.length : Int) := of_decide_eq_true ap0
                   obtain ⟨ad503, e503, hx503_0, hx503_1⟩ := at_T67 (Kd.V_reads' HO_6.out).2.2 x11_3 p503 q503
                   (try rw [← Nbq46.out] at hx503_1)
                   cases e503
                   replace p503 := eq_true p503
                   replace q503 := eq_true q503
                   have p504 : 0 ≤ (x11_3 : Int) := of_decide_eq_true ap0
                   have q504 : x11_3 < (t483.length : Int) := of_decide_eq_true ap0
                   obtain ⟨ad504, e504, hx504_0, hx504_1⟩ := at_T67 (Kd.V_reads' HO_6.out).2.2 x11_3 p504 q504
                   (try rw [← Nbq46.out] at hx504_1)
                   obtain rfl : ad503 = ad504 := (by injection e504)
                   replace p504 := eq_true p504
                   replace q504 := eq_true q504
                   have hcz56_0 : wr.cell? ⟨gb469, 0, none⟩ = some (.string x470000_3) := (blk_cell BK469.out 0).trans rfl
                   have hcz56_1 : wr.cell? ⟨gb469, 1, none⟩ = some (.string x470001_3) := (blk_cell BK469.out 1).trans rfl
                   have hfz56_0 := blk_frozen BK469.out 0
                   have hfz56_1 := blk_frozen BK469.out 1
                   go_wp2
                   refine bodyPost_ret (results_ct rfl _ _ gb469 40 #[.string (⟨#[]⟩ : ByteArray), .string (⟨#[]⟩ : ByteArray)] (0, 0) _ rfl (by (with_reducible repeat (first | refine blk_drewN ?_ _ | refine blk_drew ?_ | refine blk_alloc ?_ _)); refine blk_put (cs := #[.string (⟨#[]⟩ : ByteArray), .string x470001_3]) ?_ 1 _ rfl; (with_reducible repeat (first | refine blk_drewN ?_ _ | refine blk_drew ?_ | refine blk_alloc ?_ _)); refine blk_put (cs := #[.string x470000_3, .string x470001_3]) ?_ 0 _ rfl; (with_reducible repeat (first | refine blk_drewN ?_ _ | refine blk_drew ?_ | refine blk_alloc ?_ _)); exact BK469.out) Tryd.underlying40 rfl (by kernel_rfl)) rfl ?_
                   exact ⟨by first | rfl | (simp [errW_none, errW_some, bne_nil8, beq_nil8]; done) | (simp [errW_none, errW_some] <;> rfl) | (simp only [← hji14]; first | rfl | (simp [errW_none, errW_some] <;> rfl)) | (simp [*, errW_none, errW_some] <;> rfl), by repeat (first | (with_reducible first | exact HB.out | apply below_alloc | apply pw_below_drewN | apply below_drew1 | refine below_set ?_ GE469.out) | exact HB.out)⟩
                  ·
                   rw [if_neg c54] at H
                   have c54b0 : (((rd_T67 t483 x11_3).f0) == 62) = false := beq_eq_false_iff_ne.mpr c54
                   have c54b1 : (((rd_T67 t483 x11_3).f0) != 62) = true := bne_iff_ne.mpr c54
                   by_cases c57 : ((rd_T67 t483 x11_3).f0) = 35
                   ·
                    rw [if_pos c57] at H
                    have c57b0 : (((rd_T67 t483 x11_3).f0) == 35) = true := beq_iff_eq.mpr c57
                    have c57b1 : (((rd_T67 t483 x11_3).f0) != 35) = false := bne_eq_false_iff_eq.mpr c57
                    clear c57
                    by_cases c58 : x11_3 = 0
                    ·
                     rw [if_pos c58] at H
                     have c58b0 : (x11_3 == 0) = true := beq_iff_eq.mpr c58
                     have c58b1 : (x11_3 != 0) = false := bne_eq_false_iff_eq.mpr c58
                     clear c58
                     simp only [Option.some.injEq, Prod.mk.injEq] at H
                     obtain ⟨rfl, rfl, rfl⟩ := H
                     obtain ⟨Ao59, co59, eo59⟩ := Kd.V_slice HO_6.out
                     subst eo59
                     have p503 : 0 ≤ (x11_3 : Int) := of_decide_eq_true ap0
                     have q503 : x11_3 < (t483.length : Int) := of_decide_eq_true ap0
                     obtain ⟨ad503, e503, hx503_0, hx503_1⟩ := at_T67 (Kd.V_reads' HO_6.out).2.2 x11_3 p503 q503
                     (try rw [← Nbq46.out] at hx503_1)
                     cases e503
                     replace p503 := eq_true p503
                     replace q503 := eq_true q503
                     have p504 : 0 ≤ (x11_3 : Int) := of_decide_eq_true ap0
                     have q504 : x11_3 < (t483.length : Int) := of_decide_eq_true ap0
                     obtain ⟨ad504, e504, hx504_0, hx504_1⟩ := at_T67 (Kd.V_reads' HO_6.out).2.2 x11_3 p504 q504
                     (try rw [← Nbq46.out] at hx504_1)
                     obtain rfl : ad503 = ad504 := (by injection e504)
                     replace p504 := eq_true p504
                     replace q504 := eq_true q504
                     have hcz60_0 : wr.cell? ⟨gb469, 0, none⟩ = some (.string x470000_3) := (blk_cell BK469.out 0).trans rfl
                     have hcz60_1 : wr.cell? ⟨gb469, 1, none⟩ = some (.string x470001_3) := (blk_cell BK469.out 1).trans rfl
                     have hfz60_0 := blk_frozen BK469.out 0
                     have hfz60_1 := blk_frozen BK469.out 1
                     go_wp2
                     refine bodyPost_ret (results_ct rfl _ _ gb469 40 #[.string (⟨#[]⟩ : ByteArray), .string (⟨#[]⟩ : ByteArray)] (0, 0) _ rfl (by (with_reducible repeat (first | refine blk_drewN ?_ _ | refine blk_drew ?_ | refine blk_alloc ?_ _)); refine blk_put (cs := #[.string (⟨#[]⟩ : ByteArray), .string x470001_3]) ?_ 1 _ rfl; (with_reducible repeat (first | refine blk_drewN ?_ _ | refine blk_drew ?_ | refine blk_alloc ?_ _)); refine blk_put (cs := #[.string x470000_3, .string x470001_3]) ?_ 0 _ rfl; (with_reducible repeat (first | refine blk_drewN ?_ _ | refine blk_drew ?_ | refine blk_alloc ?_ _)); exact BK469.out) Tryd.underlying40 rfl (by kernel_rfl)) rfl ?_
                     exact ⟨by first | rfl | (simp [errW_none, errW_some, bne_nil8, beq_nil8]; done) | (simp [errW_none, errW_some] <;> rfl) | (simp only [← hji14]; first | rfl | (simp [errW_none, errW_some] <;> rfl)) | (simp [*, errW_none, errW_some] <;> rfl), by repeat (first | (with_reducible first | exact HB.out | apply below_alloc | apply pw_below_drewN | apply below_drew1 | refine below_set ?_ GE469.out) | exact HB.out)⟩
                    ·
                     rw [if_neg c58] at H
                     have c58b0 : (x11_3 == 0) = false := beq_eq_false_iff_ne.mpr c58
                     have c58b1 : (x11_3 != 0) = true := bne_iff_ne.mpr c58
                     by_cases c61 : x10_3.length < 140737488355328
                     ·
                      rw [if_pos c61] at H
                      have LMc61 := Aside0.mk c61
                      clear c61
                      obtain ⟨y505, hy505⟩ : ∃ y_ : List Int, y_ = (x10_3 ++ [(rd_T67 t483 x11_3).f0]) := ⟨_, rfl⟩
                      replace H : (R15Pair.l2 k3 t483 x7_2 y505 (wrap64 (x11_3 + 1))) = some (r1, r2, r3) := by first | (rw [hy505]; with_reducible exact H) | (have H2_ := (Option.bind_some _ _).symm.trans H; rw [hy505]; with_reducible exact H2_) | (have H2_ := (Option.bind_some _ _).symm.trans H; with_reducible exact H2_) | with_reducible exact H | (rw [hy505]; exact H) | exact H
                      have Ny505 := Aside0.mk hy505
                      clear hy505
                      have H' := Aside0.mk H
                      clear H
                      obtain ⟨Ao62, co62, eo62⟩ := Kd.V_slice HO_6.out
                      subst eo62
                      have p503 : 0 ≤ (x11_3 : Int) := of_decide_eq_true ap0
                      have q503 : x11_3 < (t483.length : Int) := of_decide_eq_true ap0
                      obtain ⟨ad503, e503, hx503_0, hx503_1⟩ := at_T67 (Kd.V_reads' HO_6.out).2.2 x11_3 p503 q503
                      (try rw [← Nbq46.out] at hx503_1)
                      cases e503
                      replace p503 := eq_true p503
                      replace q503 := eq_true q503
                      have p504 : 0 ≤ (x11_3 : Int) := of_decide_eq_true ap0
                      have q504 : x11_3 < (t483.length : Int) := of_decide_eq_true ap0
                      obtain ⟨ad504, e504, hx504_0, hx504_1⟩ := at_T67 (Kd.V_reads' HO_6.out).2.2 x11_3 p504 q504
                      (try rw [← Nbq46.out] at hx504_1)
                      obtain rfl : ad503 = ad504 := (by injection e504)
                      replace p504 := eq_true p504
                      replace q504 := eq_true q504
                      go_wp2_with (first | ((with_reducible refine gate_builtin (b := .append) (xs := #[.tmp 118, .tmp 120]) rfl ?_); at_builtin; refine Kd.R_append (Kd.int .u8) (w0 := w) w.heap.size rfl (.tmp 118) (.tmp 120) 72 5 (.int .u8 0) 1 rfl Tryd.underlying72 info5 rfl (by decide) (by omega) u10 x10_3 ((rd_T67 t483 x11_3).f0) [.int .u8 ((rd_T67 t483 x11_3).f0)] (fun k_ => some k_ ≠ (u7 : Value).ownBlock) (fun _ => False) rfl rfl ?aP (fun _ hk => hk.elim) ?aF ?aO ?aB ?aS ?aL ?_; (case aP => exact rfl); (case aB => exact (apG GE469.out)); (case aF => exact (fun k_ hk => Kd.fresh' (Kd.R_lt (apAR HO_7.out)) k_ hk)); (case aO => exact (apAR HO_10.out)); (case aS => exact (below_size (apG GE469.out))); (case aL => have := LMc61.out; omega); intro v506 w63 ho hb hg hat; rw [← Ny505.out] at ho; have n0_ := Aside0.mk (Kd.V_afterv (ok := (fun k_ => some k_ ≠ (u7 : Value).ownBlock ∧ k_ ≠ gb469)) (by (with_reducible repeat (first | apply Kd.V_alloc | apply Kd.V_drewN | apply Kd.V_drew)); exact Kd.V_mono HO_6.out (fun _ hk => ⟨⟨hk.1, hk.2.2⟩, hk.2.1⟩)) hg hat); have n1_ := Aside0.mk (Kd.R_after (ok := (fun _ => True)) (by (with_reducible repeat (first | apply Kd.R_alloc | apply Kd.R_drewN | apply Kd.R_drew)); exact Kd.R_mono HO_7.out (fun _ hk => ⟨trivial, hk⟩)) hg hat); have n2_ := Aside0.mk (blk_grown (g := gb469) (o := .cells #[.string x470000_3, .string x470001_3] 40 (0, 0)) (apB BK469.out) hg (Kd.R_ne HO_10.out BK469.out (by decide))); have n3_ := Aside0.mk (hb); have n4_ := Aside0.mk (ho); clear HO_6; clear HO_7; clear BK469; clear HB; clear HO_10; have HO_6 := n0_; have HO_7 := n1_; have BK469 := n2_; have HB := n3_; have HO507 := n4_; clear n0_ n1_ n2_ n3_ n4_; clear ho hb hg hat))
                      go_roundg k3
                      case measure => have := HJ1.out; have := HK2.out; have := HK3.out; omega
                      case rel => exact ⟨(y505), (wrap64 (x11_3 + 1)), (x470000_3), (x470001_3), ap2, H', ⟨by have := HJ1.out; have := HK2.out; have := HK3.out; omega⟩, ⟨by (with_reducible repeat (first | apply Kd.V_alloc | apply Kd.V_drewN | apply Kd.V_drew)); exact Kd.V_mono HO_6.out (fun _ hk => ⟨hk.1.1, ⟨hk.2, hk.1.2⟩⟩)⟩, ⟨by (with_reducible repeat (first | apply Kd.R_alloc | apply Kd.R_drewN | apply Kd.R_drew)); exact Kd.R_mono HO_7.out (fun _ hk => hk.2)⟩, ⟨by (with_reducible repeat (first | apply Kd.R_alloc | apply Kd.R_drewN | apply Kd.R_drew)); exact HO507.out⟩, ⟨by (with_reducible repeat (first | refine blk_drewN ?_ _ | refine blk_drew ?_ | refine blk_alloc ?_ _)); exact BK469.out⟩, ⟨by repeat (first | (with_reducible first | exact HB.out | apply below_alloc | apply pw_below_drewN | apply below_drew1 | refine below_set ?_ GE469.out) | exact HB.out)⟩⟩
                     ·
                      rw [if_neg c61] at H
                      exact absurd H (by simp)
                   ·
                    rw [if_neg c57] at H
                    have c57b0 : (((rd_T67 t483 x11_3).f0) == 35) = false := beq_eq_false_iff_ne.mpr c57
                    have c57b1 : (((rd_T67 t483 x11_3).f0) != 35) = true := bne_iff_ne.mpr c57
                    by_cases c64 : x10_3.length < 140737488355328
                    ·
                     rw [if_pos c64] at H
                     have LMc64 := Aside0.mk c64
                     clear c64
                     obtain ⟨y508, hy508⟩ : ∃ y_ : List Int, y_ = (x10_3 ++ [(rd_T67 t483 x11_3).f0]) := ⟨_, rfl⟩
                     replace H : (R15Pair.l2 k3 t483 x7_2 y508 (wrap64 (x11_3 + 1))) = some (r1, r2, r3) := by first | (rw [hy508]; with_reducible exact H) | (have H2_ := (Option.bind_some _ _).symm.trans H; rw [hy508]; with_reducible exact H2_) | (have H2_ := (Option.bind_some _ _).symm.trans H; with_reducible exact H2_) | with_reducible exact H | (rw [hy508]; exact H) | exact H
                     have Ny508 := Aside0.mk hy508
                     clear hy508
                     have H' := Aside0.mk H
                     clear H
                     obtain ⟨Ao65, co65, eo65⟩ := Kd.V_slice HO_6.out
                     subst eo65
                     have p503 : 0 ≤ (x11_3 : Int) := of_decide_eq_true ap0
                     have q503 : x11_3 < (t483.length : Int) := of_decide_eq_true ap0
                     obtain ⟨ad503, e503, hx503_0, hx503_1⟩ := at_T67 (Kd.V_reads' HO_6.out).2.2 x11_3 p503 q503
                     (try rw [← Nbq46.out] at hx503_1)
                     cases e503
                     replace p503 := eq_true p503
                     replace q503 := eq_true q503
                     have p504 : 0 ≤ (x11_3 : Int) := of_decide_eq_true ap0
                     have q504 : x11_3 < (t483.length : Int) := of_decide_eq_true ap0
                     obtain ⟨ad504, e504, hx504_0, hx504_1⟩ := at_T67 (Kd.V_reads' HO_6.out).2.2 x11_3 p504 q504
                     (try rw [← Nbq46.out] at hx504_1)
                     obtain rfl : ad503 = ad504 := (by injection e504)
                     replace p504 := eq_true p504
                     replace q504 := eq_true q504
                     go_wp2_with (first | ((with_reducible refine gate_builtin (b := .append) (xs := #[.tmp 118, .tmp 120]) rfl ?_); at_builtin; refine Kd.R_append (Kd.int .u8) (w0 := w) w.heap.size rfl (.tmp 118) (.tmp 120) 72 5 (.int .u8 0) 1 rfl Tryd.underlying72 info5 rfl (by decide) (by omega) u10 x10_3 ((rd_T67 t483 x11_3).f0) [.int .u8 ((rd_T67 t483 x11_3).f0)] (fun k_ => some k_ ≠ (u7 : Value).ownBlock) (fun _ => False) rfl rfl ?aP (fun _ hk => hk.elim) ?aF ?aO ?aB ?aS ?aL ?_; (case aP => exact rfl); (case aB => exact (apG GE469.out)); (case aF => exact (fun k_ hk => Kd.fresh' (Kd.R_lt (apAR HO_7.out)) k_ hk)); (case aO => exact (apAR HO_10.out)); (case aS => exact (below_size (apG GE469.out))); (case aL => have := LMc64.out; omega); intro v509 w66 ho hb hg hat; rw [← Ny508.out] at ho; have n0_ := Aside0.mk (Kd.V_afterv (ok := (fun k_ => some k_ ≠ (u7 : Value).ownBlock ∧ k_ ≠ gb469)) (by (with_reducible repeat (first | apply Kd.V_alloc | apply Kd.V_drewN | apply Kd.V_drew)); exact Kd.V_mono HO_6.out (fun _ hk => ⟨⟨hk.1, hk.2.2⟩, hk.2.1⟩)) hg hat); have n1_ := Aside0.mk (Kd.R_after (ok := (fun _ => True)) (by (with_reducible repeat (first | apply Kd.R_alloc | apply Kd.R_drewN | apply Kd.R_drew)); exact Kd.R_mono HO_7.out (fun _ hk => ⟨trivial, hk⟩)) hg hat); have n2_ := Aside0.mk (blk_grown (g := gb469) (o := .cells #[.string x470000_3, .string x470001_3] 40 (0, 0)) (apB BK469.out) hg (Kd.R_ne HO_10.out BK469.out (by decide))); have n3_ := Aside0.mk (hb); have n4_ := Aside0.mk (ho); clear HO_6; clear HO_7; clear BK469; clear HB; clear HO_10; have HO_6 := n0_; have HO_7 := n1_; have BK469 := n2_; have HB := n3_; have HO510 := n4_; clear n0_ n1_ n2_ n3_ n4_; clear ho hb hg hat))
                     go_roundg k3
                     case measure => have := HJ1.out; have := HK2.out; have := HK3.out; omega
                     case rel => exact ⟨(y508), (wrap64 (x11_3 + 1)), (x470000_3), (x470001_3), ap2, H', ⟨by have := HJ1.out; have := HK2.out; have := HK3.out; omega⟩, ⟨by (with_reducible repeat (first | apply Kd.V_alloc | apply Kd.V_drewN | apply Kd.V_drew)); exact Kd.V_mono HO_6.out (fun _ hk => ⟨hk.1.1, ⟨hk.2, hk.1.2⟩⟩)⟩, ⟨by (with_reducible repeat (first | apply Kd.R_alloc | apply Kd.R_drewN | apply Kd.R_drew)); exact Kd.R_mono HO_7.out (fun _ hk => hk.2)⟩, ⟨by (with_reducible repeat (first | apply Kd.R_alloc | apply Kd.R_drewN | apply Kd.R_drew)); exact HO510.out⟩, ⟨by (with_reducible repeat (first | refine blk_drewN ?_ _ | refine blk_drew ?_ | refine blk_alloc ?_ _)); exact BK469.out⟩, ⟨by repeat (first | (with_reducible first | exact HB.out | apply below_alloc | apply pw_below_drewN | apply below_drew1 | refine below_set ?_ GE469.out) | exact HB.out)⟩⟩
                    ·
                     rw [if_neg c64] at H
                     exact absurd H (by simp)
               ·
                replace c47 := Bool.eq_false_iff.mpr c47
                subst c47
                rw [if_neg (show ¬ (false = true) by decide)] at H
                by_cases c67 : x10_3.length < 140737488355328
                ·
                 rw [if_pos c67] at H
                 have LMc67 := Aside0.mk c67
                 clear c67
                 obtain ⟨y511, hy511⟩ : ∃ y_ : List Int, y_ = (x10_3 ++ [(rd_T67 t483 x11_3).f0]) := ⟨_, rfl⟩
                 replace H : (R15Pair.l2 k3 t483 x7_2 y511 (wrap64 (x11_3 + 1))) = some (r1, r2, r3) := by first | (rw [hy511]; with_reducible exact H) | (have H2_ := (Option.bind_some _ _).symm.trans H; rw [hy511]; with_reducible exact H2_) | (have H2_ := (Option.bind_some _ _).symm.trans H; with_reducible exact H2_) | with_reducible exact H | (rw [hy511]; exact H) | exact H
                 have Ny511 := Aside0.mk hy511
                 clear hy511
                 have H' := Aside0.mk H
                 clear H
                 obtain ⟨Ao68, co68, eo68⟩ := Kd.V_slice HO_6.out
                 subst eo68
                 have p503 : 0 ≤ (x11_3 : Int) := of_decide_eq_true ap0
                 have q503 : x11_3 < (t483.length : Int) := of_decide_eq_true ap0
                 obtain ⟨ad503, e503, hx503_0, hx503_1⟩ := at_T67 (Kd.V_reads' HO_6.out).2.2 x11_3 p503 q503
                 (try rw [← Nbq46.out] at hx503_1)
                 cases e503
                 replace p503 := eq_true p503
                 replace q503 := eq_true q503
                 have p504 : 0 ≤ (x11_3 : Int) := of_decide_eq_true ap0
                 have q504 : x11_3 < (t483.length : Int) := of_decide_eq_true ap0
                 obtain ⟨ad504, e504, hx504_0, hx504_1⟩ := at_T67 (Kd.V_reads' HO_6.out).2.2 x11_3 p504 q504
                 (try rw [← Nbq46.out] at hx504_1)
                 obtain rfl : ad503 = ad504 := (by injection e504)
                 replace p504 := eq_true p504
                 replace q504 := eq_true q504
                 go_wp2_with (first | ((with_reducible refine gate_builtin (b := .append) (xs := #[.tmp 118, .tmp 120]) rfl ?_); at_builtin; refine Kd.R_append (Kd.int .u8) (w0 := w) w.heap.size rfl (.tmp 118) (.tmp 120) 72 5 (.int .u8 0) 1 rfl Tryd.underlying72 info5 rfl (by decide) (by omega) u10 x10_3 ((rd_T67 t483 x11_3).f0) [.int .u8 ((rd_T67 t483 x11_3).f0)] (fun k_ => some k_ ≠ (u7 : Value).ownBlock) (fun _ => False) rfl rfl ?aP (fun _ hk => hk.elim) ?aF ?aO ?aB ?aS ?aL ?_; (case aP => exact rfl); (case aB => exact (apG GE469.out)); (case aF => exact (fun k_ hk => Kd.fresh' (Kd.R_lt (apAR HO_7.out)) k_ hk)); (case aO => exact (apAR HO_10.out)); (case aS => exact (below_size (apG GE469.out))); (case aL => have := LMc67.out; omega); intro v512 w69 ho hb hg hat; rw [← Ny511.out] at ho; have n0_ := Aside0.mk (Kd.V_afterv (ok := (fun k_ => some k_ ≠ (u7 : Value).ownBlock ∧ k_ ≠ gb469)) (by (with_reducible repeat (first | apply Kd.V_alloc | apply Kd.V_drewN | apply Kd.V_drew)); exact Kd.V_mono HO_6.out (fun _ hk => ⟨⟨hk.1, hk.2.2⟩, hk.2.1⟩)) hg hat); have n1_ := Aside0.mk (Kd.R_after (ok := (fun _ => True)) (by (with_reducible repeat (first | apply Kd.R_alloc | apply Kd.R_drewN | apply Kd.R_drew)); exact Kd.R_mono HO_7.out (fun _ hk => ⟨trivial, hk⟩)) hg hat); have n2_ := Aside0.mk (blk_grown (g := gb469) (o := .cells #[.string x470000_3, .string x470001_3] 40 (0, 0)) (apB BK469.out) hg (Kd.R_ne HO_10.out BK469.out (by decide))); have n3_ := Aside0.mk (hb); have n4_ := Aside0.mk (ho); clear HO_6; clear HO_7; clear BK469; clear HB; clear HO_10; have HO_6 := n0_; have HO_7 := n1_; have BK469 := n2_; have HB := n3_; have HO513 := n4_; clear n0_ n1_ n2_ n3_ n4_; clear ho hb hg hat))
                 go_roundg k3
                 case measure => have := HJ1.out; have := HK2.out; have := HK3.out; omega
                 case rel => exact ⟨(y511), (wrap64 (x11_3 + 1)), (x470000_3), (x470001_3), ap2, H', ⟨by have := HJ1.out; have := HK2.out; have := HK3.out; omega⟩, ⟨by (with_reducible repeat (first | apply Kd.V_alloc | apply Kd.V_drewN | apply Kd.V_drew)); exact Kd.V_mono HO_6.out (fun _ hk => ⟨hk.1.1, ⟨hk.2, hk.1.2⟩⟩)⟩, ⟨by (with_reducible repeat (first | apply Kd.R_alloc | apply Kd.R_drewN | apply Kd.R_drew)); exact Kd.R_mono HO_7.out (fun _ hk => hk.2)⟩, ⟨by (with_reducible repeat (first | apply Kd.R_alloc | apply Kd.R_drewN | apply Kd.R_drew)); exact HO513.out⟩, ⟨by (with_reducible repeat (first | refine blk_drewN ?_ _ | refine blk_drew ?_ | refine blk_alloc ?_ _)); exact BK469.out⟩, ⟨by repeat (first | (with_reducible first | exact HB.out | apply below_alloc | apply pw_below_drewN | apply below_drew1 | refine below_set ?_ GE469.out) | exact HB.out)⟩⟩
                ·
                 rw [if_neg c67] at H
                 exact absurd H (by simp)
              ·
               rw [if_neg c45] at H
               exact absurd H (by simp)
             ·
              rw [if_neg c44] at H
              have c44b0 := decide_eq_false c44
              clear c44
              replace H := Option.bind_eq_some_iff.mp H
              obtain ⟨t514, A700, H⟩ := H
              replace H : (some (strOfNums x7_2, strOfNums x10_3, t514)) = some (r1, r2, r3) := H
              have A70 := Aside0.mk A700
              clear A700
              simp only [Option.some.injEq, Prod.mk.injEq] at H
              obtain ⟨rfl, rfl, rfl⟩ := H
              obtain ⟨Ao71, co71, eo71⟩ := Kd.V_slice HO_6.out
              subst eo71
              try go_wp2
              have n0_ := Aside0.mk (Kd.V_drew HO_6.out)
              have n1_ := Aside0.mk (Kd.R_drew HO_7.out)
              have n2_ := Aside0.mk (Kd.R_drew HO_10.out)
              have n3_ := Aside0.mk (blk_drew BK469.out)
              have n4_ := Aside0.mk (below_drew1 HB.out)
              clear HO_6
              clear HO_7
              clear HO_10
              clear BK469
              clear HB
              have HO_6 := n0_
              have HO_7 := n1_
              have HO_10 := n2_
              have BK469 := n3_
              have HB := n4_
              clear n0_ n1_ n2_ n3_ n4_
              have hcv73 := own_string (P := Tryd.prog) Tryd.underlying72 Tryd.underlying5 Tryd.underlying9 (Kd.own_of_R HO_7.out)
              have hcv74 := own_string (P := Tryd.prog) Tryd.underlying72 Tryd.underlying5 Tryd.underlying9 (Kd.own_of_R HO_10.out)
              have hcv75 := own_string (P := Tryd.prog) Tryd.underlying72 Tryd.underlying5 Tryd.underlying9 (Kd.own_of_R HO_7.out)
              refine start_ (n := 10) (S := fun w' => (convert 72 9 u7).run Tryd.prog w' = .ok (.string (strOfNums x7_2)) w' ∧ (convert 72 9 u10).run Tryd.prog w' = .ok (.string (strOfNums x10_3)) w') (ds := [8]) #[false, false, false, false, false, false, false, false, false, false] (by kernel_rfl) rfl rfl ⟨hcv73, hcv74⟩ (fun hHeld => ?_); refine with_tabW R15Pair.tab26 R15Pair.bits26 (fun HT_ HW_ => ?_)
              generalize wr.drew = w72 at HO_6 HO_7 HO_10 BK469 HB hHeld ⊢
              refine pure_ (i := 0) (N := some 122) (v := ?_) (a' := ?_) #[true, false, false, false, false, false, false, false, false, false] rfl rfl (any_of HT_.out (by kernel_rfl)) (fun _ _ _ h => h) (Or.inl ⟨by rfl, ?_⟩) ?_ ?_
              rotate_left
              ·
               intro w'
               go_simp
               with_reducible rfl
              rotate_left
              ·
               simp only [Act.put, List.setIfInBounds_toArray, List.set_cons_zero, List.set_cons_succ, i64_w, i32_w]
               rfl
              refine take_ (i := 1) (N := some 123) (v := ?_) (a' := ?_) #[true, true, false, false, false, false, false, false, false, false] rfl rfl (by kernel_rfl) (fun _ _ _ h => h) (Or.inl ⟨by rfl, ?_⟩) hHeld ?_ ?_
              rotate_left
              ·
               rintro w' ⟨s0, s1⟩
               go_simp
               with_reducible rfl
              rotate_left
              ·
               simp only [Act.put, List.setIfInBounds_toArray, List.set_cons_zero, List.set_cons_succ, i64_w, i32_w]
               rfl
              refine pure_ (i := 2) (N := some 124) (v := ?_) (a' := ?_) #[true, true, true, false, false, false, false, false, false, false] rfl rfl (any_of HT_.out (by kernel_rfl)) (fun _ _ _ h => h) (Or.inl ⟨by rfl, ?_⟩) ?_ ?_
              rotate_left
              ·
               intro w'
               go_simp
               with_reducible rfl
              rotate_left
              ·
               simp only [Act.put, List.setIfInBounds_toArray, List.set_cons_zero, List.set_cons_succ, i64_w, i32_w]
               rfl
              refine take_ (i := 3) (N := some 125) (v := ?_) (a' := ?_) #[true, true, true, true, false, false, false, false, false, false] rfl rfl (by kernel_rfl) (fun _ _ _ h => h) (Or.inl ⟨by rfl, ?_⟩) hHeld ?_ ?_
              rotate_left
              ·
               rintro w' ⟨s0, s1⟩
               go_simp
               with_reducible rfl
              rotate_left
              ·
               simp only [Act.put, List.setIfInBounds_toArray, List.set_cons_zero, List.set_cons_succ, i64_w, i32_w]
               rfl
              refine pure_ (i := 4) (N := some 126) (v := ?_) (a' := ?_) #[true, true, true, true, true, false, false, false, false, false] rfl rfl (any_of HT_.out (by kernel_rfl)) (fun _ _ _ h => h) (Or.inl ⟨by rfl, ?_⟩) ?_ ?_
              rotate_left
              ·
               intro w'
               go_simp
               with_reducible rfl
              rotate_left
              ·
               simp only [Act.put, List.setIfInBounds_toArray, List.set_cons_zero, List.set_cons_succ, i64_w, i32_w]
               rfl
              refine pure_ (i := 5) (N := some 127) (v := ?_) (a' := ?_) #[true, true, true, true, true, true, false, false, false, false] rfl rfl (any_of HT_.out (by kernel_rfl)) (fun _ _ _ h => h) (Or.inl ⟨by rfl, ?_⟩) ?_ ?_
              rotate_left
              ·
               intro w'
               go_simp
               with_reducible rfl
              rotate_left
              ·
               simp only [Act.put, List.setIfInBounds_toArray, List.set_cons_zero, List.set_cons_succ, i64_w, i32_w]
               rfl
              refine take_ (i := 6) (N := some 128) (v := ?_) (a' := ?_) #[true, true, true, true, true, true, true, false, false, false] rfl rfl (by kernel_rfl) (fun _ _ _ h => h) (Or.inl ⟨by rfl, ?_⟩) hHeld ?_ ?_
              rotate_left
              ·
               rintro w' ⟨s0, s1⟩
               go_simp
               with_reducible rfl
              rotate_left
              ·
               simp only [Act.put, List.setIfInBounds_toArray, List.set_cons_zero, List.set_cons_succ, i64_w, i32_w]
               rfl
              refine one_ (i := 7) (N := some 129) #[true, true, true, true, true, true, true, true, false, false] rfl rfl (one_of HT_.out (by kernel_rfl)) (by decide) (fun K hK => ?_)
              refine goes_ Tryd.func64 (by kernel_rfl) rfl #[.string (strOfNums x7_2)] (by rfl) rfl rfl ap3 ?_
              with_reducible refine (R15Type.calls k3 (strOfNums x7_2) t514 _ A70.out).mono ?_
              rintro e w' ⟨rfl, ⟨nd, rfl⟩⟩
              refine ⟨_, rfl, ?_⟩
              refine hK.out _ _ ⟨own_string (P := Tryd.prog) Tryd.underlying72 Tryd.underlying5 Tryd.underlying9 (Kd.own_of_R (Kd.R_drewN HO_7.out _)), own_string (P := Tryd.prog) Tryd.underlying72 Tryd.underlying5 Tryd.underlying9 (Kd.own_of_R (Kd.R_drewN HO_10.out _))⟩ (fun hHeld => ?_)
              clear hK K
              refine norm_ (a' := ?_) ?_ ?_
              rotate_left
              ·
               show Act.put _ (some 129) _ = _
               simp only [Act.put, List.setIfInBounds_toArray, List.set_cons_zero, List.set_cons_succ, i64_w, i32_w]
               rfl
              refine last_ (i := 8) (N := none) #[true, true, true, true, true, true, true, true, true, false] rfl rfl (one_of HT_.out (by kernel_rfl)) (by decide) (fun K hK => ?_)
              have hs77 : (w72.drewN nd).cell? ⟨gb469, 0, none⟩ = some (.string x470000_3) := (blk_cell BK469.out 0).trans rfl
              have hfs77 : (w72.drewN nd).frozen? ⟨gb469, 0, none⟩ = false := blk_frozen BK469.out 0
              have hs78 : (w72.drewN nd).cell? ⟨gb469, 1, none⟩ = some (.string x470001_3) := (blk_cell BK469.out 1).trans rfl
              have hfs78 : (w72.drewN nd).frozen? ⟨gb469, 1, none⟩ = false := blk_frozen BK469.out 1
              refine skip_ (w1 := ?_) (by rfl) rfl ?_ ?_
              rotate_left
              ·
               go_simp
               rfl
              refine hK.out _ _ ?_
              clear hK K
              refine pure_ (i := 9) (N := some 3) (v := ?_) (a' := ?_) #[true, true, true, true, true, true, true, true, true, true] rfl rfl (any_of HT_.out (by kernel_rfl)) (fun _ _ _ h => h) (Or.inl ⟨by rfl, ?_⟩) ?_ ?_
              rotate_left
              ·
               intro w'
               go_simp
               with_reducible rfl
              rotate_left
              ·
               simp only [Act.put, List.setIfInBounds_toArray, List.set_cons_zero, List.set_cons_succ, i64_w, i32_w]
               rfl
              refine done_ (done_of HT_.out (by kernel_rfl)) ?_
              try go_wp2
              refine bodyPost_ret (results_ct rfl _ _ gb469 40 #[.string (strOfNums x7_2), .string (strOfNums x10_3)] (0, 0) _ rfl (by (with_reducible repeat (first | refine blk_drewN ?_ _ | refine blk_drew ?_ | refine blk_alloc ?_ _)); refine blk_put (cs := #[.string (strOfNums x7_2), .string x470001_3]) ?_ 1 _ rfl; (with_reducible repeat (first | refine blk_drewN ?_ _ | refine blk_drew ?_ | refine blk_alloc ?_ _)); refine blk_put (cs := #[.string x470000_3, .string x470001_3]) ?_ 0 _ rfl; (with_reducible repeat (first | refine blk_drewN ?_ _ | refine blk_drew ?_ | refine blk_alloc ?_ _)); exact BK469.out) Tryd.underlying40 rfl (by kernel_rfl)) rfl ?_
              exact ⟨by first | rfl | (simp [errW_none, errW_some, bne_nil8, beq_nil8]; done) | (simp [errW_none, errW_some] <;> rfl) | (simp only [← hji14]; first | rfl | (simp [errW_none, errW_some] <;> rfl)) | (simp [*, errW_none, errW_some] <;> rfl), by repeat (first | (with_reducible first | exact HB.out | apply below_alloc | apply pw_below_drewN | apply below_drew1 | refine below_set ?_ GE469.out) | exact HB.out)⟩
       ·
        rw [if_neg c16] at H
        exact absurd H (by simp)
      ·
       rw [if_neg c15] at H
       exact absurd H (by simp)
     ·
      rw [if_neg c12] at H
      exact absurd H (by simp)
    ·
     rw [if_neg c11] at H
     exact absurd H (by simp)
end Go.Proofs.YtkklacijhmoopaaDoor.Print
namespace Go.Proofs.YtkklacijhmoopaaDoor.Print
open Go.RowKit Go.Proofs.YtkklacijhmoopaaDoorW.PrintWords Go.Proofs.YtkklacijhmoopaaDoorW.PrintLast Go.Proofs.YtkklacijhmoopaaDoorW.PrintMore Go.Proofs.YtkklacijhmoopaaDoor.Pure
set_option linter.unusedVariables false
set_option linter.unusedSimpArgs false
abbrev rdS := rd_T67
theorem rdS_at {L : List Sg} {i : Nat} {x : Sg} {r : List Sg} (h : L.drop i = x :: r) : i < L.length ∧ rdS (mkSs L) (i : Int) = mkS x ∧ L.drop (i + 1) = r := by
  have h1 : i < L.length := by
    rcases Nat.lt_or_ge i L.length with h' | h'
    · exact h'
    · rw [List.drop_eq_nil_of_le h'] at h; cases h
  refine ⟨h1, ?_, ?_⟩
  · have h0 : L[i]? = some x := by
      have := congrArg List.head? h
      rw [List.head?_drop] at this; simpa using this
    unfold rdS rd_T67 mkSs
    rw [List.getD_eq_getElem?_getD, Int.toNat_natCast, List.getElem?_map, h0]; rfl
  · have := congrArg List.tail h
    rw [List.tail_drop] at this; simpa using this
theorem drop_nilS {L : List Sg} {i : Nat} (h : L.drop i = []) : L.length ≤ i := List.drop_eq_nil_iff.1 h
theorem wpred {n : Nat} (h0 : 1 ≤ n) (h : n ≤ 2000000) : wrap64 ((n : Int) - 1) = ((n - 1 : Nat) : Int) := by unfold wrap64; omega
theorem blank_iff (x : Sg) : isBlank x = true ↔ (mkS x).f1 = true ∧ (mkS x).f0 = 32 := by
  obtain ⟨c, b⟩ := x
  have : ((c.toNat : Int) = 32) ↔ c = 32 := ieq c 32
  simp only [isBlank, mkS, Bool.and_eq_true, beq_iff_eq, this]
theorem trimR_ev : ∀ (n : Nat) (L : List Sg), L.length = n → n ≤ 1000000 → Ev (fun k => R15Trim.l1 k (mkSs L)) (mkSs (trimR L)) := by
  intro n
  induction n with
  | zero =>
    intro L hL _
    have : L = [] := List.eq_nil_of_length_eq_zero hL
    subst this
    show Ev _ (mkSs [])
    exact Ev.step (fun k => by rw [R15Trim.l1]) (Ev.neg (by simp [mkSs]) Ev.rfl')
  | succ n ih =>
    intro L hL hn
    rcases List.eq_nil_or_concat L with rfl | ⟨M, x, rfl⟩
    · simp at hL
    · rw [List.concat_eq_append] at hL ⊢
      have hM : M.length = n := by simpa using hL
      have hlen : ((mkSs (M ++ [x])).length : Int) = ((n + 1 : Nat) : Int) := by rw [mkSs_len]; simp [hM]
      have hx := (rdS_at (L := M ++ [x]) (i := n) (x := x) (r := []) (by rw [← hM]; simp)).2.1
      have hst : ∀ {o : List SgS}, Ev (fun k => if (mkS x).f1 = true then (if (mkS x).f0 = 32 then (R15Trim.l1 k (mkSs M)) else (some (mkSs (M ++ [x])))) else (some (mkSs (M ++ [x])))) o → Ev (fun k => R15Trim.l1 k (mkSs (M ++ [x]))) o := by
        intro o h
        refine Ev.step (fun k => by rw [R15Trim.l1]) ?_
        rw [hlen, wpred (by omega) (by omega), show n + 1 - 1 = n from rfl]
        have hx' : rd_T67 (mkSs (M ++ [x])) (n : Int) = mkS x := hx
        rw [hx']
        refine Ev.pos (by omega) (Ev.pos (by omega) (Ev.pos (by omega) ?_))
        refine Ev.congr (fun k => ?_) h
        rw [if_pos (show (n : Int) ≤ ((n + 1 : Nat) : Int) by omega), Int.toNat_natCast, show (mkSs (M ++ [x])).take n = mkSs M by unfold mkSs; rw [← List.map_take, ← hM, List.take_left' rfl]]
      rw [trimR_snoc]
      cases hb : isBlank x with
      | true =>
        obtain ⟨h1, h2⟩ := (blank_iff x).1 hb
        exact hst (Ev.pos h1 (Ev.pos h2 (by simpa using ih M hM (by omega))))
      | false =>
        have hnb : ¬ ((mkS x).f1 = true ∧ (mkS x).f0 = 32) := fun h => by rw [(blank_iff x).2 h] at hb; cases hb
        by_cases h1 : (mkS x).f1 = true
        · exact hst (Ev.pos h1 (Ev.neg (fun h2 => hnb ⟨h1, h2⟩) (by simpa using Ev.rfl')))
        · exact hst (Ev.neg h1 (by simpa using Ev.rfl'))
theorem trim_ev : ∀ (L : List Sg), L.length ≤ 1000000 → Ev (fun k => R15Trim.l0 k (mkSs L)) (mkSs (trim L))
  | [], _ => by
    refine Ev.step (fun k => by rw [R15Trim.l0]) (Ev.neg (by simp [mkSs]) (Ev.step (fun k => by rw [R15Trim.j1]) ?_))
    exact trimR_ev 0 [] rfl (by omega)
  | x :: L, hL => by
    have hlen : ((mkSs (x :: L)).length : Int) = ((L.length + 1 : Nat) : Int) := by rw [mkSs_len]; rfl
    have hx : rd_T67 (mkSs (x :: L)) 0 = mkS x := (rdS_at (L := x :: L) (i := 0) (x := x) (r := L) rfl).2.1
    have hj : Ev (fun k => R15Trim.j1 k (mkSs (x :: L))) (mkSs (trimR (x :: L))) := Ev.step (fun k => by rw [R15Trim.j1]) (trimR_ev _ (x :: L) rfl hL)
    have hst : ∀ {o : List SgS}, Ev (fun k => if (mkS x).f1 = true then (if (mkS x).f0 = 32 then (R15Trim.l0 k (mkSs L)) else (R15Trim.j1 k (mkSs (x :: L)))) else (R15Trim.j1 k (mkSs (x :: L)))) o → Ev (fun k => R15Trim.l0 k (mkSs (x :: L))) o := by
      intro o h
      refine Ev.step (fun k => by rw [R15Trim.l0]) ?_
      rw [hx]
      refine Ev.pos (by omega) (Ev.pos (by omega) ?_)
      refine Ev.congr (fun k => ?_) h
      rw [if_pos (show (1 : Int) ≤ ((mkSs (x :: L)).length : Int) by omega)]; rfl
    have ih := trim_ev L (by simp at hL; omega)
    cases hb : isBlank x with
    | true =>
      obtain ⟨h1, h2⟩ := (blank_iff x).1 hb
      have e : trim (x :: L) = trim L := by unfold trim trimL; rw [List.dropWhile_cons_of_pos hb]
      rw [e]
      exact hst (Ev.pos h1 (Ev.pos h2 ih))
    | false =>
      rw [trim_head hb]
      have hnb : ¬ ((mkS x).f1 = true ∧ (mkS x).f0 = 32) := fun h => by rw [(blank_iff x).2 h] at hb; cases hb
      by_cases h1 : (mkS x).f1 = true
      · exact hst (Ev.pos h1 (Ev.neg (fun h2 => hnb ⟨h1, h2⟩) hj))
      · exact hst (Ev.neg h1 hj)
theorem refType_ev (s : ByteArray) (hs : s.size ≤ 1000000) : Ev (fun k => R15Type.f k s) (typeOk (bl s)) := by
  have hl : ∀ (n p : Nat), s.size - p = n → p ≤ s.size → Ev (fun k => R15Type.l0 k s (p : Int)) (((bl s).drop p).all typeB) := by
    intro n
    induction n with
    | zero =>
      intro p hn hp
      rw [drop_end (by omega)]
      show Ev _ true
      exact Ev.step (fun k => by rw [R15Type.l0]) (Ev.neg (by omega) Ev.rfl')
    | succ n ih =>
      intro p hn hp
      cases hr : (bl s).drop p with
      | nil => have := drop_nil hr; omega
      | cons c r =>
        obtain ⟨g1, g2, g3⟩ := drop_cons hr
        have hi := ih (p + 1) (by omega) (by omega)
        rw [g3] at hi
        have h45 : ((c.toNat : Int) = 45) ↔ c = 45 := ieq c 45
        refine Ev.step (fun k => by rw [R15Type.l0]) ?_
        rw [g2, wsucc (by omega), List.all_cons]
        by_cases q1 : 97 ≤ c.toNat ∧ c.toNat ≤ 122
        · rw [show typeB c = true by simp [typeB, q1]]
          simp (disch := omega) only [if_pos, if_neg]
          simpa using hi
        by_cases q4 : 48 ≤ c.toNat ∧ c.toNat ≤ 57
        · rw [show typeB c = true by simp [typeB, q4]]
          simp (disch := omega) only [if_pos, if_neg]
          simpa using hi
        by_cases q2 : c = 45
        · rw [show typeB c = true by subst q2; rfl]
          have := h45.2 q2
          simp (disch := omega) only [if_pos, if_neg]
          simpa using hi
        have q3 : (c.toNat : Int) ≠ 45 := fun h => q2 (h45.1 h)
        rw [show typeB c = false by simp [typeB, q2]; omega]
        have e : Ev (fun (_ : Nat) => some false) (false && r.all typeB) := Ev.rfl'
        by_cases a1 : 97 ≤ c.toNat
        · simp (disch := omega) only [if_pos, if_neg]; exact e
        · by_cases a2 : c.toNat < 48
          · simp (disch := omega) only [if_pos, if_neg]; exact e
          · simp (disch := omega) only [if_pos, if_neg]; exact e
  have hjt : Ev (fun k => R15Type.j0 k s true) false := Ev.step (fun k => by rw [R15Type.j0]) (Ev.pos rfl Ev.rfl')
  have hjf : Ev (fun k => R15Type.j0 k s false) ((bl s).all typeB) := Ev.step (fun k => by rw [R15Type.j0]) (Ev.neg (by simp) (by simpa using hl _ 0 rfl (Nat.zero_le _)))
  unfold R15Type.f
  cases hr : bl s with
  | nil =>
    have : s.size = 0 := by rw [← bl_length, hr]; rfl
    exact Ev.pos (by omega) hjt
  | cons c r =>
    have hlen : s.size = (c :: r).length := by rw [← bl_length, hr]
    obtain ⟨_, g2⟩ := bt_get (s := s) (p := 0) (c := c) (by rw [hr]; rfl)
    have g2' : bt s 0 = (c.toNat : Int) := g2
    rw [hr] at hjf
    have hl1 : 1 ≤ (c :: r).length := by simp
    refine Ev.neg (by omega) ?_
    unfold typeOk
    dsimp only
    rw [← hlen, g2']
    by_cases h32 : s.size ≤ 32
    · refine Ev.neg (by omega) (Ev.pos (by omega) ?_)
      rw [decide_eq_true h32, Bool.and_true]
      by_cases q1 : 97 ≤ c.toNat ∧ c.toNat ≤ 122
      · rw [decide_eq_true q1, Bool.true_and]
        refine Ev.neg (by omega) ?_
        rw [decide_eq_false (by omega)]; exact hjf
      · rw [decide_eq_false q1, Bool.false_and]
        by_cases a1 : c.toNat < 97
        · exact Ev.pos (by omega) hjt
        · refine Ev.neg (by omega) ?_
          rw [decide_eq_true (by omega)]; exact hjt
    · rw [decide_eq_false h32, Bool.and_false]
      exact Ev.pos (by omega) hjt
abbrev POut := ByteArray × ByteArray × Bool
theorem lowI (x : Sg) : (if (mkS x).f0 ≥ 65 then (if (mkS x).f0 ≤ 90 then ((mkS x).f0 + 32) % 256 else (mkS x).f0) else (mkS x).f0) = ((lowB x.1).toNat : Int) := by
  have hx := x.1.toNat_lt
  show (if (x.1.toNat : Int) ≥ 65 then (if (x.1.toNat : Int) ≤ 90 then ((x.1.toNat : Int) + 32) % 256 else (x.1.toNat : Int)) else (x.1.toNat : Int)) = _
  unfold lowB
  by_cases h : 65 ≤ x.1.toNat ∧ x.1.toNat ≤ 90
  · rw [if_pos h, if_pos (by omega), if_pos (by omega), UInt8.toNat_add]
    have : (32 : UInt8).toNat = 32 := rfl
    rw [this]; omega
  · rw [if_neg h]
    by_cases h1 : (x.1.toNat : Int) ≥ 65
    · rw [if_pos h1, if_neg (by omega)]
    · rw [if_neg h1]
theorem pair_l2 (y : List Sg) (t : List UInt8) (hy : y.length ≤ 1000000) (ht : t.length ≤ 1000000) : ∀ (n i : Nat) (acc : List UInt8), y.length - i = n → i ≤ y.length → acc.length ≤ i →
    ((y.drop i).any badV = false ∧ (i = 0 → valOk y = true) → Ev (fun k => R15Pair.l2 k (mkSs y) (ints t) (ints acc) (i : Int)) (⟨t.toArray⟩, ⟨(acc ++ (y.drop i).map (·.1)).toArray⟩, typeOk t)) ∧
    ((y.drop i).any badV = true ∨ (i = 0 ∧ valOk y = false) → Ev (fun k => R15Pair.l2 k (mkSs y) (ints t) (ints acc) (i : Int)) (⟨#[]⟩, ⟨#[]⟩, false)) := by
  intro n
  induction n with
  | zero =>
    intro i acc hn hi ha
    have hd : y.drop i = [] := List.drop_eq_nil_of_le (by omega)
    rw [hd]
    refine ⟨fun h => ?_, fun h => ?_⟩
    · refine Ev.step (fun k => by rw [R15Pair.l2]) ?_
      refine Ev.neg (by rw [mkSs_len]; omega) ?_
      rw [strOfNums_ints, strOfNums_ints]
      refine Ev.bind (refType_ev ⟨t.toArray⟩ (by rw [← bl_length]; exact ht)) ?_
      simpa using Ev.rfl'
    · rcases h with h | ⟨h, h2⟩
      · simp at h
      · have : y = [] := by subst h; simpa using hd
        subst this; simp [valOk] at h2
  | succ n ih =>
    intro i acc hn hi ha
    cases hr : y.drop i with
    | nil => have := drop_nilS hr; omega
    | cons x r =>
      obtain ⟨g1, g2, g3⟩ := rdS_at hr
      have hx2 : (mkS x).f1 = x.2 := rfl
      have e34 : ((mkS x).f0 = 34) ↔ x.1 = 34 := ieq x.1 34
      have e60 : ((mkS x).f0 = 60) ↔ x.1 = 60 := ieq x.1 60
      have e62 : ((mkS x).f0 = 62) ↔ x.1 = 62 := ieq x.1 62
      have e35 : ((mkS x).f0 = 35) ↔ x.1 = 35 := ieq x.1 35
      have hal : (ints acc).length < 140737488355328 := by rw [ints_length]; omega
      have hi2 := ih (i + 1) (acc ++ [x.1]) (by omega) (by omega) (by simp; omega)
      rw [g3] at hi2
      have hst : ∀ {o : POut}, Ev (fun k => if (mkS x).f1 = true then (if (mkS x).f0 = 34 then (some ((⟨#[]⟩ : ByteArray), (⟨#[]⟩ : ByteArray), false)) else (if (mkS x).f0 = 60 then (some ((⟨#[]⟩ : ByteArray), (⟨#[]⟩ : ByteArray), false)) else (if (mkS x).f0 = 62 then (some ((⟨#[]⟩ : ByteArray), (⟨#[]⟩ : ByteArray), false)) else (if (mkS x).f0 = 35 then (if (i : Int) = 0 then (some ((⟨#[]⟩ : ByteArray), (⟨#[]⟩ : ByteArray), false)) else (R15Pair.l2 k (mkSs y) (ints t) (ints (acc ++ [x.1])) ((i + 1 : Nat) : Int))) else (R15Pair.l2 k (mkSs y) (ints t) (ints (acc ++ [x.1])) ((i + 1 : Nat) : Int)))))) else (R15Pair.l2 k (mkSs y) (ints t) (ints (acc ++ [x.1])) ((i + 1 : Nat) : Int))) o → Ev (fun k => R15Pair.l2 k (mkSs y) (ints t) (ints acc) (i : Int)) o := by
        intro o h
        refine Ev.step (fun k => by rw [R15Pair.l2]) ?_
        refine Ev.pos (by rw [mkSs_len]; omega) (Ev.pos (by omega) ?_)
        have g2' : rd_T67 (mkSs y) (i : Int) = mkS x := g2
        rw [g2', wsucc (by omega)]
        simp only [if_pos hal]
        rw [show ints acc ++ [(mkS x).f0] = ints (acc ++ [x.1]) from ints_snoc acc x.1]
        exact h
      have hpass : badV x = false → ¬ (i = 0 ∧ x.2 = true ∧ x.1 = 35) → ∀ {o : POut}, Ev (fun k => R15Pair.l2 k (mkSs y) (ints t) (ints (acc ++ [x.1])) ((i + 1 : Nat) : Int)) o → Ev (fun k => R15Pair.l2 k (mkSs y) (ints t) (ints acc) (i : Int)) o := by
        intro hb h35 o h
        by_cases h2 : x.2 = true
        · simp only [badV, h2, Bool.true_and, Bool.or_eq_false_iff, beq_eq_false_iff_ne] at hb
          refine hst (Ev.pos (hx2.trans h2) (Ev.neg (fun h' => hb.1.1 (e34.1 h')) (Ev.neg (fun h' => hb.1.2 (e60.1 h')) (Ev.neg (fun h' => hb.2 (e62.1 h')) ?_))))
          by_cases h5 : x.1 = 35
          · exact Ev.pos (e35.2 h5) (Ev.neg (fun h0 => h35 ⟨by omega, h2, h5⟩) h)
          · exact Ev.neg (fun h' => h5 (e35.1 h')) h
        · exact hst (Ev.neg (by rw [hx2]; exact h2) h)
      have hfail : badV x = true ∨ (i = 0 ∧ x.2 = true ∧ x.1 = 35) → Ev (fun k => R15Pair.l2 k (mkSs y) (ints t) (ints acc) (i : Int)) (⟨#[]⟩, ⟨#[]⟩, false) := by
        intro h
        have h2 : x.2 = true := by
          rcases h with h | h
          · simp only [badV, Bool.and_eq_true] at h; exact h.1
          · exact h.2.1
        refine hst (Ev.pos (hx2.trans h2) ?_)
        by_cases h34 : x.1 = 34
        · exact Ev.pos (e34.2 h34) Ev.rfl'
        refine Ev.neg (fun h' => h34 (e34.1 h')) ?_
        by_cases h60 : x.1 = 60
        · exact Ev.pos (e60.2 h60) Ev.rfl'
        refine Ev.neg (fun h' => h60 (e60.1 h')) ?_
        by_cases h62 : x.1 = 62
        · exact Ev.pos (e62.2 h62) Ev.rfl'
        refine Ev.neg (fun h' => h62 (e62.1 h')) ?_
        rcases h with h | h
        · simp [badV, h34, h60, h62] at h
        · exact Ev.pos (e35.2 h.2.2) (Ev.pos (by omega) Ev.rfl')
      have hv0 : i = 0 → valOk y = (!((x :: r).any badV) && !(x.2 && x.1 == 35)) := by
        intro h; subst h
        rw [List.drop_zero] at hr
        rw [hr]; rfl
      rw [List.any_cons]
      refine ⟨fun ⟨h1, h2⟩ => ?_, fun h => ?_⟩
      · rw [Bool.or_eq_false_iff] at h1
        have hne : ¬ (i = 0 ∧ x.2 = true ∧ x.1 = 35) := by
          rintro ⟨h0, h3, h4⟩
          have := h2 h0
          rw [hv0 h0, h3, h4] at this
          simp at this
        refine hpass h1.1 hne ?_
        have := hi2.1 ⟨h1.2, fun h0 => by omega⟩
        rw [List.append_assoc] at this
        exact this
      · by_cases hb : badV x = true ∨ (i = 0 ∧ x.2 = true ∧ x.1 = 35)
        · exact hfail hb
        · simp only [not_or] at hb
          refine hpass (by simpa using hb.1) hb.2 (hi2.2 (.inl ?_))
          rcases h with h | ⟨h0, h⟩
          · simpa [hb.1] using h
          · rw [hv0 h0] at h
            have h3 : (x.2 && x.1 == 35) = false := by
              cases h4 : (x.2 && x.1 == 35) with
              | false => rfl
              | true => simp only [Bool.and_eq_true, beq_iff_eq] at h4; exact absurd ⟨h0, h4⟩ hb.2
            rw [h3, List.any_cons] at h
            simpa [hb.1] using h
theorem pair_l1 (x y : List Sg) (hx : x.length ≤ 1000000) (hy : y.length ≤ 1000000) : ∀ (n i : Nat) (acc : List UInt8), x.length - i = n → i ≤ x.length → acc.length ≤ i →
    ((x.drop i).all (·.2) = false → Ev (fun k => R15Pair.l1 k (mkSs x) (mkSs y) (ints acc) (i : Int)) (⟨#[]⟩, ⟨#[]⟩, false)) ∧
    ((x.drop i).all (·.2) = true → valOk y = true → Ev (fun k => R15Pair.l1 k (mkSs x) (mkSs y) (ints acc) (i : Int)) (⟨(acc ++ (x.drop i).map fun s => lowB s.1).toArray⟩, ⟨(y.map (·.1)).toArray⟩, typeOk (acc ++ (x.drop i).map fun s => lowB s.1))) ∧
    ((x.drop i).all (·.2) = true → valOk y = false → Ev (fun k => R15Pair.l1 k (mkSs x) (mkSs y) (ints acc) (i : Int)) (⟨#[]⟩, ⟨#[]⟩, false)) := by
  intro n
  induction n with
  | zero =>
    intro i acc hn hi ha
    have hd : x.drop i = [] := List.drop_eq_nil_of_le (by omega)
    rw [hd]
    have hst : ∀ {o : POut}, Ev (fun k => R15Pair.l2 k (mkSs y) (ints acc) (ints []) ((0 : Nat) : Int)) o → Ev (fun k => R15Pair.l1 k (mkSs x) (mkSs y) (ints acc) (i : Int)) o := by
      intro o h
      refine Ev.step (fun k => by rw [R15Pair.l1]) ?_
      exact Ev.neg (by rw [mkSs_len]; omega) h
    have h0 := pair_l2 y acc hy (by omega) _ 0 [] rfl (Nat.zero_le _) (Nat.le_refl _)
    rw [List.drop_zero] at h0
    refine ⟨fun h => by simp at h, fun _ hv => ?_, fun _ hv => hst (h0.2 (.inr ⟨rfl, hv⟩))⟩
    have ha : y.any badV = false := by
      cases hb : y.any badV with
      | false => rfl
      | true => unfold valOk at hv; rw [hb] at hv; simp at hv
    have := hst (h0.1 ⟨ha, fun _ => hv⟩)
    simpa using this
  | succ n ih =>
    intro i acc hn hi ha
    cases hr : x.drop i with
    | nil => have := drop_nilS hr; omega
    | cons z r =>
      obtain ⟨g1, g2, g3⟩ := rdS_at hr
      have hal : (ints acc).length < 140737488355328 := by rw [ints_length]; omega
      have hi2 := ih (i + 1) (acc ++ [lowB z.1]) (by omega) (by omega) (by simp; omega)
      rw [g3] at hi2
      have hst : ∀ {o : POut}, Ev (fun k => if (mkS z).f1 = true then (R15Pair.l1 k (mkSs x) (mkSs y) (ints (acc ++ [lowB z.1])) ((i + 1 : Nat) : Int)) else (some ((⟨#[]⟩ : ByteArray), (⟨#[]⟩ : ByteArray), false))) o → Ev (fun k => R15Pair.l1 k (mkSs x) (mkSs y) (ints acc) (i : Int)) o := by
        intro o h
        refine Ev.step (fun k => by rw [R15Pair.l1]) ?_
        refine Ev.pos (by rw [mkSs_len]; omega) (Ev.pos (by omega) ?_)
        have g2' : rd_T67 (mkSs x) (i : Int) = mkS z := g2
        rw [g2', wsucc (by omega)]
        simp only [if_pos hal]
        refine Ev.congr (fun k => ?_) h
        rw [← ints_snoc, ← lowI z]
        by_cases h1 : (mkS z).f0 ≥ 65
        · by_cases h2 : (mkS z).f0 ≤ 90
          · simp only [if_pos h1, if_pos h2]
          · simp only [if_pos h1, if_neg h2]
        · simp only [if_neg h1]
      rw [List.all_cons]
      cases hz : z.2 with
      | false =>
        exact ⟨fun _ => hst (Ev.neg (by show ¬ z.2 = true; rw [hz]; simp) Ev.rfl'), fun h => by simp at h, fun h => by simp at h⟩
      | true =>
        have hgo := fun {o : POut} (h) => hst (o := o) (Ev.pos (show z.2 = true from hz) h)
        rw [Bool.true_and]
        refine ⟨fun h => hgo (hi2.1 h), fun h hv => ?_, fun h hv => hgo (hi2.2.2 h hv)⟩
        have := hgo (hi2.2.1 h hv)
        rw [List.append_assoc] at this
        exact this
theorem trim_length (l : List Sg) : (trim l).length ≤ l.length := by
  obtain ⟨b1, b2, h, _, _⟩ := trim_split l
  conv => rhs; rw [h]
  simp; omega
theorem pairOf_ev (x y : List Sg) (hx : x.length ≤ 1000000) (hy : y.length ≤ 1000000) :
    (∀ a, pairOf x y = some a → Ev (fun k => R15Pair.l1 k (mkSs (trim x)) (mkSs (trim y)) [] 0) (⟨a.1.toArray⟩, ⟨a.2.toArray⟩, true)) ∧
    (pairOf x y = none → ∃ u v, Ev (fun k => R15Pair.l1 k (mkSs (trim x)) (mkSs (trim y)) [] 0) (u, v, false)) := by
  have hx' := trim_length x
  have hy' := trim_length y
  obtain ⟨h1, h2, h3⟩ := pair_l1 (trim x) (trim y) (by omega) (by omega) _ 0 [] rfl (Nat.zero_le _) (Nat.le_refl _)
  rw [List.drop_zero] at h1 h2 h3
  unfold pairOf
  cases ha : (trim x).all (·.2) with
  | false => exact ⟨fun a h => by simp at h, fun _ => ⟨_, _, h1 ha⟩⟩
  | true =>
    cases hv : valOk (trim y) with
    | false => exact ⟨fun a h => by simp at h, fun _ => ⟨_, _, h3 ha hv⟩⟩
    | true =>
      have := h2 ha hv
      rw [List.nil_append] at this
      cases ht : typeOk ((trim x).map fun s => lowB s.1) with
      | false =>
        rw [ht] at this
        exact ⟨fun a h => by simp at h, fun _ => ⟨_, _, this⟩⟩
      | true =>
        rw [ht] at this
        refine ⟨fun a h => ?_, fun h => by simp at h⟩
        simp only [Bool.and_self, if_true, Option.some.injEq] at h
        subst h; exact this
theorem pair_ev (L : List Sg) (hL : L.length ≤ 1000000) :
    (∀ a, pair L = some a → Ev (fun k => R15Pair.f k (mkSs L)) (⟨a.1.toArray⟩, ⟨a.2.toArray⟩, true)) ∧
    (pair L = none → ∃ u v, Ev (fun k => R15Pair.f k (mkSs L)) (u, v, false)) := by
  have hfind : ∀ (n i : Nat), L.length - i = n → i ≤ L.length → ∃ j : Nat, i ≤ j ∧ j ≤ L.length ∧ L.drop j = (L.drop i).dropWhile (fun s => !isEq s) ∧ (L.drop i).take (j - i) = (L.drop i).takeWhile (fun s => !isEq s) ∧
      ∀ {o : POut}, Ev (fun k => R15Pair.j1 k (mkSs L) (j : Int)) o → Ev (fun k => R15Pair.l0 k (mkSs L) (i : Int)) o := by
    intro n
    induction n with
    | zero =>
      intro i hn hi
      have hd : L.drop i = [] := List.drop_eq_nil_of_le (by omega)
      refine ⟨i, Nat.le_refl _, hi, by rw [hd]; rfl, by rw [hd]; simp, fun {o} h => ?_⟩
      refine Ev.step (fun k => by rw [R15Pair.l0]) ?_
      exact Ev.neg (by rw [mkSs_len]; omega) h
    | succ n ih =>
      intro i hn hi
      cases hr : L.drop i with
      | nil => have := drop_nilS hr; omega
      | cons z r =>
        obtain ⟨g1, g2, g3⟩ := rdS_at hr
        have e61 : ((mkS z).f0 = 61) ↔ z.1 = 61 := ieq z.1 61
        have hst : ∀ {o : POut}, Ev (fun k => if (mkS z).f1 = true then (if (mkS z).f0 = 61 then (R15Pair.j1 k (mkSs L) (i : Int)) else (R15Pair.l0 k (mkSs L) ((i + 1 : Nat) : Int))) else (R15Pair.l0 k (mkSs L) ((i + 1 : Nat) : Int))) o → Ev (fun k => R15Pair.l0 k (mkSs L) (i : Int)) o := by
          intro o h
          refine Ev.step (fun k => by rw [R15Pair.l0]) ?_
          refine Ev.pos (by rw [mkSs_len]; omega) (Ev.pos (by omega) ?_)
          have g2' : rd_T67 (mkSs L) (i : Int) = mkS z := g2
          rw [g2', wsucc (by omega)]
          exact h
        cases hz : isEq z with
        | true =>
          refine ⟨i, Nat.le_refl _, hi, ?_, ?_, fun {o} h => ?_⟩
          · rw [hr, List.dropWhile_cons_of_neg (by simp [hz])]
          · rw [List.takeWhile_cons_of_neg (by simp [hz])]; simp
          · simp only [isEq, Bool.and_eq_true, beq_iff_eq] at hz
            exact hst (Ev.pos hz.1 (Ev.pos (e61.2 hz.2) h))
        | false =>
          obtain ⟨j, j1, j2, j3, j4, j5⟩ := ih (i + 1) (by omega) (by omega)
          rw [g3] at j3 j4
          refine ⟨j, by omega, j2, ?_, ?_, fun {o} h => ?_⟩
          · rw [j3, List.dropWhile_cons_of_pos (by simp [hz])]
          · rw [List.takeWhile_cons_of_pos (by simp [hz]), ← j4, show j - i = (j - (i + 1)) + 1 from by omega]; rfl
          · have h := j5 h
            by_cases h1 : (mkS z).f1 = true
            · refine hst (Ev.pos h1 (Ev.neg (fun h' => ?_) h))
              have h1' : z.2 = true := h1
              simp [isEq, h1', e61.1 h'] at hz
            · exact hst (Ev.neg h1 h)
  obtain ⟨j, j1, j2, j3, j4, j5⟩ := hfind _ 0 rfl (Nat.zero_le _)
  rw [List.drop_zero] at j3 j4
  have hgo : ∀ {o : POut}, Ev (fun k => R15Pair.j1 k (mkSs L) (j : Int)) o → Ev (fun k => R15Pair.f k (mkSs L)) o := fun {o} h => j5 h
  unfold pair
  rw [← j3, ← j4, Nat.sub_zero]
  cases hr : L.drop j with
  | nil =>
    have := drop_nilS hr
    refine ⟨fun a h => by simp at h, fun _ => ⟨_, _, hgo (Ev.step (fun k => by rw [R15Pair.j1]) (Ev.pos (by rw [mkSs_len]; omega) Ev.rfl'))⟩⟩
  | cons e y =>
    obtain ⟨g1, g2, g3⟩ := rdS_at hr
    have hj : ∀ {o : POut}, Ev (fun k => R15Pair.l1 k (mkSs (trim (L.take j))) (mkSs (trim y)) [] 0) o → Ev (fun k => R15Pair.f k (mkSs L)) o := by
      intro o h
      refine hgo (Ev.step (fun k => by rw [R15Pair.j1]) ?_)
      rw [wsucc (by omega), Int.toNat_natCast, Int.toNat_natCast]
      have t1 := trim_ev (L.take j) (by rw [List.length_take]; omega)
      have hyl : y.length ≤ 1000000 := by rw [← g3, List.length_drop]; omega
      have t2 := trim_ev y hyl
      rw [show mkSs (L.take j) = (mkSs L).take j by unfold mkSs; rw [List.map_take]] at t1
      rw [show mkSs y = (mkSs L).drop (j + 1) by rw [← g3]; unfold mkSs; rw [List.map_drop]] at t2
      refine Ev.neg (by rw [mkSs_len]; omega) (Ev.pos (by omega) (Ev.pos (by rw [mkSs_len]; omega) (Ev.bind t1 (Ev.pos (by omega) (Ev.pos (by rw [mkSs_len]; omega) (Ev.bind t2 h))))))
    have hyl : y.length ≤ 1000000 := by rw [← g3, List.length_drop]; omega
    obtain ⟨p1, p2⟩ := pairOf_ev (L.take j) y (by rw [List.length_take]; omega) hyl
    refine ⟨fun a h => hj (p1 a h), fun h => ?_⟩
    obtain ⟨u, v, h⟩ := p2 h
    exact ⟨u, v, hj h⟩
end Go.Proofs.YtkklacijhmoopaaDoor.Print
namespace Go.Proofs.YtkklacijhmoopaaDoor.Print
open Go.RowKit Go.Proofs.YtkklacijhmoopaaDoorW.PrintWords Go.Proofs.YtkklacijhmoopaaDoorW.PrintLast Go.Proofs.YtkklacijhmoopaaDoorW.PrintMore
attribute [local go_sem] max2_int min2_int max_two min_two max_three min_three max_four min_four
set_option linter.unusedVariables false
set_option linter.unusedSimpArgs false
def R15Value.f (k : Nat) (a0 : ByteArray) : Option (Bool) := (R13Ready.f k a0 true).bind fun bt428 => (if (a0.size : Int) ≤ 255 then (if bt428.2 = 0 then (some (decide ((bt428.1.size : Int) > 0))) else (some false)) else (some false))
set_option maxHeartbeats 8000000 in
set_option maxRecDepth 100000 in
theorem R15Value.calls (k : Nat) (a0 : ByteArray) (r : Bool) (w : World) (h : R15Value.f k a0 = some r) :
  Calls Tryd.prog 73 #[.string a0] w fun e w' => e = .returned (.bool r) ∧ Below w.heap.size w w' := by
 have HB := Aside0.mk (Below.refl w.heap.size w)
 have H : ((R13Ready.f k a0 true).bind fun bt428 => (if (a0.size : Int) ≤ 255 then (if bt428.2 = 0 then (some (decide ((bt428.1.size : Int) > 0))) else (some false)) else (some false))) = some r := h
 clear h
 replace H := Option.bind_eq_some_iff.mp H
 obtain ⟨⟨t428, t429⟩, A20, H⟩ := H
 replace H : (if (a0.size : Int) ≤ 255 then (if t429 = 0 then (some (decide ((t428.size : Int) > 0))) else (some false)) else (some false)) = some r := H
 have A2 := Aside0.mk A20
 clear A20
 by_cases c3 : (a0.size : Int) ≤ 255
 ·
  rw [if_pos c3] at H
  have c3b0 := decide_eq_true c3
  have c3b1 : decide (a0.size ≤ 255) = true := decide_eq_true (by omega)
  clear c3
  by_cases c4 : t429 = 0
  ·
   rw [if_pos c4] at H
   have c4b0 : (t429 == 0) = true := beq_iff_eq.mpr c4
   have c4b1 : (t429 != 0) = false := bne_eq_false_iff_eq.mpr c4
   clear c4
   obtain rfl := Option.some.inj H
   go_enter Tryd.func73, Tryd.ntmps73
   go_wp2_with (first | ((with_reducible refine gate_callee (f := 94) rfl ?_); refine goesL_ (some 7) rfl rfl Tryd.func94 (by kernel_rfl) rfl #[.string a0, .bool true] rfl ap3 ?_; (with_reducible refine (R13Ready.calls k a0 true t428 t429 _ A2.out).mono ?_); rintro e w5 ⟨rfl, hb⟩; refine ⟨_, rfl, ?_⟩; have n0_ := Aside0.mk (below_step ap1 hb); clear HB; have HB := n0_; clear n0_; (try clear hb); (try clear hb2); (try clear hk); (try clear hi)))
   go_ret
   exact ⟨by first | rfl | (simp [errW_none, errW_some, bne_nil8, beq_nil8]; done) | (simp [errW_none, errW_some] <;> rfl) | (simp [*, errW_none, errW_some] <;> rfl), by repeat (first | (with_reducible first | exact HB.out | apply below_alloc | apply pw_below_drewN | apply below_drew1) | exact HB.out)⟩
  ·
   rw [if_neg c4] at H
   have c4b0 : (t429 == 0) = false := beq_eq_false_iff_ne.mpr c4
   have c4b1 : (t429 != 0) = true := bne_iff_ne.mpr c4
   obtain rfl := Option.some.inj H
   go_enter Tryd.func73, Tryd.ntmps73
   go_wp2_with (first | ((with_reducible refine gate_callee (f := 94) rfl ?_); refine goesL_ (some 7) rfl rfl Tryd.func94 (by kernel_rfl) rfl #[.string a0, .bool true] rfl ap3 ?_; (with_reducible refine (R13Ready.calls k a0 true t428 t429 _ A2.out).mono ?_); rintro e w6 ⟨rfl, hb⟩; refine ⟨_, rfl, ?_⟩; have n0_ := Aside0.mk (below_step ap1 hb); clear HB; have HB := n0_; clear n0_; (try clear hb); (try clear hb2); (try clear hk); (try clear hi)))
   go_ret
   exact ⟨by first | rfl | (simp [errW_none, errW_some, bne_nil8, beq_nil8]; done) | (simp [errW_none, errW_some] <;> rfl) | (simp [*, errW_none, errW_some] <;> rfl), by repeat (first | (with_reducible first | exact HB.out | apply below_alloc | apply pw_below_drewN | apply below_drew1) | exact HB.out)⟩
 ·
  rw [if_neg c3] at H
  have c3b0 := decide_eq_false c3
  have c3b1 : decide (a0.size ≤ 255) = false := decide_eq_false (by omega)
  clear c3
  obtain rfl := Option.some.inj H
  go_enter Tryd.func73, Tryd.ntmps73
  go_wp2_with (first | ((with_reducible refine gate_callee (f := 94) rfl ?_); refine goesL_ (some 7) rfl rfl Tryd.func94 (by kernel_rfl) rfl #[.string a0, .bool true] rfl ap3 ?_; (with_reducible refine (R13Ready.calls k a0 true t428 t429 _ A2.out).mono ?_); rintro e w7 ⟨rfl, hb⟩; refine ⟨_, rfl, ?_⟩; have n0_ := Aside0.mk (below_step ap1 hb); clear HB; have HB := n0_; clear n0_; (try clear hb); (try clear hb2); (try clear hk); (try clear hi)))
  go_ret
  exact ⟨by first | rfl | (simp [errW_none, errW_some, bne_nil8, beq_nil8]; done) | (simp [errW_none, errW_some] <;> rfl) | (simp [*, errW_none, errW_some] <;> rfl), by repeat (first | (with_reducible first | exact HB.out | apply below_alloc | apply pw_below_drewN | apply below_drew1) | exact HB.out)⟩
mutual
def R15Rdn.j0 : Nat → List (S40) → Bool → Option (Bool)
 | 0, _, _ => none
 | k + 1, x0, x12 => if x12 = true then (some false) else (R15Rdn.l0 k x0 0)
def R15Rdn.l0 : Nat → List (S40) → Int → Option (Bool)
 | 0, _, _ => none
 | k + 1, x0, x3 => if x3 < (x0.length : Int) then (if 0 ≤ x3 then ((R15Type.f k ((rd_T40 x0 x3).f0)).bind fun t431 => (if t431 = true then ((R15Value.f k ((rd_T40 x0 x3).f1)).bind fun t433 => (R15Rdn.j2 k x0 x3 (!t433))) else (R15Rdn.j2 k x0 x3 true))) else (none)) else (some true)
def R15Rdn.j2 : Nat → List (S40) → Int → Bool → Option (Bool)
 | 0, _, _, _ => none
 | k + 1, x0, x3, x34 => if x34 = true then (some false) else (R15Rdn.l1 k x0 x3 0)
def R15Rdn.l1 : Nat → List (S40) → Int → Int → Option (Bool)
 | 0, _, _, _ => none
 | k + 1, x0, x3, x4 => if x4 < x3 then (if 0 ≤ x4 then (if x4 < (x0.length : Int) then (if 0 ≤ x3 then (if x3 < (x0.length : Int) then (if ((rd_T40 x0 x4).f0).toList = ((rd_T40 x0 x3).f0).toList then (some false) else (R15Rdn.l1 k x0 x3 (wrap64 (x4 + 1)))) else (none)) else (none)) else (none)) else (none)) else (R15Rdn.l0 k x0 (wrap64 (x3 + 1)))
end
def R15Rdn.f (k : Nat) (l0 : List (S40)) : Option (Bool) := if (l0.length : Int) = 0 then (R15Rdn.j0 k l0 true) else (R15Rdn.j0 k l0 (decide ((l0.length : Int) > 4)))
set_option maxHeartbeats 8000000 in
set_option maxRecDepth 100000 in
theorem R15Rdn.calls (k : Nat) (A0 : Option Addr) (c0 : Nat) (l0 : List (S40)) (r : Bool) (w : World) (hr0 : Kd.C k40 w A0 l0.length l0) (hc0 : l0.length ≤ c0) (h : R15Rdn.f k l0 = some r) :
  Calls Tryd.prog 42 #[.slice A0 l0.length c0] w fun e w' => e = .returned (.bool r) ∧ Below w.heap.size w w' := by
 have HR0 := Aside0.mk hr0
 have HC0 := Aside0.mk hc0
 clear hr0 hc0
 have HB := Aside0.mk (Below.refl w.heap.size w)
 have H : (if (l0.length : Int) = 0 then (R15Rdn.j0 k l0 true) else (R15Rdn.j0 k l0 (decide ((l0.length : Int) > 4)))) = some r := h
 clear h
 have HC2 := Aside0.mk H
 clear H
 go_enter Tryd.func42, Tryd.ntmps42
 go_upto_region 1 with (fail)
 repeat (go_quiet (fail); go_upto_region 1 with (fail))
 go_cut [12] (fun v12 wc => ∃ (kq : Nat) (x12_1 : Bool), v12 = .bool x12_1 ∧ Aside0 (R15Rdn.j0 kq l0 x12_1 = some r) ∧ Aside0 (kq ≤ k) ∧ Aside0 (Below w.heap.size w wc))
 case first =>
  have H := HC2.out
  clear HC2
  by_cases c3 : (l0.length : Int) = 0
  ·
   rw [if_pos c3] at H
   have c3b0 : ((l0.length : Int) == 0) = true := beq_iff_eq.mpr c3
   have c3b1 : ((l0.length : Int) != 0) = false := bne_eq_false_iff_eq.mpr c3
   clear c3
   (first | rw [c3b0] | (simp only [i64_w, i32_w]; rw [c3b0]) | skip)
   have H' := Aside0.mk H
   clear H
   go_wp2
   repeat (go_quiet (fail); try go_wp2)
   first | go_meet | (simp only [c3b0] at *; go_meet)
   case rel => exact ⟨_, (true), ap2, H', ⟨by first | omega | exact Nat.le_refl _⟩, ⟨by repeat (first | (with_reducible first | exact HB.out | apply below_alloc | apply pw_below_drewN | apply below_drew1) | exact HB.out)⟩⟩
  ·
   rw [if_neg c3] at H
   have c3b0 : ((l0.length : Int) == 0) = false := beq_eq_false_iff_ne.mpr c3
   have c3b1 : ((l0.length : Int) != 0) = true := bne_iff_ne.mpr c3
   have c3b2 : ¬ (l0 = []) := fun h_ => c3 (by rw [h_]; rfl)
   (first | rw [c3b0] | (simp only [i64_w, i32_w]; rw [c3b0]) | skip)
   have H' := Aside0.mk H
   clear H
   go_wp2
   repeat (go_quiet (fail); try go_wp2)
   first | go_meet | (simp only [c3b0] at *; go_meet) | (simp only [c3b0] at *; go_meet)
   case rel => exact ⟨_, (decide ((l0.length : Int) > 4)), ap2, H', ⟨by first | omega | exact Nat.le_refl _⟩, ⟨by repeat (first | (with_reducible first | exact HB.out | apply below_alloc | apply pw_below_drewN | apply below_drew1) | exact HB.out)⟩⟩
 case rest =>
  clear HC2
  try clear p2
  try clear c3
  try clear c3b0
  try clear c3b1
  try clear c3b2
  obtain ⟨kq, x12_1, rfl, HA, HJ1, HB⟩ := hcut
  cases kq with
  | zero => exact absurd HA.out (by simp [R15Rdn.j0])
  | succ kj1 =>
   have H := HA.out
   clear HA
   simp only [R15Rdn.j0] at H
   by_cases c4 : x12_1 = true
   ·
    subst c4
    rw [if_pos rfl] at H
    obtain rfl := Option.some.inj H
    go_wp2
    repeat (go_quiet (fail); try go_wp2)
    go_ret
    exact ⟨by first | rfl | (simp [errW_none, errW_some, bne_nil8, beq_nil8]; done) | (simp [errW_none, errW_some] <;> rfl) | (simp [*, errW_none, errW_some] <;> rfl), by repeat (first | (with_reducible first | exact HB.out | apply below_alloc | apply pw_below_drewN | apply below_drew1) | exact HB.out)⟩
   ·
    replace c4 := Bool.eq_false_iff.mpr c4
    subst c4
    rw [if_neg (show ¬ (false = true) by decide)] at H
    have H' := Aside0.mk H
    clear H
    go_wp2
    repeat (go_quiet (fail); try go_wp2)
    go_loopg [3] kj1 (fun kq v3 w' => ∃ (x3_2 : Int), v3 = .int .i64 x3_2 ∧ Aside0 (R15Rdn.l0 kq l0 x3_2 = some r) ∧ Aside0 (kq ≤ kj1) ∧ Aside0 (Below w.heap.size w w'))
    case atStart => exact ⟨(0), ap2, H', ⟨Nat.le_refl _⟩, ⟨by repeat (first | (with_reducible first | exact HB.out | apply below_alloc | apply pw_below_drewN | apply below_drew1) | exact HB.out)⟩⟩
    case round =>
     clear H'
     try clear p2
     try clear c3
     try clear c3b0
     try clear c3b1
     try clear c3b2
     try clear c4
     try clear p2
     obtain ⟨x3_2, rfl, HA, HK2, HB⟩ := hrel
     cases gk with
     | zero => exact absurd HA.out (by simp [R15Rdn.l0])
     | succ k2 =>
      have H := HA.out
      clear HA
      simp only [R15Rdn.l0] at H
      by_cases c5 : x3_2 < (l0.length : Int)
      ·
       rw [if_pos c5] at H
       have c5b0 := decide_eq_true c5
       clear c5
       have HC6 := Aside0.mk H
       clear H
       go_upto_region 6 with (fail)
       repeat (go_quiet (fail); go_upto_region 6 with (fail))
       go_cut [34] (fun v34 wc => ∃ (kq : Nat) (x34_5 : Bool), v34 = .bool x34_5 ∧ Aside0 (R15Rdn.j2 kq l0 x3_2 x34_5 = some r) ∧ Aside0 (kq ≤ k2) ∧ Aside0 (Below w.heap.size w wc))
       case first =>
        have H := HC6.out
        clear HC6
        by_cases c7 : 0 ≤ x3_2
        ·
         rw [if_pos c7] at H
         have c7b0 := decide_eq_true c7
         clear c7
         (first | rw [c7b0] | (simp only [i64_w, i32_w]; rw [c7b0]) | skip)
         replace H := Option.bind_eq_some_iff.mp H
         obtain ⟨t431, A80, H⟩ := H
         replace H : (if t431 = true then ((R15Value.f k2 ((rd_T40 l0 x3_2).f1)).bind fun t433 => (R15Rdn.j2 k2 l0 x3_2 (!t433))) else (R15Rdn.j2 k2 l0 x3_2 true)) = some r := H
         have A8 := Aside0.mk A80
         clear A80
         by_cases c9 : t431 = true
         ·
          subst c9
          rw [if_pos rfl] at H
          replace H := Option.bind_eq_some_iff.mp H
          obtain ⟨t433, A100, H⟩ := H
          replace H : (R15Rdn.j2 k2 l0 x3_2 (!t433)) = some r := H
          have A10 := Aside0.mk A100
          clear A100
          have H' := Aside0.mk H
          clear H
          have p430 : 0 ≤ (x3_2 : Int) := of_decide_eq_true ap0
          have q430 : x3_2 < (l0.length : Int) := of_decide_eq_true ap0
          obtain ⟨ad430, e430, hx430_0, hx430_1⟩ := at_T40 HR0.out x3_2 p430 q430
          cases e430
          replace hx430_0 := (HB.out.cell (World.block_lt_of_cell? w _ hx430_0)).trans hx430_0
          replace hx430_1 := (HB.out.cell (World.block_lt_of_cell? w _ hx430_1)).trans hx430_1
          replace p430 := eq_true p430
          replace q430 := eq_true q430
          go_wp2_with (first | (go_at_call 64; (with_reducible refine (R15Type.calls k2 ((rd_T40 l0 x3_2).f0) true _ A8.out).mono ?_); rintro e w' ⟨rfl, ⟨nd, rfl⟩⟩; (try exact ap4); have p432 : 0 ≤ (x3_2 : Int) := of_decide_eq_true ap0; have q432 : x3_2 < (l0.length : Int) := of_decide_eq_true ap0; obtain ⟨ad432, e432, hx432_0, hx432_1⟩ := at_T40 HR0.out x3_2 p432 q432; obtain rfl : ad430 = ad432 := (by injection e432); replace hx432_0 := (HB.out.cell (World.block_lt_of_cell? w _ hx432_0)).trans hx432_0; replace hx432_1 := (HB.out.cell (World.block_lt_of_cell? w _ hx432_1)).trans hx432_1; replace p432 := eq_true p432; replace q432 := eq_true q432) | (go_at_call 73; (with_reducible refine (R15Value.calls k2 ((rd_T40 l0 x3_2).f1) t433 _ A10.out).mono ?_); rintro e w11 ⟨rfl, hb⟩; have n0_ := Aside0.mk (below_step ap1 hb); clear HB; have HB := n0_; clear n0_; (try clear hb); (try clear hb2); (try clear hk); (try clear hi)))
          repeat (go_quiet (first | (go_at_call 64; (with_reducible refine (R15Type.calls k2 ((rd_T40 l0 x3_2).f0) true _ A8.out).mono ?_); rintro e w' ⟨rfl, ⟨nd, rfl⟩⟩; (try exact ap4); have p432 : 0 ≤ (x3_2 : Int) := of_decide_eq_true ap0; have q432 : x3_2 < (l0.length : Int) := of_decide_eq_true ap0; obtain ⟨ad432, e432, hx432_0, hx432_1⟩ := at_T40 HR0.out x3_2 p432 q432; obtain rfl : ad430 = ad432 := (by injection e432); replace hx432_0 := (HB.out.cell (World.block_lt_of_cell? w _ hx432_0)).trans hx432_0; replace hx432_1 := (HB.out.cell (World.block_lt_of_cell? w _ hx432_1)).trans hx432_1; replace p432 := eq_true p432; replace q432 := eq_true q432) | (go_at_call 73; (with_reducible refine (R15Value.calls k2 ((rd_T40 l0 x3_2).f1) t433 _ A10.out).mono ?_); rintro e w11 ⟨rfl, hb⟩; have n0_ := Aside0.mk (below_step ap1 hb); clear HB; have HB := n0_; clear n0_; (try clear hb); (try clear hb2); (try clear hk); (try clear hi))); try go_wp2_with (first | (go_at_call 64; (with_reducible refine (R15Type.calls k2 ((rd_T40 l0 x3_2).f0) true _ A8.out).mono ?_); rintro e w' ⟨rfl, ⟨nd, rfl⟩⟩; (try exact ap4); have p432 : 0 ≤ (x3_2 : Int) := of_decide_eq_true ap0; have q432 : x3_2 < (l0.length : Int) := of_decide_eq_true ap0; obtain ⟨ad432, e432, hx432_0, hx432_1⟩ := at_T40 HR0.out x3_2 p432 q432; obtain rfl : ad430 = ad432 := (by injection e432); replace hx432_0 := (HB.out.cell (World.block_lt_of_cell? w _ hx432_0)).trans hx432_0; replace hx432_1 := (HB.out.cell (World.block_lt_of_cell? w _ hx432_1)).trans hx432_1; replace p432 := eq_true p432; replace q432 := eq_true q432) | (go_at_call 73; (with_reducible refine (R15Value.calls k2 ((rd_T40 l0 x3_2).f1) t433 _ A10.out).mono ?_); rintro e w11 ⟨rfl, hb⟩; have n0_ := Aside0.mk (below_step ap1 hb); clear HB; have HB := n0_; clear n0_; (try clear hb); (try clear hb2); (try clear hk); (try clear hi))))
          first | go_meet | (simp only [c3b0] at *; go_meet) | (simp only [c3b0] at *; go_meet)
          case rel => exact ⟨_, (!t433), ap2, H', ⟨by have := HJ1.out; have := HK2.out; first | omega | exact Nat.le_refl _⟩, ⟨by repeat (first | (with_reducible first | exact HB.out | apply below_alloc | apply pw_below_drewN | apply below_drew1) | exact HB.out)⟩⟩
         ·
          replace c9 := Bool.eq_false_iff.mpr c9
          subst c9
          rw [if_neg (show ¬ (false = true) by decide)] at H
          have H' := Aside0.mk H
          clear H
          have p430 : 0 ≤ (x3_2 : Int) := of_decide_eq_true ap0
          have q430 : x3_2 < (l0.length : Int) := of_decide_eq_true ap0
          obtain ⟨ad430, e430, hx430_0, hx430_1⟩ := at_T40 HR0.out x3_2 p430 q430
          cases e430
          replace hx430_0 := (HB.out.cell (World.block_lt_of_cell? w _ hx430_0)).trans hx430_0
          replace hx430_1 := (HB.out.cell (World.block_lt_of_cell? w _ hx430_1)).trans hx430_1
          replace p430 := eq_true p430
          replace q430 := eq_true q430
          go_wp2_with (first | (go_at_call 64; (with_reducible refine (R15Type.calls k2 ((rd_T40 l0 x3_2).f0) false _ A8.out).mono ?_); rintro e w' ⟨rfl, ⟨nd, rfl⟩⟩; (try exact ap4)))
          repeat (go_quiet (first | (go_at_call 64; (with_reducible refine (R15Type.calls k2 ((rd_T40 l0 x3_2).f0) false _ A8.out).mono ?_); rintro e w' ⟨rfl, ⟨nd, rfl⟩⟩; (try exact ap4))); try go_wp2_with (first | (go_at_call 64; (with_reducible refine (R15Type.calls k2 ((rd_T40 l0 x3_2).f0) false _ A8.out).mono ?_); rintro e w' ⟨rfl, ⟨nd, rfl⟩⟩; (try exact ap4))))
          first | go_meet | (simp only [c3b0] at *; go_meet) | (simp only [c3b0] at *; go_meet)
          case rel => exact ⟨_, (true), ap2, H', ⟨by have := HJ1.out; have := HK2.out; first | omega | exact Nat.le_refl _⟩, ⟨by repeat (first | (with_reducible first | exact HB.out | apply below_alloc | apply pw_below_drewN | apply below_drew1) | exact HB.out)⟩⟩
        ·
         rw [if_neg c7] at H
         exact absurd H (by simp)
       case rest =>
        clear HC6
        try clear p2
        try clear c3
        try clear c3b0
        try clear c3b1
        try clear c3b2
        try clear c4
        try clear p4
        try clear q4
        try clear hx4
        try clear c5
        try clear c5b0
        try clear c7
        try clear c7b0
        try clear c9
        try clear hx430_0
        try clear hx430_1
        try clear hx432_0
        try clear hx432_1
        try clear p2
        try clear p430
        try clear p432
        try clear q430
        try clear q432
        obtain ⟨kq, x34_5, rfl, HA, HJ5, HB⟩ := hcut
        cases kq with
        | zero => exact absurd HA.out (by simp [R15Rdn.j2])
        | succ kj5 =>
         have H := HA.out
         clear HA
         simp only [R15Rdn.j2] at H
         by_cases c12 : x34_5 = true
         ·
          subst c12
          rw [if_pos rfl] at H
          obtain rfl := Option.some.inj H
          go_wp2
          repeat (go_quiet (fail); try go_wp2)
          go_ret
          exact ⟨by first | rfl | (simp [errW_none, errW_some, bne_nil8, beq_nil8]; done) | (simp [errW_none, errW_some] <;> rfl) | (simp [*, errW_none, errW_some] <;> rfl), by repeat (first | (with_reducible first | exact HB.out | apply below_alloc | apply pw_below_drewN | apply below_drew1) | exact HB.out)⟩
         ·
          replace c12 := Bool.eq_false_iff.mpr c12
          subst c12
          rw [if_neg (show ¬ (false = true) by decide)] at H
          have H' := Aside0.mk H
          clear H
          go_wp2
          repeat (go_quiet (fail); try go_wp2)
          go_loopg [4] kj5 (fun kq v4 w' => ∃ (x4_4 : Int), v4 = .int .i64 x4_4 ∧ Aside0 (R15Rdn.l1 kq l0 x3_2 x4_4 = some r) ∧ Aside0 (kq ≤ kj5) ∧ Aside0 (Below w.heap.size w w'))
          case atStart => exact ⟨(0), ap2, H', ⟨Nat.le_refl _⟩, ⟨by repeat (first | (with_reducible first | exact HB.out | apply below_alloc | apply pw_below_drewN | apply below_drew1) | exact HB.out)⟩⟩
          case round =>
           clear H'
           try clear c1
           try clear p2
           try clear c3
           try clear c3b0
           try clear c3b1
           try clear c3b2
           try clear c4
           try clear p4
           try clear q4
           try clear hx4
           try clear c5
           try clear c5b0
           try clear c7
           try clear c7b0
           try clear c9
           try clear c12
           try clear hx430_0
           try clear hx430_1
           try clear hx432_0
           try clear hx432_1
           try clear p2
           try clear p4
           try clear p430
           try clear p432
           try clear q4
           try clear q430
           try clear q432
           obtain ⟨x4_4, rfl, HA, HK4, HB⟩ := hrel
           cases gk with
           | zero => exact absurd HA.out (by simp [R15Rdn.l1])
           | succ k4 =>
            have H := HA.out
            clear HA
            simp only [R15Rdn.l1] at H
            by_cases c13 : x4_4 < x3_2
            ·
             rw [if_pos c13] at H
             have c13b0 := decide_eq_true c13
             clear c13
             by_cases c14 : 0 ≤ x4_4
             ·
              rw [if_pos c14] at H
              have c14b0 := decide_eq_true c14
              clear c14
              by_cases c15 : x4_4 < (l0.length : Int)
              ·
               rw [if_pos c15] at H
               have c15b0 := decide_eq_true c15
               clear c15
               by_cases c16 : 0 ≤ x3_2
               ·
                rw [if_pos c16] at H
                have c16b0 := decide_eq_true c16
                clear c16
                by_cases c17 : x3_2 < (l0.length : Int)
                ·
                 rw [if_pos c17] at H
                 have c17b0 := decide_eq_true c17
                 clear c17
                 by_cases c18 : ((rd_T40 l0 x4_4).f0).toList = ((rd_T40 l0 x3_2).f0).toList
                 ·
                  rw [if_pos c18] at H
                  have c18b0 : (((rd_T40 l0 x4_4).f0).toList == ((rd_T40 l0 x3_2).f0).toList) = true := beq_iff_eq.mpr c18
                  have c18b1 : (((rd_T40 l0 x4_4).f0).toList != ((rd_T40 l0 x3_2).f0).toList) = false := bne_eq_false_iff_eq.mpr c18
                  clear c18
                  obtain rfl := Option.some.inj H
                  have p434 : 0 ≤ (x4_4 : Int) := of_decide_eq_true ap0
                  have q434 : x4_4 < (l0.length : Int) := of_decide_eq_true ap0
                  obtain ⟨ad434, e434, hx434_0, hx434_1⟩ := at_T40 HR0.out x4_4 p434 q434
                  cases e434
                  replace hx434_0 := (HB.out.cell (World.block_lt_of_cell? w _ hx434_0)).trans hx434_0
                  replace hx434_1 := (HB.out.cell (World.block_lt_of_cell? w _ hx434_1)).trans hx434_1
                  replace p434 := eq_true p434
                  replace q434 := eq_true q434
                  have p435 : 0 ≤ (x3_2 : Int) := of_decide_eq_true ap0
                  have q435 : x3_2 < (l0.length : Int) := of_decide_eq_true ap0
                  obtain ⟨ad435, e435, hx435_0, hx435_1⟩ := at_T40 HR0.out x3_2 p435 q435
                  obtain rfl : ad434 = ad435 := (by injection e435)
                  replace hx435_0 := (HB.out.cell (World.block_lt_of_cell? w _ hx435_0)).trans hx435_0
                  replace hx435_1 := (HB.out.cell (World.block_lt_of_cell? w _ hx435_1)).trans hx435_1
                  replace p435 := eq_true p435
                  replace q435 := eq_true q435
                  go_wp2
                  repeat (go_quiet (fail); try go_wp2)
                  go_ret
                  exact ⟨by first | rfl | (simp [errW_none, errW_some, bne_nil8, beq_nil8]; done) | (simp [errW_none, errW_some] <;> rfl) | (simp [*, errW_none, errW_some] <;> rfl), by repeat (first | (with_reducible first | exact HB.out | apply below_alloc | apply pw_below_drewN | apply below_drew1) | exact HB.out)⟩
                 ·
                  rw [if_neg c18] at H
                  have c18b0 : (((rd_T40 l0 x4_4).f0).toList == ((rd_T40 l0 x3_2).f0).toList) = false := beq_eq_false_iff_ne.mpr c18
                  have c18b1 : (((rd_T40 l0 x4_4).f0).toList != ((rd_T40 l0 x3_2).f0).toList) = true := bne_iff_ne.mpr c18
                  have H' := Aside0.mk H
                  clear H
                  have p434 : 0 ≤ (x4_4 : Int) := of_decide_eq_true ap0
                  have q434 : x4_4 < (l0.length : Int) := of_decide_eq_true ap0
                  obtain ⟨ad434, e434, hx434_0, hx434_1⟩ := at_T40 HR0.out x4_4 p434 q434
                  cases e434
                  replace hx434_0 := (HB.out.cell (World.block_lt_of_cell? w _ hx434_0)).trans hx434_0
                  replace hx434_1 := (HB.out.cell (World.block_lt_of_cell? w _ hx434_1)).trans hx434_1
                  replace p434 := eq_true p434
                  replace q434 := eq_true q434
                  have p435 : 0 ≤ (x3_2 : Int) := of_decide_eq_true ap0
                  have q435 : x3_2 < (l0.length : Int) := of_decide_eq_true ap0
                  obtain ⟨ad435, e435, hx435_0, hx435_1⟩ := at_T40 HR0.out x3_2 p435 q435
                  obtain rfl : ad434 = ad435 := (by injection e435)
                  replace hx435_0 := (HB.out.cell (World.block_lt_of_cell? w _ hx435_0)).trans hx435_0
                  replace hx435_1 := (HB.out.cell (World.block_lt_of_cell? w _ hx435_1)).trans hx435_1
                  replace p435 := eq_true p435
                  replace q435 := eq_true q435
                  go_wp2
                  repeat (go_quiet (fail); try go_wp2)
                  go_roundg k4
                  case measure => have := HJ1.out; have := HK2.out; have := HJ5.out; have := HK4.out; omega
                  case rel => exact ⟨(wrap64 (x4_4 + 1)), ap2, H', ⟨by have := HJ1.out; have := HK2.out; have := HJ5.out; have := HK4.out; omega⟩, ⟨by repeat (first | (with_reducible first | exact HB.out | apply below_alloc | apply pw_below_drewN | apply below_drew1) | exact HB.out)⟩⟩
                ·
                 rw [if_neg c17] at H
                 exact absurd H (by simp)
               ·
                rw [if_neg c16] at H
                exact absurd H (by simp)
              ·
               rw [if_neg c15] at H
               exact absurd H (by simp)
             ·
              rw [if_neg c14] at H
              exact absurd H (by simp)
            ·
             rw [if_neg c13] at H
             have c13b0 := decide_eq_false c13
             clear c13
             have H' := Aside0.mk H
             clear H
             go_wp2
             repeat (go_quiet (fail); try go_wp2)
             go_roundg k4
             case measure => have := HJ1.out; have := HK2.out; have := HJ5.out; have := HK4.out; omega
             case rel => exact ⟨(wrap64 (x3_2 + 1)), ap2, H', ⟨by have := HJ1.out; have := HK2.out; have := HJ5.out; have := HK4.out; omega⟩, ⟨by repeat (first | (with_reducible first | exact HB.out | apply below_alloc | apply pw_below_drewN | apply below_drew1) | exact HB.out)⟩⟩
      ·
       rw [if_neg c5] at H
       have c5b0 := decide_eq_false c5
       clear c5
       obtain rfl := Option.some.inj H
       go_wp2
       repeat (go_quiet (fail); try go_wp2)
       go_ret
       exact ⟨by first | rfl | (simp [errW_none, errW_some, bne_nil8, beq_nil8]; done) | (simp [errW_none, errW_some] <;> rfl) | (simp [*, errW_none, errW_some] <;> rfl), by repeat (first | (with_reducible first | exact HB.out | apply below_alloc | apply pw_below_drewN | apply below_drew1) | exact HB.out)⟩
def R15Right.l0 : Nat → List (List (S40)) → Int → Option (Bool)
 | 0, _, _ => none
 | k + 1, x0, x3 => if x3 < (x0.length : Int) then (if 0 ≤ x3 then ((R15Rdn.f k (rd_L7 x0 x3)).bind fun t437 => (if t437 = true then (R15Right.l0 k x0 (wrap64 (x3 + 1))) else (some false))) else (none)) else (some (decide ((x0.length : Int) ≤ 12)))
def R15Right.f (k : Nat) (l0 : List (List (S40))) : Option (Bool) := R15Right.l0 k l0 0
set_option maxHeartbeats 8000000 in
set_option maxRecDepth 100000 in
theorem R15Right.calls (k : Nat) (A0 : Option Addr) (c0 : Nat) (l0 : List (List (S40))) (r : Bool) (w : World) (hr0 : Kd.C (Kd.slice 40 k40) w A0 l0.length l0) (hc0 : l0.length ≤ c0) (h : R15Right.f k l0 = some r) :
  Calls Tryd.prog 19 #[.slice A0 l0.length c0] w fun e w' => e = .returned (.bool r) ∧ Below w.heap.size w w' := by
 have HR0 := Aside0.mk hr0
 have HC0 := Aside0.mk hc0
 clear hr0 hc0
 have HB := Aside0.mk (Below.refl w.heap.size w)
 have H : (R15Right.l0 k l0 0) = some r := h
 clear h
 have H' := Aside0.mk H
 clear H
 go_enter Tryd.func19, Tryd.ntmps19
 go_wp2
 go_loopg [3] k (fun kq v3 w' => ∃ (x3_1 : Int), v3 = .int .i64 x3_1 ∧ Aside0 (R15Right.l0 kq l0 x3_1 = some r) ∧ Aside0 (kq ≤ k) ∧ Aside0 (Below w.heap.size w w'))
 case atStart => exact ⟨(0), ap2, H', ⟨Nat.le_refl _⟩, ⟨by repeat (first | (with_reducible first | exact HB.out | apply below_alloc | apply pw_below_drewN | apply below_drew1) | exact HB.out)⟩⟩
 case round =>
  clear H'
  try clear c1
  obtain ⟨x3_1, rfl, HA, HK1, HB⟩ := hrel
  cases gk with
  | zero => exact absurd HA.out (by simp [R15Right.l0])
  | succ k1 =>
   have H := HA.out
   clear HA
   simp only [R15Right.l0] at H
   by_cases c2 : x3_1 < (l0.length : Int)
   ·
    rw [if_pos c2] at H
    have c2b0 := decide_eq_true c2
    clear c2
    by_cases c3 : 0 ≤ x3_1
    ·
     rw [if_pos c3] at H
     have c3b0 := decide_eq_true c3
     clear c3
     replace H := Option.bind_eq_some_iff.mp H
     obtain ⟨t437, A40, H⟩ := H
     replace H : (if t437 = true then (R15Right.l0 k1 l0 (wrap64 (x3_1 + 1))) else (some false)) = some r := H
     have A4 := Aside0.mk A40
     clear A40
     by_cases c5 : t437 = true
     ·
      subst c5
      rw [if_pos rfl] at H
      have H' := Aside0.mk H
      clear H
      have p436 : 0 ≤ (x3_1 : Int) := of_decide_eq_true ap0
      have q436 : x3_1 < (l0.length : Int) := of_decide_eq_true ap0
      obtain ⟨ad436, A436_0, c436_0, e436, hx436_0, hl436_0, hi436_0⟩ := at_L7 HR0.out x3_1 p436 q436
      cases e436
      replace hx436_0 := (HB.out.cell (World.block_lt_of_cell? w _ hx436_0)).trans hx436_0
      have HR436_0 := Aside0.mk hi436_0
      have HC436_0 := Aside0.mk hl436_0
      clear hi436_0 hl436_0
      replace p436 := eq_true p436
      replace q436 := eq_true q436
      go_wp2_with (first | ((with_reducible refine gate_callee (f := 42) rfl ?_); refine goesL_ (some 14) rfl rfl Tryd.func42 (by kernel_rfl) rfl #[.slice A436_0 (rd_L7 l0 x3_1).length c436_0] rfl ap3 ?_; (with_reducible refine (R15Rdn.calls k1 _ _ (rd_L7 l0 x3_1) true _ ?side1 ?side2 A4.out).mono ?_); (case side1 => repeat (first | exact (Kd.C_below HR436_0.out HB.out) | (with_reducible refine Kd.C_alloc ?_ _) | (with_reducible refine Kd.C_drewN ?_ _) | (with_reducible refine Kd.C_drew ?_))); (case side2 => exact HC436_0.out); rintro e w6 ⟨rfl, hb⟩; refine ⟨_, rfl, ?_⟩; have n0_ := Aside0.mk (below_step ap1 hb); clear HB; have HB := n0_; clear n0_; (try clear hb); (try clear hb2); (try clear hk); (try clear hi)))
      go_roundg k1
      case measure => have := HK1.out; omega
      case rel => exact ⟨(wrap64 (x3_1 + 1)), ap2, H', ⟨by have := HK1.out; omega⟩, ⟨by repeat (first | (with_reducible first | exact HB.out | apply below_alloc | apply pw_below_drewN | apply below_drew1) | exact HB.out)⟩⟩
     ·
      replace c5 := Bool.eq_false_iff.mpr c5
      subst c5
      rw [if_neg (show ¬ (false = true) by decide)] at H
      obtain rfl := Option.some.inj H
      have p436 : 0 ≤ (x3_1 : Int) := of_decide_eq_true ap0
      have q436 : x3_1 < (l0.length : Int) := of_decide_eq_true ap0
      obtain ⟨ad436, A436_0, c436_0, e436, hx436_0, hl436_0, hi436_0⟩ := at_L7 HR0.out x3_1 p436 q436
      cases e436
      replace hx436_0 := (HB.out.cell (World.block_lt_of_cell? w _ hx436_0)).trans hx436_0
      have HR436_0 := Aside0.mk hi436_0
      have HC436_0 := Aside0.mk hl436_0
      clear hi436_0 hl436_0
      replace p436 := eq_true p436
      replace q436 := eq_true q436
      go_wp2_with (first | ((with_reducible refine gate_callee (f := 42) rfl ?_); refine goesL_ (some 14) rfl rfl Tryd.func42 (by kernel_rfl) rfl #[.slice A436_0 (rd_L7 l0 x3_1).length c436_0] rfl ap3 ?_; (with_reducible refine (R15Rdn.calls k1 _ _ (rd_L7 l0 x3_1) false _ ?side1 ?side2 A4.out).mono ?_); (case side1 => repeat (first | exact (Kd.C_below HR436_0.out HB.out) | (with_reducible refine Kd.C_alloc ?_ _) | (with_reducible refine Kd.C_drewN ?_ _) | (with_reducible refine Kd.C_drew ?_))); (case side2 => exact HC436_0.out); rintro e w7 ⟨rfl, hb⟩; refine ⟨_, rfl, ?_⟩; have n0_ := Aside0.mk (below_step ap1 hb); clear HB; have HB := n0_; clear n0_; (try clear hb); (try clear hb2); (try clear hk); (try clear hi)))
      go_ret
      exact ⟨by first | rfl | (simp [errW_none, errW_some, bne_nil8, beq_nil8]; done) | (simp [errW_none, errW_some] <;> rfl) | (simp [*, errW_none, errW_some] <;> rfl), by repeat (first | (with_reducible first | exact HB.out | apply below_alloc | apply pw_below_drewN | apply below_drew1) | exact HB.out)⟩
    ·
     rw [if_neg c3] at H
     exact absurd H (by simp)
   ·
    rw [if_neg c2] at H
    have c2b0 := decide_eq_false c2
    clear c2
    obtain rfl := Option.some.inj H
    go_wp2
    go_ret
    exact ⟨by first | rfl | (simp [errW_none, errW_some, bne_nil8, beq_nil8]; done) | (simp [errW_none, errW_some] <;> rfl) | (simp [*, errW_none, errW_some] <;> rfl), by repeat (first | (with_reducible first | exact HB.out | apply below_alloc | apply pw_below_drewN | apply below_drew1) | exact HB.out)⟩
mutual
def R15Parse.l0 : Nat → List (S67) → List (List (S40)) → List (S40) → Int → Int → Option ((List (List (S40))) × Int)
 | 0, _, _, _, _, _ => none
 | k + 1, x4, x6, x7, x8, x9 => if x9 ≤ (x4.length : Int) then (if x9 < (x4.length : Int) then (if 0 ≤ x9 then (if (rd_T67 x4 x9).f1 = true then (if ((rd_T67 x4 x9).f0) = 44 then (R15Parse.j1 k x4 x6 x7 x8 x9 (!true)) else (if ((rd_T67 x4 x9).f0) = 59 then (R15Parse.j1 k x4 x6 x7 x8 x9 (!true)) else (R15Parse.j1 k x4 x6 x7 x8 x9 (!(((rd_T67 x4 x9).f0) == 43))))) else (R15Parse.j1 k x4 x6 x7 x8 x9 (!false))) else (none)) else (R15Parse.j1 k x4 x6 x7 x8 x9 false)) else ((R15Right.f k x6).bind fun t528 => (if t528 = true then (some (x6, 0)) else (some (([] : List (List (S40))), 4))))
def R15Parse.j1 : Nat → List (S67) → List (List (S40)) → List (S40) → Int → Int → Bool → Option ((List (List (S40))) × Int)
 | 0, _, _, _, _, _, _ => none
 | k + 1, x4, x6, x7, x8, x9, x70 => if x70 = true then (R15Parse.l0 k x4 x6 x7 x8 (wrap64 (x9 + 1))) else (if 0 ≤ x8 then (if x8 ≤ x9 then (if x9 ≤ (x4.length : Int) then ((R15Pair.f k ((x4.take (x9 : Int).toNat).drop (x8 : Int).toNat)).bind fun bt537 => (if bt537.2.2 = true then (if x7.length < 4398046511104 then ((some (x7 ++ [(⟨bt537.1, bt537.2.1⟩ : S40)] : List (S40))).bind fun y541 => (if x9 = (x4.length : Int) then (if x6.length < 5864062014805 then (R15Parse.l0 k x4 (x6 ++ [y541]) (([] : List (S40))) (wrap64 (x9 + 1)) (wrap64 (x9 + 1))) else (none)) else (if 0 ≤ x9 then (if x9 < (x4.length : Int) then (if ((rd_T67 x4 x9).f0) = 43 then (R15Parse.l0 k x4 x6 y541 (wrap64 (x9 + 1)) (wrap64 (x9 + 1))) else (if x6.length < 5864062014805 then (R15Parse.l0 k x4 (x6 ++ [y541]) (([] : List (S40))) (wrap64 (x9 + 1)) (wrap64 (x9 + 1))) else (none))) else (none)) else (none)))) else (none)) else (some (([] : List (List (S40))), 4)))) else (none)) else (none)) else (none))
end
def R15Parse.f (k : Nat) (a0 : ByteArray) : Option ((List (List (S40))) × Int) := if (a0.size : Int) > 1000 then (some (([] : List (List (S40))), 5)) else ((R15Signs.f k a0).bind fun bt515 => (if bt515.2 = true then ((some (([] : List (List (S40))) : List (List (S40)))).bind fun y519 => ((R15Trim.f k bt515.1).bind fun t522 => (if (t522.length : Int) = 0 then (some (y519, 0)) else (R15Parse.l0 k bt515.1 y519 (([] : List (S40))) 0 0)))) else (some (([] : List (List (S40))), 4))))
set_option maxHeartbeats 8000000 in
set_option maxRecDepth 100000 in
theorem R15Parse.calls (k : Nat) (a0 : ByteArray) (r1 : List (List (S40))) (r2 : Int) (w : World) (h : R15Parse.f k a0 = some (r1, r2)) :
  Calls Tryd.prog 13 #[.string a0] w fun e w' => ∃ v0_ : Value, e = .returned (.tuple #[v0_, .int .i64 r2]) ∧ Kd.S (Kd.slice 40 k40) 37 w' w.heap.size (fun _ => True) v0_ r1 ∧ Below w.heap.size w w' := by
 have hu40 := Tryd.underlying40
 have HB := Aside0.mk (Below.refl w.heap.size w)
 have H : (if (a0.size : Int) > 1000 then (some (([] : List (List (S40))), 5)) else ((R15Signs.f k a0).bind fun bt515 => (if bt515.2 = true then ((some (([] : List (List (S40))) : List (List (S40)))).bind fun y519 => ((R15Trim.f k bt515.1).bind fun t522 => (if (t522.length : Int) = 0 then (some (y519, 0)) else (R15Parse.l0 k bt515.1 y519 (([] : List (S40))) 0 0)))) else (some (([] : List (List (S40))), 4))))) = some (r1, r2) := h
 clear h
 by_cases c2 : (a0.size : Int) > 1000
 ·
  rw [if_pos c2] at H
  have c2b0 := decide_eq_true c2
  have c2b1 : decide (1000 < a0.size) = true := decide_eq_true (by omega)
  clear c2
  simp only [Option.some.injEq, Prod.mk.injEq] at H
  obtain ⟨rfl, rfl⟩ := H
  go_enter Tryd.func13, Tryd.ntmps13
  go_wp2
  go_ret2
  exact ⟨_, by first | rfl | (simp [errW_none, errW_some, bne_nil8, beq_nil8]; done) | (simp [errW_none, errW_some] <;> rfl) | (simp [*, errW_none, errW_some] <;> rfl), by first | exact Kd.S_nil _ _ _ _ _ | exact Kd.N_nil _ _ _ _ _ | exact Kd.V_nil _ _ _ _ _ | exact Kd.Q_nil _ _ _ _ _ | exact Kd.R_nil _ _ _ _ _, by repeat (first | (with_reducible first | exact HB.out | apply below_alloc | apply pw_below_drewN | apply below_drew1) | exact HB.out)⟩
 ·
  rw [if_neg c2] at H
  have c2b0 := decide_eq_false c2
  have c2b1 : decide (1000 < a0.size) = false := decide_eq_false (by omega)
  clear c2
  replace H := Option.bind_eq_some_iff.mp H
  obtain ⟨⟨t515, t516⟩, A30, H⟩ := H
  replace H : (if t516 = true then ((some (([] : List (List (S40))) : List (List (S40)))).bind fun y519 => ((R15Trim.f k t515).bind fun t522 => (if (t522.length : Int) = 0 then (some (y519, 0)) else (R15Parse.l0 k t515 y519 (([] : List (S40))) 0 0)))) else (some (([] : List (List (S40))), 4))) = some (r1, r2) := H
  have A3 := Aside0.mk A30
  clear A30
  by_cases c4 : t516 = true
  ·
   subst c4
   rw [if_pos rfl] at H
   obtain ⟨y519, hy519⟩ : ∃ y_ : List (List (S40)), y_ = (([] : List (List (S40)))) := ⟨_, rfl⟩
   replace H : ((R15Trim.f k t515).bind fun t522 => (if (t522.length : Int) = 0 then (some (y519, 0)) else (R15Parse.l0 k t515 y519 (([] : List (S40))) 0 0))) = some (r1, r2) := by first | (rw [hy519]; with_reducible exact H) | (have H2_ := (Option.bind_some _ _).symm.trans H; rw [hy519]; with_reducible exact H2_) | (have H2_ := (Option.bind_some _ _).symm.trans H; with_reducible exact H2_) | with_reducible exact H | (rw [hy519]; exact H) | exact H
   have Ny519 := Aside0.mk hy519
   clear hy519
   replace H := Option.bind_eq_some_iff.mp H
   obtain ⟨t522, A50, H⟩ := H
   replace H : (if (t522.length : Int) = 0 then (some (y519, 0)) else (R15Parse.l0 k t515 y519 (([] : List (S40))) 0 0)) = some (r1, r2) := H
   have A5 := Aside0.mk A50
   clear A50
   by_cases c6 : (t522.length : Int) = 0
   ·
    rw [if_pos c6] at H
    have c6b0 : ((t522.length : Int) == 0) = true := beq_iff_eq.mpr c6
    have c6b1 : ((t522.length : Int) != 0) = false := bne_eq_false_iff_eq.mpr c6
    clear c6
    simp only [Option.some.injEq, Prod.mk.injEq] at H
    obtain ⟨rfl, rfl⟩ := H
    go_enter Tryd.func13, Tryd.ntmps13
    go_wp2_with (first | ((with_reducible refine gate_callee (f := 36) rfl ?_); refine goesL_ (some 17) rfl rfl Tryd.func36 (by kernel_rfl) rfl #[.string a0] rfl ap3 ?_; (with_reducible refine (R15Signs.calls k a0 t515 true _ A3.out).mono ?_); rintro e w7 ⟨v517, rfl, ho0, hb⟩; refine ⟨_, rfl, ?_⟩; have n0_ := Aside0.mk (Kd.R_lower ho0 (below_size ap1)); have n1_ := Aside0.mk (below_step ap1 hb); clear HB; have HO518 := n0_; have HB := n1_; clear n0_ n1_; (try clear hb); (try clear hb2); (try clear hk); (try clear hi); (try clear ho0)) | ((with_reducible refine gate_dst (N := 22) rfl ?_); refine Kd.S_lit (Kd.slice 40 k40) _ 37 ?hg (N := 22) ?hd (xs := ([] : List (List (S40)))) (inner := []) (ok := fun _ => True) (okp := fun _ => True) ?hr ?hp (fun _ hk => hk) trivial (Below.refl _ _) (Nat.le_refl _) (by simp) ?_; (case hd => rfl); (case hg => rfl); (case hr => first | (go_simp; done) | (go_simp; rfl)); (case hp => exact (Reps.none _ _)); intro v520 w8 ho9 hb hg_ hnew_; clear hg_ hnew_; (first | rw [← Ny519.out] at ho9 | (simp only [Int.reduceToNat] at ho9; rw [← Ny519.out] at ho9)); have n0_ := Aside0.mk (Kd.R_below (apAR HO518.out) hb); have n1_ := Aside0.mk (Kd.S_lower ho9 (below_size ap1)); have n2_ := Aside0.mk (below_step ap1 hb); clear HO518; clear HB; have HO518 := n0_; have HO521 := n1_; have HB := n2_; clear n0_ n1_ n2_; clear hb ho9; obtain ⟨Ao10, co10, eo10⟩ := Kd.R_slice HO518.out; subst eo10) | ((with_reducible refine gate_callee (f := 37) rfl ?_); refine goesL_ (some 24) rfl rfl Tryd.func37 (by kernel_rfl) rfl #[.slice Ao10 t515.length co10] rfl ap3 ?_; (with_reducible refine (R15Trim.calls k (fun k_ => some k_ = (.slice Ao10 t515.length co10 : Value).ownBlock) _ _ t515 t522 _ ?side1 A5.out).mono ?_); (case side1 => exact Kd.R_V (Kd.R_tight rfl (Kd.R_apart' (HO518.out) (Kd.S_typed HO521.out) (by decide)))); rintro e w11 ⟨v523, rfl, ho0, hb⟩; refine ⟨_, rfl, ?_⟩; have n0_ := Aside0.mk (Kd.R_below (apAR HO518.out) hb); have n1_ := Aside0.mk (Kd.S_below (apAS HO521.out) hb); have n2_ := Aside0.mk (Kd.V_lower (Kd.V_mono (ok' := fun k_ => some k_ ≠ (v520 : Value).ownBlock) ho0 (fun k_ hk_ => Or.elim hk_ (fun hs_ => ((Kd.R_apart' (HO518.out) (Kd.S_typed HO521.out) (by decide)).1 k_ hs_.symm).2) (fun hn_ => (Kd.fresh' (Kd.S_lt (apAS HO521.out)) k_ hn_)))) (below_size ap1)); have n3_ := Aside0.mk (below_step ap1 hb); clear HO518; clear HO521; clear HB; have HO518 := n0_; have HO521 := n1_; have HO524 := n2_; have HB := n3_; clear n0_ n1_ n2_ n3_; (try clear hb); (try clear hb2); (try clear hk); (try clear hi); (try clear ho0); obtain ⟨Ao12, co12, eo12⟩ := Kd.V_slice HO524.out; subst eo12))
    go_ret2
    exact ⟨_, by first | rfl | (simp [errW_none, errW_some, bne_nil8, beq_nil8]; done) | (simp [errW_none, errW_some] <;> rfl) | (simp [*, errW_none, errW_some] <;> rfl), by (with_reducible repeat (first | apply Kd.S_alloc | apply Kd.S_drewN | apply Kd.S_drew)); exact HO521.out, by repeat (first | (with_reducible first | exact HB.out | apply below_alloc | apply pw_below_drewN | apply below_drew1) | exact HB.out)⟩
   ·
    rw [if_neg c6] at H
    have c6b0 : ((t522.length : Int) == 0) = false := beq_eq_false_iff_ne.mpr c6
    have c6b1 : ((t522.length : Int) != 0) = true := bne_iff_ne.mpr c6
    have c6b2 : ¬ (t522 = []) := fun h_ => c6 (by rw [h_]; rfl)
    obtain ⟨y525, hy525⟩ : ∃ y_ : List (S40), y_ = (([] : List (S40))) := ⟨_, rfl⟩
    replace H : (R15Parse.l0 k t515 y519 y525 0 0) = some (r1, r2) := by first | (rw [hy525]; with_reducible exact H) | (have H2_ := (Option.bind_some _ _).symm.trans H; rw [hy525]; with_reducible exact H2_) | (have H2_ := (Option.bind_some _ _).symm.trans H; with_reducible exact H2_) | with_reducible exact H | (rw [hy525]; exact H) | exact H
    have Ny525 := Aside0.mk hy525
    clear hy525
    have H' := Aside0.mk H
    clear H
    go_enter Tryd.func13, Tryd.ntmps13
    go_wp2_with (first | ((with_reducible refine gate_callee (f := 36) rfl ?_); refine goesL_ (some 17) rfl rfl Tryd.func36 (by kernel_rfl) rfl #[.string a0] rfl ap3 ?_; (with_reducible refine (R15Signs.calls k a0 t515 true _ A3.out).mono ?_); rintro e w13 ⟨v517, rfl, ho0, hb⟩; refine ⟨_, rfl, ?_⟩; have n0_ := Aside0.mk (Kd.R_lower ho0 (below_size ap1)); have n1_ := Aside0.mk (below_step ap1 hb); clear HB; have HO518 := n0_; have HB := n1_; clear n0_ n1_; (try clear hb); (try clear hb2); (try clear hk); (try clear hi); (try clear ho0)) | ((with_reducible refine gate_dst (N := 22) rfl ?_); refine Kd.S_lit (Kd.slice 40 k40) _ 37 ?hg (N := 22) ?hd (xs := ([] : List (List (S40)))) (inner := []) (ok := fun _ => True) (okp := fun _ => True) ?hr ?hp (fun _ hk => hk) trivial (Below.refl _ _) (Nat.le_refl _) (by simp) ?_; (case hd => rfl); (case hg => rfl); (case hr => first | (go_simp; done) | (go_simp; rfl)); (case hp => exact (Reps.none _ _)); intro v520 w14 ho15 hb hg_ hnew_; clear hg_ hnew_; (first | rw [← Ny519.out] at ho15 | (simp only [Int.reduceToNat] at ho15; rw [← Ny519.out] at ho15)); have n0_ := Aside0.mk (Kd.R_below (apAR HO518.out) hb); have n1_ := Aside0.mk (Kd.S_lower ho15 (below_size ap1)); have n2_ := Aside0.mk (below_step ap1 hb); clear HO518; clear HB; have HO518 := n0_; have HO521 := n1_; have HB := n2_; clear n0_ n1_ n2_; clear hb ho15; obtain ⟨Ao16, co16, eo16⟩ := Kd.R_slice HO518.out; subst eo16) | ((with_reducible refine gate_callee (f := 37) rfl ?_); refine goesL_ (some 24) rfl rfl Tryd.func37 (by kernel_rfl) rfl #[.slice Ao16 t515.length co16] rfl ap3 ?_; (with_reducible refine (R15Trim.calls k (fun k_ => some k_ = (.slice Ao16 t515.length co16 : Value).ownBlock) _ _ t515 t522 _ ?side1 A5.out).mono ?_); (case side1 => exact Kd.R_V (Kd.R_tight rfl (Kd.R_apart' (HO518.out) (Kd.S_typed HO521.out) (by decide)))); rintro e w17 ⟨v523, rfl, ho0, hb⟩; refine ⟨_, rfl, ?_⟩; have n0_ := Aside0.mk (Kd.R_below (apAR HO518.out) hb); have n1_ := Aside0.mk (Kd.S_below (apAS HO521.out) hb); have n2_ := Aside0.mk (Kd.V_lower (Kd.V_mono (ok' := fun k_ => some k_ ≠ (v520 : Value).ownBlock) ho0 (fun k_ hk_ => Or.elim hk_ (fun hs_ => ((Kd.R_apart' (HO518.out) (Kd.S_typed HO521.out) (by decide)).1 k_ hs_.symm).2) (fun hn_ => (Kd.fresh' (Kd.S_lt (apAS HO521.out)) k_ hn_)))) (below_size ap1)); have n3_ := Aside0.mk (below_step ap1 hb); clear HO518; clear HO521; clear HB; have HO518 := n0_; have HO521 := n1_; have HO524 := n2_; have HB := n3_; clear n0_ n1_ n2_ n3_; (try clear hb); (try clear hb2); (try clear hk); (try clear hi); (try clear ho0); obtain ⟨Ao18, co18, eo18⟩ := Kd.V_slice HO524.out; subst eo18) | ((with_reducible refine gate_dst (N := 28) rfl ?_); refine Kd.R_lit k40 _ 40 ?hg (N := 28) ?hd (xs := ([] : List (S40))) (inner := []) (ok := fun _ => True) (okp := fun _ => True) ?hr ?hp (fun _ hk => hk) trivial (Below.refl _ _) (Nat.le_refl _) (by simp) ?_; (case hd => rfl); (case hg => rfl); (case hr => first | (go_simp; done) | (go_simp; rfl)); (case hp => exact (Reps.none _ _)); intro v526 w19 ho20 hb hg_ hnew_; clear hg_ hnew_; (first | rw [← Ny525.out] at ho20 | (simp only [Int.reduceToNat] at ho20; rw [← Ny525.out] at ho20)); have n0_ := Aside0.mk (Kd.R_below (apAR HO518.out) hb); have n1_ := Aside0.mk (Kd.S_elder' (apAS HO521.out) (Kd.R_base ho20) hb); have n2_ := Aside0.mk (Kd.V_elder' (apAV HO524.out) (Kd.R_base ho20) hb); have n3_ := Aside0.mk (Kd.R_lower ho20 (below_size ap1)); have n4_ := Aside0.mk (below_step ap1 hb); clear HO518; clear HO521; clear HO524; clear HB; have HO518 := n0_; have HO521 := n1_; have HO524 := n2_; have HO527 := n3_; have HB := n4_; clear n0_ n1_ n2_ n3_ n4_; clear hb ho20))
    go_loopg [6, 7, 8, 9] k (fun kq v6 v7 v8 v9 w' => ∃ (x6_1 : List (List (S40))) (x7_1 : List (S40)) (x8_1 : Int) (x9_1 : Int), v8 = .int .i64 x8_1 ∧ v9 = .int .i64 x9_1 ∧ Aside0 (R15Parse.l0 kq t515 x6_1 x7_1 x8_1 x9_1 = some (r1, r2)) ∧ Aside0 (kq ≤ k) ∧ Aside0 (Kd.R k67 67 w' w.heap.size (fun _ => True) (.slice Ao16 t515.length co16) t515) ∧ Aside0 (Kd.S (Kd.slice 40 k40) 37 w' w.heap.size (fun k_ => some k_ ≠ (v7 : Value).ownBlock) v6 x6_1) ∧ Aside0 (Kd.R k40 40 w' w.heap.size (fun _ => True) v7 x7_1) ∧ Aside0 (Below w.heap.size w w'))
    case atStart => exact ⟨(y519), (y525), (0), (0), ap2, ap2, H', ⟨Nat.le_refl _⟩, ⟨by (with_reducible repeat (first | apply Kd.R_alloc | apply Kd.R_drewN | apply Kd.R_drew)); exact HO518.out⟩, ⟨by (with_reducible repeat (first | apply Kd.S_alloc | apply Kd.S_drewN | apply Kd.S_drew)); exact Kd.S_mono HO521.out (fun _ hk => hk.2)⟩, ⟨by (with_reducible repeat (first | apply Kd.R_alloc | apply Kd.R_drewN | apply Kd.R_drew)); exact HO527.out⟩, ⟨by repeat (first | (with_reducible first | exact HB.out | apply below_alloc | apply pw_below_drewN | apply below_drew1) | exact HB.out)⟩⟩
    case round =>
     clear H'
     try clear c1
     try clear c2
     try clear c2b0
     try clear c2b1
     try clear p2
     try clear c3
     try clear c4
     try clear c6
     try clear c6b0
     try clear c6b1
     try clear c6b2
     try clear c13
     obtain ⟨x6_1, x7_1, x8_1, x9_1, rfl, rfl, HA, HK1, HO_4, HO_6, HO_7, HB⟩ := hrel
     cases gk with
     | zero => exact absurd HA.out (by simp [R15Parse.l0])
     | succ k1 =>
      have H := HA.out
      clear HA
      simp only [R15Parse.l0] at H
      by_cases c21 : x9_1 ≤ (t515.length : Int)
      ·
       rw [if_pos c21] at H
       have c21b0 := decide_eq_true c21
       clear c21
       have HC22 := Aside0.mk H
       clear H
       go_upto_region 14 with (fail)
       go_cut [70] (fun v70 wc => ∃ (kq : Nat) (x70_21 : Bool), v70 = .bool x70_21 ∧ Aside0 (R15Parse.j1 kq t515 x6_1 x7_1 x8_1 x9_1 x70_21 = some (r1, r2)) ∧ Aside0 (kq ≤ k1) ∧ Aside0 (Kd.R k67 67 wc w.heap.size (fun _ => True) (.slice Ao16 t515.length co16) t515) ∧ Aside0 (Kd.S (Kd.slice 40 k40) 37 wc w.heap.size (fun k_ => some k_ ≠ (u7 : Value).ownBlock) u6 x6_1) ∧ Aside0 (Kd.R k40 40 wc w.heap.size (fun _ => True) u7 x7_1) ∧ Aside0 (Below w.heap.size w wc))
       case first =>
        have H := HC22.out
        clear HC22
        by_cases c23 : x9_1 < (t515.length : Int)
        ·
         rw [if_pos c23] at H
         have c23b0 := decide_eq_true c23
         clear c23
         (first | rw [c23b0] | (simp only [i64_w, i32_w]; rw [c23b0]) | skip)
         by_cases c24 : 0 ≤ x9_1
         ·
          rw [if_pos c24] at H
          have c24b0 := decide_eq_true c24
          clear c24
          obtain ⟨bq25, hbq25⟩ : ∃ b_ : Bool, b_ = ((rd_T67 t515 x9_1).f1) := ⟨_, rfl⟩
          replace H : (if bq25 = true then (if ((rd_T67 t515 x9_1).f0) = 44 then (R15Parse.j1 k1 t515 x6_1 x7_1 x8_1 x9_1 (!true)) else (if ((rd_T67 t515 x9_1).f0) = 59 then (R15Parse.j1 k1 t515 x6_1 x7_1 x8_1 x9_1 (!true)) else (R15Parse.j1 k1 t515 x6_1 x7_1 x8_1 x9_1 (!(((rd_T67 t515 x9_1).f0) == 43))))) else (R15Parse.j1 k1 t515 x6_1 x7_1 x8_1 x9_1 (!false))) = some (r1, r2) := by rw [← hbq25] at H; exact H
          have Nbq25 := Aside0.mk hbq25
          clear hbq25
          by_cases c26 : bq25 = true
          ·
           subst c26
           rw [if_pos rfl] at H
           by_cases c27 : ((rd_T67 t515 x9_1).f0) = 44
           ·
            rw [if_pos c27] at H
            have c27b0 : (((rd_T67 t515 x9_1).f0) == 44) = true := beq_iff_eq.mpr c27
            have c27b1 : (((rd_T67 t515 x9_1).f0) != 44) = false := bne_eq_false_iff_eq.mpr c27
            clear c27
            have H' := Aside0.mk H
            clear H
            have p529 : 0 ≤ (x9_1 : Int) := of_decide_eq_true ap0
            have q529 : x9_1 < (t515.length : Int) := of_decide_eq_true ap0
            obtain ⟨ad529, e529, hx529_0, hx529_1⟩ := at_T67 (Kd.R_reads' HO_4.out).2.2 x9_1 p529 q529
            (try rw [← Nbq25.out] at hx529_1)
            cases e529
            replace p529 := eq_true p529
            replace q529 := eq_true q529
            have p530 : 0 ≤ (x9_1 : Int) := of_decide_eq_true ap0
            have q530 : x9_1 < (t515.length : Int) := of_decide_eq_true ap0
            obtain ⟨ad530, e530, hx530_0, hx530_1⟩ := at_T67 (Kd.R_reads' HO_4.out).2.2 x9_1 p530 q530
            (try rw [← Nbq25.out] at hx530_1)
            obtain rfl : ad529 = ad530 := (by injection e530)
            replace p530 := eq_true p530
            replace q530 := eq_true q530
            go_wp2
            first | go_meet | (simp only [c27b0] at *; go_meet) | (simp only [c6b0] at *; go_meet) | (simp only [c6b0] at *; go_meet)
            case rel => exact ⟨_, (!true), ap2, H', ⟨by have := HK1.out; first | omega | exact Nat.le_refl _⟩, ⟨by (with_reducible repeat (first | apply Kd.R_alloc | apply Kd.R_drewN | apply Kd.R_drew)); exact HO_4.out⟩, ⟨by (with_reducible repeat (first | apply Kd.S_alloc | apply Kd.S_drewN | apply Kd.S_drew)); exact HO_6.out⟩, ⟨by (with_reducible repeat (first | apply Kd.R_alloc | apply Kd.R_drewN | apply Kd.R_drew)); exact HO_7.out⟩, ⟨by repeat (first | (with_reducible first | exact HB.out | apply below_alloc | apply pw_below_drewN | apply below_drew1) | exact HB.out)⟩⟩
           ·
            rw [if_neg c27] at H
            have c27b0 : (((rd_T67 t515 x9_1).f0) == 44) = false := beq_eq_false_iff_ne.mpr c27
            have c27b1 : (((rd_T67 t515 x9_1).f0) != 44) = true := bne_iff_ne.mpr c27
            by_cases c28 : ((rd_T67 t515 x9_1).f0) = 59
            ·
             rw [if_pos c28] at H
             have c28b0 : (((rd_T67 t515 x9_1).f0) == 59) = true := beq_iff_eq.mpr c28
             have c28b1 : (((rd_T67 t515 x9_1).f0) != 59) = false := bne_eq_false_iff_eq.mpr c28
             clear c28
             have H' := Aside0.mk H
             clear H
             have p529 : 0 ≤ (x9_1 : Int) := of_decide_eq_true ap0
             have q529 : x9_1 < (t515.length : Int) := of_decide_eq_true ap0
             obtain ⟨ad529, e529, hx529_0, hx529_1⟩ := at_T67 (Kd.R_reads' HO_4.out).2.2 x9_1 p529 q529
             (try rw [← Nbq25.out] at hx529_1)
             cases e529
             replace p529 := eq_true p529
             replace q529 := eq_true q529
             have p530 : 0 ≤ (x9_1 : Int) := of_decide_eq_true ap0
             have q530 : x9_1 < (t515.length : Int) := of_decide_eq_true ap0
             obtain ⟨ad530, e530, hx530_0, hx530_1⟩ := at_T67 (Kd.R_reads' HO_4.out).2.2 x9_1 p530 q530
             (try rw [← Nbq25.out] at hx530_1)
             obtain rfl : ad529 = ad530 := (by injection e530)
             replace p530 := eq_true p530
             replace q530 := eq_true q530
             have p531 : 0 ≤ (x9_1 : Int) := of_decide_eq_true ap0
             have q531 : x9_1 < (t515.length : Int) := of_decide_eq_true ap0
             obtain ⟨ad531, e531, hx531_0, hx531_1⟩ := at_T67 (Kd.R_reads' HO_4.out).2.2 x9_1 p531 q531
             (try rw [← Nbq25.out] at hx531_1)
             obtain rfl : ad529 = ad531 := (by injection e531)
             replace p531 := eq_true p531
             replace q531 := eq_true q531
             go_wp2
             first | go_meet | (simp only [c28b0] at *; go_meet) | (simp only [c27b0] at *; go_meet) | (simp only [c27b0] at *; go_meet)
             case rel => exact ⟨_, (!true), ap2, H', ⟨by have := HK1.out; first | omega | exact Nat.le_refl _⟩, ⟨by (with_reducible repeat (first | apply Kd.R_alloc | apply Kd.R_drewN | apply Kd.R_drew)); exact HO_4.out⟩, ⟨by (with_reducible repeat (first | apply Kd.S_alloc | apply Kd.S_drewN | apply Kd.S_drew)); exact HO_6.out⟩, ⟨by (with_reducible repeat (first | apply Kd.R_alloc | apply Kd.R_drewN | apply Kd.R_drew)); exact HO_7.out⟩, ⟨by repeat (first | (with_reducible first | exact HB.out | apply below_alloc | apply pw_below_drewN | apply below_drew1) | exact HB.out)⟩⟩
            ·
             rw [if_neg c28] at H
             have c28b0 : (((rd_T67 t515 x9_1).f0) == 59) = false := beq_eq_false_iff_ne.mpr c28
             have c28b1 : (((rd_T67 t515 x9_1).f0) != 59) = true := bne_iff_ne.mpr c28
             have H' := Aside0.mk H
             clear H
             have p529 : 0 ≤ (x9_1 : Int) := of_decide_eq_true ap0
             have q529 : x9_1 < (t515.length : Int) := of_decide_eq_true ap0
             obtain ⟨ad529, e529, hx529_0, hx529_1⟩ := at_T67 (Kd.R_reads' HO_4.out).2.2 x9_1 p529 q529
             (try rw [← Nbq25.out] at hx529_1)
             cases e529
             replace p529 := eq_true p529
             replace q529 := eq_true q529
             have p530 : 0 ≤ (x9_1 : Int) := of_decide_eq_true ap0
             have q530 : x9_1 < (t515.length : Int) := of_decide_eq_true ap0
             obtain ⟨ad530, e530, hx530_0, hx530_1⟩ := at_T67 (Kd.R_reads' HO_4.out).2.2 x9_1 p530 q530
             (try rw [← Nbq25.out] at hx530_1)
             obtain rfl : ad529 = ad530 := (by injection e530)
             replace p530 := eq_true p530
             replace q530 := eq_true q530
             have p531 : 0 ≤ (x9_1 : Int) := of_decide_eq_true ap0
             have q531 : x9_1 < (t515.length : Int) := of_decide_eq_true ap0
             obtain ⟨ad531, e531, hx531_0, hx531_1⟩ := at_T67 (Kd.R_reads' HO_4.out).2.2 x9_1 p531 q531
             (try rw [← Nbq25.out] at hx531_1)
             obtain rfl : ad529 = ad531 := (by injection e531)
             replace p531 := eq_true p531
             replace q531 := eq_true q531
             have p532 : 0 ≤ (x9_1 : Int) := of_decide_eq_true ap0
             have q532 : x9_1 < (t515.length : Int) := of_decide_eq_true ap0
             obtain ⟨ad532, e532, hx532_0, hx532_1⟩ := at_T67 (Kd.R_reads' HO_4.out).2.2 x9_1 p532 q532
             (try rw [← Nbq25.out] at hx532_1)
             obtain rfl : ad529 = ad532 := (by injection e532)
             replace p532 := eq_true p532
             replace q532 := eq_true q532
             go_wp2
             first | go_meet | (simp only [c28b0] at *; go_meet) | (simp only [c28b0] at *; go_meet) | (simp only [c27b0] at *; go_meet)
             case rel => exact ⟨_, (!(((rd_T67 t515 x9_1).f0) == 43)), ap2, H', ⟨by have := HK1.out; first | omega | exact Nat.le_refl _⟩, ⟨by (with_reducible repeat (first | apply Kd.R_alloc | apply Kd.R_drewN | apply Kd.R_drew)); exact HO_4.out⟩, ⟨by (with_reducible repeat (first | apply Kd.S_alloc | apply Kd.S_drewN | apply Kd.S_drew)); exact HO_6.out⟩, ⟨by (with_reducible repeat (first | apply Kd.R_alloc | apply Kd.R_drewN | apply Kd.R_drew)); exact HO_7.out⟩, ⟨by repeat (first | (with_reducible first | exact HB.out | apply below_alloc | apply pw_below_drewN | apply below_drew1) | exact HB.out)⟩⟩
          ·
           replace c26 := Bool.eq_false_iff.mpr c26
           subst c26
           rw [if_neg (show ¬ (false = true) by decide)] at H
           have H' := Aside0.mk H
           clear H
           have p529 : 0 ≤ (x9_1 : Int) := of_decide_eq_true ap0
           have q529 : x9_1 < (t515.length : Int) := of_decide_eq_true ap0
           obtain ⟨ad529, e529, hx529_0, hx529_1⟩ := at_T67 (Kd.R_reads' HO_4.out).2.2 x9_1 p529 q529
           (try rw [← Nbq25.out] at hx529_1)
           cases e529
           replace p529 := eq_true p529
           replace q529 := eq_true q529
           go_wp2
           first | go_meet | (simp only [c28b0] at *; go_meet) | (simp only [c28b0] at *; go_meet) | (simp only [c27b0] at *; go_meet)
           case rel => exact ⟨_, (!false), ap2, H', ⟨by have := HK1.out; first | omega | exact Nat.le_refl _⟩, ⟨by (with_reducible repeat (first | apply Kd.R_alloc | apply Kd.R_drewN | apply Kd.R_drew)); exact HO_4.out⟩, ⟨by (with_reducible repeat (first | apply Kd.S_alloc | apply Kd.S_drewN | apply Kd.S_drew)); exact HO_6.out⟩, ⟨by (with_reducible repeat (first | apply Kd.R_alloc | apply Kd.R_drewN | apply Kd.R_drew)); exact HO_7.out⟩, ⟨by repeat (first | (with_reducible first | exact HB.out | apply below_alloc | apply pw_below_drewN | apply below_drew1) | exact HB.out)⟩⟩
         ·
          rw [if_neg c24] at H
          exact absurd H (by simp)
        ·
         rw [if_neg c23] at H
         have c23b0 := decide_eq_false c23
         clear c23
         (first | rw [c23b0] | (simp only [i64_w, i32_w]; rw [c23b0]) | skip)
         have H' := Aside0.mk H
         clear H
         go_wp2
         first | go_meet | (simp only [c28b0] at *; go_meet) | (simp only [c28b0] at *; go_meet) | (simp only [c27b0] at *; go_meet)
         case rel => exact ⟨_, (false), ap2, H', ⟨by have := HK1.out; first | omega | exact Nat.le_refl _⟩, ⟨by (with_reducible repeat (first | apply Kd.R_alloc | apply Kd.R_drewN | apply Kd.R_drew)); exact HO_4.out⟩, ⟨by (with_reducible repeat (first | apply Kd.S_alloc | apply Kd.S_drewN | apply Kd.S_drew)); exact HO_6.out⟩, ⟨by (with_reducible repeat (first | apply Kd.R_alloc | apply Kd.R_drewN | apply Kd.R_drew)); exact HO_7.out⟩, ⟨by repeat (first | (with_reducible first | exact HB.out | apply below_alloc | apply pw_below_drewN | apply below_drew1) | exact HB.out)⟩⟩
       case rest =>
        clear HC22
        try clear c1
        try clear c2
        try clear c2b0
        try clear c2b1
        try clear p2
        try clear q2
        try clear c3
        try clear c4
        try clear p5
        try clear q5
        try clear hx5
        try clear c6
        try clear c6b0
        try clear c6b1
        try clear c6b2
        try clear c13
        try clear c21
        try clear c21b0
        try clear c23
        try clear c23b0
        try clear c24
        try clear c24b0
        try clear q25
        try clear c26
        try clear c27
        try clear c27b0
        try clear c27b1
        try clear c28
        try clear c28b0
        try clear c28b1
        try clear hx529_0
        try clear hx529_1
        try clear hx530_0
        try clear hx530_1
        try clear hx531_0
        try clear hx531_1
        try clear hx532_0
        try clear hx532_1
        try clear p2
        try clear p529
        try clear p530
        try clear p531
        try clear p532
        try clear q529
        try clear q530
        try clear q531
        try clear q532
        obtain ⟨kq, x70_21, rfl, HA, HJ21, HO_4, HO_6, HO_7, HB⟩ := hcut
        cases kq with
        | zero => exact absurd HA.out (by simp [R15Parse.j1])
        | succ kj21 =>
         have H := HA.out
         clear HA
         simp only [R15Parse.j1] at H
         by_cases c29 : x70_21 = true
         ·
          subst c29
          rw [if_pos rfl] at H
          have H' := Aside0.mk H
          clear H
          go_wp2
          go_roundg kj21
          case measure => have := HK1.out; have := HJ21.out; omega
          case rel => exact ⟨(x6_1), (x7_1), (x8_1), (wrap64 (x9_1 + 1)), ap2, ap2, H', ⟨by have := HK1.out; have := HJ21.out; omega⟩, ⟨by (with_reducible repeat (first | apply Kd.R_alloc | apply Kd.R_drewN | apply Kd.R_drew)); exact HO_4.out⟩, ⟨by (with_reducible repeat (first | apply Kd.S_alloc | apply Kd.S_drewN | apply Kd.S_drew)); exact HO_6.out⟩, ⟨by (with_reducible repeat (first | apply Kd.R_alloc | apply Kd.R_drewN | apply Kd.R_drew)); exact HO_7.out⟩, ⟨by repeat (first | (with_reducible first | exact HB.out | apply below_alloc | apply pw_below_drewN | apply below_drew1) | exact HB.out)⟩⟩
         ·
          replace c29 := Bool.eq_false_iff.mpr c29
          subst c29
          rw [if_neg (show ¬ (false = true) by decide)] at H
          by_cases c30 : 0 ≤ x8_1
          ·
           rw [if_pos c30] at H
           have c30b0 := eq_true c30
           have c30b1 := decide_eq_true c30
           clear c30
           by_cases c31 : x8_1 ≤ x9_1
           ·
            rw [if_pos c31] at H
            have c31b0 := eq_true c31
            have c31b1 := decide_eq_true c31
            clear c31
            by_cases c32 : x9_1 ≤ (t515.length : Int)
            ·
             rw [if_pos c32] at H
             have c32b0 := eq_true c32
             have c32b1 := decide_eq_true c32
             clear c32
             obtain ⟨y533, hy533⟩ : ∃ y_ : List (S67), y_ = ((t515.take (x9_1 : Int).toNat).drop (x8_1 : Int).toNat) := ⟨_, rfl⟩
             replace H : ((R15Pair.f kj21 y533).bind fun bt537 => (if bt537.2.2 = true then (if x7_1.length < 4398046511104 then ((some (x7_1 ++ [(⟨bt537.1, bt537.2.1⟩ : S40)] : List (S40))).bind fun y541 => (if x9_1 = (t515.length : Int) then (if x6_1.length < 5864062014805 then (R15Parse.l0 kj21 t515 (x6_1 ++ [y541]) (([] : List (S40))) (wrap64 (x9_1 + 1)) (wrap64 (x9_1 + 1))) else (none)) else (if 0 ≤ x9_1 then (if x9_1 < (t515.length : Int) then (if ((rd_T67 t515 x9_1).f0) = 43 then (R15Parse.l0 kj21 t515 x6_1 y541 (wrap64 (x9_1 + 1)) (wrap64 (x9_1 + 1))) else (if x6_1.length < 5864062014805 then (R15Parse.l0 kj21 t515 (x6_1 ++ [y541]) (([] : List (S40))) (wrap64 (x9_1 + 1)) (wrap64 (x9_1 + 1))) else (none))) else (none)) else (none)))) else (none)) else (some (([] : List (List (S40))), 4)))) = some (r1, r2) := by first | (rw [hy533]; with_reducible exact H) | (have H2_ := (Option.bind_some _ _).symm.trans H; rw [hy533]; with_reducible exact H2_) | (have H2_ := (Option.bind_some _ _).symm.trans H; with_reducible exact H2_) | with_reducible exact H | (rw [hy533]; exact H) | exact H
             have Ny533 := Aside0.mk hy533
             clear hy533
             replace H := Option.bind_eq_some_iff.mp H
             obtain ⟨⟨t537, t538, t539⟩, A330, H⟩ := H
             replace H : (if t539 = true then (if x7_1.length < 4398046511104 then ((some (x7_1 ++ [(⟨t537, t538⟩ : S40)] : List (S40))).bind fun y541 => (if x9_1 = (t515.length : Int) then (if x6_1.length < 5864062014805 then (R15Parse.l0 kj21 t515 (x6_1 ++ [y541]) (([] : List (S40))) (wrap64 (x9_1 + 1)) (wrap64 (x9_1 + 1))) else (none)) else (if 0 ≤ x9_1 then (if x9_1 < (t515.length : Int) then (if ((rd_T67 t515 x9_1).f0) = 43 then (R15Parse.l0 kj21 t515 x6_1 y541 (wrap64 (x9_1 + 1)) (wrap64 (x9_1 + 1))) else (if x6_1.length < 5864062014805 then (R15Parse.l0 kj21 t515 (x6_1 ++ [y541]) (([] : List (S40))) (wrap64 (x9_1 + 1)) (wrap64 (x9_1 + 1))) else (none))) else (none)) else (none)))) else (none)) else (some (([] : List (List (S40))), 4))) = some (r1, r2) := H
             have A33 := Aside0.mk A330
             clear A330
             by_cases c34 : t539 = true
             ·
              subst c34
              rw [if_pos rfl] at H
              by_cases c35 : x7_1.length < 4398046511104
              ·
               rw [if_pos c35] at H
               have LMc35 := Aside0.mk c35
               clear c35
               obtain ⟨y541, hy541⟩ : ∃ y_ : List (S40), y_ = (x7_1 ++ [(⟨t537, t538⟩ : S40)]) := ⟨_, rfl⟩
               replace H : (if x9_1 = (t515.length : Int) then (if x6_1.length < 5864062014805 then (R15Parse.l0 kj21 t515 (x6_1 ++ [y541]) (([] : List (S40))) (wrap64 (x9_1 + 1)) (wrap64 (x9_1 + 1))) else (none)) else (if 0 ≤ x9_1 then (if x9_1 < (t515.length : Int) then (if ((rd_T67 t515 x9_1).f0) = 43 then (R15Parse.l0 kj21 t515 x6_1 y541 (wrap64 (x9_1 + 1)) (wrap64 (x9_1 + 1))) else (if x6_1.length < 5864062014805 then (R15Parse.l0 kj21 t515 (x6_1 ++ [y541]) (([] : List (S40))) (wrap64 (x9_1 + 1)) (wrap64 (x9_1 + 1))) else (none))) else (none)) else (none))) = some (r1, r2) := by first | (rw [hy541]; with_reducible exact H) | (have H2_ := (Option.bind_some _ _).symm.trans H; rw [hy541]; with_reducible exact H2_) | (have H2_ := (Option.bind_some _ _).symm.trans H; with_reducible exact H2_) | with_reducible exact H | (rw [hy541]; exact H) | exact H
               have Ny541 := Aside0.mk hy541
               clear hy541
               by_cases c36 : x9_1 = (t515.length : Int)
               ·
                rw [if_pos c36] at H
                have c36b0 : (x9_1 == (t515.length : Int)) = true := beq_iff_eq.mpr c36
                have c36b1 : (x9_1 != (t515.length : Int)) = false := bne_eq_false_iff_eq.mpr c36
                clear c36
                by_cases c37 : x6_1.length < 5864062014805
                ·
                 rw [if_pos c37] at H
                 have LMc37 := Aside0.mk c37
                 clear c37
                 obtain ⟨y544, hy544⟩ : ∃ y_ : List (List (S40)), y_ = (x6_1 ++ [y541]) := ⟨_, rfl⟩
                 replace H : (R15Parse.l0 kj21 t515 y544 (([] : List (S40))) (wrap64 (x9_1 + 1)) (wrap64 (x9_1 + 1))) = some (r1, r2) := by first | (rw [hy544]; with_reducible exact H) | (have H2_ := (Option.bind_some _ _).symm.trans H; rw [hy544]; with_reducible exact H2_) | (have H2_ := (Option.bind_some _ _).symm.trans H; with_reducible exact H2_) | with_reducible exact H | (rw [hy544]; exact H) | exact H
                 have Ny544 := Aside0.mk hy544
                 clear hy544
                 obtain ⟨y547, hy547⟩ : ∃ y_ : List (S40), y_ = (([] : List (S40))) := ⟨_, rfl⟩
                 replace H : (R15Parse.l0 kj21 t515 y544 y547 (wrap64 (x9_1 + 1)) (wrap64 (x9_1 + 1))) = some (r1, r2) := by first | (rw [hy547]; with_reducible exact H) | (have H2_ := (Option.bind_some _ _).symm.trans H; rw [hy547]; with_reducible exact H2_) | (have H2_ := (Option.bind_some _ _).symm.trans H; with_reducible exact H2_) | with_reducible exact H | (rw [hy547]; exact H) | exact H
                 have Ny547 := Aside0.mk hy547
                 clear hy547
                 have H' := Aside0.mk H
                 clear H
                 have q38 : (x9_1 : Int) ≤ ((t515.length : Int) : Int) := of_decide_eq_true ap0
                 obtain ⟨i038, hi038, _, hsz38, _⟩ := info_parts info67
                 have hroom38 : t515.length ≤ co16 := (Kd.R_reads' HO_4.out).2.1
                 have hC38 : Kd.C k67 _ Ao16 t515.length t515 := (Kd.R_reads' HO_4.out).2.2
                 have ql38 : (x8_1 : Int) ≤ (x9_1 : Int) := of_decide_eq_true ap0
                 have q038 : (0 : Int) ≤ (x8_1 : Int) := of_decide_eq_true ap0
                 have hcut38 := cut_mid (P := Tryd.prog) 62 67 .i64 .i64 Tryd.underlying62 hi038 2 hsz38 Ao16 t515.length co16 x8_1 x9_1 q038 ql38 q38 hroom38
                 have hr38 := Kd.C_mid (lo := (x8_1 : Int).toNat) (hi := (x9_1 : Int).toNat) (c := co16) hC38 (by omega) (by omega) hroom38
                 obtain ⟨A38, hA38⟩ : ∃ A1, A1 = (if co16 = (x8_1 : Int).toNat then Ao16 else (Ao16 : Option Addr).map (·.add ((x8_1 : Int).toNat * 2))) := ⟨_, rfl⟩
                 obtain ⟨c38, hc38⟩ : ∃ c1, c1 = co16 - (x8_1 : Int).toNat := ⟨_, rfl⟩
                 have hy38 : y533.length = (x9_1 : Int).toNat - (x8_1 : Int).toNat := (by rw [Ny533.out, List.length_drop, List.length_take] <;> omega)
                 rw [show ((t515).take (x9_1 : Int).toNat).drop (x8_1 : Int).toNat = y533 from Ny533.out.symm] at hr38
                 replace hr38 : Kd.C k67 _ A38 y533.length y533 := (by rw [hA38]; exact hr38)
                 rw [← hy38, ← hA38, ← hc38] at hcut38
                 have HR536 := Aside0.mk hr38
                 have HC536 := Aside0.mk (show y533.length ≤ c38 from by rw [hy38, hc38]; exact Nat.sub_le_sub_right (Nat.le_trans (by omega) hroom38) _)
                 clear hr38 hC38 hroom38 hi038 hsz38 hc38
                 have KY38 := Aside0.mk hy38
                 have KA38 := Aside0.mk hA38
                 clear hy38 hA38
                 have KL38 := Aside0.mk (show (x9_1 : Int).toNat ≤ t515.length from by omega)
                 have KM38 := Aside0.mk (show (x8_1 : Int).toNat ≤ (x9_1 : Int).toNat from by omega)
                 replace q38 := eq_true q38
                 go_wp2_with (first | ((with_reducible refine gate_callee (f := 38) rfl ?_); refine goesL_ (some 76) rfl rfl Tryd.func38 (by kernel_rfl) rfl #[.slice A38 y533.length c38] rfl ap3 ?_; (with_reducible refine (R15Pair.calls kj21 _ _ y533 t537 t538 true _ ?side1 ?side2 A33.out).mono ?_); (case side1 => repeat (first | exact (apC HR536.out) | (with_reducible refine Kd.C_alloc ?_ _) | (with_reducible refine Kd.C_drewN ?_ _) | (with_reducible refine Kd.C_drew ?_))); (case side2 => exact HC536.out); rintro e w39 ⟨rfl, hb⟩; refine ⟨_, rfl, ?_⟩; have n0_ := Aside0.mk (Kd.R_below (apAR HO_4.out) hb); have n1_ := Aside0.mk (Kd.S_below (apAS HO_6.out) hb); have n2_ := Aside0.mk (Kd.R_below (apAR HO_7.out) hb); have n3_ := Aside0.mk (Kd.C_below (apC HR536.out) hb); have n4_ := Aside0.mk (below_step ap1 hb); clear HO_4; clear HO_6; clear HO_7; clear HR536; clear HB; have HO_4 := n0_; have HO_6 := n1_; have HO_7 := n2_; have HR536 := n3_; have HB := n4_; clear n0_ n1_ n2_ n3_ n4_; (try clear hb); (try clear hb2); (try clear hk); (try clear hi)) | ((with_reducible refine gate_dst (N := 10) rfl ?_); refine box_event ?hg (N := 10) ?hd (cs := #[.string (⟨#[]⟩ : ByteArray), .string (⟨#[]⟩ : ByteArray)]) (t := 40) ?hr ?_; (case hd => rfl); (case hg => rfl); (case hr => first | (go_simp; done) | (go_simp; rfl)); intro gb540 hg w40 hbox hb; have n0_ := Aside0.mk (Kd.R_below (apAR HO_4.out) hb); have n1_ := Aside0.mk (Kd.S_below (Kd.S_elderB (apAS HO_6.out) gb540 (Nat.le_of_eq hg.symm)) hb); have n2_ := Aside0.mk (Kd.R_below (Kd.R_elderB (apAR HO_7.out) gb540 (Nat.le_of_eq hg.symm)) hb); have n3_ := Aside0.mk (Kd.C_below (apC HR536.out) hb); have n4_ := Aside0.mk (below_step ap1 hb); have n5_ := Aside0.mk (hbox); have n6_ := Aside0.mk ((by rw [hg]; exact (below_size ap1) : w.heap.size ≤ gb540)); have n7_ := Aside0.mk ((by rw [hg]; exact (below_size ap1) : w.heap.size ≤ gb540)); clear HO_4; clear HO_6; clear HO_7; clear HR536; clear HB; have HO_4 := n0_; have HO_6 := n1_; have HO_7 := n2_; have HR536 := n3_; have HB := n4_; have BK540 := n5_; have GW540 := n6_; have GE540 := n7_; clear n0_ n1_ n2_ n3_ n4_ n5_ n6_ n7_; clear hb hbox hg; have hcz41_0 : w40.cell? ⟨gb540, 0, none⟩ = some (.string (⟨#[]⟩ : ByteArray)) := (blk_cell BK540.out 0).trans rfl; have hcz41_1 : w40.cell? ⟨gb540, 1, none⟩ = some (.string (⟨#[]⟩ : ByteArray)) := (blk_cell BK540.out 1).trans rfl; have hfz41_0 := blk_frozen BK540.out 0; have hfz41_1 := blk_frozen BK540.out 1) | ((with_reducible refine gate_builtin (b := .append) (xs := #[.tmp 81, .tmp 83]) rfl ?_); at_builtin; refine Kd.R_append k40 (w0 := w) w.heap.size rfl (.tmp 81) (.tmp 83) 37 40 (.agg #[(.string ⟨#[]⟩), (.string ⟨#[]⟩)]) 32 rfl Tryd.underlying37 info40 rfl (by decide) (by omega) u7 x7_1 (⟨t537, t538⟩ : S40) [.string t537, .string t538] (fun k_ => k_ ≠ gb540) (fun _ => False) rfl (by first | (go_simp; done) | (go_simp; rfl)) ?aP (fun _ hk => hk.elim) ?aF ?aO ?aB ?aS ?aL ?_; (case aP => exact k40_mkM _ _ _ (⟨t537, t538⟩ : S40)); (case aB => exact (apG GE540.out)); (case aF => exact (fun k_ hk => Kd.freshB (g := gb540) (o := .cells #[.string t537, .string t538] 40 (0, 0)) (by (with_reducible repeat (first | refine blk_drewN ?_ _ | refine blk_drew ?_ | refine blk_alloc ?_ _)); refine blk_put (cs := #[.string t537, .string (⟨#[]⟩ : ByteArray)]) ?_ 1 _ rfl; (with_reducible repeat (first | refine blk_drewN ?_ _ | refine blk_drew ?_ | refine blk_alloc ?_ _)); refine blk_put (cs := #[.string (⟨#[]⟩ : ByteArray), .string (⟨#[]⟩ : ByteArray)]) ?_ 0 _ rfl; (with_reducible repeat (first | refine blk_drewN ?_ _ | refine blk_drew ?_ | refine blk_alloc ?_ _)); exact BK540.out) k_ hk)); (case aO => exact (by (with_reducible repeat (first | apply Kd.R_alloc | apply Kd.R_drewN | apply Kd.R_drew)); exact Kd.R_mono (Kd.R_far (p := ⟨gb540, 1, none⟩) (Kd.R_far (p := ⟨gb540, 0, none⟩) (Kd.R_mono HO_7.out (fun k_ hk => (⟨hk, hk.2⟩ : _ ∧ k_ ≠ gb540))) (fun _ hk => hk.2) (.string t537)) (fun _ hk => hk.2) (.string t538)) (fun _ hk => hk.1.2))); (case aS => exact (below_size (apG GE540.out))); (case aL => have := LMc35.out; omega); intro v542 w42 ho hb hg hat; rw [← Ny541.out] at ho; have n0_ := Aside0.mk (Kd.R_over' (by (with_reducible repeat (first | apply Kd.R_alloc | apply Kd.R_drewN | apply Kd.R_drew)); exact (Kd.R_mono (Kd.R_far (p := ⟨gb540, 1, none⟩) (Kd.R_far (p := ⟨gb540, 0, none⟩) (Kd.R_types HO_4.out BK540.out (by decide)) (fun _ hk => hk.2) (.string t537)) (fun _ hk => hk.2) (.string t538)) (fun _ h_ => h_.1))) (Kd.R_typed (by (with_reducible repeat (first | apply Kd.R_alloc | apply Kd.R_drewN | apply Kd.R_drew)); exact (Kd.R_mono (Kd.R_far (p := ⟨gb540, 1, none⟩) (Kd.R_far (p := ⟨gb540, 0, none⟩) (Kd.R_mono HO_7.out (fun k_ hk => (⟨hk, hk.2⟩ : _ ∧ k_ ≠ gb540))) (fun _ hk => hk.2) (.string t537)) (fun _ hk => hk.2) (.string t538)) (fun _ h_ => h_.1)))) (by decide) hg); have n1_ := Aside0.mk (Kd.S_after (ok := (fun k_ => k_ ≠ gb540)) (by (with_reducible repeat (first | apply Kd.S_alloc | apply Kd.S_drewN | apply Kd.S_drew)); exact Kd.S_mono (Kd.S_far (p := ⟨gb540, 1, none⟩) (Kd.S_far (p := ⟨gb540, 0, none⟩) (Kd.S_mono HO_6.out (fun k_ hk => (⟨hk, hk.2⟩ : _ ∧ k_ ≠ gb540))) (fun _ hk => hk.2) (.string t537)) (fun _ hk => hk.2) (.string t538)) (fun _ hk => ⟨hk.1.2, hk.1.1⟩)) hg hat); have n2_ := Aside0.mk (blk_grown (g := gb540) (o := .cells #[.string t537, .string t538] 40 (0, 0)) (by (with_reducible repeat (first | refine blk_drewN ?_ _ | refine blk_drew ?_ | refine blk_alloc ?_ _)); refine blk_put (cs := #[.string t537, .string (⟨#[]⟩ : ByteArray)]) ?_ 1 _ rfl; (with_reducible repeat (first | refine blk_drewN ?_ _ | refine blk_drew ?_ | refine blk_alloc ?_ _)); refine blk_put (cs := #[.string (⟨#[]⟩ : ByteArray), .string (⟨#[]⟩ : ByteArray)]) ?_ 0 _ rfl; (with_reducible repeat (first | refine blk_drewN ?_ _ | refine blk_drew ?_ | refine blk_alloc ?_ _)); exact BK540.out) hg (Kd.R_away HO_7.out (fun _ hk => hk.2))); have n3_ := Aside0.mk (hb); have n4_ := Aside0.mk ((show Kd.C k67 w42 A38 y533.length y533 from by rw [Ny533.out, KA38.out]; exact Kd.C_mid (lo := (x8_1 : Int).toNat) (hi := (x9_1 : Int).toNat) (c := co16) ((Kd.R_reads' (Kd.R_over' (by (with_reducible repeat (first | apply Kd.R_alloc | apply Kd.R_drewN | apply Kd.R_drew)); exact (Kd.R_mono (Kd.R_far (p := ⟨gb540, 1, none⟩) (Kd.R_far (p := ⟨gb540, 0, none⟩) (Kd.R_types HO_4.out BK540.out (by decide)) (fun _ hk => hk.2) (.string t537)) (fun _ hk => hk.2) (.string t538)) (fun _ h_ => h_.1))) (Kd.R_typed (by (with_reducible repeat (first | apply Kd.R_alloc | apply Kd.R_drewN | apply Kd.R_drew)); exact (Kd.R_mono (Kd.R_far (p := ⟨gb540, 1, none⟩) (Kd.R_far (p := ⟨gb540, 0, none⟩) (Kd.R_mono HO_7.out (fun k_ hk => (⟨hk, hk.2⟩ : _ ∧ k_ ≠ gb540))) (fun _ hk => hk.2) (.string t537)) (fun _ hk => hk.2) (.string t538)) (fun _ h_ => h_.1)))) (by decide) hg)).2.2) KM38.out KL38.out ((Kd.R_reads' (Kd.R_over' (by (with_reducible repeat (first | apply Kd.R_alloc | apply Kd.R_drewN | apply Kd.R_drew)); exact (Kd.R_mono (Kd.R_far (p := ⟨gb540, 1, none⟩) (Kd.R_far (p := ⟨gb540, 0, none⟩) (Kd.R_types HO_4.out BK540.out (by decide)) (fun _ hk => hk.2) (.string t537)) (fun _ hk => hk.2) (.string t538)) (fun _ h_ => h_.1))) (Kd.R_typed (by (with_reducible repeat (first | apply Kd.R_alloc | apply Kd.R_drewN | apply Kd.R_drew)); exact (Kd.R_mono (Kd.R_far (p := ⟨gb540, 1, none⟩) (Kd.R_far (p := ⟨gb540, 0, none⟩) (Kd.R_mono HO_7.out (fun k_ hk => (⟨hk, hk.2⟩ : _ ∧ k_ ≠ gb540))) (fun _ hk => hk.2) (.string t537)) (fun _ hk => hk.2) (.string t538)) (fun _ h_ => h_.1)))) (by decide) hg)).2.1))); have n5_ := Aside0.mk (ho); clear HO_4; clear HO_6; clear BK540; clear HB; clear HR536; clear HO_7; have HO_4 := n0_; have HO_6 := n1_; have BK540 := n2_; have HB := n3_; have HR536 := n4_; have HO543 := n5_; clear n0_ n1_ n2_ n3_ n4_ n5_; clear ho hb hg hat; obtain ⟨Ao44, co44, eo44⟩ := Kd.R_slice HO543.out; subst eo44) | ((with_reducible refine gate_builtin (b := .append) (xs := #[.tmp 97, .tmp 99]) rfl ?_); at_builtin; refine Kd.S_append (Kd.slice 40 k40) (w0 := w) w.heap.size rfl (.tmp 97) (.tmp 99) 29 37 (.slice none 0 0) 24 rfl Tryd.underlying29 info37 rfl (by decide) (by omega) u6 x6_1 y541 [.slice Ao44 y541.length co44] (fun k_ => k_ ≠ gb540) (fun k_ => some k_ = (.slice Ao44 y541.length co44 : Value).ownBlock) rfl rfl ?aP (fun k_ hk_ => ((Kd.R_mono (ok' := fun k_ => ((fun k_ => k_ ≠ gb540)) k_ ∧ some k_ ≠ (u6 : Value).ownBlock) (Kd.R_apart' (HO543.out) (Kd.S_typed HO_6.out) (by decide)) (fun k_ hk => ⟨hk.1, hk.2⟩))).1 k_ hk_.symm) ?aF ?aO ?aB ?aS ?aL ?_; (case aP => exact Kd.M_row (Kd.R_mono (Kd.R_tight rfl (Kd.R_mono (ok' := fun k_ => ((fun k_ => k_ ≠ gb540)) k_ ∧ some k_ ≠ (u6 : Value).ownBlock) (Kd.R_apart' (HO543.out) (Kd.S_typed HO_6.out) (by decide)) (fun k_ hk => ⟨hk.1, hk.2⟩))) (fun _ h_ => h_))); (case aB => exact (apG GE540.out)); (case aF => exact (fun k_ hk => Kd.freshB (g := gb540) (o := .cells #[.string t537, .string t538] 40 (0, 0)) (apB BK540.out) k_ hk)); (case aO => exact (by (with_reducible repeat (first | apply Kd.S_alloc | apply Kd.S_drewN | apply Kd.S_drew)); exact Kd.S_mono HO_6.out (fun k_ hk => ⟨hk.1, fun e_ => hk.2 e_⟩))); (case aS => exact (below_size (apG GE540.out))); (case aL => have := LMc37.out; omega); intro v545 w43 ho hb hg hat; rw [← Ny544.out] at ho; have n0_ := Aside0.mk (Kd.R_over' (apAR HO_4.out) (Kd.S_typed (apAS HO_6.out)) (by decide) hg); have n1_ := Aside0.mk (blk_grown (g := gb540) (o := .cells #[.string t537, .string t538] 40 (0, 0)) (apB BK540.out) hg (Kd.S_ne HO_6.out BK540.out (by decide))); have n2_ := Aside0.mk (hb); have n3_ := Aside0.mk ((show Kd.C k67 w43 A38 y533.length y533 from by rw [Ny533.out, KA38.out]; exact Kd.C_mid (lo := (x8_1 : Int).toNat) (hi := (x9_1 : Int).toNat) (c := co16) ((Kd.R_reads' (Kd.R_over' (apAR HO_4.out) (Kd.S_typed (apAS HO_6.out)) (by decide) hg)).2.2) KM38.out KL38.out ((Kd.R_reads' (Kd.R_over' (apAR HO_4.out) (Kd.S_typed (apAS HO_6.out)) (by decide) hg)).2.1))); have n4_ := Aside0.mk (ho); clear HO_4; clear BK540; clear HB; clear HR536; clear HO_6; clear HO543; have HO_4 := n0_; have BK540 := n1_; have HB := n2_; have HR536 := n3_; have HO546 := n4_; clear n0_ n1_ n2_ n3_ n4_; clear ho hb hg hat) | ((with_reducible refine gate_dst (N := 101) rfl ?_); refine Kd.R_lit k40 _ 40 ?hg (N := 101) ?hd (xs := ([] : List (S40))) (inner := []) (ok := fun _ => True) (okp := fun _ => True) ?hr ?hp (fun _ hk => hk) trivial (Below.refl _ _) (Nat.le_refl _) (by simp) ?_; (case hd => rfl); (case hg => rfl); (case hr => first | (go_simp; done) | (go_simp; rfl)); (case hp => exact (Reps.none _ _)); intro v548 w45 ho46 hb hg_ hnew_; clear hg_ hnew_; (first | rw [← Ny547.out] at ho46 | (simp only [Int.reduceToNat] at ho46; rw [← Ny547.out] at ho46)); have n0_ := Aside0.mk (Kd.R_below (apAR HO_4.out) hb); have n1_ := Aside0.mk (Kd.S_elder' (apAS HO546.out) (Kd.R_base ho46) hb); have n2_ := Aside0.mk (Kd.R_lower (Kd.R_newB ho46 (g := gb540) (o := .cells #[.string t537, .string t538] 40 (0, 0)) (apB BK540.out)) (below_size (apG GE540.out))); have n3_ := Aside0.mk (blk_below (g := gb540) (o := .cells #[.string t537, .string t538] 40 (0, 0)) (apB BK540.out) hb); have n4_ := Aside0.mk (Kd.C_below (apC HR536.out) hb); have n5_ := Aside0.mk (below_step (apG GE540.out) hb); clear HO_4; clear HO546; clear BK540; clear HR536; clear HB; have HO_4 := n0_; have HO546 := n1_; have HO549 := n2_; have BK540 := n3_; have HR536 := n4_; have HB := n5_; clear n0_ n1_ n2_ n3_ n4_ n5_; clear hb ho46))
                 go_roundg kj21
                 case measure => have := HK1.out; have := HJ21.out; omega
                 case rel => exact ⟨(y544), (y547), (wrap64 (x9_1 + 1)), (wrap64 (x9_1 + 1)), ap2, ap2, H', ⟨by have := HK1.out; have := HJ21.out; omega⟩, ⟨by (with_reducible repeat (first | apply Kd.R_alloc | apply Kd.R_drewN | apply Kd.R_drew)); exact HO_4.out⟩, ⟨by (with_reducible repeat (first | apply Kd.S_alloc | apply Kd.S_drewN | apply Kd.S_drew)); exact Kd.S_mono HO546.out (fun _ hk => hk.2)⟩, ⟨by (with_reducible repeat (first | apply Kd.R_alloc | apply Kd.R_drewN | apply Kd.R_drew)); exact Kd.R_mono HO549.out (fun _ hk => trivial)⟩, ⟨by repeat (first | (with_reducible first | exact HB.out | apply below_alloc | apply pw_below_drewN | apply below_drew1 | refine below_set ?_ GE540.out) | exact HB.out)⟩⟩
                ·
                 rw [if_neg c37] at H
                 exact absurd H (by simp)
               ·
                rw [if_neg c36] at H
                have c36b0 : (x9_1 == (t515.length : Int)) = false := beq_eq_false_iff_ne.mpr c36
                have c36b1 : (x9_1 != (t515.length : Int)) = true := bne_iff_ne.mpr c36
                by_cases c47 : 0 ≤ x9_1
                ·
                 rw [if_pos c47] at H
                 have c47b0 := decide_eq_true c47
                 clear c47
                 by_cases c48 : x9_1 < (t515.length : Int)
                 ·
                  rw [if_pos c48] at H
                  have c48b0 := decide_eq_true c48
                  clear c48
                  by_cases c49 : ((rd_T67 t515 x9_1).f0) = 43
                  ·
                   rw [if_pos c49] at H
                   have c49b0 : (((rd_T67 t515 x9_1).f0) == 43) = true := beq_iff_eq.mpr c49
                   have c49b1 : (((rd_T67 t515 x9_1).f0) != 43) = false := bne_eq_false_iff_eq.mpr c49
                   clear c49
                   have H' := Aside0.mk H
                   clear H
                   have q50 : (x9_1 : Int) ≤ ((t515.length : Int) : Int) := of_decide_eq_true ap0
                   obtain ⟨i050, hi050, _, hsz50, _⟩ := info_parts info67
                   have hroom50 : t515.length ≤ co16 := (Kd.R_reads' HO_4.out).2.1
                   have hC50 : Kd.C k67 _ Ao16 t515.length t515 := (Kd.R_reads' HO_4.out).2.2
                   have ql50 : (x8_1 : Int) ≤ (x9_1 : Int) := of_decide_eq_true ap0
                   have q050 : (0 : Int) ≤ (x8_1 : Int) := of_decide_eq_true ap0
                   have hcut50 := cut_mid (P := Tryd.prog) 62 67 .i64 .i64 Tryd.underlying62 hi050 2 hsz50 Ao16 t515.length co16 x8_1 x9_1 q050 ql50 q50 hroom50
                   have hr50 := Kd.C_mid (lo := (x8_1 : Int).toNat) (hi := (x9_1 : Int).toNat) (c := co16) hC50 (by omega) (by omega) hroom50
                   obtain ⟨A50, hA50⟩ : ∃ A1, A1 = (if co16 = (x8_1 : Int).toNat then Ao16 else (Ao16 : Option Addr).map (·.add ((x8_1 : Int).toNat * 2))) := ⟨_, rfl⟩
                   obtain ⟨c50, hc50⟩ : ∃ c1, c1 = co16 - (x8_1 : Int).toNat := ⟨_, rfl⟩
                   have hy50 : y533.length = (x9_1 : Int).toNat - (x8_1 : Int).toNat := (by rw [Ny533.out, List.length_drop, List.length_take] <;> omega)
                   rw [show ((t515).take (x9_1 : Int).toNat).drop (x8_1 : Int).toNat = y533 from Ny533.out.symm] at hr50
                   replace hr50 : Kd.C k67 _ A50 y533.length y533 := (by rw [hA50]; exact hr50)
                   rw [← hy50, ← hA50, ← hc50] at hcut50
                   have HR536 := Aside0.mk hr50
                   have HC536 := Aside0.mk (show y533.length ≤ c50 from by rw [hy50, hc50]; exact Nat.sub_le_sub_right (Nat.le_trans (by omega) hroom50) _)
                   clear hr50 hC50 hroom50 hi050 hsz50 hc50
                   have KY50 := Aside0.mk hy50
                   have KA50 := Aside0.mk hA50
                   clear hy50 hA50
                   have KL50 := Aside0.mk (show (x9_1 : Int).toNat ≤ t515.length from by omega)
                   have KM50 := Aside0.mk (show (x8_1 : Int).toNat ≤ (x9_1 : Int).toNat from by omega)
                   replace q50 := eq_true q50
                   go_wp2_with (first | ((with_reducible refine gate_callee (f := 38) rfl ?_); refine goesL_ (some 76) rfl rfl Tryd.func38 (by kernel_rfl) rfl #[.slice A50 y533.length c50] rfl ap3 ?_; (with_reducible refine (R15Pair.calls kj21 _ _ y533 t537 t538 true _ ?side1 ?side2 A33.out).mono ?_); (case side1 => repeat (first | exact (apC HR536.out) | (with_reducible refine Kd.C_alloc ?_ _) | (with_reducible refine Kd.C_drewN ?_ _) | (with_reducible refine Kd.C_drew ?_))); (case side2 => exact HC536.out); rintro e w51 ⟨rfl, hb⟩; refine ⟨_, rfl, ?_⟩; have n0_ := Aside0.mk (Kd.R_below (apAR HO_4.out) hb); have n1_ := Aside0.mk (Kd.S_below (apAS HO_6.out) hb); have n2_ := Aside0.mk (Kd.R_below (apAR HO_7.out) hb); have n3_ := Aside0.mk (Kd.C_below (apC HR536.out) hb); have n4_ := Aside0.mk (below_step ap1 hb); clear HO_4; clear HO_6; clear HO_7; clear HR536; clear HB; have HO_4 := n0_; have HO_6 := n1_; have HO_7 := n2_; have HR536 := n3_; have HB := n4_; clear n0_ n1_ n2_ n3_ n4_; (try clear hb); (try clear hb2); (try clear hk); (try clear hi)) | ((with_reducible refine gate_dst (N := 10) rfl ?_); refine box_event ?hg (N := 10) ?hd (cs := #[.string (⟨#[]⟩ : ByteArray), .string (⟨#[]⟩ : ByteArray)]) (t := 40) ?hr ?_; (case hd => rfl); (case hg => rfl); (case hr => first | (go_simp; done) | (go_simp; rfl)); intro gb540 hg w52 hbox hb; have n0_ := Aside0.mk (Kd.R_below (apAR HO_4.out) hb); have n1_ := Aside0.mk (Kd.S_below (Kd.S_elderB (apAS HO_6.out) gb540 (Nat.le_of_eq hg.symm)) hb); have n2_ := Aside0.mk (Kd.R_below (Kd.R_elderB (apAR HO_7.out) gb540 (Nat.le_of_eq hg.symm)) hb); have n3_ := Aside0.mk (Kd.C_below (apC HR536.out) hb); have n4_ := Aside0.mk (below_step ap1 hb); have n5_ := Aside0.mk (hbox); have n6_ := Aside0.mk ((by rw [hg]; exact (below_size ap1) : w.heap.size ≤ gb540)); have n7_ := Aside0.mk ((by rw [hg]; exact (below_size ap1) : w.heap.size ≤ gb540)); clear HO_4; clear HO_6; clear HO_7; clear HR536; clear HB; have HO_4 := n0_; have HO_6 := n1_; have HO_7 := n2_; have HR536 := n3_; have HB := n4_; have BK540 := n5_; have GW540 := n6_; have GE540 := n7_; clear n0_ n1_ n2_ n3_ n4_ n5_ n6_ n7_; clear hb hbox hg; have hcz53_0 : w52.cell? ⟨gb540, 0, none⟩ = some (.string (⟨#[]⟩ : ByteArray)) := (blk_cell BK540.out 0).trans rfl; have hcz53_1 : w52.cell? ⟨gb540, 1, none⟩ = some (.string (⟨#[]⟩ : ByteArray)) := (blk_cell BK540.out 1).trans rfl; have hfz53_0 := blk_frozen BK540.out 0; have hfz53_1 := blk_frozen BK540.out 1) | ((with_reducible refine gate_builtin (b := .append) (xs := #[.tmp 81, .tmp 83]) rfl ?_); at_builtin; refine Kd.R_append k40 (w0 := w) w.heap.size rfl (.tmp 81) (.tmp 83) 37 40 (.agg #[(.string ⟨#[]⟩), (.string ⟨#[]⟩)]) 32 rfl Tryd.underlying37 info40 rfl (by decide) (by omega) u7 x7_1 (⟨t537, t538⟩ : S40) [.string t537, .string t538] (fun k_ => k_ ≠ gb540) (fun _ => False) rfl (by first | (go_simp; done) | (go_simp; rfl)) ?aP (fun _ hk => hk.elim) ?aF ?aO ?aB ?aS ?aL ?_; (case aP => exact k40_mkM _ _ _ (⟨t537, t538⟩ : S40)); (case aB => exact (apG GE540.out)); (case aF => exact (fun k_ hk => Kd.freshB (g := gb540) (o := .cells #[.string t537, .string t538] 40 (0, 0)) (by (with_reducible repeat (first | refine blk_drewN ?_ _ | refine blk_drew ?_ | refine blk_alloc ?_ _)); refine blk_put (cs := #[.string t537, .string (⟨#[]⟩ : ByteArray)]) ?_ 1 _ rfl; (with_reducible repeat (first | refine blk_drewN ?_ _ | refine blk_drew ?_ | refine blk_alloc ?_ _)); refine blk_put (cs := #[.string (⟨#[]⟩ : ByteArray), .string (⟨#[]⟩ : ByteArray)]) ?_ 0 _ rfl; (with_reducible repeat (first | refine blk_drewN ?_ _ | refine blk_drew ?_ | refine blk_alloc ?_ _)); exact BK540.out) k_ hk)); (case aO => exact (by (with_reducible repeat (first | apply Kd.R_alloc | apply Kd.R_drewN | apply Kd.R_drew)); exact Kd.R_mono (Kd.R_far (p := ⟨gb540, 1, none⟩) (Kd.R_far (p := ⟨gb540, 0, none⟩) (Kd.R_mono HO_7.out (fun k_ hk => (⟨hk, hk.2⟩ : _ ∧ k_ ≠ gb540))) (fun _ hk => hk.2) (.string t537)) (fun _ hk => hk.2) (.string t538)) (fun _ hk => hk.1.2))); (case aS => exact (below_size (apG GE540.out))); (case aL => have := LMc35.out; omega); intro v542 w54 ho hb hg hat; rw [← Ny541.out] at ho; have n0_ := Aside0.mk (Kd.R_over' (by (with_reducible repeat (first | apply Kd.R_alloc | apply Kd.R_drewN | apply Kd.R_drew)); exact (Kd.R_mono (Kd.R_far (p := ⟨gb540, 1, none⟩) (Kd.R_far (p := ⟨gb540, 0, none⟩) (Kd.R_types HO_4.out BK540.out (by decide)) (fun _ hk => hk.2) (.string t537)) (fun _ hk => hk.2) (.string t538)) (fun _ h_ => h_.1))) (Kd.R_typed (by (with_reducible repeat (first | apply Kd.R_alloc | apply Kd.R_drewN | apply Kd.R_drew)); exact (Kd.R_mono (Kd.R_far (p := ⟨gb540, 1, none⟩) (Kd.R_far (p := ⟨gb540, 0, none⟩) (Kd.R_mono HO_7.out (fun k_ hk => (⟨hk, hk.2⟩ : _ ∧ k_ ≠ gb540))) (fun _ hk => hk.2) (.string t537)) (fun _ hk => hk.2) (.string t538)) (fun _ h_ => h_.1)))) (by decide) hg); have n1_ := Aside0.mk (Kd.S_after (ok := (fun k_ => k_ ≠ gb540)) (by (with_reducible repeat (first | apply Kd.S_alloc | apply Kd.S_drewN | apply Kd.S_drew)); exact Kd.S_mono (Kd.S_far (p := ⟨gb540, 1, none⟩) (Kd.S_far (p := ⟨gb540, 0, none⟩) (Kd.S_mono HO_6.out (fun k_ hk => (⟨hk, hk.2⟩ : _ ∧ k_ ≠ gb540))) (fun _ hk => hk.2) (.string t537)) (fun _ hk => hk.2) (.string t538)) (fun _ hk => ⟨hk.1.2, hk.1.1⟩)) hg hat); have n2_ := Aside0.mk (blk_grown (g := gb540) (o := .cells #[.string t537, .string t538] 40 (0, 0)) (by (with_reducible repeat (first | refine blk_drewN ?_ _ | refine blk_drew ?_ | refine blk_alloc ?_ _)); refine blk_put (cs := #[.string t537, .string (⟨#[]⟩ : ByteArray)]) ?_ 1 _ rfl; (with_reducible repeat (first | refine blk_drewN ?_ _ | refine blk_drew ?_ | refine blk_alloc ?_ _)); refine blk_put (cs := #[.string (⟨#[]⟩ : ByteArray), .string (⟨#[]⟩ : ByteArray)]) ?_ 0 _ rfl; (with_reducible repeat (first | refine blk_drewN ?_ _ | refine blk_drew ?_ | refine blk_alloc ?_ _)); exact BK540.out) hg (Kd.R_away HO_7.out (fun _ hk => hk.2))); have n3_ := Aside0.mk (hb); have n4_ := Aside0.mk ((show Kd.C k67 w54 A50 y533.length y533 from by rw [Ny533.out, KA50.out]; exact Kd.C_mid (lo := (x8_1 : Int).toNat) (hi := (x9_1 : Int).toNat) (c := co16) ((Kd.R_reads' (Kd.R_over' (by (with_reducible repeat (first | apply Kd.R_alloc | apply Kd.R_drewN | apply Kd.R_drew)); exact (Kd.R_mono (Kd.R_far (p := ⟨gb540, 1, none⟩) (Kd.R_far (p := ⟨gb540, 0, none⟩) (Kd.R_types HO_4.out BK540.out (by decide)) (fun _ hk => hk.2) (.string t537)) (fun _ hk => hk.2) (.string t538)) (fun _ h_ => h_.1))) (Kd.R_typed (by (with_reducible repeat (first | apply Kd.R_alloc | apply Kd.R_drewN | apply Kd.R_drew)); exact (Kd.R_mono (Kd.R_far (p := ⟨gb540, 1, none⟩) (Kd.R_far (p := ⟨gb540, 0, none⟩) (Kd.R_mono HO_7.out (fun k_ hk => (⟨hk, hk.2⟩ : _ ∧ k_ ≠ gb540))) (fun _ hk => hk.2) (.string t537)) (fun _ hk => hk.2) (.string t538)) (fun _ h_ => h_.1)))) (by decide) hg)).2.2) KM50.out KL50.out ((Kd.R_reads' (Kd.R_over' (by (with_reducible repeat (first | apply Kd.R_alloc | apply Kd.R_drewN | apply Kd.R_drew)); exact (Kd.R_mono (Kd.R_far (p := ⟨gb540, 1, none⟩) (Kd.R_far (p := ⟨gb540, 0, none⟩) (Kd.R_types HO_4.out BK540.out (by decide)) (fun _ hk => hk.2) (.string t537)) (fun _ hk => hk.2) (.string t538)) (fun _ h_ => h_.1))) (Kd.R_typed (by (with_reducible repeat (first | apply Kd.R_alloc | apply Kd.R_drewN | apply Kd.R_drew)); exact (Kd.R_mono (Kd.R_far (p := ⟨gb540, 1, none⟩) (Kd.R_far (p := ⟨gb540, 0, none⟩) (Kd.R_mono HO_7.out (fun k_ hk => (⟨hk, hk.2⟩ : _ ∧ k_ ≠ gb540))) (fun _ hk => hk.2) (.string t537)) (fun _ hk => hk.2) (.string t538)) (fun _ h_ => h_.1)))) (by decide) hg)).2.1))); have n5_ := Aside0.mk (ho); clear HO_4; clear HO_6; clear BK540; clear HB; clear HR536; clear HO_7; have HO_4 := n0_; have HO_6 := n1_; have BK540 := n2_; have HB := n3_; have HR536 := n4_; have HO543 := n5_; clear n0_ n1_ n2_ n3_ n4_ n5_; clear ho hb hg hat; have p550 : 0 ≤ (x9_1 : Int) := of_decide_eq_true ap0; have q550 : x9_1 < (t515.length : Int) := of_decide_eq_true ap0; obtain ⟨ad550, e550, hx550_0, hx550_1⟩ := at_T67 (Kd.R_reads' HO_4.out).2.2 x9_1 p550 q550; cases e550; replace p550 := eq_true p550; replace q550 := eq_true q550))
                   go_roundg kj21
                   case measure => have := HK1.out; have := HJ21.out; omega
                   case rel => exact ⟨(x6_1), (y541), (wrap64 (x9_1 + 1)), (wrap64 (x9_1 + 1)), ap2, ap2, H', ⟨by have := HK1.out; have := HJ21.out; omega⟩, ⟨by (with_reducible repeat (first | apply Kd.R_alloc | apply Kd.R_drewN | apply Kd.R_drew)); exact HO_4.out⟩, ⟨by (with_reducible repeat (first | apply Kd.S_alloc | apply Kd.S_drewN | apply Kd.S_drew)); exact Kd.S_mono HO_6.out (fun _ hk => hk.2)⟩, ⟨by (with_reducible repeat (first | apply Kd.R_alloc | apply Kd.R_drewN | apply Kd.R_drew)); exact Kd.R_mono HO543.out (fun _ hk => trivial)⟩, ⟨by repeat (first | (with_reducible first | exact HB.out | apply below_alloc | apply pw_below_drewN | apply below_drew1 | refine below_set ?_ GE540.out) | exact HB.out)⟩⟩
                  ·
                   rw [if_neg c49] at H
                   have c49b0 : (((rd_T67 t515 x9_1).f0) == 43) = false := beq_eq_false_iff_ne.mpr c49
                   have c49b1 : (((rd_T67 t515 x9_1).f0) != 43) = true := bne_iff_ne.mpr c49
                   by_cases c55 : x6_1.length < 5864062014805
                   ·
                    rw [if_pos c55] at H
                    have LMc55 := Aside0.mk c55
                    clear c55
                    obtain ⟨y551, hy551⟩ : ∃ y_ : List (List (S40)), y_ = (x6_1 ++ [y541]) := ⟨_, rfl⟩
                    replace H : (R15Parse.l0 kj21 t515 y551 (([] : List (S40))) (wrap64 (x9_1 + 1)) (wrap64 (x9_1 + 1))) = some (r1, r2) := by first | (rw [hy551]; with_reducible exact H) | (have H2_ := (Option.bind_some _ _).symm.trans H; rw [hy551]; with_reducible exact H2_) | (have H2_ := (Option.bind_some _ _).symm.trans H; with_reducible exact H2_) | with_reducible exact H | (rw [hy551]; exact H) | exact H
                    have Ny551 := Aside0.mk hy551
                    clear hy551
                    obtain ⟨y554, hy554⟩ : ∃ y_ : List (S40), y_ = (([] : List (S40))) := ⟨_, rfl⟩
                    replace H : (R15Parse.l0 kj21 t515 y551 y554 (wrap64 (x9_1 + 1)) (wrap64 (x9_1 + 1))) = some (r1, r2) := by first | (rw [hy554]; with_reducible exact H) | (have H2_ := (Option.bind_some _ _).symm.trans H; rw [hy554]; with_reducible exact H2_) | (have H2_ := (Option.bind_some _ _).symm.trans H; with_reducible exact H2_) | with_reducible exact H | (rw [hy554]; exact H) | exact H
                    have Ny554 := Aside0.mk hy554
                    clear hy554
                    have H' := Aside0.mk H
                    clear H
                    have q56 : (x9_1 : Int) ≤ ((t515.length : Int) : Int) := of_decide_eq_true ap0
                    obtain ⟨i056, hi056, _, hsz56, _⟩ := info_parts info67
                    have hroom56 : t515.length ≤ co16 := (Kd.R_reads' HO_4.out).2.1
                    have hC56 : Kd.C k67 _ Ao16 t515.length t515 := (Kd.R_reads' HO_4.out).2.2
                    have ql56 : (x8_1 : Int) ≤ (x9_1 : Int) := of_decide_eq_true ap0
                    have q056 : (0 : Int) ≤ (x8_1 : Int) := of_decide_eq_true ap0
                    have hcut56 := cut_mid (P := Tryd.prog) 62 67 .i64 .i64 Tryd.underlying62 hi056 2 hsz56 Ao16 t515.length co16 x8_1 x9_1 q056 ql56 q56 hroom56
                    have hr56 := Kd.C_mid (lo := (x8_1 : Int).toNat) (hi := (x9_1 : Int).toNat) (c := co16) hC56 (by omega) (by omega) hroom56
                    obtain ⟨A56, hA56⟩ : ∃ A1, A1 = (if co16 = (x8_1 : Int).toNat then Ao16 else (Ao16 : Option Addr).map (·.add ((x8_1 : Int).toNat * 2))) := ⟨_, rfl⟩
                    obtain ⟨c56, hc56⟩ : ∃ c1, c1 = co16 - (x8_1 : Int).toNat := ⟨_, rfl⟩
                    have hy56 : y533.length = (x9_1 : Int).toNat - (x8_1 : Int).toNat := (by rw [Ny533.out, List.length_drop, List.length_take] <;> omega)
                    rw [show ((t515).take (x9_1 : Int).toNat).drop (x8_1 : Int).toNat = y533 from Ny533.out.symm] at hr56
                    replace hr56 : Kd.C k67 _ A56 y533.length y533 := (by rw [hA56]; exact hr56)
                    rw [← hy56, ← hA56, ← hc56] at hcut56
                    have HR536 := Aside0.mk hr56
                    have HC536 := Aside0.mk (show y533.length ≤ c56 from by rw [hy56, hc56]; exact Nat.sub_le_sub_right (Nat.le_trans (by omega) hroom56) _)
                    clear hr56 hC56 hroom56 hi056 hsz56 hc56
                    have KY56 := Aside0.mk hy56
                    have KA56 := Aside0.mk hA56
                    clear hy56 hA56
                    have KL56 := Aside0.mk (show (x9_1 : Int).toNat ≤ t515.length from by omega)
                    have KM56 := Aside0.mk (show (x8_1 : Int).toNat ≤ (x9_1 : Int).toNat from by omega)
                    replace q56 := eq_true q56
                    go_wp2_with (first | ((with_reducible refine gate_callee (f := 38) rfl ?_); refine goesL_ (some 76) rfl rfl Tryd.func38 (by kernel_rfl) rfl #[.slice A56 y533.length c56] rfl ap3 ?_; (with_reducible refine (R15Pair.calls kj21 _ _ y533 t537 t538 true _ ?side1 ?side2 A33.out).mono ?_); (case side1 => repeat (first | exact (apC HR536.out) | (with_reducible refine Kd.C_alloc ?_ _) | (with_reducible refine Kd.C_drewN ?_ _) | (with_reducible refine Kd.C_drew ?_))); (case side2 => exact HC536.out); rintro e w57 ⟨rfl, hb⟩; refine ⟨_, rfl, ?_⟩; have n0_ := Aside0.mk (Kd.R_below (apAR HO_4.out) hb); have n1_ := Aside0.mk (Kd.S_below (apAS HO_6.out) hb); have n2_ := Aside0.mk (Kd.R_below (apAR HO_7.out) hb); have n3_ := Aside0.mk (Kd.C_below (apC HR536.out) hb); have n4_ := Aside0.mk (below_step ap1 hb); clear HO_4; clear HO_6; clear HO_7; clear HR536; clear HB; have HO_4 := n0_; have HO_6 := n1_; have HO_7 := n2_; have HR536 := n3_; have HB := n4_; clear n0_ n1_ n2_ n3_ n4_; (try clear hb); (try clear hb2); (try clear hk); (try clear hi)) | ((with_reducible refine gate_dst (N := 10) rfl ?_); refine box_event ?hg (N := 10) ?hd (cs := #[.string (⟨#[]⟩ : ByteArray), .string (⟨#[]⟩ : ByteArray)]) (t := 40) ?hr ?_; (case hd => rfl); (case hg => rfl); (case hr => first | (go_simp; done) | (go_simp; rfl)); intro gb540 hg w58 hbox hb; have n0_ := Aside0.mk (Kd.R_below (apAR HO_4.out) hb); have n1_ := Aside0.mk (Kd.S_below (Kd.S_elderB (apAS HO_6.out) gb540 (Nat.le_of_eq hg.symm)) hb); have n2_ := Aside0.mk (Kd.R_below (Kd.R_elderB (apAR HO_7.out) gb540 (Nat.le_of_eq hg.symm)) hb); have n3_ := Aside0.mk (Kd.C_below (apC HR536.out) hb); have n4_ := Aside0.mk (below_step ap1 hb); have n5_ := Aside0.mk (hbox); have n6_ := Aside0.mk ((by rw [hg]; exact (below_size ap1) : w.heap.size ≤ gb540)); have n7_ := Aside0.mk ((by rw [hg]; exact (below_size ap1) : w.heap.size ≤ gb540)); clear HO_4; clear HO_6; clear HO_7; clear HR536; clear HB; have HO_4 := n0_; have HO_6 := n1_; have HO_7 := n2_; have HR536 := n3_; have HB := n4_; have BK540 := n5_; have GW540 := n6_; have GE540 := n7_; clear n0_ n1_ n2_ n3_ n4_ n5_ n6_ n7_; clear hb hbox hg; have hcz59_0 : w58.cell? ⟨gb540, 0, none⟩ = some (.string (⟨#[]⟩ : ByteArray)) := (blk_cell BK540.out 0).trans rfl; have hcz59_1 : w58.cell? ⟨gb540, 1, none⟩ = some (.string (⟨#[]⟩ : ByteArray)) := (blk_cell BK540.out 1).trans rfl; have hfz59_0 := blk_frozen BK540.out 0; have hfz59_1 := blk_frozen BK540.out 1) | ((with_reducible refine gate_builtin (b := .append) (xs := #[.tmp 81, .tmp 83]) rfl ?_); at_builtin; refine Kd.R_append k40 (w0 := w) w.heap.size rfl (.tmp 81) (.tmp 83) 37 40 (.agg #[(.string ⟨#[]⟩), (.string ⟨#[]⟩)]) 32 rfl Tryd.underlying37 info40 rfl (by decide) (by omega) u7 x7_1 (⟨t537, t538⟩ : S40) [.string t537, .string t538] (fun k_ => k_ ≠ gb540) (fun _ => False) rfl (by first | (go_simp; done) | (go_simp; rfl)) ?aP (fun _ hk => hk.elim) ?aF ?aO ?aB ?aS ?aL ?_; (case aP => exact k40_mkM _ _ _ (⟨t537, t538⟩ : S40)); (case aB => exact (apG GE540.out)); (case aF => exact (fun k_ hk => Kd.freshB (g := gb540) (o := .cells #[.string t537, .string t538] 40 (0, 0)) (by (with_reducible repeat (first | refine blk_drewN ?_ _ | refine blk_drew ?_ | refine blk_alloc ?_ _)); refine blk_put (cs := #[.string t537, .string (⟨#[]⟩ : ByteArray)]) ?_ 1 _ rfl; (with_reducible repeat (first | refine blk_drewN ?_ _ | refine blk_drew ?_ | refine blk_alloc ?_ _)); refine blk_put (cs := #[.string (⟨#[]⟩ : ByteArray), .string (⟨#[]⟩ : ByteArray)]) ?_ 0 _ rfl; (with_reducible repeat (first | refine blk_drewN ?_ _ | refine blk_drew ?_ | refine blk_alloc ?_ _)); exact BK540.out) k_ hk)); (case aO => exact (by (with_reducible repeat (first | apply Kd.R_alloc | apply Kd.R_drewN | apply Kd.R_drew)); exact Kd.R_mono (Kd.R_far (p := ⟨gb540, 1, none⟩) (Kd.R_far (p := ⟨gb540, 0, none⟩) (Kd.R_mono HO_7.out (fun k_ hk => (⟨hk, hk.2⟩ : _ ∧ k_ ≠ gb540))) (fun _ hk => hk.2) (.string t537)) (fun _ hk => hk.2) (.string t538)) (fun _ hk => hk.1.2))); (case aS => exact (below_size (apG GE540.out))); (case aL => have := LMc35.out; omega); intro v542 w60 ho hb hg hat; rw [← Ny541.out] at ho; have n0_ := Aside0.mk (Kd.R_over' (by (with_reducible repeat (first | apply Kd.R_alloc | apply Kd.R_drewN | apply Kd.R_drew)); exact (Kd.R_mono (Kd.R_far (p := ⟨gb540, 1, none⟩) (Kd.R_far (p := ⟨gb540, 0, none⟩) (Kd.R_types HO_4.out BK540.out (by decide)) (fun _ hk => hk.2) (.string t537)) (fun _ hk => hk.2) (.string t538)) (fun _ h_ => h_.1))) (Kd.R_typed (by (with_reducible repeat (first | apply Kd.R_alloc | apply Kd.R_drewN | apply Kd.R_drew)); exact (Kd.R_mono (Kd.R_far (p := ⟨gb540, 1, none⟩) (Kd.R_far (p := ⟨gb540, 0, none⟩) (Kd.R_mono HO_7.out (fun k_ hk => (⟨hk, hk.2⟩ : _ ∧ k_ ≠ gb540))) (fun _ hk => hk.2) (.string t537)) (fun _ hk => hk.2) (.string t538)) (fun _ h_ => h_.1)))) (by decide) hg); have n1_ := Aside0.mk (Kd.S_after (ok := (fun k_ => k_ ≠ gb540)) (by (with_reducible repeat (first | apply Kd.S_alloc | apply Kd.S_drewN | apply Kd.S_drew)); exact Kd.S_mono (Kd.S_far (p := ⟨gb540, 1, none⟩) (Kd.S_far (p := ⟨gb540, 0, none⟩) (Kd.S_mono HO_6.out (fun k_ hk => (⟨hk, hk.2⟩ : _ ∧ k_ ≠ gb540))) (fun _ hk => hk.2) (.string t537)) (fun _ hk => hk.2) (.string t538)) (fun _ hk => ⟨hk.1.2, hk.1.1⟩)) hg hat); have n2_ := Aside0.mk (blk_grown (g := gb540) (o := .cells #[.string t537, .string t538] 40 (0, 0)) (by (with_reducible repeat (first | refine blk_drewN ?_ _ | refine blk_drew ?_ | refine blk_alloc ?_ _)); refine blk_put (cs := #[.string t537, .string (⟨#[]⟩ : ByteArray)]) ?_ 1 _ rfl; (with_reducible repeat (first | refine blk_drewN ?_ _ | refine blk_drew ?_ | refine blk_alloc ?_ _)); refine blk_put (cs := #[.string (⟨#[]⟩ : ByteArray), .string (⟨#[]⟩ : ByteArray)]) ?_ 0 _ rfl; (with_reducible repeat (first | refine blk_drewN ?_ _ | refine blk_drew ?_ | refine blk_alloc ?_ _)); exact BK540.out) hg (Kd.R_away HO_7.out (fun _ hk => hk.2))); have n3_ := Aside0.mk (hb); have n4_ := Aside0.mk ((show Kd.C k67 w60 A56 y533.length y533 from by rw [Ny533.out, KA56.out]; exact Kd.C_mid (lo := (x8_1 : Int).toNat) (hi := (x9_1 : Int).toNat) (c := co16) ((Kd.R_reads' (Kd.R_over' (by (with_reducible repeat (first | apply Kd.R_alloc | apply Kd.R_drewN | apply Kd.R_drew)); exact (Kd.R_mono (Kd.R_far (p := ⟨gb540, 1, none⟩) (Kd.R_far (p := ⟨gb540, 0, none⟩) (Kd.R_types HO_4.out BK540.out (by decide)) (fun _ hk => hk.2) (.string t537)) (fun _ hk => hk.2) (.string t538)) (fun _ h_ => h_.1))) (Kd.R_typed (by (with_reducible repeat (first | apply Kd.R_alloc | apply Kd.R_drewN | apply Kd.R_drew)); exact (Kd.R_mono (Kd.R_far (p := ⟨gb540, 1, none⟩) (Kd.R_far (p := ⟨gb540, 0, none⟩) (Kd.R_mono HO_7.out (fun k_ hk => (⟨hk, hk.2⟩ : _ ∧ k_ ≠ gb540))) (fun _ hk => hk.2) (.string t537)) (fun _ hk => hk.2) (.string t538)) (fun _ h_ => h_.1)))) (by decide) hg)).2.2) KM56.out KL56.out ((Kd.R_reads' (Kd.R_over' (by (with_reducible repeat (first | apply Kd.R_alloc | apply Kd.R_drewN | apply Kd.R_drew)); exact (Kd.R_mono (Kd.R_far (p := ⟨gb540, 1, none⟩) (Kd.R_far (p := ⟨gb540, 0, none⟩) (Kd.R_types HO_4.out BK540.out (by decide)) (fun _ hk => hk.2) (.string t537)) (fun _ hk => hk.2) (.string t538)) (fun _ h_ => h_.1))) (Kd.R_typed (by (with_reducible repeat (first | apply Kd.R_alloc | apply Kd.R_drewN | apply Kd.R_drew)); exact (Kd.R_mono (Kd.R_far (p := ⟨gb540, 1, none⟩) (Kd.R_far (p := ⟨gb540, 0, none⟩) (Kd.R_mono HO_7.out (fun k_ hk => (⟨hk, hk.2⟩ : _ ∧ k_ ≠ gb540))) (fun _ hk => hk.2) (.string t537)) (fun _ hk => hk.2) (.string t538)) (fun _ h_ => h_.1)))) (by decide) hg)).2.1))); have n5_ := Aside0.mk (ho); clear HO_4; clear HO_6; clear BK540; clear HB; clear HR536; clear HO_7; have HO_4 := n0_; have HO_6 := n1_; have BK540 := n2_; have HB := n3_; have HR536 := n4_; have HO543 := n5_; clear n0_ n1_ n2_ n3_ n4_ n5_; clear ho hb hg hat; have p550 : 0 ≤ (x9_1 : Int) := of_decide_eq_true ap0; have q550 : x9_1 < (t515.length : Int) := of_decide_eq_true ap0; obtain ⟨ad550, e550, hx550_0, hx550_1⟩ := at_T67 (Kd.R_reads' HO_4.out).2.2 x9_1 p550 q550; cases e550; replace p550 := eq_true p550; replace q550 := eq_true q550; obtain ⟨Ao62, co62, eo62⟩ := Kd.R_slice HO543.out; subst eo62) | ((with_reducible refine gate_builtin (b := .append) (xs := #[.tmp 97, .tmp 99]) rfl ?_); at_builtin; refine Kd.S_append (Kd.slice 40 k40) (w0 := w) w.heap.size rfl (.tmp 97) (.tmp 99) 29 37 (.slice none 0 0) 24 rfl Tryd.underlying29 info37 rfl (by decide) (by omega) u6 x6_1 y541 [.slice Ao62 y541.length co62] (fun k_ => k_ ≠ gb540) (fun k_ => some k_ = (.slice Ao62 y541.length co62 : Value).ownBlock) rfl rfl ?aP (fun k_ hk_ => ((Kd.R_mono (ok' := fun k_ => ((fun k_ => k_ ≠ gb540)) k_ ∧ some k_ ≠ (u6 : Value).ownBlock) (Kd.R_apart' (HO543.out) (Kd.S_typed HO_6.out) (by decide)) (fun k_ hk => ⟨hk.1, hk.2⟩))).1 k_ hk_.symm) ?aF ?aO ?aB ?aS ?aL ?_; (case aP => exact Kd.M_row (Kd.R_mono (Kd.R_tight rfl (Kd.R_mono (ok' := fun k_ => ((fun k_ => k_ ≠ gb540)) k_ ∧ some k_ ≠ (u6 : Value).ownBlock) (Kd.R_apart' (HO543.out) (Kd.S_typed HO_6.out) (by decide)) (fun k_ hk => ⟨hk.1, hk.2⟩))) (fun _ h_ => h_))); (case aB => exact (apG GE540.out)); (case aF => exact (fun k_ hk => Kd.freshB (g := gb540) (o := .cells #[.string t537, .string t538] 40 (0, 0)) (apB BK540.out) k_ hk)); (case aO => exact (by (with_reducible repeat (first | apply Kd.S_alloc | apply Kd.S_drewN | apply Kd.S_drew)); exact Kd.S_mono HO_6.out (fun k_ hk => ⟨hk.1, fun e_ => hk.2 e_⟩))); (case aS => exact (below_size (apG GE540.out))); (case aL => have := LMc55.out; omega); intro v552 w61 ho hb hg hat; rw [← Ny551.out] at ho; have n0_ := Aside0.mk (Kd.R_over' (apAR HO_4.out) (Kd.S_typed (apAS HO_6.out)) (by decide) hg); have n1_ := Aside0.mk (blk_grown (g := gb540) (o := .cells #[.string t537, .string t538] 40 (0, 0)) (apB BK540.out) hg (Kd.S_ne HO_6.out BK540.out (by decide))); have n2_ := Aside0.mk (hb); have n3_ := Aside0.mk ((show Kd.C k67 w61 A56 y533.length y533 from by rw [Ny533.out, KA56.out]; exact Kd.C_mid (lo := (x8_1 : Int).toNat) (hi := (x9_1 : Int).toNat) (c := co16) ((Kd.R_reads' (Kd.R_over' (apAR HO_4.out) (Kd.S_typed (apAS HO_6.out)) (by decide) hg)).2.2) KM56.out KL56.out ((Kd.R_reads' (Kd.R_over' (apAR HO_4.out) (Kd.S_typed (apAS HO_6.out)) (by decide) hg)).2.1))); have n4_ := Aside0.mk (ho); clear HO_4; clear BK540; clear HB; clear HR536; clear HO_6; clear HO543; have HO_4 := n0_; have BK540 := n1_; have HB := n2_; have HR536 := n3_; have HO553 := n4_; clear n0_ n1_ n2_ n3_ n4_; clear ho hb hg hat) | ((with_reducible refine gate_dst (N := 101) rfl ?_); refine Kd.R_lit k40 _ 40 ?hg (N := 101) ?hd (xs := ([] : List (S40))) (inner := []) (ok := fun _ => True) (okp := fun _ => True) ?hr ?hp (fun _ hk => hk) trivial (Below.refl _ _) (Nat.le_refl _) (by simp) ?_; (case hd => rfl); (case hg => rfl); (case hr => first | (go_simp; done) | (go_simp; rfl)); (case hp => exact (Reps.none _ _)); intro v555 w63 ho64 hb hg_ hnew_; clear hg_ hnew_; (first | rw [← Ny554.out] at ho64 | (simp only [Int.reduceToNat] at ho64; rw [← Ny554.out] at ho64)); have n0_ := Aside0.mk (Kd.R_below (apAR HO_4.out) hb); have n1_ := Aside0.mk (Kd.S_elder' (apAS HO553.out) (Kd.R_base ho64) hb); have n2_ := Aside0.mk (Kd.R_lower (Kd.R_newB ho64 (g := gb540) (o := .cells #[.string t537, .string t538] 40 (0, 0)) (apB BK540.out)) (below_size (apG GE540.out))); have n3_ := Aside0.mk (blk_below (g := gb540) (o := .cells #[.string t537, .string t538] 40 (0, 0)) (apB BK540.out) hb); have n4_ := Aside0.mk (Kd.C_below (apC HR536.out) hb); have n5_ := Aside0.mk (below_step (apG GE540.out) hb); clear HO_4; clear HO553; clear BK540; clear HR536; clear HB; have HO_4 := n0_; have HO553 := n1_; have HO556 := n2_; have BK540 := n3_; have HR536 := n4_; have HB := n5_; clear n0_ n1_ n2_ n3_ n4_ n5_; clear hb ho64))
                    go_roundg kj21
                    case measure => have := HK1.out; have := HJ21.out; omega
                    case rel => exact ⟨(y551), (y554), (wrap64 (x9_1 + 1)), (wrap64 (x9_1 + 1)), ap2, ap2, H', ⟨by have := HK1.out; have := HJ21.out; omega⟩, ⟨by (with_reducible repeat (first | apply Kd.R_alloc | apply Kd.R_drewN | apply Kd.R_drew)); exact HO_4.out⟩, ⟨by (with_reducible repeat (first | apply Kd.S_alloc | apply Kd.S_drewN | apply Kd.S_drew)); exact Kd.S_mono HO553.out (fun _ hk => hk.2)⟩, ⟨by (with_reducible repeat (first | apply Kd.R_alloc | apply Kd.R_drewN | apply Kd.R_drew)); exact Kd.R_mono HO556.out (fun _ hk => trivial)⟩, ⟨by repeat (first | (with_reducible first | exact HB.out | apply below_alloc | apply pw_below_drewN | apply below_drew1 | refine below_set ?_ GE540.out) | exact HB.out)⟩⟩
                   ·
                    rw [if_neg c55] at H
                    exact absurd H (by simp)
                 ·
                  rw [if_neg c48] at H
                  exact absurd H (by simp)
                ·
                 rw [if_neg c47] at H
                 exact absurd H (by simp)
              ·
               rw [if_neg c35] at H
               exact absurd H (by simp)
             ·
              replace c34 := Bool.eq_false_iff.mpr c34
              subst c34
              rw [if_neg (show ¬ (false = true) by decide)] at H
              simp only [Option.some.injEq, Prod.mk.injEq] at H
              obtain ⟨rfl, rfl⟩ := H
              have q65 : (x9_1 : Int) ≤ ((t515.length : Int) : Int) := of_decide_eq_true ap0
              obtain ⟨i065, hi065, _, hsz65, _⟩ := info_parts info67
              have hroom65 : t515.length ≤ co16 := (Kd.R_reads' HO_4.out).2.1
              have hC65 : Kd.C k67 _ Ao16 t515.length t515 := (Kd.R_reads' HO_4.out).2.2
              have ql65 : (x8_1 : Int) ≤ (x9_1 : Int) := of_decide_eq_true ap0
              have q065 : (0 : Int) ≤ (x8_1 : Int) := of_decide_eq_true ap0
              have hcut65 := cut_mid (P := Tryd.prog) 62 67 .i64 .i64 Tryd.underlying62 hi065 2 hsz65 Ao16 t515.length co16 x8_1 x9_1 q065 ql65 q65 hroom65
              have hr65 := Kd.C_mid (lo := (x8_1 : Int).toNat) (hi := (x9_1 : Int).toNat) (c := co16) hC65 (by omega) (by omega) hroom65
              obtain ⟨A65, hA65⟩ : ∃ A1, A1 = (if co16 = (x8_1 : Int).toNat then Ao16 else (Ao16 : Option Addr).map (·.add ((x8_1 : Int).toNat * 2))) := ⟨_, rfl⟩
              obtain ⟨c65, hc65⟩ : ∃ c1, c1 = co16 - (x8_1 : Int).toNat := ⟨_, rfl⟩
              have hy65 : y533.length = (x9_1 : Int).toNat - (x8_1 : Int).toNat := (by rw [Ny533.out, List.length_drop, List.length_take] <;> omega)
              rw [show ((t515).take (x9_1 : Int).toNat).drop (x8_1 : Int).toNat = y533 from Ny533.out.symm] at hr65
              replace hr65 : Kd.C k67 _ A65 y533.length y533 := (by rw [hA65]; exact hr65)
              rw [← hy65, ← hA65, ← hc65] at hcut65
              have HR536 := Aside0.mk hr65
              have HC536 := Aside0.mk (show y533.length ≤ c65 from by rw [hy65, hc65]; exact Nat.sub_le_sub_right (Nat.le_trans (by omega) hroom65) _)
              clear hr65 hC65 hroom65 hi065 hsz65 hc65
              have KY65 := Aside0.mk hy65
              have KA65 := Aside0.mk hA65
              clear hy65 hA65
              have KL65 := Aside0.mk (show (x9_1 : Int).toNat ≤ t515.length from by omega)
              have KM65 := Aside0.mk (show (x8_1 : Int).toNat ≤ (x9_1 : Int).toNat from by omega)
              replace q65 := eq_true q65
              go_wp2_with (first | ((with_reducible refine gate_callee (f := 38) rfl ?_); refine goesL_ (some 76) rfl rfl Tryd.func38 (by kernel_rfl) rfl #[.slice A65 y533.length c65] rfl ap3 ?_; (with_reducible refine (R15Pair.calls kj21 _ _ y533 t537 t538 false _ ?side1 ?side2 A33.out).mono ?_); (case side1 => repeat (first | exact (apC HR536.out) | (with_reducible refine Kd.C_alloc ?_ _) | (with_reducible refine Kd.C_drewN ?_ _) | (with_reducible refine Kd.C_drew ?_))); (case side2 => exact HC536.out); rintro e w66 ⟨rfl, hb⟩; refine ⟨_, rfl, ?_⟩; have n0_ := Aside0.mk (Kd.R_below (apAR HO_4.out) hb); have n1_ := Aside0.mk (Kd.S_below (apAS HO_6.out) hb); have n2_ := Aside0.mk (Kd.R_below (apAR HO_7.out) hb); have n3_ := Aside0.mk (Kd.C_below (apC HR536.out) hb); have n4_ := Aside0.mk (below_step ap1 hb); clear HO_4; clear HO_6; clear HO_7; clear HR536; clear HB; have HO_4 := n0_; have HO_6 := n1_; have HO_7 := n2_; have HR536 := n3_; have HB := n4_; clear n0_ n1_ n2_ n3_ n4_; (try clear hb); (try clear hb2); (try clear hk); (try clear hi)) | ((with_reducible refine gate_dst (N := 10) rfl ?_); refine box_event ?hg (N := 10) ?hd (cs := #[.string (⟨#[]⟩ : ByteArray), .string (⟨#[]⟩ : ByteArray)]) (t := 40) ?hr ?_; (case hd => rfl); (case hg => rfl); (case hr => first | (go_simp; done) | (go_simp; rfl)); intro gb540 hg w67 hbox hb; have n0_ := Aside0.mk (Kd.R_below (apAR HO_4.out) hb); have n1_ := Aside0.mk (Kd.S_below (Kd.S_elderB (apAS HO_6.out) gb540 (Nat.le_of_eq hg.symm)) hb); have n2_ := Aside0.mk (Kd.R_below (Kd.R_elderB (apAR HO_7.out) gb540 (Nat.le_of_eq hg.symm)) hb); have n3_ := Aside0.mk (Kd.C_below (apC HR536.out) hb); have n4_ := Aside0.mk (below_step ap1 hb); have n5_ := Aside0.mk (hbox); have n6_ := Aside0.mk ((by rw [hg]; exact (below_size ap1) : w.heap.size ≤ gb540)); have n7_ := Aside0.mk ((by rw [hg]; exact (below_size ap1) : w.heap.size ≤ gb540)); clear HO_4; clear HO_6; clear HO_7; clear HR536; clear HB; have HO_4 := n0_; have HO_6 := n1_; have HO_7 := n2_; have HR536 := n3_; have HB := n4_; have BK540 := n5_; have GW540 := n6_; have GE540 := n7_; clear n0_ n1_ n2_ n3_ n4_ n5_ n6_ n7_; clear hb hbox hg; have hcz68_0 : w67.cell? ⟨gb540, 0, none⟩ = some (.string (⟨#[]⟩ : ByteArray)) := (blk_cell BK540.out 0).trans rfl; have hcz68_1 : w67.cell? ⟨gb540, 1, none⟩ = some (.string (⟨#[]⟩ : ByteArray)) := (blk_cell BK540.out 1).trans rfl; have hfz68_0 := blk_frozen BK540.out 0; have hfz68_1 := blk_frozen BK540.out 1))
              go_ret2
              exact ⟨_, by first | rfl | (simp [errW_none, errW_some, bne_nil8, beq_nil8]; done) | (simp [errW_none, errW_some] <;> rfl) | (simp [*, errW_none, errW_some] <;> rfl), by first | exact Kd.S_nil _ _ _ _ _ | exact Kd.N_nil _ _ _ _ _ | exact Kd.V_nil _ _ _ _ _ | exact Kd.Q_nil _ _ _ _ _ | exact Kd.R_nil _ _ _ _ _, by repeat (first | (with_reducible first | exact HB.out | apply below_alloc | apply pw_below_drewN | apply below_drew1 | refine below_set ?_ GE540.out) | exact HB.out)⟩
            ·
             rw [if_neg c32] at H
             exact absurd H (by simp)
           ·
            rw [if_neg c31] at H
            exact absurd H (by simp)
          ·
           rw [if_neg c30] at H
           exact absurd H (by simp)
      ·
       rw [if_neg c21] at H
       have c21b0 := decide_eq_false c21
       clear c21
       replace H := Option.bind_eq_some_iff.mp H
       obtain ⟨t528, A690, H⟩ := H
       replace H : (if t528 = true then (some (x6_1, 0)) else (some (([] : List (List (S40))), 4))) = some (r1, r2) := H
       have A69 := Aside0.mk A690
       clear A690
       by_cases c70 : t528 = true
       ·
        subst c70
        rw [if_pos rfl] at H
        simp only [Option.some.injEq, Prod.mk.injEq] at H
        obtain ⟨rfl, rfl⟩ := H
        obtain ⟨Ao71, co71, eo71⟩ := Kd.S_slice HO_6.out
        subst eo71
        go_wp2_with (first | ((with_reducible refine gate_callee (f := 19) rfl ?_); refine goesL_ (some 105) rfl rfl Tryd.func19 (by kernel_rfl) rfl #[.slice Ao71 x6_1.length co71] rfl ap3 ?_; (with_reducible refine (R15Right.calls k1 _ _ x6_1 true _ ?side1 ?side2 A69.out).mono ?_); (case side1 => repeat (first | exact (Kd.S_reads' HO_6.out).2.2 | (with_reducible refine Kd.C_alloc ?_ _) | (with_reducible refine Kd.C_drewN ?_ _) | (with_reducible refine Kd.C_drew ?_))); (case side2 => exact (Kd.S_reads' HO_6.out).2.1); rintro e w72 ⟨rfl, hb⟩; refine ⟨_, rfl, ?_⟩; have n0_ := Aside0.mk (Kd.R_below (apAR HO_4.out) hb); have n1_ := Aside0.mk (Kd.S_below (apAS HO_6.out) hb); have n2_ := Aside0.mk (Kd.R_below (apAR HO_7.out) hb); have n3_ := Aside0.mk (below_step ap1 hb); clear HO_4; clear HO_6; clear HO_7; clear HB; have HO_4 := n0_; have HO_6 := n1_; have HO_7 := n2_; have HB := n3_; clear n0_ n1_ n2_ n3_; (try clear hb); (try clear hb2); (try clear hk); (try clear hi)))
        go_ret2
        exact ⟨_, by first | rfl | (simp [errW_none, errW_some, bne_nil8, beq_nil8]; done) | (simp [errW_none, errW_some] <;> rfl) | (simp [*, errW_none, errW_some] <;> rfl), by (with_reducible repeat (first | apply Kd.S_alloc | apply Kd.S_drewN | apply Kd.S_drew)); exact Kd.S_mono HO_6.out (fun _ hk => trivial), by repeat (first | (with_reducible first | exact HB.out | apply below_alloc | apply pw_below_drewN | apply below_drew1) | exact HB.out)⟩
       ·
        replace c70 := Bool.eq_false_iff.mpr c70
        subst c70
        rw [if_neg (show ¬ (false = true) by decide)] at H
        simp only [Option.some.injEq, Prod.mk.injEq] at H
        obtain ⟨rfl, rfl⟩ := H
        obtain ⟨Ao73, co73, eo73⟩ := Kd.S_slice HO_6.out
        subst eo73
        go_wp2_with (first | ((with_reducible refine gate_callee (f := 19) rfl ?_); refine goesL_ (some 105) rfl rfl Tryd.func19 (by kernel_rfl) rfl #[.slice Ao73 x6_1.length co73] rfl ap3 ?_; (with_reducible refine (R15Right.calls k1 _ _ x6_1 false _ ?side1 ?side2 A69.out).mono ?_); (case side1 => repeat (first | exact (Kd.S_reads' HO_6.out).2.2 | (with_reducible refine Kd.C_alloc ?_ _) | (with_reducible refine Kd.C_drewN ?_ _) | (with_reducible refine Kd.C_drew ?_))); (case side2 => exact (Kd.S_reads' HO_6.out).2.1); rintro e w74 ⟨rfl, hb⟩; refine ⟨_, rfl, ?_⟩; have n0_ := Aside0.mk (Kd.R_below (apAR HO_4.out) hb); have n1_ := Aside0.mk (Kd.S_below (apAS HO_6.out) hb); have n2_ := Aside0.mk (Kd.R_below (apAR HO_7.out) hb); have n3_ := Aside0.mk (below_step ap1 hb); clear HO_4; clear HO_6; clear HO_7; clear HB; have HO_4 := n0_; have HO_6 := n1_; have HO_7 := n2_; have HB := n3_; clear n0_ n1_ n2_ n3_; (try clear hb); (try clear hb2); (try clear hk); (try clear hi)))
        go_ret2
        exact ⟨_, by first | rfl | (simp [errW_none, errW_some, bne_nil8, beq_nil8]; done) | (simp [errW_none, errW_some] <;> rfl) | (simp [*, errW_none, errW_some] <;> rfl), by first | exact Kd.S_nil _ _ _ _ _ | exact Kd.N_nil _ _ _ _ _ | exact Kd.V_nil _ _ _ _ _ | exact Kd.Q_nil _ _ _ _ _ | exact Kd.R_nil _ _ _ _ _, by repeat (first | (with_reducible first | exact HB.out | apply below_alloc | apply pw_below_drewN | apply below_drew1) | exact HB.out)⟩
  ·
   replace c4 := Bool.eq_false_iff.mpr c4
   subst c4
   rw [if_neg (show ¬ (false = true) by decide)] at H
   simp only [Option.some.injEq, Prod.mk.injEq] at H
   obtain ⟨rfl, rfl⟩ := H
   go_enter Tryd.func13, Tryd.ntmps13
   go_wp2_with (first | ((with_reducible refine gate_callee (f := 36) rfl ?_); refine goesL_ (some 17) rfl rfl Tryd.func36 (by kernel_rfl) rfl #[.string a0] rfl ap3 ?_; (with_reducible refine (R15Signs.calls k a0 t515 false _ A3.out).mono ?_); rintro e w75 ⟨v517, rfl, ho0, hb⟩; refine ⟨_, rfl, ?_⟩; have n0_ := Aside0.mk (Kd.R_lower ho0 (below_size ap1)); have n1_ := Aside0.mk (below_step ap1 hb); clear HB; have HO518 := n0_; have HB := n1_; clear n0_ n1_; (try clear hb); (try clear hb2); (try clear hk); (try clear hi); (try clear ho0)))
   go_ret2
   exact ⟨_, by first | rfl | (simp [errW_none, errW_some, bne_nil8, beq_nil8]; done) | (simp [errW_none, errW_some] <;> rfl) | (simp [*, errW_none, errW_some] <;> rfl), by first | exact Kd.S_nil _ _ _ _ _ | exact Kd.N_nil _ _ _ _ _ | exact Kd.V_nil _ _ _ _ _ | exact Kd.Q_nil _ _ _ _ _ | exact Kd.R_nil _ _ _ _ _, by repeat (first | (with_reducible first | exact HB.out | apply below_alloc | apply pw_below_drewN | apply below_drew1) | exact HB.out)⟩
end Go.Proofs.YtkklacijhmoopaaDoor.Print
namespace Go.Proofs.YtkklacijhmoopaaDoor.Print
open Go.RowKit Go.Proofs.YtkklacijhmoopaaDoorW.PrintWords Go.Proofs.YtkklacijhmoopaaDoorW.PrintLast Go.Proofs.YtkklacijhmoopaaDoorW.PrintMore Go.Proofs.YtkklacijhmoopaaDoor.Pure
set_option linter.unusedVariables false
set_option linter.unusedSimpArgs false
abbrev NOut := List (List AvaS) × Int
theorem take_succ_drop {L : List Sg} {i f : Nat} {x : Sg} {r : List Sg} (h : L.drop i = x :: r) (hf : f ≤ i) : (L.take (i + 1)).drop f = (L.take i).drop f ++ [x] := by
  obtain ⟨g1, _, _⟩ := rdS_at h
  have hx : L[i] = x := by
    have := congrArg List.head? h
    rw [List.head?_drop, List.getElem?_eq_getElem g1] at this; simpa using this
  rw [List.take_succ_eq_append_getElem g1, hx, List.drop_append_of_le_length (by rw [List.length_take]; omega)]
theorem refparse_loop (L : List Sg) (hL : L.length ≤ 1000000) : ∀ (n i f : Nat) (rdn : List Pr) (N0 : List (List Pr)), L.length - i = n → i ≤ L.length → f ≤ i → rdn.length ≤ i → N0.length ≤ i →
    (goP (L.drop i) ((L.take i).drop f) rdn N0 = none → Ev (fun k => R15Parse.l0 k (mkSs L) (mkN N0) (mkR rdn) (f : Int) (i : Int)) ([], 4)) ∧
    (∀ N b, goP (L.drop i) ((L.take i).drop f) rdn N0 = some N → Ev (fun k => R15Right.f k (mkN N)) b → Ev (fun k => R15Parse.l0 k (mkSs L) (mkN N0) (mkR rdn) (f : Int) (i : Int)) (if b = true then (mkN N, 0) else ([], 4))) := by
  intro n
  induction n with
  | zero =>
    intro i f rdn N0 hn hi hf hr0 hN0
    have hd : L.drop i = [] := List.drop_eq_nil_of_le (by omega)
    have hil : i = L.length := by omega
    obtain ⟨p1, p2⟩ := pair_ev ((L.take i).drop f) (by rw [List.length_drop, List.length_take]; omega)
    rw [show mkSs ((L.take i).drop f) = ((mkSs L).take i).drop f by unfold mkSs; rw [List.map_drop, List.map_take]] at p1 p2
    have hst : ∀ {o : NOut} {u v : ByteArray} {b : Bool}, Ev (fun k => R15Pair.f k (((mkSs L).take i).drop f)) (u, v, b) → Ev (fun k => if b = true then (R15Parse.l0 k (mkSs L) (mkN N0 ++ [mkR rdn ++ [(⟨u, v⟩ : AvaS)]]) [] ((i + 1 : Nat) : Int) ((i + 1 : Nat) : Int)) else (some (([] : List (List AvaS)), 4))) o → Ev (fun k => R15Parse.l0 k (mkSs L) (mkN N0) (mkR rdn) (f : Int) (i : Int)) o := by
      intro o u v b hp h
      refine Ev.step (fun k => by rw [R15Parse.l0]) ?_
      refine Ev.pos (by rw [mkSs_len]; omega) (Ev.neg (by rw [mkSs_len]; omega) ?_)
      refine Ev.step (fun k => by rw [R15Parse.j1]) ?_
      rw [Int.toNat_natCast, Int.toNat_natCast, wsucc (by omega)]
      refine Ev.neg (by simp) (Ev.pos (by omega) (Ev.pos (by omega) (Ev.pos (by rw [mkSs_len]; omega) (Ev.bind hp ?_))))
      cases b with
      | false => exact Ev.neg (by simp) (by simpa using h)
      | true =>
        refine Ev.pos rfl (Ev.pos (by rw [mkR_len]; omega) (Ev.bindc rfl (Ev.pos (by rw [mkSs_len]; omega) (Ev.pos (by rw [mkN_len]; omega) ?_))))
        simpa using h
    rw [hd, goP]
    cases hp : pair ((L.take i).drop f) with
    | none =>
      obtain ⟨u, v, h⟩ := p2 hp
      exact ⟨fun _ => hst h (Ev.neg (by simp) Ev.rfl'), fun N b h => by simp at h⟩
    | some a =>
      refine ⟨fun h => by simp at h, fun N b h hR => ?_⟩
      simp only [Option.map_some, Option.some.injEq] at h
      subst h
      refine hst (p1 a hp) (Ev.pos rfl ?_)
      refine Ev.step (fun k => by rw [R15Parse.l0]) ?_
      rw [show mkN N0 ++ [mkR rdn ++ [(⟨⟨a.1.toArray⟩, ⟨a.2.toArray⟩⟩ : AvaS)]] = mkN (N0 ++ [rdn ++ [a]]) by rw [← mkN_snoc, ← mkR_snoc]; rfl]
      refine Ev.neg (by rw [mkSs_len]; omega) (Ev.bind hR ?_)
      cases b with
      | true => exact Ev.pos rfl Ev.rfl'
      | false => exact Ev.neg (by simp) Ev.rfl'
  | succ n ih =>
    intro i f rdn N0 hn hi hf hr0 hN0
    cases hr : L.drop i with
    | nil => have := drop_nilS hr; omega
    | cons x r =>
      obtain ⟨g1, g2, g3⟩ := rdS_at hr
      have g2' : rd_T67 (mkSs L) (i : Int) = mkS x := g2
      have e44 : ((mkS x).f0 = 44) ↔ x.1 = 44 := ieq x.1 44
      have e59 : ((mkS x).f0 = 59) ↔ x.1 = 59 := ieq x.1 59
      have e43 : ((mkS x).f0 = 43) ↔ x.1 = 43 := ieq x.1 43
      have hst0 : ∀ {o : NOut}, Ev (fun k => R15Parse.j1 k (mkSs L) (mkN N0) (mkR rdn) (f : Int) (i : Int) (!(sep x))) o → Ev (fun k => R15Parse.l0 k (mkSs L) (mkN N0) (mkR rdn) (f : Int) (i : Int)) o := by
        intro o h
        refine Ev.step (fun k => by rw [R15Parse.l0]) ?_
        rw [g2']
        refine Ev.pos (by rw [mkSs_len]; omega) (Ev.pos (by rw [mkSs_len]; omega) (Ev.pos (by omega) ?_))
        by_cases h2 : x.2 = true
        · refine Ev.pos (show x.2 = true from h2) ?_
          by_cases h44 : x.1 = 44
          · refine Ev.pos (e44.2 h44) ?_
            rw [show sep x = true by simp [sep, h2, h44]] at h
            exact h
          · refine Ev.neg (fun h' => h44 (e44.1 h')) ?_
            by_cases h59 : x.1 = 59
            · refine Ev.pos (e59.2 h59) ?_
              rw [show sep x = true by simp [sep, h2, h59]] at h
              exact h
            · refine Ev.neg (fun h' => h59 (e59.1 h')) ?_
              have : ((mkS x).f0 == 43) = sep x := by
                rw [Bool.eq_iff_iff, beq_iff_eq, e43]; simp [sep, h2, h44, h59]
              rw [this]; exact h
        · refine Ev.neg (show ¬ x.2 = true from h2) ?_
          rw [show sep x = false by simp [sep, h2]] at h
          exact h
      rw [goP]
      by_cases hs : sep x = true
      · rw [if_pos hs]
        rw [hs] at hst0
        obtain ⟨p1, p2⟩ := pair_ev ((L.take i).drop f) (by rw [List.length_drop, List.length_take]; omega)
        rw [show mkSs ((L.take i).drop f) = ((mkSs L).take i).drop f by unfold mkSs; rw [List.map_drop, List.map_take]] at p1 p2
        have hst : ∀ {o : NOut} {u v : ByteArray} {b : Bool}, Ev (fun k => R15Pair.f k (((mkSs L).take i).drop f)) (u, v, b) → Ev (fun k => if b = true then (if (mkS x).f0 = 43 then (R15Parse.l0 k (mkSs L) (mkN N0) (mkR rdn ++ [(⟨u, v⟩ : AvaS)]) ((i + 1 : Nat) : Int) ((i + 1 : Nat) : Int)) else (R15Parse.l0 k (mkSs L) (mkN N0 ++ [mkR rdn ++ [(⟨u, v⟩ : AvaS)]]) [] ((i + 1 : Nat) : Int) ((i + 1 : Nat) : Int))) else (some (([] : List (List AvaS)), 4))) o → Ev (fun k => R15Parse.l0 k (mkSs L) (mkN N0) (mkR rdn) (f : Int) (i : Int)) o := by
          intro o u v b hp h
          refine hst0 ?_
          refine Ev.step (fun k => by rw [R15Parse.j1]) ?_
          rw [Int.toNat_natCast, Int.toNat_natCast, wsucc (by omega), g2']
          refine Ev.neg (by simp) (Ev.pos (by omega) (Ev.pos (by omega) (Ev.pos (by rw [mkSs_len]; omega) (Ev.bind hp ?_))))
          cases b with
          | false => exact Ev.neg (by simp) (by simpa using h)
          | true =>
            have h := (show Ev (fun k => if (mkS x).f0 = 43 then (R15Parse.l0 k (mkSs L) (mkN N0) (mkR rdn ++ [(⟨u, v⟩ : AvaS)]) ((i + 1 : Nat) : Int) ((i + 1 : Nat) : Int)) else (R15Parse.l0 k (mkSs L) (mkN N0 ++ [mkR rdn ++ [(⟨u, v⟩ : AvaS)]]) [] ((i + 1 : Nat) : Int) ((i + 1 : Nat) : Int))) o from Ev.congr (fun k => (if_pos rfl).symm) h)
            refine Ev.pos rfl (Ev.pos (by rw [mkR_len]; omega) (Ev.bindc rfl (Ev.neg (by rw [mkSs_len]; omega) (Ev.pos (by omega) (Ev.pos (by rw [mkSs_len]; omega) ?_)))))
            refine Ev.congr (fun k => ?_) h
            rw [if_pos (show (mkN N0).length < 5864062014805 by rw [mkN_len]; omega)]
        cases hp : pair ((L.take i).drop f) with
        | none =>
          obtain ⟨u, v, h⟩ := p2 hp
          exact ⟨fun _ => hst h (Ev.neg (by simp) Ev.rfl'), fun N b h => by simp at h⟩
        | some a =>
          simp only [Option.bind_some]
          have hst2 := fun {o : NOut} (h) => hst (o := o) (p1 a hp) (Ev.pos rfl h)
          by_cases hc : x.1 = 43
          · rw [if_pos hc]
            have hi2 := ih (i + 1) (i + 1) (rdn ++ [a]) N0 (by omega) (by omega) (Nat.le_refl _) (by simp; omega) (by omega)
            rw [g3, show (L.take (i + 1)).drop (i + 1) = [] from List.drop_eq_nil_of_le (by rw [List.length_take]; omega)] at hi2
            rw [show mkR rdn ++ [(⟨⟨a.1.toArray⟩, ⟨a.2.toArray⟩⟩ : AvaS)] = mkR (rdn ++ [a]) from mkR_snoc rdn a] at hst2
            have hst3 := fun {o : NOut} (h) => hst2 (o := o) (Ev.pos (e43.2 hc) h)
            exact ⟨fun h => hst3 (hi2.1 h), fun N b h hR => hst3 (hi2.2 N b h hR)⟩
          · rw [if_neg hc]
            have hi2 := ih (i + 1) (i + 1) [] (N0 ++ [rdn ++ [a]]) (by omega) (by omega) (Nat.le_refl _) (by simp) (by simp; omega)
            rw [g3, show (L.take (i + 1)).drop (i + 1) = [] from List.drop_eq_nil_of_le (by rw [List.length_take]; omega)] at hi2
            rw [show mkN N0 ++ [mkR rdn ++ [(⟨⟨a.1.toArray⟩, ⟨a.2.toArray⟩⟩ : AvaS)]] = mkN (N0 ++ [rdn ++ [a]]) by rw [← mkN_snoc, ← mkR_snoc]; rfl] at hst2
            have hst3 := fun {o : NOut} (h) => hst2 (o := o) (Ev.neg (fun h' => hc (e43.1 h')) h)
            exact ⟨fun h => hst3 (hi2.1 h), fun N b h hR => hst3 (hi2.2 N b h hR)⟩
      · rw [if_neg hs]
        have hsf : sep x = false := by simpa using hs
        rw [hsf] at hst0
        have hi2 := ih (i + 1) f rdn N0 (by omega) (by omega) (by omega) (by omega) (by omega)
        rw [g3, take_succ_drop hr hf] at hi2
        have hst : ∀ {o : NOut}, Ev (fun k => R15Parse.l0 k (mkSs L) (mkN N0) (mkR rdn) (f : Int) ((i + 1 : Nat) : Int)) o → Ev (fun k => R15Parse.l0 k (mkSs L) (mkN N0) (mkR rdn) (f : Int) (i : Int)) o := by
          intro o h
          refine hst0 (Ev.step (fun k => by rw [R15Parse.j1]) ?_)
          rw [wsucc (by omega)]
          exact Ev.pos rfl h
        exact ⟨fun h => hst (hi2.1 h), fun N b h hR => hst (hi2.2 N b h hR)⟩
theorem signsN_len : ∀ (n : Nat) (r : List UInt8) (L : List Sg), signsN n r = some L → L.length ≤ r.length
  | 0, r, L, h => by simp [signsN] at h
  | n + 1, [], L, h => by simp [signsN] at h; subst h; simp
  | n + 1, c :: r, L, h => by
    simp only [signsN] at h
    split at h
    · cases he : esc r with
      | none => rw [he] at h; simp at h
      | some x =>
        rw [he] at h
        simp only [Option.bind_some, Option.map_eq_some_iff] at h
        obtain ⟨L', h1, rfl⟩ := h
        have := signsN_len n x.2 L' h1
        have := esc_lt (x := x.1) (r' := x.2) he
        simp; omega
    · simp only [Option.map_eq_some_iff] at h
      obtain ⟨L', h1, rfl⟩ := h
      have := signsN_len n r L' h1
      simp; omega
theorem trim_nil {L : List Sg} : trim L = [] ↔ ∀ s ∈ L, isBlank s = true := by
  constructor
  · intro h
    obtain ⟨b1, b2, e, h1, h2⟩ := trim_split L
    rw [h, List.nil_append] at e
    intro s hs
    rw [e] at hs
    rcases List.mem_append.1 hs with hs | hs
    · exact h1 s hs
    · exact h2 s hs
  · intro h
    have := trim_blanks [] h
    rw [List.append_nil] at this
    rw [this]; rfl
theorem signs_blank (r : List UInt8) (L : List Sg) (h : signs r = some L) : trim L = [] ↔ r.dropWhile (· == 32) = [] := by
  rw [signs_blanks r] at h
  obtain ⟨L', hL', rfl⟩ := Option.map_eq_some_iff.1 h
  rw [trim_blanks _ (blank_bare (blanks_of r))]
  constructor
  · intro ht
    cases hr : r.dropWhile (· == 32) with
    | nil => rfl
    | cons c u =>
      exfalso
      have h32 : c ≠ 32 := by have := dw_head hr; simpa using this
      rw [hr] at hL'
      have hb := trim_nil.1 ht
      rw [signs_cons] at hL'
      split at hL'
      · cases hx : esc u with
        | none => rw [hx] at hL'; simp at hL'
        | some y =>
          rw [hx] at hL'
          simp only [Option.bind_some, Option.map_eq_some_iff] at hL'
          obtain ⟨M, _, rfl⟩ := hL'
          have := hb (y.1, false) (by simp)
          simp [isBlank] at this
      · simp only [Option.map_eq_some_iff] at hL'
        obtain ⟨M, _, rfl⟩ := hL'
        have := hb (c, true) (by simp)
        simp [isBlank, h32] at this
  · intro hr
    rw [hr, signs_nil] at hL'
    simp only [Option.some.injEq] at hL'
    subst hL'; rfl
theorem refparse_ev (s : ByteArray) (hs : s.size ≤ 100000) :
    (s.size > 1000 → Ev (fun k => R15Parse.f k s) ([], 5)) ∧
    (s.size ≤ 1000 → (bl s).dropWhile (· == 32) = [] → Ev (fun k => R15Parse.f k s) ([], 0)) ∧
    (s.size ≤ 1000 → (bl s).dropWhile (· == 32) ≠ [] → ((signs (bl s)).bind fun L => goP L [] [] []) = none → Ev (fun k => R15Parse.f k s) ([], 4)) ∧
    (s.size ≤ 1000 → (bl s).dropWhile (· == 32) ≠ [] → ∀ N b, ((signs (bl s)).bind fun L => goP L [] [] []) = some N → Ev (fun k => R15Right.f k (mkN N)) b → Ev (fun k => R15Parse.f k s) (if b = true then (mkN N, 0) else ([], 4))) := by
  refine ⟨fun h => ?_, ?_⟩
  · unfold R15Parse.f
    exact Ev.pos (by omega) Ev.rfl'
  obtain ⟨s1, s2⟩ := signs_ev s (by omega) (s.size + 1) 0 [] (Nat.zero_le _) (by omega) (Nat.le_refl _)
  rw [List.drop_zero] at s1 s2
  have hst : ∀ (h : s.size ≤ 1000) {o : NOut} {l : List SgS} {b : Bool}, Ev (fun k => R15Signs.l0 k s (mkSs []) ((0 : Nat) : Int)) (l, b) → Ev (fun k => if b = true then ((R15Trim.f k l).bind fun t522 => (if (t522.length : Int) = 0 then (some (([] : List (List AvaS)), 0)) else (R15Parse.l0 k l ([] : List (List AvaS)) (([] : List AvaS)) 0 0))) else (some (([] : List (List AvaS)), 4))) o → Ev (fun k => R15Parse.f k s) o := by
    intro h o l b h1 h2
    unfold R15Parse.f
    refine Ev.neg (by omega) (Ev.bind h1 ?_)
    exact h2
  refine ⟨fun h he => ?_, fun h hne hn => ?_, fun h hne N b hn hR => ?_⟩
  · have hsg : ∃ L, signs (bl s) = some L := by
      rw [signs_blanks, he, signs_nil]; exact ⟨_, rfl⟩
    obtain ⟨L, hL⟩ := hsg
    have hlen := signsN_len _ _ _ hL
    rw [bl_length] at hlen
    refine hst h (s2 L hL) (Ev.pos rfl ?_)
    rw [List.nil_append]
    refine Ev.bind (trim_ev L (by omega)) (Ev.pos ?_ Ev.rfl')
    rw [(signs_blank _ L hL).2 he]; rfl
  · cases hsg : signs (bl s) with
    | none => exact hst h (s1 hsg) (Ev.neg (by simp) Ev.rfl')
    | some L =>
      rw [hsg] at hn
      simp only [Option.bind_some] at hn
      have hlen := signsN_len _ _ _ hsg
      rw [bl_length] at hlen
      refine hst h (s2 L hsg) (Ev.pos rfl ?_)
      rw [List.nil_append]
      refine Ev.bind (trim_ev L (by omega)) (Ev.neg ?_ ?_)
      · rw [mkSs_len]
        intro h0
        exact hne ((signs_blank _ L hsg).1 (List.eq_nil_of_length_eq_zero (by omega)))
      · exact (refparse_loop L (by omega) _ 0 0 [] [] rfl (Nat.zero_le _) (Nat.le_refl _) (Nat.le_refl _) (Nat.le_refl _)).1 (by simpa using hn)
  · cases hsg : signs (bl s) with
    | none => rw [hsg] at hn; simp at hn
    | some L =>
      rw [hsg] at hn
      simp only [Option.bind_some] at hn
      have hlen := signsN_len _ _ _ hsg
      rw [bl_length] at hlen
      refine hst h (s2 L hsg) (Ev.pos rfl ?_)
      rw [List.nil_append]
      refine Ev.bind (trim_ev L (by omega)) (Ev.neg ?_ ?_)
      · rw [mkSs_len]
        intro h0
        exact hne ((signs_blank _ L hsg).1 (List.eq_nil_of_length_eq_zero (by omega)))
      · exact (refparse_loop L (by omega) _ 0 0 [] [] rfl (Nat.zero_le _) (Nat.le_refl _) (Nat.le_refl _) (Nat.le_refl _)).2 N b (by simpa using hn) hR
theorem getD_at {α : Type} {L : List α} {i : Nat} {x d : α} {r : List α} (h : L.drop i = x :: r) : i < L.length ∧ L.getD ((i : Int).toNat) d = x ∧ L.drop (i + 1) = r := by
  have h1 : i < L.length := by
    rcases Nat.lt_or_ge i L.length with h' | h'
    · exact h'
    · rw [List.drop_eq_nil_of_le h'] at h; cases h
  refine ⟨h1, ?_, ?_⟩
  · have h0 : L[i]? = some x := by
      have := congrArg List.head? h
      rw [List.head?_drop] at this; simpa using this
    rw [List.getD_eq_getElem?_getD, Int.toNat_natCast, h0]; rfl
  · have := congrArg List.tail h
    rw [List.tail_drop] at this; simpa using this
theorem rdA_at {L : List AvaS} {i : Nat} {x : AvaS} {r : List AvaS} (h : L.drop i = x :: r) : rd_T40 L (i : Int) = x := (getD_at h).2.1
theorem rdR_at {L : List (List AvaS)} {i : Nat} {x : List AvaS} {r : List (List AvaS)} (h : L.drop i = x :: r) : rd_L7 L (i : Int) = x := (getD_at h).2.1
def valueOk (s : ByteArray) : Bool := match readyOf true s with
  | some t => decide (s.size ≤ 255) && !t.isEmpty
  | none => false
theorem rightValue_ev (s : ByteArray) (hs : s.size ≤ 100000) : Ev (fun k => dn_rightValue.f k s) (valueOk s) := by
  unfold dn_rightValue.f valueOk
  have h := ready_ev s hs true
  cases hr : readyOf true s with
  | none =>
    rw [hr] at h
    refine Ev.bind h ?_
    by_cases hz : s.size ≤ 255
    · exact Ev.pos (by omega) (Ev.neg (show ¬ ((19 : Int) = 0) by decide) Ev.rfl')
    · exact Ev.neg (by omega) Ev.rfl'
  | some t =>
    rw [hr] at h
    refine Ev.bind h ?_
    dsimp only
    by_cases hz : s.size ≤ 255
    · refine Ev.pos (by omega) (Ev.pos rfl ?_)
      rw [Lib.toList_data, decide_eq_true hz]
      have : (t != ([] : List UInt8)) = (true && !t.isEmpty) := by cases t <;> rfl
      rw [← this]; exact Ev.rfl'
    · rw [decide_eq_false hz]
      exact Ev.neg (by omega) Ev.rfl'
theorem refValueOk_ev (s : ByteArray) (hs : s.size ≤ 100000) : Ev (fun k => R15Value.f k s) (valueOk s) := by
  unfold R15Value.f valueOk
  have h := refready_ev s hs true
  cases hr : readyOf true s with
  | none =>
    rw [hr] at h
    refine Ev.bind h ?_
    by_cases hz : s.size ≤ 255
    · exact Ev.pos (by omega) (Ev.neg (show ¬ ((19 : Int) = 0) by decide) Ev.rfl')
    · exact Ev.neg (by omega) Ev.rfl'
  | some t =>
    rw [hr] at h
    refine Ev.bind h ?_
    dsimp only
    by_cases hz : s.size ≤ 255
    · refine Ev.pos (by omega) (Ev.pos rfl ?_)
      rw [decide_eq_true hz]
      have : decide (((⟨t.toArray⟩ : ByteArray).size : Int) > 0) = (true && !t.isEmpty) := by
        rw [← bl_length]; cases t <;> simp [bl]
      rw [← this]; exact Ev.rfl'
    · rw [decide_eq_false hz]
      exact Ev.neg (by omega) Ev.rfl'
def szA (a : AvaS) : Prop := a.f0.size ≤ 100000 ∧ a.f1.size ≤ 100000
def rdnIn : List AvaS → List AvaS → Bool
  | _, [] => true
  | pre, a :: rest => typeOk (bl a.f0) && valueOk a.f1 && !(pre.any (sameType a)) && rdnIn (pre ++ [a]) rest
def rdnOk (l : List AvaS) : Bool := decide (1 ≤ l.length ∧ l.length ≤ 4) && rdnIn [] l
theorem rdnGo_ev : ∀ (l pre : List AvaS), (∀ a ∈ l, szA a) → Ev (fun k => rdnGo k pre l) (rdnIn pre l)
  | [], pre, _ => show Ev _ true from Ev.congr (fun k => by rw [rdnGo]) Ev.rfl'
  | a :: rest, pre, h => by
    have ha := h a (by simp)
    have ih := rdnGo_ev rest (pre ++ [a]) fun b hb => h b (by simp [hb])
    refine Ev.congr (fun k => by rw [rdnGo]) ?_
    rw [rdnIn]
    cases hp : pre.any (sameType a) with
    | true => exact Ev.pos rfl (by simpa using Ev.rfl')
    | false =>
      refine Ev.neg (by simp) (Ev.bind (rightType_ev a.f0 (by have := ha.1; omega)) ?_)
      cases ht : typeOk (bl a.f0) with
      | false => exact Ev.neg (by simp) (by simpa using Ev.rfl')
      | true =>
        refine Ev.pos rfl (Ev.bind (rightValue_ev a.f1 ha.2) ?_)
        cases hv : valueOk a.f1 with
        | false => exact Ev.neg (by simp) (by simpa using Ev.rfl')
        | true => exact Ev.pos rfl (by simpa using ih)
theorem rightRdn_ev (l : List AvaS) (h : ∀ a ∈ l, szA a) : Ev (fun k => dn_rightRdn.f k l) (rdnOk l) := by
  unfold dn_rightRdn.f rdnOk
  by_cases h1 : l.length < 1
  · rw [decide_eq_false (by omega)]; exact Ev.pos h1 Ev.rfl'
  by_cases h2 : l.length > 4
  · rw [decide_eq_false (by omega)]; exact Ev.neg h1 (Ev.pos h2 Ev.rfl')
  · rw [decide_eq_true (by omega), Bool.true_and]; exact Ev.neg h1 (Ev.neg h2 (rdnGo_ev l [] h))
theorem refRdn_loop (l : List AvaS) (hl : l.length ≤ 1000000) (h : ∀ a ∈ l, szA a) : ∀ (n i : Nat), l.length - i = n → i ≤ l.length → Ev (fun k => R15Rdn.l0 k l (i : Int)) (rdnIn (l.take i) (l.drop i)) := by
  intro n
  induction n with
  | zero =>
    intro i hn hi
    rw [List.drop_eq_nil_of_le (by omega), rdnIn]
    exact Ev.step (fun k => by rw [R15Rdn.l0]) (Ev.neg (by omega) Ev.rfl')
  | succ n ih =>
    intro i hn hi
    cases hr : l.drop i with
    | nil => have := List.drop_eq_nil_iff.1 hr; omega
    | cons a r =>
      obtain ⟨g1, _, g3⟩ := getD_at (d := z40) hr
      have g2 := rdA_at hr
      have ha : szA a := h a (by
        have : a ∈ l.drop i := by rw [hr]; simp
        exact List.mem_of_mem_drop this)
      have hnext := ih (i + 1) (by omega) (by omega)
      have htk : l.take (i + 1) = l.take i ++ [a] := by
        have := List.take_succ_eq_append_getElem g1
        rw [this]
        congr 2
        have h0 : l[i]? = some a := by
          have := congrArg List.head? hr
          rw [List.head?_drop] at this; simpa using this
        rw [List.getElem?_eq_getElem g1] at h0; simpa using h0
      rw [htk, g3] at hnext
      have hj2t : Ev (fun k => R15Rdn.j2 k l (i : Int) true) false := Ev.step (fun k => by rw [R15Rdn.j2]) (Ev.pos rfl Ev.rfl')
      have hin : ∀ (m j : Nat), i - j = m → j ≤ i → Ev (fun k => R15Rdn.l1 k l (i : Int) (j : Int)) (!(((l.take i).drop j).any (sameType a)) && rdnIn (l.take i ++ [a]) r) := by
        intro m
        induction m with
        | zero =>
          intro j hm hj
          have hd : (l.take i).drop j = [] := List.drop_eq_nil_of_le (by rw [List.length_take]; omega)
          rw [hd]
          refine Ev.step (fun k => by rw [R15Rdn.l1]) ?_
          rw [wsucc (p := i) (by omega)]
          refine Ev.neg (by omega) ?_
          simpa using hnext
        | succ m ihm =>
          intro j hm hj
          cases hd : (l.take i).drop j with
          | nil => have := List.drop_eq_nil_iff.1 hd; rw [List.length_take] at this; omega
          | cons b r2 =>
            obtain ⟨f1, _, f3⟩ := getD_at (d := z40) hd
            have hb : l.drop j = b :: l.drop (j + 1) := by
              have hjl : j < l.length := by rw [List.length_take] at f1; omega
              rw [List.drop_eq_getElem_cons hjl]
              congr 1
              have h0 : (l.take i)[j]? = some b := by
                have := congrArg List.head? hd
                rw [List.head?_drop] at this; simpa using this
              rw [List.getElem?_take_of_lt (by omega), List.getElem?_eq_getElem hjl] at h0
              simpa using h0
            have g4 := rdA_at hb
            have hi2 := ihm (j + 1) (by omega) (by omega)
            rw [f3] at hi2
            refine Ev.step (fun k => by rw [R15Rdn.l1]) ?_
            rw [g4, g2, wsucc (by omega)]
            refine Ev.pos (by omega) (Ev.pos (by omega) (Ev.pos (by omega) (Ev.pos (by omega) (Ev.pos (by omega) ?_))))
            rw [List.any_cons]
            by_cases he : b.f0.toList = a.f0.toList
            · rw [show sameType a b = true from beq_iff_eq.2 he]
              exact Ev.pos he (by simpa using Ev.rfl')
            · rw [show sameType a b = false from beq_eq_false_iff_ne.2 he]
              exact Ev.neg he (by simpa using hi2)
      have hj2f : Ev (fun k => R15Rdn.j2 k l (i : Int) false) (!((l.take i).any (sameType a)) && rdnIn (l.take i ++ [a]) r) := by
        refine Ev.step (fun k => by rw [R15Rdn.j2]) ?_
        refine Ev.neg (by simp) ?_
        have := hin i 0 rfl (Nat.zero_le _)
        rw [List.drop_zero] at this; exact this
      refine Ev.step (fun k => by rw [R15Rdn.l0]) ?_
      rw [g2, rdnIn]
      refine Ev.pos (by omega) (Ev.pos (by omega) (Ev.bind (refType_ev a.f0 (by have := ha.1; omega)) ?_))
      cases ht : typeOk (bl a.f0) with
      | false => exact Ev.neg (by simp) (by simpa using hj2t)
      | true =>
        refine Ev.pos rfl (Ev.bind (refValueOk_ev a.f1 ha.2) ?_)
        cases hv : valueOk a.f1 with
        | false => simpa using hj2t
        | true => simpa using hj2f
theorem refRdn_ev (l : List AvaS) (hl : l.length ≤ 1000000) (h : ∀ a ∈ l, szA a) : Ev (fun k => R15Rdn.f k l) (rdnOk l) := by
  have ht : Ev (fun k => R15Rdn.j0 k l true) false := Ev.step (fun k => by rw [R15Rdn.j0]) (Ev.pos rfl Ev.rfl')
  have hf : Ev (fun k => R15Rdn.j0 k l false) (rdnIn [] l) := by
    refine Ev.step (fun k => by rw [R15Rdn.j0]) ?_
    refine Ev.neg (by simp) ?_
    have := refRdn_loop l hl h _ 0 rfl (Nat.zero_le _)
    rw [List.take_zero, List.drop_zero] at this; exact this
  unfold R15Rdn.f rdnOk
  by_cases h1 : l.length < 1
  · rw [show decide (1 ≤ l.length ∧ l.length ≤ 4) = false from decide_eq_false (by omega)]; exact Ev.pos (by omega) ht
  refine Ev.neg (by omega) ?_
  by_cases h2 : l.length > 4
  · rw [show decide (1 ≤ l.length ∧ l.length ≤ 4) = false from decide_eq_false (by omega), show decide ((l.length : Int) > 4) = true from decide_eq_true (by omega)]; exact ht
  · rw [show decide (1 ≤ l.length ∧ l.length ≤ 4) = true from decide_eq_true (by omega), show decide ((l.length : Int) > 4) = false from decide_eq_false (by omega), Bool.true_and]; exact hf
def nameOk (n : List (List AvaS)) : Bool := decide (n.length ≤ 12) && n.all rdnOk
def szN (n : List (List AvaS)) : Prop := ∀ l ∈ n, l.length ≤ 1000000 ∧ ∀ a ∈ l, szA a
theorem right_loop (n : List (List AvaS)) (hl : n.length ≤ 1000000) (h : szN n) : ∀ (m i : Nat), n.length - i = m → i ≤ n.length → Ev (fun k => dn_Right.l0 k n (n.length : Int) (i : Int)) ((n.drop i).all rdnOk) := by
  intro m
  induction m with
  | zero =>
    intro i hm hi
    rw [List.drop_eq_nil_of_le (by omega)]
    show Ev _ true
    exact Ev.step (fun k => by rw [dn_Right.l0]) (Ev.neg (by omega) Ev.rfl')
  | succ m ih =>
    intro i hm hi
    cases hr : n.drop i with
    | nil => have := List.drop_eq_nil_iff.1 hr; omega
    | cons l r =>
      obtain ⟨g1, _, g3⟩ := getD_at (d := []) hr
      have g2 := rdR_at hr
      have hsz := h l (by
        have : l ∈ n.drop i := by rw [hr]; simp
        exact List.mem_of_mem_drop this)
      have hi2 := ih (i + 1) (by omega) (by omega)
      rw [g3] at hi2
      refine Ev.step (fun k => by rw [dn_Right.l0]) ?_
      rw [g2, wsucc (by omega), List.all_cons]
      refine Ev.pos (by omega) (Ev.pos (by omega) (Ev.pos (by omega) (Ev.bind (rightRdn_ev l hsz.2) ?_)))
      cases rdnOk l with
      | true => exact Ev.pos rfl (by simpa using hi2)
      | false => exact Ev.neg (by simp) (by simpa using Ev.rfl')
theorem right_ev (n : List (List AvaS)) (hl : n.length ≤ 1000000) (h : szN n) : Ev (fun k => dn_Right.f k n) (nameOk n) := by
  unfold dn_Right.f nameOk
  by_cases h1 : n.length ≤ 12
  · rw [decide_eq_true h1, Bool.true_and]
    refine Ev.neg (by omega) ?_
    have := right_loop n hl h _ 0 rfl (Nat.zero_le _)
    rw [List.drop_zero] at this; exact this
  · rw [decide_eq_false h1]; exact Ev.pos (by omega) Ev.rfl'
theorem refRight_ev (n : List (List AvaS)) (hl : n.length ≤ 1000000) (h : szN n) : Ev (fun k => R15Right.f k n) (nameOk n) := by
  have hloop : ∀ (m i : Nat), n.length - i = m → i ≤ n.length → Ev (fun k => R15Right.l0 k n (i : Int)) ((n.drop i).all rdnOk && decide (n.length ≤ 12)) := by
    intro m
    induction m with
    | zero =>
      intro i hm hi
      rw [List.drop_eq_nil_of_le (by omega)]
      rw [List.all_nil, Bool.true_and, show decide (n.length ≤ 12) = decide ((n.length : Int) ≤ 12) from decide_eq_decide.2 (by omega)]
      exact Ev.step (fun k => by rw [R15Right.l0]) (Ev.neg (by omega) Ev.rfl')
    | succ m ih =>
      intro i hm hi
      cases hr : n.drop i with
      | nil => have := List.drop_eq_nil_iff.1 hr; omega
      | cons l r =>
        obtain ⟨g1, _, g3⟩ := getD_at (d := []) hr
        have g2 := rdR_at hr
        have hsz := h l (by
          have : l ∈ n.drop i := by rw [hr]; simp
          exact List.mem_of_mem_drop this)
        have hi2 := ih (i + 1) (by omega) (by omega)
        rw [g3] at hi2
        refine Ev.step (fun k => by rw [R15Right.l0]) ?_
        rw [g2, wsucc (by omega), List.all_cons]
        refine Ev.pos (by omega) (Ev.pos (by omega) (Ev.bind (refRdn_ev l hsz.1 hsz.2) ?_))
        cases rdnOk l with
        | true => exact Ev.pos rfl (by simpa using hi2)
        | false => exact Ev.neg (by simp) (by simpa using Ev.rfl')
  have := hloop _ 0 rfl (Nat.zero_le _)
  rw [List.drop_zero, Bool.and_comm] at this
  exact this
end Go.Proofs.YtkklacijhmoopaaDoor.Print
namespace Go.Proofs.YtkklacijhmoopaaDoor.Print
open Go.RowKit Go.Proofs.YtkklacijhmoopaaDoorW.PrintWords Go.Proofs.YtkklacijhmoopaaDoorW.PrintLast Go.Proofs.YtkklacijhmoopaaDoorW.PrintMore
set_option linter.unusedVariables false
set_option linter.unusedSimpArgs false
def hexTab : Array UInt8 := #[48, 49, 50, 51, 52, 53, 54, 55, 56, 57, 97, 98, 99, 100, 101, 102]
def hexDig (n : Nat) : UInt8 := hexTab.getD n 0
theorem byte_getD (a : Array UInt8) (n : Nat) (h : n < (ByteArray.mk a).size) : (ByteArray.mk a)[n] = a.getD n 0 := by
  have h' : n < a.size := h
  show a[n] = _
  simp [Array.getD, h']
theorem hexDig_at (n : Nat) (h : n < (ByteArray.mk #[48, 49, 50, 51, 52, 53, 54, 55, 56, 57, 97, 98, 99, 100, 101, 102]).size) : (ByteArray.mk #[48, 49, 50, 51, 52, 53, 54, 55, 56, 57, 97, 98, 99, 100, 101, 102])[n] = hexDig n := byte_getD _ n h
theorem take_succ_by (a0 : ByteArray) (k : Nat) (h : k < a0.size) : a0.data.toList.take (k + 1) = a0.data.toList.take k ++ [a0[k]] := by
  have h' : k < a0.data.toList.length := by simpa using h
  rw [List.take_succ_eq_append_getElem h']
  rfl
def hexOf (l : List UInt8) : List UInt8 := l.flatMap fun c => [hexDig (c.toNat / 16), hexDig (c.toNat % 16)]
def b64_Hex.f (a0 : ByteArray) : Option ByteArray := if a0.size ≤ 1000000 then some ⟨(hexOf a0.data.toList).toArray⟩ else none
set_option maxHeartbeats 4000000 in
set_option maxRecDepth 1000000 in
theorem b64_Hex.calls (a0 : ByteArray) (r1 : ByteArray) (w : World) (h : b64_Hex.f a0 = some r1) :
    Calls Tryd.prog 66 #[.string a0] w fun e w' => e = .returned (.string r1) ∧ Below w.heap.size w w' := by
  have hsz : a0.size ≤ 1000000 := by unfold b64_Hex.f at h; by_cases c : a0.size ≤ 1000000 <;> simp_all
  have hof : (⟨(hexOf a0.data.toList).toArray⟩ : ByteArray) = r1 := by
    unfold b64_Hex.f at h; rw [if_pos hsz] at h; simpa using h
  subst hof
  clear h
  go_enter Tryd.func66, Tryd.ntmps66
  go_wp2
  go_loopw [7] (fun i wr => ∃ (k : Nat) (acc : List UInt8), k ≤ a0.size ∧ i = .int .i64 k ∧ Aside0 (Bld w.heap.size w.heap.size (Lib.byteCells acc) wr) ∧ Aside0 (Below w.heap.size w wr) ∧ Aside0 (acc = hexOf (a0.data.toList.take k)) ∧ Aside0 (acc.length = 2 * k)) (fun i _ => (a0.size - intOf i).toNat)
  case atStart =>
    exact ⟨0, [], Nat.zero_le _, rfl, ⟨Lib.IsBuilderF.of (Lib.fresh_isBuilder 89 5 w)⟩, ⟨(Below.refl _ w).alloc (Nat.le_refl _) _⟩, ⟨rfl⟩, ⟨by simp⟩⟩
  case round =>
    obtain ⟨k, acc, hk, rfl, HB, hbw, hacc, hacl⟩ := hrel
    by_cases hlt : k < a0.size
    · have hby : (a0[k].toNat : Int) < 256 := by have := a0[k].toNat_lt; omega
      go_wp2_with (go_at_call 67; first
        | ((with_reducible refine (bld_WriteByte w.heap.size w.heap.size _ _ _ g1.out (by have := hacl.out; simp only [List.length_append, Lib.byteCells_length, List.length_cons, List.length_nil]; omega) (by have := g2.out.size; have := hbw.out.size; omega)).mono ?_); rintro e w2 ⟨rfl, f1, f2, _⟩; replace f1 := Aside0.mk f1; replace f2 := Aside0.mk f2)
        | ((with_reducible refine (bld_WriteByte w.heap.size w.heap.size _ _ _ HB.out (by have := hacl.out; rw [Lib.byteCells_length]; omega) (by have := hbw.out.size; omega)).mono ?_); rintro e w1 ⟨rfl, g1, g2, _⟩; replace g1 := Aside0.mk g1; replace g2 := Aside0.mk g2))
      go_roundw
      case rel =>
        refine ⟨k + 1, acc ++ [hexDig (a0[k].toNat / 16), hexDig (a0[k].toNat % 16)], by omega, by go_num, ⟨?_⟩, ⟨hbw.out.trans (g2.out.trans f2.out)⟩, ⟨?_⟩, ⟨?_⟩⟩
        · have := f1.out
          rw [hexDig_at, hexDig_at] at this
          rw [Lib.byteCells_append]
          simpa [Lib.byteCells, List.append_assoc] using this
        · rw [hacc.out, take_succ_by a0 k hlt, hexOf, hexOf, List.flatMap_append]
          rfl
        · have := hacl.out; simp only [List.length_append, List.length_cons, List.length_nil]; omega
      case measure => simp [intOf]; omega
    · obtain rfl : k = a0.size := by omega
      obtain rfl : acc = hexOf a0.data.toList := by rw [hacc.out, List.take_of_length_le (by simp)]
      go_wp2_with (go_at_call 68; (with_reducible refine (bld_String w.heap.size w.heap.size _ _ HB.out ?h1).mono ?_); (case h1 => have := hbw.out.size; omega); rintro e w2 ⟨rfl, h2⟩; replace h2 := Aside0.mk h2)
      go_ret
      exact ⟨rfl, hbw.out.trans h2.out⟩
theorem conv_one (W : World) (c : Int) : (convert 72 9 (.slice (some ⟨W.heap.size, 0, none⟩) 1 1)).run Tryd.prog (W.alloc (.cells #[.int .u8 c] 5)) = .ok (.string (strOfNums [c])) (W.alloc (.cells #[.int .u8 c] 5)) := by
  refine string_of_reads (e := 5) Tryd.underlying72 Tryd.underlying5 Tryd.underlying9 ⟨rfl, by decide, fun _ => ⟨_, rfl, ?_⟩⟩
  intro j hj
  obtain rfl : j = 0 := by omega
  have hb : (W.alloc (.cells #[.int .u8 c] 5)).heap[W.heap.size]? = some (.cells #[.int .u8 c] 5 (0, 0)) := by simp only [World.alloc, Array.getElem?_push_size]
  show (W.alloc (.cells #[.int .u8 c] 5)).cell? ⟨W.heap.size, 0, none⟩ = _
  rw [Lib.cell_of_heap hb]
  rfl
theorem hex_one (c : UInt8) : b64_Hex.f (strOfNums [(c.toNat : Int)]) = some ⟨(hexOf [c]).toArray⟩ := by
  have e : strOfNums [(c.toNat : Int)] = ⟨#[c]⟩ := by simp [strOfNums]
  have hs : (ByteArray.mk #[c]).size ≤ 1000000 := by show 1 ≤ 1000000; omega
  rw [e]
  simp only [b64_Hex.f, if_pos hs]
def dnSigns : List UInt8 := [34, 43, 44, 59, 60, 61, 62, 92]
def dnPiece (n i : Nat) (c : UInt8) : List UInt8 :=
  if c.toNat < 32 ∨ c.toNat = 127 then 92 :: hexOf [c]
  else if (c.toNat = 32 ∧ (i = 0 ∨ i + 1 = n)) ∨ (c.toNat = 35 ∧ i = 0) ∨ 0 ≤ Lib.indexByte dnSigns c then [92, c] else [c]
theorem hexsz (c : UInt8) : (ByteArray.mk #[92] ++ ByteArray.mk (hexOf [c]).toArray).size = 3 := by
  simp [hexOf, ByteArray.size_append]; rfl
theorem strCells_cons (c : UInt8) (l : List UInt8) : Lib.strCells (⟨#[c]⟩ ++ ⟨l.toArray⟩) = Lib.byteCells (c :: l) := by
  simp [Lib.strCells_eq]
theorem dnPiece_hex (n i : Nat) (c : UInt8) (h : c.toNat < 32 ∨ c.toNat = 127) : dnPiece n i c = 92 :: hexOf [c] := by unfold dnPiece; rw [if_pos h]
theorem dnPiece_esc (n i : Nat) (c : UInt8) (h : ¬(c.toNat < 32 ∨ c.toNat = 127)) (h2 : (c.toNat = 32 ∧ (i = 0 ∨ i + 1 = n)) ∨ (c.toNat = 35 ∧ i = 0) ∨ 0 ≤ Lib.indexByte dnSigns c) : dnPiece n i c = [92, c] := by unfold dnPiece; rw [if_neg h, if_pos h2]
theorem dnPiece_bare (n i : Nat) (c : UInt8) (h : ¬(c.toNat < 32 ∨ c.toNat = 127)) (h2 : ¬((c.toNat = 32 ∧ (i = 0 ∨ i + 1 = n)) ∨ (c.toNat = 35 ∧ i = 0) ∨ 0 ≤ Lib.indexByte dnSigns c)) : dnPiece n i c = [c] := by unfold dnPiece; rw [if_neg h, if_neg h2]
theorem getD_by (a0 : ByteArray) (k : Nat) (h : k < a0.size) : a0.data.toList.getD k 0 = a0[k] := by
  have h' : k < a0.data.toList.length := by simpa using h
  rw [List.getD_eq_getElem?_getD, List.getElem?_eq_getElem h']
  rfl
theorem dnPiece_le (n i : Nat) (c : UInt8) : (dnPiece n i c).length ≤ 3 := by
  unfold dnPiece; split
  · simp [hexOf]
  · split <;> simp
theorem dnIdx32 : Lib.indexByte dnSigns 32 = -1 := by decide
theorem dnIdx35 : Lib.indexByte dnSigns 35 = -1 := by decide
theorem dnIdxF (c : UInt8) : strings_IndexByte.f ⟨#[34, 43, 44, 59, 60, 61, 62, 92]⟩ (c.toNat : Int) = some (Lib.indexByte dnSigns c) := by
  simp [strings_IndexByte.f, dnSigns]
theorem dnIdxF32 : strings_IndexByte.f ⟨#[34, 43, 44, 59, 60, 61, 62, 92]⟩ 32 = some (-1) := congrArg some dnIdx32
theorem dnIdxF35 : strings_IndexByte.f ⟨#[34, 43, 44, 59, 60, 61, 62, 92]⟩ 35 = some (-1) := congrArg some dnIdx35
def dnText (l : List UInt8) : List UInt8 := (List.range l.length).flatMap fun i => dnPiece l.length i (l.getD i 0)
def dn_value.f (a0 : ByteArray) : Option ByteArray := if a0.size ≤ 1000000 then some ⟨(dnText a0.data.toList).toArray⟩ else none
set_option maxHeartbeats 4000000 in
set_option maxRecDepth 1000000 in
theorem dn_value.calls (a0 : ByteArray) (r1 : ByteArray) (w : World) (h : dn_value.f a0 = some r1) :
    Calls Tryd.prog 39 #[.string a0] w fun e w' => e = .returned (.string r1) ∧ Below w.heap.size w w' := by
  have hsz : a0.size ≤ 1000000 := by unfold dn_value.f at h; by_cases c : a0.size ≤ 1000000 <;> simp_all
  have hof : (⟨(dnText a0.data.toList).toArray⟩ : ByteArray) = r1 := by
    unfold dn_value.f at h; rw [if_pos hsz] at h; simpa using h
  subst hof
  clear h
  have hL : a0.data.toList.length = a0.size := by simp
  have HL := Aside0.mk hL
  clear hL
  go_enter Tryd.func39, Tryd.ntmps39
  go_wp2
  go_loopw [9] (fun i wr => ∃ (k : Nat) (acc : List UInt8), k ≤ a0.size ∧ i = .int .i64 k ∧ Aside0 (Bld w.heap.size w.heap.size (Lib.byteCells acc) wr) ∧ Aside0 (Below w.heap.size w wr) ∧ Aside0 (acc = (List.range k).flatMap fun i => dnPiece a0.size i (a0.data.toList.getD i 0)) ∧ Aside0 (acc.length ≤ 3 * k)) (fun i _ => (a0.size - intOf i).toNat)
  case atStart =>
    exact ⟨0, [], Nat.zero_le _, rfl, ⟨Lib.IsBuilderF.of (Lib.fresh_isBuilder 89 5 w)⟩, ⟨(Below.refl _ w).alloc (Nat.le_refl _) _⟩, ⟨rfl⟩, ⟨by simp⟩⟩
  case round =>
    obtain ⟨k, acc, hk, rfl, HB, hbw, hacc, hacl⟩ := hrel
    by_cases hlt : k < a0.size
    · have hby : (a0[k].toNat : Int) < 256 := by have := a0[k].toNat_lt; omega
      have hcv := conv_one wr (a0[k].toNat : Int)
      have hca : Bld w.heap.size w.heap.size (Lib.byteCells acc) (wr.alloc (.cells #[.int .u8 (a0[k].toNat : Int)] 5)) := Lib.IsBuilderF.alloc HB.out _
      have hcb : Below w.heap.size w (wr.alloc (.cells #[.int .u8 (a0[k].toNat : Int)] 5)) := hbw.out.alloc (by have := hbw.out.size; omega) _
      replace hca := Aside0.mk hca
      replace hcb := Aside0.mk hcb
      have HH := hex_one a0[k]
      replace HH := Aside0.mk HH
      obtain ⟨z, hz⟩ : ∃ z, z = Lib.indexByte dnSigns a0[k] := ⟨_, rfl⟩
      have HI := hz ▸ dnIdxF a0[k]
      have HI1 := dnIdxF32
      have HI2 := dnIdxF35
      have hz1 : a0[k].toNat = 32 → z = -1 := by
        intro e; rw [hz, show a0[k] = 32 from UInt8.toNat_inj.1 e]; exact dnIdx32
      have hz2 : a0[k].toNat = 35 → z = -1 := by
        intro e; rw [hz, show a0[k] = 35 from UInt8.toNat_inj.1 e]; exact dnIdx35
      replace HI := Aside0.mk HI
      replace HI1 := Aside0.mk HI1
      replace HI2 := Aside0.mk HI2
      replace hz1 := Aside0.mk hz1
      replace hz2 := Aside0.mk hz2
      replace hz := Aside0.mk hz
      have HBn : Aside0 (∀ n, Bld w.heap.size w.heap.size (Lib.byteCells acc) (wr.drewN n)) := ⟨fun n => bld_drewN HB.out n⟩
      have hbn : Aside0 (∀ n, Below w.heap.size w (wr.drewN n)) := ⟨fun n => by apply pw_below_drewN; exact hbw.out⟩
      go_wp2_with (first
        | (go_at_call 50; first
            | ((with_reducible refine (strings_IndexByte.calls _ _ _ _ HI.out).mono ?_); rintro e w2 ⟨rfl, ⟨nd, rfl⟩⟩)
            | ((with_reducible refine (strings_IndexByte.calls _ _ _ _ HI1.out).mono ?_); rintro e w2 ⟨rfl, ⟨nd, rfl⟩⟩)
            | ((with_reducible refine (strings_IndexByte.calls _ _ _ _ HI2.out).mono ?_); rintro e w2 ⟨rfl, ⟨nd, rfl⟩⟩))
        | (go_at_call 66; (with_reducible refine (b64_Hex.calls _ _ _ HH.out).mono ?_); rintro e w2 ⟨rfl, h2⟩; have hcc := Aside0.mk (Lib.IsBuilderF.below hca.out h2); replace h2 := Aside0.mk (hcb.out.trans (h2.mono hcb.out.size)))
        | (go_at_call 65; (with_reducible refine (bld_WriteString w.heap.size w.heap.size _ _ _ hcc.out (by have := hacl.out; rw [Lib.byteCells_length, hexsz]; omega) (by exact h2.out.size)).mono ?_); rintro e w1 ⟨rfl, f1, f2, _⟩; replace f1 := Aside0.mk f1; replace f2 := Aside0.mk (h2.out.trans f2))
        | (go_at_call 67; first
          | ((with_reducible refine (bld_WriteByte w.heap.size w.heap.size _ _ _ g1.out (by have := hacl.out; simp only [List.length_append, Lib.byteCells_length, List.length_cons, List.length_nil]; omega) (by have := g2.out.size; omega)).mono ?_); rintro e w2 ⟨rfl, f1, f2, _⟩; replace f1 := Aside0.mk f1; replace f2 := Aside0.mk (g2.out.trans f2))
          | ((with_reducible refine (bld_WriteByte w.heap.size w.heap.size _ _ _ HB.out (by have := hacl.out; rw [Lib.byteCells_length]; omega) (by exact hbw.out.size)).mono ?_); rintro e w1 ⟨rfl, g1, g2, _⟩; replace g1 := Aside0.mk g1; replace g2 := Aside0.mk (hbw.out.trans g2))
          | ((with_reducible refine (bld_WriteByte w.heap.size w.heap.size _ _ _ (HBn.out nd) (by have := hacl.out; rw [Lib.byteCells_length]; omega) ((hbn.out nd).size)).mono ?_); rintro e w1 ⟨rfl, g1, g2, _⟩; replace g1 := Aside0.mk g1; replace g2 := Aside0.mk ((hbn.out nd).trans g2))))
      all_goals go_roundw
      all_goals (try (case measure => simp [intOf]; omega))
      all_goals (clear HI HI1 HI2 HH hcv hca hcb; try simp only [beq_iff_eq, beq_eq_false_iff_ne, ne_eq] at *)
      all_goals
        refine ⟨k + 1, acc ++ dnPiece a0.size k a0[k], by omega, by go_num, ⟨?_⟩, ⟨by first | exact f2.out | exact g2.out⟩, ⟨?_⟩, ⟨?_⟩⟩
        · rw [Lib.byteCells_append]
          first
          | (rw [dnPiece_esc a0.size k a0[k] (by omega) (by have := hz.out; have := hz1.out; have := hz2.out; omega)]; have := f1.out; simp only [List.append_assoc, List.cons_append, List.nil_append] at this; simp only [Lib.byteCells, List.map_cons, List.map_nil]; first | exact this | (rw [show (a0[k].toNat : Int) = 32 from by omega]; exact this) | (rw [show (a0[k].toNat : Int) = 35 from by omega]; exact this))
          | (rw [dnPiece_bare a0.size k a0[k] (by omega) (by have := hz.out; have := hz1.out; have := hz2.out; omega)]; have := g1.out; simp only [Lib.byteCells, List.map_cons, List.map_nil]; first | exact this | (rw [show (a0[k].toNat : Int) = 32 from by omega]; exact this) | (rw [show (a0[k].toNat : Int) = 35 from by omega]; exact this))
          | (rw [dnPiece_hex a0.size k a0[k] (by omega)]; have := f1.out; rw [strCells_cons] at this; exact this)
          | (exfalso; omega)
        · rw [hacc.out, List.range_succ, List.flatMap_append]
          simp only [List.flatMap_cons, List.flatMap_nil, List.append_nil]
          rw [getD_by a0 k hlt]
        · have := dnPiece_le a0.size k a0[k]; have := hacl.out; simp only [List.length_append]; omega
    · obtain rfl : k = a0.size := by omega
      obtain rfl : acc = dnText a0.data.toList := by rw [hacc.out, dnText, HL.out]
      go_wp2_with (go_at_call 68; (with_reducible refine (bld_String w.heap.size w.heap.size _ _ HB.out ?h1).mono ?_); (case h1 => have := hbw.out.size; omega); rintro e w2 ⟨rfl, h2⟩; replace h2 := Aside0.mk h2)
      go_ret
      exact ⟨rfl, hbw.out.trans h2.out⟩
end Go.Proofs.YtkklacijhmoopaaDoor.Print
namespace Go.Proofs.YtkklacijhmoopaaDoor.Print
open Go.RowKit Go.Proofs.YtkklacijhmoopaaDoorW.PrintWords Go.Proofs.YtkklacijhmoopaaDoorW.PrintLast Go.Proofs.YtkklacijhmoopaaDoorW.PrintMore
attribute [local go_sem] max2_int min2_int max_two min_two max_three min_three max_four min_four
set_option linter.unusedVariables false
set_option linter.unusedSimpArgs false
mutual
def dn_Print.l0 : Nat → List ByteArray → List (List (S40)) → Int → Int → Option (ByteArray × Int)
 | 0, _, _, _, _ => none
 | k + 1, x4, x14, x15, x16 => if x16 < x15 then (if 0 ≤ x16 then (if x16 < (x14.length : Int) then (dn_Print.l1 k x4 ([] : List ByteArray) x14 x15 x16 (rd_L7 x14 x16) ((rd_L7 x14 x16).length : Int) 0) else (none)) else (none)) else ((strings_Join.f x4 (⟨#[44]⟩ : ByteArray)).bind fun t341 => (if (t341.size : Int) > 1000 then (some ((⟨#[]⟩ : ByteArray), 5)) else (some (t341, 0))))
def dn_Print.l1 : Nat → List ByteArray → List ByteArray → List (List (S40)) → Int → Int → List (S40) → Int → Int → Option (ByteArray × Int)
 | 0, _, _, _, _, _, _, _, _ => none
 | k + 1, x4, x7, x14, x15, x16, x20, x21, x22 => if x22 < x21 then (if 0 ≤ x22 then (if x22 < (x20.length : Int) then (if ((rd_T40 x20 x22).f0).size + 1 ≤ 9223372036854775807 then ((dn_value.f ((rd_T40 x20 x22).f1)).bind fun t345 => (if (((rd_T40 x20 x22).f0) ++ (⟨#[61]⟩ : ByteArray)).size + t345.size ≤ 9223372036854775807 then (if x7.length < 8796093022208 then (dn_Print.l1 k x4 (x7 ++ [(((rd_T40 x20 x22).f0) ++ (⟨#[61]⟩ : ByteArray)) ++ t345]) x14 x15 x16 x20 x21 (wrap64 (x22 + 1))) else (none)) else (none))) else (none)) else (none)) else (none)) else ((strings_Join.f x7 (⟨#[43]⟩ : ByteArray)).bind fun t349 => (if x4.length < 8796093022208 then (dn_Print.l0 k (x4 ++ [t349]) x14 x15 (wrap64 (x16 + 1))) else (none)))
end
def dn_Print.f (k : Nat) (l0 : List (List (S40))) : Option (ByteArray × Int) := (dn_Right.f k l0).bind fun t340 => (if t340 = true then (dn_Print.l0 k ([] : List ByteArray) l0 (l0.length : Int) 0) else (some ((⟨#[]⟩ : ByteArray), 4)))
def dn_Print.T11 : Bool × List (List Nat × List Nat) := (true, [([], []), ([], []), ([1], [1]), ([2], [2]), ([], []), ([4], [4]), ([5], [5]), ([3, 6], [3, 6]), ([7], [7]), ([0, 8, 6], [0, 8]), ([9, 9, 0, 1, 2, 3, 4, 5, 6, 7, 8, 9], [0, 9])])
def dn_Print.B11 : List Nat := [0, 0, 2, 6, 0, 16, 48, 126, 254, 511, 1023]
theorem dn_Print.tab11 : rtab .any (opsOf Tryd.f16 11) = dn_Print.T11 := by kernel_rfl
theorem dn_Print.bits11 : waitsOk dn_Print.T11.2 dn_Print.B11 = true := by kernel_rfl
end Go.Proofs.YtkklacijhmoopaaDoor.Print
