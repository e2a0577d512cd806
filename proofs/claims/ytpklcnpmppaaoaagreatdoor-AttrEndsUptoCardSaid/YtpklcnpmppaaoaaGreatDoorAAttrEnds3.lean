-- laid together by pack.py (a program of this session)
import Derived.Test.YtpklcnpmppaaoaaGreatDoorAAttrEnds2
namespace Go.Proofs.YtpklcnpmppaaoaaGreatDoor.Print
open Go.RowKit Go.Proofs.YtpklcnpmppaaoaaGreatDoorW.PrintWords Go.Proofs.YtpklcnpmppaaoaaGreatDoorW.PrintLast Go.Proofs.YtpklcnpmppaaoaaGreatDoorW.PrintMore
attribute [local go_sem] max2_int min2_int max_two min_two max_three min_three max_four min_four
set_option linter.unusedVariables false
set_option linter.unusedSimpArgs false
set_option maxHeartbeats 8000000 in
set_option maxRecDepth 100000 in
theorem R13Mapped.calls (k : Nat) (a0 : ByteArray) (a1 : Bool) (r1 : List Int) (r2 : Int) (w : World) (h : R13Mapped.f k a0 a1 = some (r1, r2)) :
  Calls Tryz.prog 40 #[.string a0, .bool a1] w fun e w' => ∃ v0_ : Value, e = .returned (.tuple #[v0_, .int .i64 r2]) ∧ Kd.R (Kd.int .i32) 21 w' w.heap.size (fun _ => True) v0_ r1 ∧ Below w.heap.size w w' := by
 have HB := Aside0.mk (Below.refl w.heap.size w)
 have H : ((R13Runes.f k a0).bind fun bt486 => (R13Mapped.l0 k a1 bt486.1 bt486.2 (([] : List Int)) 0)) = some (r1, r2) := h
 clear h
 replace H := Option.bind_eq_some_iff.mp H
 obtain ⟨⟨t486, t487⟩, A30, H⟩ := H
 replace H : (R13Mapped.l0 k a1 t486 t487 (([] : List Int)) 0) = some (r1, r2) := H
 have A3 := Aside0.mk A30
 clear A30
 obtain ⟨y490, hy490⟩ : ∃ y_ : List Int, y_ = (([] : List Int)) := ⟨_, rfl⟩
 replace H : (R13Mapped.l0 k a1 t486 t487 y490 0) = some (r1, r2) := by first | (rw [hy490]; with_reducible exact H) | (have H2_ := (Option.bind_some _ _).symm.trans H; rw [hy490]; with_reducible exact H2_) | (have H2_ := (Option.bind_some _ _).symm.trans H; with_reducible exact H2_) | with_reducible exact H | (rw [hy490]; exact H) | exact H
 have Ny490 := Aside0.mk hy490
 clear hy490
 have H' := Aside0.mk H
 clear H
 go_enter Tryz.func40, Tryz.ntmps40
 go_wp2_with (first | ((with_reducible refine gate_callee (f := 62) rfl ?_); refine goesL_ (some 13) rfl rfl Tryz.func62 (by kernel_rfl) rfl #[.string a0] rfl ap3 ?_; (with_reducible refine (R13Runes.calls k a0 t486 t487 _ A3.out).mono ?_); rintro e w4 ⟨v488, rfl, ho0, hb⟩; refine ⟨_, rfl, ?_⟩; have n0_ := Aside0.mk (Kd.R_lower ho0 (below_size ap1)); have n1_ := Aside0.mk (below_step ap1 hb); clear HB; have HO489 := n0_; have HB := n1_; clear n0_ n1_; (try clear hb); (try clear hb2); (try clear hk); (try clear hi); (try clear ho0)) | ((with_reducible refine gate_dst (N := 16) rfl ?_); refine Kd.R_lit (Kd.int .i32) _ 21 ?hg (N := 16) ?hd (xs := ([] : List Int)) (inner := []) (ok := fun _ => True) (okp := fun _ => True) ?hr ?hp (fun _ hk => hk) trivial (Below.refl _ _) (Nat.le_refl _) (by simp) ?_; (case hd => rfl); (case hg => rfl); (case hr => first | (go_simp; done) | (go_simp; rfl)); (case hp => exact (Reps.none _ _)); intro v491 w5 ho6 hb hg_ hnew_; clear hg_ hnew_; (first | rw [← Ny490.out] at ho6 | (simp only [Int.reduceToNat] at ho6; rw [← Ny490.out] at ho6)); have n0_ := Aside0.mk (Kd.R_elder' (apAR HO489.out) (Kd.R_base ho6) hb); have n1_ := Aside0.mk (Kd.R_lower (Kd.R_new' ho6 (Kd.R_lt (apAR HO489.out))) (below_size ap1)); have n2_ := Aside0.mk (below_step ap1 hb); clear HO489; clear HB; have HO489 := n0_; have HO492 := n1_; have HB := n2_; clear n0_ n1_ n2_; clear hb ho6))
 go_loopg [8, 9] k (fun kq v8 v9 w' => ∃ (x8_1 : List Int) (x9_1 : Int), v9 = .int .i64 x9_1 ∧ Aside0 (R13Mapped.l0 kq a1 t486 t487 x8_1 x9_1 = some (r1, r2)) ∧ Aside0 (kq ≤ k) ∧ Aside0 (Kd.R (Kd.int .i32) 21 w' w.heap.size (fun k_ => some k_ ≠ (v8 : Value).ownBlock) v488 t486) ∧ Aside0 (Kd.R (Kd.int .i32) 21 w' w.heap.size (fun k_ => some k_ ≠ (v488 : Value).ownBlock) v8 x8_1) ∧ Aside0 (Below w.heap.size w w'))
 case atStart => exact ⟨(y490), (0), ap2, H', ⟨Nat.le_refl _⟩, ⟨by (with_reducible repeat (first | apply Kd.R_alloc | apply Kd.R_drewN | apply Kd.R_drew)); exact Kd.R_mono HO489.out (fun _ hk => hk.2)⟩, ⟨by (with_reducible repeat (first | apply Kd.R_alloc | apply Kd.R_drewN | apply Kd.R_drew)); exact Kd.R_mono HO492.out (fun _ hk => hk.2)⟩, ⟨by repeat (first | (with_reducible first | exact HB.out | apply below_alloc | apply pw_below_drewN | apply below_drew1) | exact HB.out)⟩⟩
 case round =>
  clear H'
  try clear p2
  try clear c4
  try clear c6
  obtain ⟨x8_1, x9_1, rfl, HA, HK1, HO_6, HO_8, HB⟩ := hrel
  cases gk with
  | zero => exact absurd HA.out (by simp [R13Mapped.l0])
  | succ k1 =>
   have H := HA.out
   clear HA
   simp only [R13Mapped.l0] at H
   by_cases c7 : x9_1 < (t486.length : Int)
   ·
    rw [if_pos c7] at H
    have c7b0 := decide_eq_true c7
    clear c7
    by_cases c8 : 0 ≤ x9_1
    ·
     rw [if_pos c8] at H
     have c8b0 := decide_eq_true c8
     clear c8
     replace H := Option.bind_eq_some_iff.mp H
     obtain ⟨t494, A90, H⟩ := H
     replace H : (if t494 = true then (R13Mapped.l0 k1 a1 t486 t487 x8_1 (wrap64 (x9_1 + 1))) else ((R13Blank.f (rd t486 x9_1)).bind fun t495 => (if t495 = true then (if x8_1.length < 35184372088832 then (R13Mapped.l0 k1 a1 t486 t487 (x8_1 ++ [32]) (wrap64 (x9_1 + 1))) else (none)) else (if a1 = true then ((R13Small.f k1 (rd t486 x9_1)).bind fun t499 => (if x8_1.length < 35184372088832 then (R13Mapped.l0 k1 a1 t486 t487 (x8_1 ++ [t499]) (wrap64 (x9_1 + 1))) else (none))) else (if x8_1.length < 35184372088832 then (R13Mapped.l0 k1 a1 t486 t487 (x8_1 ++ [rd t486 x9_1]) (wrap64 (x9_1 + 1))) else (none)))))) = some (r1, r2) := H
     have A9 := Aside0.mk A90
     clear A90
     by_cases c10 : t494 = true
     ·
      subst c10
      rw [if_pos rfl] at H
      have H' := Aside0.mk H
      clear H
      obtain ⟨Ao11, co11, eo11⟩ := Kd.R_slice HO_6.out
      subst eo11
      have p493 : 0 ≤ (x9_1 : Int) := of_decide_eq_true ap0
      have q493 : x9_1 < (t486.length : Int) := of_decide_eq_true ap0
      obtain ⟨ad493, e493, hx493_0⟩ := Kd.at_int (Kd.R_reads' HO_6.out).2.2 x9_1 p493 q493
      cases e493
      replace p493 := eq_true p493
      replace q493 := eq_true q493
      go_wp2_with (first | ((with_reducible refine gate_callee (f := 63) rfl ?_); refine goesL_ (some 28) rfl rfl Tryz.func63 (by kernel_rfl) rfl #[.int .i32 (rd t486 x9_1)] rfl ap3 ?_; (with_reducible refine (R13Dropped.calls (rd t486 x9_1) true _ A9.out).mono ?_); rintro e w' ⟨rfl, ⟨nd, rfl⟩⟩; refine ⟨_, rfl, ?_⟩))
      go_roundg k1
      case measure => have := HK1.out; omega
      case rel => exact ⟨(x8_1), (wrap64 (x9_1 + 1)), ap2, H', ⟨by have := HK1.out; omega⟩, ⟨by (with_reducible repeat (first | apply Kd.R_alloc | apply Kd.R_drewN | apply Kd.R_drew)); exact HO_6.out⟩, ⟨by (with_reducible repeat (first | apply Kd.R_alloc | apply Kd.R_drewN | apply Kd.R_drew)); exact HO_8.out⟩, ⟨by repeat (first | (with_reducible first | exact HB.out | apply below_alloc | apply pw_below_drewN | apply below_drew1) | exact HB.out)⟩⟩
     ·
      replace c10 := Bool.eq_false_iff.mpr c10
      subst c10
      rw [if_neg (show ¬ (false = true) by decide)] at H
      replace H := Option.bind_eq_some_iff.mp H
      obtain ⟨t495, A120, H⟩ := H
      replace H : (if t495 = true then (if x8_1.length < 35184372088832 then (R13Mapped.l0 k1 a1 t486 t487 (x8_1 ++ [32]) (wrap64 (x9_1 + 1))) else (none)) else (if a1 = true then ((R13Small.f k1 (rd t486 x9_1)).bind fun t499 => (if x8_1.length < 35184372088832 then (R13Mapped.l0 k1 a1 t486 t487 (x8_1 ++ [t499]) (wrap64 (x9_1 + 1))) else (none))) else (if x8_1.length < 35184372088832 then (R13Mapped.l0 k1 a1 t486 t487 (x8_1 ++ [rd t486 x9_1]) (wrap64 (x9_1 + 1))) else (none)))) = some (r1, r2) := H
      have A12 := Aside0.mk A120
      clear A120
      by_cases c13 : t495 = true
      ·
       subst c13
       rw [if_pos rfl] at H
       by_cases c14 : x8_1.length < 35184372088832
       ·
        rw [if_pos c14] at H
        have LMc14 := Aside0.mk c14
        clear c14
        obtain ⟨y496, hy496⟩ : ∃ y_ : List Int, y_ = (x8_1 ++ [32]) := ⟨_, rfl⟩
        replace H : (R13Mapped.l0 k1 a1 t486 t487 y496 (wrap64 (x9_1 + 1))) = some (r1, r2) := by first | (rw [hy496]; with_reducible exact H) | (have H2_ := (Option.bind_some _ _).symm.trans H; rw [hy496]; with_reducible exact H2_) | (have H2_ := (Option.bind_some _ _).symm.trans H; with_reducible exact H2_) | with_reducible exact H | (rw [hy496]; exact H) | exact H
        have Ny496 := Aside0.mk hy496
        clear hy496
        have H' := Aside0.mk H
        clear H
        obtain ⟨Ao15, co15, eo15⟩ := Kd.R_slice HO_6.out
        subst eo15
        have p493 : 0 ≤ (x9_1 : Int) := of_decide_eq_true ap0
        have q493 : x9_1 < (t486.length : Int) := of_decide_eq_true ap0
        obtain ⟨ad493, e493, hx493_0⟩ := Kd.at_int (Kd.R_reads' HO_6.out).2.2 x9_1 p493 q493
        cases e493
        replace p493 := eq_true p493
        replace q493 := eq_true q493
        go_wp2_with (first | ((with_reducible refine gate_callee (f := 63) rfl ?_); refine goesL_ (some 28) rfl rfl Tryz.func63 (by kernel_rfl) rfl #[.int .i32 (rd t486 x9_1)] rfl ap3 ?_; (with_reducible refine (R13Dropped.calls (rd t486 x9_1) false _ A9.out).mono ?_); rintro e w' ⟨rfl, ⟨nd, rfl⟩⟩; refine ⟨_, rfl, ?_⟩) | ((with_reducible refine gate_callee (f := 64) rfl ?_); refine goesL_ (some 30) rfl rfl Tryz.func64 (by kernel_rfl) rfl #[.int .i32 (rd t486 x9_1)] rfl ap3 ?_; (with_reducible refine (R13Blank.calls (rd t486 x9_1) true _ A12.out).mono ?_); rintro e w' ⟨rfl, ⟨nd, rfl⟩⟩; refine ⟨_, rfl, ?_⟩) | ((with_reducible refine gate_builtin (b := .append) (xs := #[.tmp 34, .tmp 36]) rfl ?_); at_builtin; refine Kd.R_append (Kd.int .i32) (w0 := w) w.heap.size rfl (.tmp 34) (.tmp 36) 64 21 (.int .i32 0) 4 rfl Tryz.underlying64 info21 rfl (by decide) (by omega) u8 x8_1 32 [.int .i32 32] (fun k_ => some k_ ≠ (.slice (some ad493) t486.length co15 : Value).ownBlock) (fun _ => False) rfl rfl ?aP (fun _ hk => hk.elim) ?aF ?aO ?aB ?aS ?aL ?_; (case aP => exact rfl); (case aB => exact ap1); (case aF => exact (fun k_ hk => Kd.fresh' (Kd.R_lt (apAR HO_6.out)) k_ hk)); (case aO => exact (apAR HO_8.out)); (case aS => exact (below_size ap1)); (case aL => have := LMc14.out; omega); intro v497 w16 ho hb hg hat; rw [← Ny496.out] at ho; have n0_ := Aside0.mk (Kd.R_after (ok := (fun _ => True)) (by (with_reducible repeat (first | apply Kd.R_alloc | apply Kd.R_drewN | apply Kd.R_drew)); exact Kd.R_mono HO_6.out (fun _ hk => ⟨trivial, hk⟩)) hg hat); have n1_ := Aside0.mk (hb); have n2_ := Aside0.mk (ho); clear HO_6; clear HB; clear HO_8; have HO_6 := n0_; have HB := n1_; have HO498 := n2_; clear n0_ n1_ n2_; clear ho hb hg hat))
        go_roundg k1
        case measure => have := HK1.out; omega
        case rel => exact ⟨(y496), (wrap64 (x9_1 + 1)), ap2, H', ⟨by have := HK1.out; omega⟩, ⟨by (with_reducible repeat (first | apply Kd.R_alloc | apply Kd.R_drewN | apply Kd.R_drew)); exact Kd.R_mono HO_6.out (fun _ hk => hk.2)⟩, ⟨by (with_reducible repeat (first | apply Kd.R_alloc | apply Kd.R_drewN | apply Kd.R_drew)); exact HO498.out⟩, ⟨by repeat (first | (with_reducible first | exact HB.out | apply below_alloc | apply pw_below_drewN | apply below_drew1) | exact HB.out)⟩⟩
       ·
        rw [if_neg c14] at H
        exact absurd H (by simp)
      ·
       replace c13 := Bool.eq_false_iff.mpr c13
       subst c13
       rw [if_neg (show ¬ (false = true) by decide)] at H
       by_cases c17 : a1 = true
       ·
        subst c17
        rw [if_pos rfl] at H
        replace H := Option.bind_eq_some_iff.mp H
        obtain ⟨t499, A180, H⟩ := H
        replace H : (if x8_1.length < 35184372088832 then (R13Mapped.l0 k1 true t486 t487 (x8_1 ++ [t499]) (wrap64 (x9_1 + 1))) else (none)) = some (r1, r2) := H
        have A18 := Aside0.mk A180
        clear A180
        by_cases c19 : x8_1.length < 35184372088832
        ·
         rw [if_pos c19] at H
         have LMc19 := Aside0.mk c19
         clear c19
         obtain ⟨y500, hy500⟩ : ∃ y_ : List Int, y_ = (x8_1 ++ [t499]) := ⟨_, rfl⟩
         replace H : (R13Mapped.l0 k1 true t486 t487 y500 (wrap64 (x9_1 + 1))) = some (r1, r2) := by first | (rw [hy500]; with_reducible exact H) | (have H2_ := (Option.bind_some _ _).symm.trans H; rw [hy500]; with_reducible exact H2_) | (have H2_ := (Option.bind_some _ _).symm.trans H; with_reducible exact H2_) | with_reducible exact H | (rw [hy500]; exact H) | exact H
         have Ny500 := Aside0.mk hy500
         clear hy500
         have H' := Aside0.mk H
         clear H
         obtain ⟨Ao20, co20, eo20⟩ := Kd.R_slice HO_6.out
         subst eo20
         have p493 : 0 ≤ (x9_1 : Int) := of_decide_eq_true ap0
         have q493 : x9_1 < (t486.length : Int) := of_decide_eq_true ap0
         obtain ⟨ad493, e493, hx493_0⟩ := Kd.at_int (Kd.R_reads' HO_6.out).2.2 x9_1 p493 q493
         cases e493
         replace p493 := eq_true p493
         replace q493 := eq_true q493
         go_wp2_with (first | ((with_reducible refine gate_callee (f := 63) rfl ?_); refine goesL_ (some 28) rfl rfl Tryz.func63 (by kernel_rfl) rfl #[.int .i32 (rd t486 x9_1)] rfl ap3 ?_; (with_reducible refine (R13Dropped.calls (rd t486 x9_1) false _ A9.out).mono ?_); rintro e w' ⟨rfl, ⟨nd, rfl⟩⟩; refine ⟨_, rfl, ?_⟩) | ((with_reducible refine gate_callee (f := 64) rfl ?_); refine goesL_ (some 30) rfl rfl Tryz.func64 (by kernel_rfl) rfl #[.int .i32 (rd t486 x9_1)] rfl ap3 ?_; (with_reducible refine (R13Blank.calls (rd t486 x9_1) false _ A12.out).mono ?_); rintro e w' ⟨rfl, ⟨nd, rfl⟩⟩; refine ⟨_, rfl, ?_⟩) | ((with_reducible refine gate_callee (f := 65) rfl ?_); refine goesL_ (some 33) rfl rfl Tryz.func65 (by kernel_rfl) rfl #[.int .i32 (rd t486 x9_1)] rfl ap3 ?_; (with_reducible refine (R13Small.calls k1 (rd t486 x9_1) t499 _ A18.out).mono ?_); rintro e w' ⟨rfl, ⟨nd, rfl⟩⟩; refine ⟨_, rfl, ?_⟩) | ((with_reducible refine gate_builtin (b := .append) (xs := #[.tmp 34, .tmp 36]) rfl ?_); at_builtin; refine Kd.R_append (Kd.int .i32) (w0 := w) w.heap.size rfl (.tmp 34) (.tmp 36) 64 21 (.int .i32 0) 4 rfl Tryz.underlying64 info21 rfl (by decide) (by omega) u8 x8_1 t499 [.int .i32 t499] (fun k_ => some k_ ≠ (.slice (some ad493) t486.length co20 : Value).ownBlock) (fun _ => False) rfl rfl ?aP (fun _ hk => hk.elim) ?aF ?aO ?aB ?aS ?aL ?_; (case aP => exact rfl); (case aB => exact ap1); (case aF => exact (fun k_ hk => Kd.fresh' (Kd.R_lt (apAR HO_6.out)) k_ hk)); (case aO => exact (apAR HO_8.out)); (case aS => exact (below_size ap1)); (case aL => have := LMc19.out; omega); intro v501 w21 ho hb hg hat; rw [← Ny500.out] at ho; have n0_ := Aside0.mk (Kd.R_after (ok := (fun _ => True)) (by (with_reducible repeat (first | apply Kd.R_alloc | apply Kd.R_drewN | apply Kd.R_drew)); exact Kd.R_mono HO_6.out (fun _ hk => ⟨trivial, hk⟩)) hg hat); have n1_ := Aside0.mk (hb); have n2_ := Aside0.mk (ho); clear HO_6; clear HB; clear HO_8; have HO_6 := n0_; have HB := n1_; have HO502 := n2_; clear n0_ n1_ n2_; clear ho hb hg hat))
         go_roundg k1
         case measure => have := HK1.out; omega
         case rel => exact ⟨(y500), (wrap64 (x9_1 + 1)), ap2, H', ⟨by have := HK1.out; omega⟩, ⟨by (with_reducible repeat (first | apply Kd.R_alloc | apply Kd.R_drewN | apply Kd.R_drew)); exact Kd.R_mono HO_6.out (fun _ hk => hk.2)⟩, ⟨by (with_reducible repeat (first | apply Kd.R_alloc | apply Kd.R_drewN | apply Kd.R_drew)); exact HO502.out⟩, ⟨by repeat (first | (with_reducible first | exact HB.out | apply below_alloc | apply pw_below_drewN | apply below_drew1) | exact HB.out)⟩⟩
        ·
         rw [if_neg c19] at H
         exact absurd H (by simp)
       ·
        replace c17 := Bool.eq_false_iff.mpr c17
        subst c17
        rw [if_neg (show ¬ (false = true) by decide)] at H
        by_cases c22 : x8_1.length < 35184372088832
        ·
         rw [if_pos c22] at H
         have LMc22 := Aside0.mk c22
         clear c22
         obtain ⟨y503, hy503⟩ : ∃ y_ : List Int, y_ = (x8_1 ++ [rd t486 x9_1]) := ⟨_, rfl⟩
         replace H : (R13Mapped.l0 k1 false t486 t487 y503 (wrap64 (x9_1 + 1))) = some (r1, r2) := by first | (rw [hy503]; with_reducible exact H) | (have H2_ := (Option.bind_some _ _).symm.trans H; rw [hy503]; with_reducible exact H2_) | (have H2_ := (Option.bind_some _ _).symm.trans H; with_reducible exact H2_) | with_reducible exact H | (rw [hy503]; exact H) | exact H
         have Ny503 := Aside0.mk hy503
         clear hy503
         have H' := Aside0.mk H
         clear H
         obtain ⟨Ao23, co23, eo23⟩ := Kd.R_slice HO_6.out
         subst eo23
         have p493 : 0 ≤ (x9_1 : Int) := of_decide_eq_true ap0
         have q493 : x9_1 < (t486.length : Int) := of_decide_eq_true ap0
         obtain ⟨ad493, e493, hx493_0⟩ := Kd.at_int (Kd.R_reads' HO_6.out).2.2 x9_1 p493 q493
         cases e493
         replace p493 := eq_true p493
         replace q493 := eq_true q493
         go_wp2_with (first | ((with_reducible refine gate_callee (f := 63) rfl ?_); refine goesL_ (some 28) rfl rfl Tryz.func63 (by kernel_rfl) rfl #[.int .i32 (rd t486 x9_1)] rfl ap3 ?_; (with_reducible refine (R13Dropped.calls (rd t486 x9_1) false _ A9.out).mono ?_); rintro e w' ⟨rfl, ⟨nd, rfl⟩⟩; refine ⟨_, rfl, ?_⟩) | ((with_reducible refine gate_callee (f := 64) rfl ?_); refine goesL_ (some 30) rfl rfl Tryz.func64 (by kernel_rfl) rfl #[.int .i32 (rd t486 x9_1)] rfl ap3 ?_; (with_reducible refine (R13Blank.calls (rd t486 x9_1) false _ A12.out).mono ?_); rintro e w' ⟨rfl, ⟨nd, rfl⟩⟩; refine ⟨_, rfl, ?_⟩) | ((with_reducible refine gate_builtin (b := .append) (xs := #[.tmp 34, .tmp 36]) rfl ?_); at_builtin; refine Kd.R_append (Kd.int .i32) (w0 := w) w.heap.size rfl (.tmp 34) (.tmp 36) 64 21 (.int .i32 0) 4 rfl Tryz.underlying64 info21 rfl (by decide) (by omega) u8 x8_1 (rd t486 x9_1) [.int .i32 (rd t486 x9_1)] (fun k_ => some k_ ≠ (.slice (some ad493) t486.length co23 : Value).ownBlock) (fun _ => False) rfl rfl ?aP (fun _ hk => hk.elim) ?aF ?aO ?aB ?aS ?aL ?_; (case aP => exact rfl); (case aB => exact ap1); (case aF => exact (fun k_ hk => Kd.fresh' (Kd.R_lt (apAR HO_6.out)) k_ hk)); (case aO => exact (apAR HO_8.out)); (case aS => exact (below_size ap1)); (case aL => have := LMc22.out; omega); intro v504 w24 ho hb hg hat; rw [← Ny503.out] at ho; have n0_ := Aside0.mk (Kd.R_after (ok := (fun _ => True)) (by (with_reducible repeat (first | apply Kd.R_alloc | apply Kd.R_drewN | apply Kd.R_drew)); exact Kd.R_mono HO_6.out (fun _ hk => ⟨trivial, hk⟩)) hg hat); have n1_ := Aside0.mk (hb); have n2_ := Aside0.mk (ho); clear HO_6; clear HB; clear HO_8; have HO_6 := n0_; have HB := n1_; have HO505 := n2_; clear n0_ n1_ n2_; clear ho hb hg hat))
         go_roundg k1
         case measure => have := HK1.out; omega
         case rel => exact ⟨(y503), (wrap64 (x9_1 + 1)), ap2, H', ⟨by have := HK1.out; omega⟩, ⟨by (with_reducible repeat (first | apply Kd.R_alloc | apply Kd.R_drewN | apply Kd.R_drew)); exact Kd.R_mono HO_6.out (fun _ hk => hk.2)⟩, ⟨by (with_reducible repeat (first | apply Kd.R_alloc | apply Kd.R_drewN | apply Kd.R_drew)); exact HO505.out⟩, ⟨by repeat (first | (with_reducible first | exact HB.out | apply below_alloc | apply pw_below_drewN | apply below_drew1) | exact HB.out)⟩⟩
        ·
         rw [if_neg c22] at H
         exact absurd H (by simp)
    ·
     rw [if_neg c8] at H
     exact absurd H (by simp)
   ·
    rw [if_neg c7] at H
    have c7b0 := decide_eq_false c7
    clear c7
    simp only [Option.some.injEq, Prod.mk.injEq] at H
    obtain ⟨rfl, rfl⟩ := H
    obtain ⟨Ao25, co25, eo25⟩ := Kd.R_slice HO_6.out
    subst eo25
    go_wp2
    go_ret2
    exact ⟨_, by first | rfl | (simp [errW_none, errW_some, bne_nil8, beq_nil8]; done) | (simp [errW_none, errW_some] <;> rfl) | (simp [*, errW_none, errW_some] <;> rfl), by (with_reducible repeat (first | apply Kd.R_alloc | apply Kd.R_drewN | apply Kd.R_drew)); exact Kd.R_mono HO_8.out (fun _ hk => trivial), by repeat (first | (with_reducible first | exact HB.out | apply below_alloc | apply pw_below_drewN | apply below_drew1) | exact HB.out)⟩
def R13Bytes.f (a0 : Int) : Option (List Int) := if (wrap64 (a0)) < 128 then (some (([(wrap64 (a0)) % 256] : List Int))) else (if (wrap64 (a0)) < 2048 then (some (([(wrap64 (192 + (wrap64 (Int.tdiv (wrap64 (a0)) 64)))) % 256, (wrap64 (128 + (Int.tmod (wrap64 (a0)) 64))) % 256] : List Int))) else (if (wrap64 (a0)) < 65536 then (some (([(wrap64 (224 + (wrap64 (Int.tdiv (wrap64 (a0)) 4096)))) % 256, (wrap64 (128 + (Int.tmod (wrap64 (Int.tdiv (wrap64 (a0)) 64)) 64))) % 256, (wrap64 (128 + (Int.tmod (wrap64 (a0)) 64))) % 256] : List Int))) else (some (([(wrap64 (240 + (wrap64 (Int.tdiv (wrap64 (a0)) 262144)))) % 256, (wrap64 (128 + (Int.tmod (wrap64 (Int.tdiv (wrap64 (a0)) 4096)) 64))) % 256, (wrap64 (128 + (Int.tmod (wrap64 (Int.tdiv (wrap64 (a0)) 64)) 64))) % 256, (wrap64 (128 + (Int.tmod (wrap64 (a0)) 64))) % 256] : List Int)))))
set_option maxHeartbeats 8000000 in
set_option maxRecDepth 100000 in
theorem R13Bytes.calls (a0 : Int) (r : List Int) (w : World) (h : R13Bytes.f a0 = some r) :
  Calls Tryz.prog 66 #[.int .i32 a0] w fun e w' => ∃ v0_ : Value, e = .returned (v0_) ∧ Kd.R (Kd.int .u8) 5 w' w.heap.size (fun _ => True) v0_ r ∧ Below w.heap.size w w' := by
 have HB := Aside0.mk (Below.refl w.heap.size w)
 have H : (if (wrap64 (a0)) < 128 then (some (([(wrap64 (a0)) % 256] : List Int))) else (if (wrap64 (a0)) < 2048 then (some (([(wrap64 (192 + (wrap64 (Int.tdiv (wrap64 (a0)) 64)))) % 256, (wrap64 (128 + (Int.tmod (wrap64 (a0)) 64))) % 256] : List Int))) else (if (wrap64 (a0)) < 65536 then (some (([(wrap64 (224 + (wrap64 (Int.tdiv (wrap64 (a0)) 4096)))) % 256, (wrap64 (128 + (Int.tmod (wrap64 (Int.tdiv (wrap64 (a0)) 64)) 64))) % 256, (wrap64 (128 + (Int.tmod (wrap64 (a0)) 64))) % 256] : List Int))) else (some (([(wrap64 (240 + (wrap64 (Int.tdiv (wrap64 (a0)) 262144)))) % 256, (wrap64 (128 + (Int.tmod (wrap64 (Int.tdiv (wrap64 (a0)) 4096)) 64))) % 256, (wrap64 (128 + (Int.tmod (wrap64 (Int.tdiv (wrap64 (a0)) 64)) 64))) % 256, (wrap64 (128 + (Int.tmod (wrap64 (a0)) 64))) % 256] : List Int)))))) = some r := h
 clear h
 by_cases c2 : (wrap64 (a0)) < 128
 ·
  rw [if_pos c2] at H
  have c2b0 := decide_eq_true c2
  clear c2
  obtain ⟨y506, hy506⟩ : ∃ y_ : List Int, y_ = (([(wrap64 (a0)) % 256] : List Int)) := ⟨_, rfl⟩
  replace H : (some y506) = some r := by first | (rw [hy506]; with_reducible exact H) | (have H2_ := (Option.bind_some _ _).symm.trans H; rw [hy506]; with_reducible exact H2_) | (have H2_ := (Option.bind_some _ _).symm.trans H; with_reducible exact H2_) | with_reducible exact H | (rw [hy506]; exact H) | exact H
  have Ny506 := Aside0.mk hy506
  clear hy506
  obtain rfl := Option.some.inj H
  go_enter Tryz.func66, Tryz.ntmps66
  go_wp2_with (first | ((with_reducible refine gate_dst (N := 10) rfl ?_); refine Kd.R_lit (Kd.int .u8) _ 5 ?hg (N := 10) ?hd (xs := ([(wrap64 (a0)) % 256] : List Int)) (inner := [.int .u8 ((wrap64 (a0)) % 256)]) (ok := fun _ => True) (okp := fun _ => True) ?hr ?hp (fun _ hk => hk) trivial (Below.refl _ _) (Nat.le_refl _) (by simp) ?_; (case hd => rfl); (case hg => rfl); (case hr => first | (go_simp; done) | (go_simp; rfl)); (case hp => exact (Reps.one (show Kd.M (Kd.int .u8) _ _ _ ((wrap64 (a0)) % 256) [.int .u8 ((wrap64 (a0)) % 256)] from rfl) (Reps.none _ _))); intro v507 w3 ho4 hb hg_ hnew_; clear hg_ hnew_; (first | rw [← Ny506.out] at ho4 | (simp only [Int.reduceToNat] at ho4; rw [← Ny506.out] at ho4)); have n0_ := Aside0.mk (Kd.R_lower ho4 (below_size ap1)); have n1_ := Aside0.mk (below_step ap1 hb); clear HB; have HO508 := n0_; have HB := n1_; clear n0_ n1_; clear hb ho4))
  go_ret
  exact ⟨_, by first | rfl | (simp [errW_none, errW_some, bne_nil8, beq_nil8]; done) | (simp [errW_none, errW_some] <;> rfl) | (simp [*, errW_none, errW_some] <;> rfl), by (with_reducible repeat (first | apply Kd.R_alloc | apply Kd.R_drewN | apply Kd.R_drew)); exact HO508.out, by repeat (first | (with_reducible first | exact HB.out | apply below_alloc | apply pw_below_drewN | apply below_drew1) | exact HB.out)⟩
 ·
  rw [if_neg c2] at H
  have c2b0 := decide_eq_false c2
  clear c2
  by_cases c5 : (wrap64 (a0)) < 2048
  ·
   rw [if_pos c5] at H
   have c5b0 := decide_eq_true c5
   clear c5
   obtain ⟨y509, hy509⟩ : ∃ y_ : List Int, y_ = (([(wrap64 (192 + (wrap64 (Int.tdiv (wrap64 (a0)) 64)))) % 256, (wrap64 (128 + (Int.tmod (wrap64 (a0)) 64))) % 256] : List Int)) := ⟨_, rfl⟩
   replace H : (some y509) = some r := by first | (rw [hy509]; with_reducible exact H) | (have H2_ := (Option.bind_some _ _).symm.trans H; rw [hy509]; with_reducible exact H2_) | (have H2_ := (Option.bind_some _ _).symm.trans H; with_reducible exact H2_) | with_reducible exact H | (rw [hy509]; exact H) | exact H
   have Ny509 := Aside0.mk hy509
   clear hy509
   obtain rfl := Option.some.inj H
   go_enter Tryz.func66, Tryz.ntmps66
   go_wp2_with (first | ((with_reducible refine gate_dst (N := 21) rfl ?_); refine Kd.R_lit (Kd.int .u8) _ 5 ?hg (N := 21) ?hd (xs := ([(wrap64 (192 + (wrap64 (Int.tdiv (wrap64 (a0)) 64)))) % 256, (wrap64 (128 + (Int.tmod (wrap64 (a0)) 64))) % 256] : List Int)) (inner := [.int .u8 ((wrap64 (192 + (wrap64 (Int.tdiv (wrap64 (a0)) 64)))) % 256), .int .u8 ((wrap64 (128 + (Int.tmod (wrap64 (a0)) 64))) % 256)]) (ok := fun _ => True) (okp := fun _ => True) ?hr ?hp (fun _ hk => hk) trivial (Below.refl _ _) (Nat.le_refl _) (by simp) ?_; (case hd => rfl); (case hg => rfl); (case hr => first | (go_simp; done) | (go_simp; rfl)); (case hp => exact (Reps.one (show Kd.M (Kd.int .u8) _ _ _ ((wrap64 (192 + (wrap64 (Int.tdiv (wrap64 (a0)) 64)))) % 256) [.int .u8 ((wrap64 (192 + (wrap64 (Int.tdiv (wrap64 (a0)) 64)))) % 256)] from rfl) (Reps.one (show Kd.M (Kd.int .u8) _ _ _ ((wrap64 (128 + (Int.tmod (wrap64 (a0)) 64))) % 256) [.int .u8 ((wrap64 (128 + (Int.tmod (wrap64 (a0)) 64))) % 256)] from rfl) (Reps.none _ _)))); intro v510 w6 ho7 hb hg_ hnew_; clear hg_ hnew_; (first | rw [← Ny509.out] at ho7 | (simp only [Int.reduceToNat] at ho7; rw [← Ny509.out] at ho7)); have n0_ := Aside0.mk (Kd.R_lower ho7 (below_size ap1)); have n1_ := Aside0.mk (below_step ap1 hb); clear HB; have HO511 := n0_; have HB := n1_; clear n0_ n1_; clear hb ho7))
   go_ret
   exact ⟨_, by first | rfl | (simp [errW_none, errW_some, bne_nil8, beq_nil8]; done) | (simp [errW_none, errW_some] <;> rfl) | (simp [*, errW_none, errW_some] <;> rfl), by (with_reducible repeat (first | apply Kd.R_alloc | apply Kd.R_drewN | apply Kd.R_drew)); exact HO511.out, by repeat (first | (with_reducible first | exact HB.out | apply below_alloc | apply pw_below_drewN | apply below_drew1) | exact HB.out)⟩
  ·
   rw [if_neg c5] at H
   have c5b0 := decide_eq_false c5
   clear c5
   by_cases c8 : (wrap64 (a0)) < 65536
   ·
    rw [if_pos c8] at H
    have c8b0 := decide_eq_true c8
    clear c8
    obtain ⟨y512, hy512⟩ : ∃ y_ : List Int, y_ = (([(wrap64 (224 + (wrap64 (Int.tdiv (wrap64 (a0)) 4096)))) % 256, (wrap64 (128 + (Int.tmod (wrap64 (Int.tdiv (wrap64 (a0)) 64)) 64))) % 256, (wrap64 (128 + (Int.tmod (wrap64 (a0)) 64))) % 256] : List Int)) := ⟨_, rfl⟩
    replace H : (some y512) = some r := by first | (rw [hy512]; with_reducible exact H) | (have H2_ := (Option.bind_some _ _).symm.trans H; rw [hy512]; with_reducible exact H2_) | (have H2_ := (Option.bind_some _ _).symm.trans H; with_reducible exact H2_) | with_reducible exact H | (rw [hy512]; exact H) | exact H
    have Ny512 := Aside0.mk hy512
    clear hy512
    obtain rfl := Option.some.inj H
    go_enter Tryz.func66, Tryz.ntmps66
    go_wp2_with (first | ((with_reducible refine gate_dst (N := 37) rfl ?_); refine Kd.R_lit (Kd.int .u8) _ 5 ?hg (N := 37) ?hd (xs := ([(wrap64 (224 + (wrap64 (Int.tdiv (wrap64 (a0)) 4096)))) % 256, (wrap64 (128 + (Int.tmod (wrap64 (Int.tdiv (wrap64 (a0)) 64)) 64))) % 256, (wrap64 (128 + (Int.tmod (wrap64 (a0)) 64))) % 256] : List Int)) (inner := [.int .u8 ((wrap64 (224 + (wrap64 (Int.tdiv (wrap64 (a0)) 4096)))) % 256), .int .u8 ((wrap64 (128 + (Int.tmod (wrap64 (Int.tdiv (wrap64 (a0)) 64)) 64))) % 256), .int .u8 ((wrap64 (128 + (Int.tmod (wrap64 (a0)) 64))) % 256)]) (ok := fun _ => True) (okp := fun _ => True) ?hr ?hp (fun _ hk => hk) trivial (Below.refl _ _) (Nat.le_refl _) (by simp) ?_; (case hd => rfl); (case hg => rfl); (case hr => first | (go_simp; done) | (go_simp; rfl)); (case hp => exact (Reps.one (show Kd.M (Kd.int .u8) _ _ _ ((wrap64 (224 + (wrap64 (Int.tdiv (wrap64 (a0)) 4096)))) % 256) [.int .u8 ((wrap64 (224 + (wrap64 (Int.tdiv (wrap64 (a0)) 4096)))) % 256)] from rfl) (Reps.one (show Kd.M (Kd.int .u8) _ _ _ ((wrap64 (128 + (Int.tmod (wrap64 (Int.tdiv (wrap64 (a0)) 64)) 64))) % 256) [.int .u8 ((wrap64 (128 + (Int.tmod (wrap64 (Int.tdiv (wrap64 (a0)) 64)) 64))) % 256)] from rfl) (Reps.one (show Kd.M (Kd.int .u8) _ _ _ ((wrap64 (128 + (Int.tmod (wrap64 (a0)) 64))) % 256) [.int .u8 ((wrap64 (128 + (Int.tmod (wrap64 (a0)) 64))) % 256)] from rfl) (Reps.none _ _))))); intro v513 w9 ho10 hb hg_ hnew_; clear hg_ hnew_; (first | rw [← Ny512.out] at ho10 | (simp only [Int.reduceToNat] at ho10; rw [← Ny512.out] at ho10)); have n0_ := Aside0.mk (Kd.R_lower ho10 (below_size ap1)); have n1_ := Aside0.mk (below_step ap1 hb); clear HB; have HO514 := n0_; have HB := n1_; clear n0_ n1_; clear hb ho10))
    go_ret
    exact ⟨_, by first | rfl | (simp [errW_none, errW_some, bne_nil8, beq_nil8]; done) | (simp [errW_none, errW_some] <;> rfl) | (simp [*, errW_none, errW_some] <;> rfl), by (with_reducible repeat (first | apply Kd.R_alloc | apply Kd.R_drewN | apply Kd.R_drew)); exact HO514.out, by repeat (first | (with_reducible first | exact HB.out | apply below_alloc | apply pw_below_drewN | apply below_drew1) | exact HB.out)⟩
   ·
    rw [if_neg c8] at H
    have c8b0 := decide_eq_false c8
    clear c8
    obtain ⟨y515, hy515⟩ : ∃ y_ : List Int, y_ = (([(wrap64 (240 + (wrap64 (Int.tdiv (wrap64 (a0)) 262144)))) % 256, (wrap64 (128 + (Int.tmod (wrap64 (Int.tdiv (wrap64 (a0)) 4096)) 64))) % 256, (wrap64 (128 + (Int.tmod (wrap64 (Int.tdiv (wrap64 (a0)) 64)) 64))) % 256, (wrap64 (128 + (Int.tmod (wrap64 (a0)) 64))) % 256] : List Int)) := ⟨_, rfl⟩
    replace H : (some y515) = some r := by first | (rw [hy515]; with_reducible exact H) | (have H2_ := (Option.bind_some _ _).symm.trans H; rw [hy515]; with_reducible exact H2_) | (have H2_ := (Option.bind_some _ _).symm.trans H; with_reducible exact H2_) | with_reducible exact H | (rw [hy515]; exact H) | exact H
    have Ny515 := Aside0.mk hy515
    clear hy515
    obtain rfl := Option.some.inj H
    go_enter Tryz.func66, Tryz.ntmps66
    go_wp2_with (first | ((with_reducible refine gate_dst (N := 56) rfl ?_); refine Kd.R_lit (Kd.int .u8) _ 5 ?hg (N := 56) ?hd (xs := ([(wrap64 (240 + (wrap64 (Int.tdiv (wrap64 (a0)) 262144)))) % 256, (wrap64 (128 + (Int.tmod (wrap64 (Int.tdiv (wrap64 (a0)) 4096)) 64))) % 256, (wrap64 (128 + (Int.tmod (wrap64 (Int.tdiv (wrap64 (a0)) 64)) 64))) % 256, (wrap64 (128 + (Int.tmod (wrap64 (a0)) 64))) % 256] : List Int)) (inner := [.int .u8 ((wrap64 (240 + (wrap64 (Int.tdiv (wrap64 (a0)) 262144)))) % 256), .int .u8 ((wrap64 (128 + (Int.tmod (wrap64 (Int.tdiv (wrap64 (a0)) 4096)) 64))) % 256), .int .u8 ((wrap64 (128 + (Int.tmod (wrap64 (Int.tdiv (wrap64 (a0)) 64)) 64))) % 256), .int .u8 ((wrap64 (128 + (Int.tmod (wrap64 (a0)) 64))) % 256)]) (ok := fun _ => True) (okp := fun _ => True) ?hr ?hp (fun _ hk => hk) trivial (Below.refl _ _) (Nat.le_refl _) (by simp) ?_; (case hd => rfl); (case hg => rfl); (case hr => first | (go_simp; done) | (go_simp; rfl)); (case hp => exact (Reps.one (show Kd.M (Kd.int .u8) _ _ _ ((wrap64 (240 + (wrap64 (Int.tdiv (wrap64 (a0)) 262144)))) % 256) [.int .u8 ((wrap64 (240 + (wrap64 (Int.tdiv (wrap64 (a0)) 262144)))) % 256)] from rfl) (Reps.one (show Kd.M (Kd.int .u8) _ _ _ ((wrap64 (128 + (Int.tmod (wrap64 (Int.tdiv (wrap64 (a0)) 4096)) 64))) % 256) [.int .u8 ((wrap64 (128 + (Int.tmod (wrap64 (Int.tdiv (wrap64 (a0)) 4096)) 64))) % 256)] from rfl) (Reps.one (show Kd.M (Kd.int .u8) _ _ _ ((wrap64 (128 + (Int.tmod (wrap64 (Int.tdiv (wrap64 (a0)) 64)) 64))) % 256) [.int .u8 ((wrap64 (128 + (Int.tmod (wrap64 (Int.tdiv (wrap64 (a0)) 64)) 64))) % 256)] from rfl) (Reps.one (show Kd.M (Kd.int .u8) _ _ _ ((wrap64 (128 + (Int.tmod (wrap64 (a0)) 64))) % 256) [.int .u8 ((wrap64 (128 + (Int.tmod (wrap64 (a0)) 64))) % 256)] from rfl) (Reps.none _ _)))))); intro v516 w11 ho12 hb hg_ hnew_; clear hg_ hnew_; (first | rw [← Ny515.out] at ho12 | (simp only [Int.reduceToNat] at ho12; rw [← Ny515.out] at ho12)); have n0_ := Aside0.mk (Kd.R_lower ho12 (below_size ap1)); have n1_ := Aside0.mk (below_step ap1 hb); clear HB; have HO517 := n0_; have HB := n1_; clear n0_ n1_; clear hb ho12))
    go_ret
    exact ⟨_, by first | rfl | (simp [errW_none, errW_some, bne_nil8, beq_nil8]; done) | (simp [errW_none, errW_some] <;> rfl) | (simp [*, errW_none, errW_some] <;> rfl), by (with_reducible repeat (first | apply Kd.R_alloc | apply Kd.R_drewN | apply Kd.R_drew)); exact HO517.out, by repeat (first | (with_reducible first | exact HB.out | apply below_alloc | apply pw_below_drewN | apply below_drew1) | exact HB.out)⟩
def R13Text.l0 : Nat → List Int → List Int → Int → Option (ByteArray)
 | 0, _, _, _ => none
 | k + 1, x0, x3, x4 => if x4 < (x0.length : Int) then (if 0 ≤ x4 then ((R13Bytes.f (rd x0 x4)).bind fun t522 => (if x3.length + t522.length < 140737488355328 then (R13Text.l0 k x0 (x3 ++ t522) (wrap64 (x4 + 1))) else (none))) else (none)) else (some (strOfNums x3))
def R13Text.f (k : Nat) (l0 : List Int) : Option (ByteArray) := R13Text.l0 k l0 (([] : List Int)) 0
set_option maxHeartbeats 8000000 in
set_option maxRecDepth 100000 in
theorem R13Text.calls (k : Nat) (A0 : Option Addr) (c0 : Nat) (l0 : List Int) (r : ByteArray) (w : World) (hr0 : Kd.C (Kd.int .i32) w A0 l0.length l0) (hc0 : l0.length ≤ c0) (h : R13Text.f k l0 = some r) :
  Calls Tryz.prog 41 #[.slice A0 l0.length c0] w fun e w' => e = .returned (.string r) ∧ Below w.heap.size w w' := by
 have HR0 := Aside0.mk hr0
 have HC0 := Aside0.mk hc0
 clear hr0 hc0
 have HB := Aside0.mk (Below.refl w.heap.size w)
 have H : (R13Text.l0 k l0 (([] : List Int)) 0) = some r := h
 clear h
 obtain ⟨y518, hy518⟩ : ∃ y_ : List Int, y_ = (([] : List Int)) := ⟨_, rfl⟩
 replace H : (R13Text.l0 k l0 y518 0) = some r := by first | (rw [hy518]; with_reducible exact H) | (have H2_ := (Option.bind_some _ _).symm.trans H; rw [hy518]; with_reducible exact H2_) | (have H2_ := (Option.bind_some _ _).symm.trans H; with_reducible exact H2_) | with_reducible exact H | (rw [hy518]; exact H) | exact H
 have Ny518 := Aside0.mk hy518
 clear hy518
 have H' := Aside0.mk H
 clear H
 go_enter Tryz.func41, Tryz.ntmps41
 go_wp2_with (first | ((with_reducible refine gate_dst (N := 5) rfl ?_); refine Kd.R_lit (Kd.int .u8) _ 5 ?hg (N := 5) ?hd (xs := ([] : List Int)) (inner := []) (ok := fun _ => True) (okp := fun _ => True) ?hr ?hp (fun _ hk => hk) trivial (Below.refl _ _) (Nat.le_refl _) (by simp) ?_; (case hd => rfl); (case hg => rfl); (case hr => first | (go_simp; done) | (go_simp; rfl)); (case hp => exact (Reps.none _ _)); intro v519 w2 ho3 hb hg_ hnew_; clear hg_ hnew_; (first | rw [← Ny518.out] at ho3 | (simp only [Int.reduceToNat] at ho3; rw [← Ny518.out] at ho3)); have n0_ := Aside0.mk (Kd.R_lower ho3 (below_size ap1)); have n1_ := Aside0.mk (below_step ap1 hb); clear HB; have HO520 := n0_; have HB := n1_; clear n0_ n1_; clear hb ho3))
 go_loopg [3, 4] k (fun kq v3 v4 w' => ∃ (x3_1 : List Int) (x4_1 : Int), v4 = .int .i64 x4_1 ∧ Aside0 (R13Text.l0 kq l0 x3_1 x4_1 = some r) ∧ Aside0 (kq ≤ k) ∧ Aside0 (Kd.R (Kd.int .u8) 5 w' w.heap.size (fun _ => True) v3 x3_1) ∧ Aside0 (Below w.heap.size w w'))
 case atStart => exact ⟨(y518), (0), ap2, H', ⟨Nat.le_refl _⟩, ⟨by (with_reducible repeat (first | apply Kd.R_alloc | apply Kd.R_drewN | apply Kd.R_drew)); exact HO520.out⟩, ⟨by repeat (first | (with_reducible first | exact HB.out | apply below_alloc | apply pw_below_drewN | apply below_drew1) | exact HB.out)⟩⟩
 case round =>
  clear H'
  try clear p2
  obtain ⟨x3_1, x4_1, rfl, HA, HK1, HO_3, HB⟩ := hrel
  cases gk with
  | zero => exact absurd HA.out (by simp [R13Text.l0])
  | succ k1 =>
   have H := HA.out
   clear HA
   simp only [R13Text.l0] at H
   by_cases c4 : x4_1 < (l0.length : Int)
   ·
    rw [if_pos c4] at H
    have c4b0 := decide_eq_true c4
    clear c4
    by_cases c5 : 0 ≤ x4_1
    ·
     rw [if_pos c5] at H
     have c5b0 := decide_eq_true c5
     clear c5
     replace H := Option.bind_eq_some_iff.mp H
     obtain ⟨t522, A60, H⟩ := H
     replace H : (if x3_1.length + t522.length < 140737488355328 then (R13Text.l0 k1 l0 (x3_1 ++ t522) (wrap64 (x4_1 + 1))) else (none)) = some r := H
     have A6 := Aside0.mk A60
     clear A60
     by_cases c7 : x3_1.length + t522.length < 140737488355328
     ·
      rw [if_pos c7] at H
      have LMc7 := Aside0.mk c7
      clear c7
      obtain ⟨y525, hy525⟩ : ∃ y_ : List Int, y_ = (x3_1 ++ t522) := ⟨_, rfl⟩
      replace H : (R13Text.l0 k1 l0 y525 (wrap64 (x4_1 + 1))) = some r := by first | (rw [hy525]; with_reducible exact H) | (have H2_ := (Option.bind_some _ _).symm.trans H; rw [hy525]; with_reducible exact H2_) | (have H2_ := (Option.bind_some _ _).symm.trans H; with_reducible exact H2_) | with_reducible exact H | (rw [hy525]; exact H) | exact H
      have Ny525 := Aside0.mk hy525
      clear hy525
      have H' := Aside0.mk H
      clear H
      have p521 : 0 ≤ (x4_1 : Int) := of_decide_eq_true ap0
      have q521 : x4_1 < (l0.length : Int) := of_decide_eq_true ap0
      obtain ⟨ad521, e521, hx521_0⟩ := Kd.at_int HR0.out x4_1 p521 q521
      cases e521
      replace hx521_0 := (HB.out.cell (World.block_lt_of_cell? w _ hx521_0)).trans hx521_0
      replace p521 := eq_true p521
      replace q521 := eq_true q521
      go_wp2_with (first | ((with_reducible refine gate_callee (f := 66) rfl ?_); refine goesL_ (some 17) rfl rfl Tryz.func66 (by kernel_rfl) rfl #[.int .i32 (rd l0 x4_1)] rfl ap3 ?_; (with_reducible refine (R13Bytes.calls (rd l0 x4_1) t522 _ A6.out).mono ?_); rintro e w8 ⟨v523, rfl, ho0, hb⟩; refine ⟨_, rfl, ?_⟩; have n0_ := Aside0.mk (Kd.R_elder' (apAR HO_3.out) (Kd.R_base ho0) hb); have n1_ := Aside0.mk (Kd.R_lower (Kd.R_new' ho0 (Kd.R_lt (apAR HO_3.out))) (below_size ap1)); have n2_ := Aside0.mk (below_step ap1 hb); clear HO_3; clear HB; have HO_3 := n0_; have HO524 := n1_; have HB := n2_; clear n0_ n1_ n2_; (try clear hb); (try clear hb2); (try clear hk); (try clear hi); (try clear ho0); obtain ⟨Ao10, co10, eo10⟩ := Kd.R_slice HO524.out; subst eo10) | ((with_reducible refine gate_builtin (b := .append) (xs := #[.tmp 12, .tmp 17]) rfl ?_); at_builtin; refine Kd.R_append_rows (Kd.int .u8) (w0 := w) w.heap.size rfl (.tmp 12) (.tmp 17) 82 5 (.int .u8 0) 1 rfl Tryz.underlying82 info5 rfl (by decide) (by omega) u3 x3_1 t522 _ _ _ (fun k_ => some k_ ≠ (.slice Ao10 t522.length co10 : Value).ownBlock) (fun _ => False) rfl rfl ?aO ?aR (fun _ _ h => h) (fun _ h => h.elim) ?aF ?aB ?aS ?aL ?_; (case aR => repeat (first | exact (Kd.R_reads' HO524.out).2.2 | (with_reducible refine Kd.C_alloc ?_ _) | (with_reducible refine Kd.C_drewN ?_ _) | (with_reducible refine Kd.C_drew ?_))); (case aB => exact ap1); (case aF => exact (fun k_ hk => Kd.fresh' (Kd.R_lt (apAR HO524.out)) k_ hk)); (case aO => exact (by (with_reducible repeat (first | apply Kd.R_alloc | apply Kd.R_drewN | apply Kd.R_drew)); exact Kd.R_mono HO_3.out (fun _ hk => hk.2))); (case aS => exact (below_size ap1)); (case aL => have := LMc7.out; omega); intro v526 w9 ho hb hg hat; rw [← Ny525.out] at ho; have n0_ := Aside0.mk (Kd.R_after (ok := (fun _ => True)) (apAR HO524.out) hg hat); have n1_ := Aside0.mk (hb); have n2_ := Aside0.mk (ho); clear HO524; clear HB; clear HO_3; have HO524 := n0_; have HB := n1_; have HO527 := n2_; clear n0_ n1_ n2_; clear ho hb hg hat))
      go_roundg k1
      case measure => have := HK1.out; omega
      case rel => exact ⟨(y525), (wrap64 (x4_1 + 1)), ap2, H', ⟨by have := HK1.out; omega⟩, ⟨by (with_reducible repeat (first | apply Kd.R_alloc | apply Kd.R_drewN | apply Kd.R_drew)); exact Kd.R_mono HO527.out (fun _ hk => trivial)⟩, ⟨by repeat (first | (with_reducible first | exact HB.out | apply below_alloc | apply pw_below_drewN | apply below_drew1) | exact HB.out)⟩⟩
     ·
      rw [if_neg c7] at H
      exact absurd H (by simp)
    ·
     rw [if_neg c5] at H
     exact absurd H (by simp)
   ·
    rw [if_neg c4] at H
    have c4b0 := decide_eq_false c4
    clear c4
    obtain rfl := Option.some.inj H
    have hcv11 := own_string (P := Tryz.prog) Tryz.underlying82 Tryz.underlying5 Tryz.underlying9 (Kd.own_of_R HO_3.out)
    go_wp2
    go_ret
    exact ⟨by first | rfl | (simp [errW_none, errW_some, bne_nil8, beq_nil8]; done) | (simp [errW_none, errW_some] <;> rfl) | (simp [*, errW_none, errW_some] <;> rfl), by repeat (first | (with_reducible first | exact HB.out | apply below_alloc | apply pw_below_drewN | apply below_drew1) | exact HB.out)⟩
def R13Ready.l0 : Nat → List Int → List Int → Int → Option (ByteArray × Int)
 | 0, _, _, _ => none
 | k + 1, x6, x8, x9 => if x9 < (x6.length : Int) then (if 0 ≤ x9 then (if (rd x6 x9) = 32 then (if (x8.length : Int) > 0 then (if (wrap64 (x9 + 1)) < (x6.length : Int) then (if 0 ≤ (wrap64 (x9 + 1)) then (if (rd x6 (wrap64 (x9 + 1))) = 32 then (R13Ready.l0 k x6 x8 (wrap64 (x9 + 1))) else (if x8.length < 35184372088832 then (R13Ready.l0 k x6 (x8 ++ [rd x6 x9]) (wrap64 (x9 + 1))) else (none))) else (none)) else (R13Ready.l0 k x6 x8 (wrap64 (x9 + 1)))) else (R13Ready.l0 k x6 x8 (wrap64 (x9 + 1)))) else (if x8.length < 35184372088832 then (R13Ready.l0 k x6 (x8 ++ [rd x6 x9]) (wrap64 (x9 + 1))) else (none))) else (none)) else ((R13Text.f k x8).bind fun t545 => (some (t545, 0)))
def R13Ready.f (k : Nat) (a0 : ByteArray) (a1 : Bool) : Option (ByteArray × Int) := (R13Mapped.f k a0 a1).bind fun bt528 => (if bt528.2 = 0 then (R13Ready.l0 k bt528.1 (([] : List Int)) 0) else (some ((⟨#[]⟩ : ByteArray), bt528.2)))
set_option maxHeartbeats 8000000 in
set_option maxRecDepth 100000 in
theorem R13Ready.calls (k : Nat) (a0 : ByteArray) (a1 : Bool) (r1 : ByteArray) (r2 : Int) (w : World) (h : R13Ready.f k a0 a1 = some (r1, r2)) :
  Calls Tryz.prog 17 #[.string a0, .bool a1] w fun e w' => e = .returned (.tuple #[.string r1, .int .i64 r2]) ∧ Below w.heap.size w w' := by
 have HB := Aside0.mk (Below.refl w.heap.size w)
 have H : ((R13Mapped.f k a0 a1).bind fun bt528 => (if bt528.2 = 0 then (R13Ready.l0 k bt528.1 (([] : List Int)) 0) else (some ((⟨#[]⟩ : ByteArray), bt528.2)))) = some (r1, r2) := h
 clear h
 replace H := Option.bind_eq_some_iff.mp H
 obtain ⟨⟨t528, t529⟩, A30, H⟩ := H
 replace H : (if t529 = 0 then (R13Ready.l0 k t528 (([] : List Int)) 0) else (some ((⟨#[]⟩ : ByteArray), t529))) = some (r1, r2) := H
 have A3 := Aside0.mk A30
 clear A30
 by_cases c4 : t529 = 0
 ·
  rw [if_pos c4] at H
  have c4b0 : (t529 == 0) = true := beq_iff_eq.mpr c4
  have c4b1 : (t529 != 0) = false := bne_eq_false_iff_eq.mpr c4
  clear c4
  obtain ⟨y532, hy532⟩ : ∃ y_ : List Int, y_ = (([] : List Int)) := ⟨_, rfl⟩
  replace H : (R13Ready.l0 k t528 y532 0) = some (r1, r2) := by first | (rw [hy532]; with_reducible exact H) | (have H2_ := (Option.bind_some _ _).symm.trans H; rw [hy532]; with_reducible exact H2_) | (have H2_ := (Option.bind_some _ _).symm.trans H; with_reducible exact H2_) | with_reducible exact H | (rw [hy532]; exact H) | exact H
  have Ny532 := Aside0.mk hy532
  clear hy532
  have H' := Aside0.mk H
  clear H
  go_enter Tryz.func17, Tryz.ntmps17
  go_wp2_with (first | ((with_reducible refine gate_callee (f := 40) rfl ?_); refine goesL_ (some 13) rfl rfl Tryz.func40 (by kernel_rfl) rfl #[.string a0, .bool a1] rfl ap3 ?_; (with_reducible refine (R13Mapped.calls k a0 a1 t528 t529 _ A3.out).mono ?_); rintro e w5 ⟨v530, rfl, ho0, hb⟩; refine ⟨_, rfl, ?_⟩; have n0_ := Aside0.mk (Kd.R_lower ho0 (below_size ap1)); have n1_ := Aside0.mk (below_step ap1 hb); clear HB; have HO531 := n0_; have HB := n1_; clear n0_ n1_; (try clear hb); (try clear hb2); (try clear hk); (try clear hi); (try clear ho0)) | ((with_reducible refine gate_dst (N := 19) rfl ?_); (try (refine gate_guard (by rfl) ?_; dsimp only)); refine Kd.R_lit (Kd.int .i32) _ 21 ?hg (N := 19) ?hd (xs := ([] : List Int)) (inner := []) (ok := fun _ => True) (okp := fun _ => True) ?hr ?hp (fun _ hk => hk) trivial (Below.refl _ _) (Nat.le_refl _) (by simp) ?_; (case hd => rfl); (case hg => rfl); (case hr => first | (go_simp; done) | (go_simp; rfl)); (case hp => exact (Reps.none _ _)); intro v533 w6 ho7 hb hg_ hnew_; clear hg_ hnew_; (first | rw [← Ny532.out] at ho7 | (simp only [Int.reduceToNat] at ho7; rw [← Ny532.out] at ho7)); have n0_ := Aside0.mk (Kd.R_elder' (apAR HO531.out) (Kd.R_base ho7) hb); have n1_ := Aside0.mk (Kd.R_lower (Kd.R_new' ho7 (Kd.R_lt (apAR HO531.out))) (below_size ap1)); have n2_ := Aside0.mk (below_step ap1 hb); clear HO531; clear HB; have HO531 := n0_; have HO534 := n1_; have HB := n2_; clear n0_ n1_ n2_; clear hb ho7))
  go_loopg [8, 9] k (fun kq v8 v9 w' => ∃ (x8_1 : List Int) (x9_1 : Int), v9 = .int .i64 x9_1 ∧ Aside0 (R13Ready.l0 kq t528 x8_1 x9_1 = some (r1, r2)) ∧ Aside0 (kq ≤ k) ∧ Aside0 (Kd.R (Kd.int .i32) 21 w' w.heap.size (fun k_ => some k_ ≠ (v8 : Value).ownBlock) v530 t528) ∧ Aside0 (Kd.R (Kd.int .i32) 21 w' w.heap.size (fun k_ => some k_ ≠ (v530 : Value).ownBlock) v8 x8_1) ∧ Aside0 (Below w.heap.size w w'))
  case atStart => exact ⟨(y532), (0), ap2, H', ⟨Nat.le_refl _⟩, ⟨by (with_reducible repeat (first | apply Kd.R_alloc | apply Kd.R_drewN | apply Kd.R_drew)); exact Kd.R_mono HO531.out (fun _ hk => hk.2)⟩, ⟨by (with_reducible repeat (first | apply Kd.R_alloc | apply Kd.R_drewN | apply Kd.R_drew)); exact Kd.R_mono HO534.out (fun _ hk => hk.2)⟩, ⟨by repeat (first | (with_reducible first | exact HB.out | apply below_alloc | apply pw_below_drewN | apply below_drew1) | exact HB.out)⟩⟩
  case round =>
   clear H'
   try clear c1
   try clear p2
   try clear c4
   try clear c4b0
   try clear c4b1
   obtain ⟨x8_1, x9_1, rfl, HA, HK1, HO_6, HO_8, HB⟩ := hrel
   cases gk with
   | zero => exact absurd HA.out (by simp [R13Ready.l0])
   | succ k1 =>
    have H := HA.out
    clear HA
    simp only [R13Ready.l0] at H
    by_cases c8 : x9_1 < (t528.length : Int)
    ·
     rw [if_pos c8] at H
     have c8b0 := decide_eq_true c8
     clear c8
     by_cases c9 : 0 ≤ x9_1
     ·
      rw [if_pos c9] at H
      have c9b0 := decide_eq_true c9
      clear c9
      by_cases c10 : (rd t528 x9_1) = 32
      ·
       rw [if_pos c10] at H
       have c10b0 : ((rd t528 x9_1) == 32) = true := beq_iff_eq.mpr c10
       have c10b1 : ((rd t528 x9_1) != 32) = false := bne_eq_false_iff_eq.mpr c10
       clear c10
       by_cases c11 : (x8_1.length : Int) > 0
       ·
        rw [if_pos c11] at H
        have c11b0 := decide_eq_true c11
        have c11b1 : decide (0 < x8_1.length) = true := decide_eq_true (by omega)
        clear c11
        by_cases c12 : (wrap64 (x9_1 + 1)) < (t528.length : Int)
        ·
         rw [if_pos c12] at H
         have c12b0 := decide_eq_true c12
         clear c12
         obtain ⟨ji13, hji13⟩ : ∃ j_ : Int, (wrap64 (x9_1 + 1)) = j_ := ⟨_, rfl⟩
         replace H : (if 0 ≤ (ji13) then (if (rd t528 (ji13)) = 32 then (R13Ready.l0 k1 t528 x8_1 ji13) else (if x8_1.length < 35184372088832 then (R13Ready.l0 k1 t528 (x8_1 ++ [rd t528 x9_1]) ji13) else (none))) else (none)) = some (r1, r2) := by first | (rw [hji13] at H; exact H) | (simp only [hji13] at H ⊢; exact H)
         (try rw [hji13] at c12b0)
         have hji13w : (IntKind.i64.wrap (x9_1 + 1)) = ji13 := (i64_w _).trans hji13
         by_cases c14 : 0 ≤ (ji13)
         ·
          rw [if_pos c14] at H
          have c14b0 := decide_eq_true c14
          clear c14
          by_cases c15 : (rd t528 (ji13)) = 32
          ·
           rw [if_pos c15] at H
           have c15b0 : ((rd t528 (ji13)) == 32) = true := beq_iff_eq.mpr c15
           have c15b1 : ((rd t528 (ji13)) != 32) = false := bne_eq_false_iff_eq.mpr c15
           clear c15
           have H' := Aside0.mk H
           clear H
           obtain ⟨Ao16, co16, eo16⟩ := Kd.R_slice HO_6.out
           subst eo16
           have p535 : 0 ≤ (x9_1 : Int) := of_decide_eq_true ap0
           have q535 : x9_1 < (t528.length : Int) := of_decide_eq_true ap0
           obtain ⟨ad535, e535, hx535_0⟩ := Kd.at_int (Kd.R_reads' HO_6.out).2.2 x9_1 p535 q535
           cases e535
           replace p535 := eq_true p535
           replace q535 := eq_true q535
           obtain ⟨Ao17, co17, eo17⟩ := Kd.R_slice HO_8.out
           subst eo17
           have p536 : 0 ≤ ((ji13) : Int) := of_decide_eq_true ap0
           have q536 : (ji13) < (t528.length : Int) := of_decide_eq_true ap0
           obtain ⟨ad536, e536, hx536_0⟩ := Kd.at_int (Kd.R_reads' HO_6.out).2.2 (ji13) p536 q536
           obtain rfl : ad535 = ad536 := (by injection e536)
           replace p536 := eq_true p536
           replace q536 := eq_true q536
           go_wp2
           go_roundg k1
           case measure => have := HK1.out; omega
           case rel => exact ⟨(x8_1), (ji13), (by first | rfl | (simp; done) | (simp only [← hji13] <;> (first | rfl | simp)) | (simp [*]; done)), H', ⟨by have := HK1.out; omega⟩, ⟨by (with_reducible repeat (first | apply Kd.R_alloc | apply Kd.R_drewN | apply Kd.R_drew)); exact HO_6.out⟩, ⟨by (with_reducible repeat (first | apply Kd.R_alloc | apply Kd.R_drewN | apply Kd.R_drew)); exact HO_8.out⟩, ⟨by repeat (first | (with_reducible first | exact HB.out | apply below_alloc | apply pw_below_drewN | apply below_drew1) | exact HB.out)⟩⟩
          ·
           rw [if_neg c15] at H
           have c15b0 : ((rd t528 (ji13)) == 32) = false := beq_eq_false_iff_ne.mpr c15
           have c15b1 : ((rd t528 (ji13)) != 32) = true := bne_iff_ne.mpr c15
           by_cases c18 : x8_1.length < 35184372088832
           ·
            rw [if_pos c18] at H
            have LMc18 := Aside0.mk c18
            clear c18
            obtain ⟨y538, hy538⟩ : ∃ y_ : List Int, y_ = (x8_1 ++ [rd t528 x9_1]) := ⟨_, rfl⟩
            replace H : (R13Ready.l0 k1 t528 y538 ji13) = some (r1, r2) := by first | (rw [hy538]; with_reducible exact H) | (have H2_ := (Option.bind_some _ _).symm.trans H; rw [hy538]; with_reducible exact H2_) | (have H2_ := (Option.bind_some _ _).symm.trans H; with_reducible exact H2_) | with_reducible exact H | (rw [hy538]; exact H) | exact H
            have Ny538 := Aside0.mk hy538
            clear hy538
            have H' := Aside0.mk H
            clear H
            obtain ⟨Ao19, co19, eo19⟩ := Kd.R_slice HO_6.out
            subst eo19
            have p535 : 0 ≤ (x9_1 : Int) := of_decide_eq_true ap0
            have q535 : x9_1 < (t528.length : Int) := of_decide_eq_true ap0
            obtain ⟨ad535, e535, hx535_0⟩ := Kd.at_int (Kd.R_reads' HO_6.out).2.2 x9_1 p535 q535
            cases e535
            replace p535 := eq_true p535
            replace q535 := eq_true q535
            obtain ⟨Ao20, co20, eo20⟩ := Kd.R_slice HO_8.out
            subst eo20
            have p536 : 0 ≤ ((ji13) : Int) := of_decide_eq_true ap0
            have q536 : (ji13) < (t528.length : Int) := of_decide_eq_true ap0
            obtain ⟨ad536, e536, hx536_0⟩ := Kd.at_int (Kd.R_reads' HO_6.out).2.2 (ji13) p536 q536
            obtain rfl : ad535 = ad536 := (by injection e536)
            replace p536 := eq_true p536
            replace q536 := eq_true q536
            have p537 : 0 ≤ (x9_1 : Int) := of_decide_eq_true ap0
            have q537 : x9_1 < (t528.length : Int) := of_decide_eq_true ap0
            obtain ⟨ad537, e537, hx537_0⟩ := Kd.at_int (Kd.R_reads' HO_6.out).2.2 x9_1 p537 q537
            obtain rfl : ad535 = ad537 := (by injection e537)
            replace p537 := eq_true p537
            replace q537 := eq_true q537
            go_wp2_with (first | ((with_reducible refine gate_builtin (b := .append) (xs := #[.tmp 51, .tmp 56]) rfl ?_); (try (refine gate_guard (by rfl) ?_; dsimp only)); at_builtin; refine Kd.R_append (Kd.int .i32) (w0 := w) w.heap.size rfl (.tmp 51) (.tmp 56) 64 21 (.int .i32 0) 4 rfl Tryz.underlying64 info21 rfl (by decide) (by omega) (.slice Ao20 x8_1.length co20) x8_1 (rd t528 x9_1) [.int .i32 (rd t528 x9_1)] (fun k_ => some k_ ≠ (.slice (some ad535) t528.length co19 : Value).ownBlock) (fun _ => False) rfl rfl ?aP (fun _ hk => hk.elim) ?aF ?aO ?aB ?aS ?aL ?_; (case aP => exact rfl); (case aB => exact ap1); (case aF => exact (fun k_ hk => Kd.fresh' (Kd.R_lt (apAR HO_6.out)) k_ hk)); (case aO => exact (apAR HO_8.out)); (case aS => exact (below_size ap1)); (case aL => have := LMc18.out; omega); intro v539 w21 ho hb hg hat; rw [← Ny538.out] at ho; have n0_ := Aside0.mk (Kd.R_after (ok := (fun _ => True)) (by (with_reducible repeat (first | apply Kd.R_alloc | apply Kd.R_drewN | apply Kd.R_drew)); exact Kd.R_mono HO_6.out (fun _ hk => ⟨trivial, hk⟩)) hg hat); have n1_ := Aside0.mk (hb); have n2_ := Aside0.mk (ho); clear HO_6; clear HB; clear HO_8; have HO_6 := n0_; have HB := n1_; have HO540 := n2_; clear n0_ n1_ n2_; clear ho hb hg hat))
            go_roundg k1
            case measure => have := HK1.out; omega
            case rel => exact ⟨(y538), (ji13), (by first | rfl | (simp; done) | (simp only [← hji13] <;> (first | rfl | simp)) | (simp [*]; done)), H', ⟨by have := HK1.out; omega⟩, ⟨by (with_reducible repeat (first | apply Kd.R_alloc | apply Kd.R_drewN | apply Kd.R_drew)); exact Kd.R_mono HO_6.out (fun _ hk => hk.2)⟩, ⟨by (with_reducible repeat (first | apply Kd.R_alloc | apply Kd.R_drewN | apply Kd.R_drew)); exact HO540.out⟩, ⟨by repeat (first | (with_reducible first | exact HB.out | apply below_alloc | apply pw_below_drewN | apply below_drew1) | exact HB.out)⟩⟩
           ·
            rw [if_neg c18] at H
            exact absurd H (by simp)
         ·
          rw [if_neg c14] at H
          exact absurd H (by simp)
        ·
         rw [if_neg c12] at H
         have c12b0 := decide_eq_false c12
         clear c12
         have H' := Aside0.mk H
         clear H
         obtain ⟨Ao22, co22, eo22⟩ := Kd.R_slice HO_6.out
         subst eo22
         have p535 : 0 ≤ (x9_1 : Int) := of_decide_eq_true ap0
         have q535 : x9_1 < (t528.length : Int) := of_decide_eq_true ap0
         obtain ⟨ad535, e535, hx535_0⟩ := Kd.at_int (Kd.R_reads' HO_6.out).2.2 x9_1 p535 q535
         cases e535
         replace p535 := eq_true p535
         replace q535 := eq_true q535
         obtain ⟨Ao23, co23, eo23⟩ := Kd.R_slice HO_8.out
         subst eo23
         go_wp2
         go_roundg k1
         case measure => have := HK1.out; omega
         case rel => exact ⟨(x8_1), (wrap64 (x9_1 + 1)), ap2, H', ⟨by have := HK1.out; omega⟩, ⟨by (with_reducible repeat (first | apply Kd.R_alloc | apply Kd.R_drewN | apply Kd.R_drew)); exact HO_6.out⟩, ⟨by (with_reducible repeat (first | apply Kd.R_alloc | apply Kd.R_drewN | apply Kd.R_drew)); exact HO_8.out⟩, ⟨by repeat (first | (with_reducible first | exact HB.out | apply below_alloc | apply pw_below_drewN | apply below_drew1) | exact HB.out)⟩⟩
       ·
        rw [if_neg c11] at H
        have c11b0 := decide_eq_false c11
        have c11b1 : decide (0 < x8_1.length) = false := decide_eq_false (by omega)
        clear c11
        have H' := Aside0.mk H
        clear H
        obtain ⟨Ao24, co24, eo24⟩ := Kd.R_slice HO_6.out
        subst eo24
        have p535 : 0 ≤ (x9_1 : Int) := of_decide_eq_true ap0
        have q535 : x9_1 < (t528.length : Int) := of_decide_eq_true ap0
        obtain ⟨ad535, e535, hx535_0⟩ := Kd.at_int (Kd.R_reads' HO_6.out).2.2 x9_1 p535 q535
        cases e535
        replace p535 := eq_true p535
        replace q535 := eq_true q535
        obtain ⟨Ao25, co25, eo25⟩ := Kd.R_slice HO_8.out
        subst eo25
        go_wp2
        go_roundg k1
        case measure => have := HK1.out; omega
        case rel => exact ⟨(x8_1), (wrap64 (x9_1 + 1)), ap2, H', ⟨by have := HK1.out; omega⟩, ⟨by (with_reducible repeat (first | apply Kd.R_alloc | apply Kd.R_drewN | apply Kd.R_drew)); exact HO_6.out⟩, ⟨by (with_reducible repeat (first | apply Kd.R_alloc | apply Kd.R_drewN | apply Kd.R_drew)); exact HO_8.out⟩, ⟨by repeat (first | (with_reducible first | exact HB.out | apply below_alloc | apply pw_below_drewN | apply below_drew1) | exact HB.out)⟩⟩
      ·
       rw [if_neg c10] at H
       have c10b0 : ((rd t528 x9_1) == 32) = false := beq_eq_false_iff_ne.mpr c10
       have c10b1 : ((rd t528 x9_1) != 32) = true := bne_iff_ne.mpr c10
       by_cases c26 : x8_1.length < 35184372088832
       ·
        rw [if_pos c26] at H
        have LMc26 := Aside0.mk c26
        clear c26
        obtain ⟨y542, hy542⟩ : ∃ y_ : List Int, y_ = (x8_1 ++ [rd t528 x9_1]) := ⟨_, rfl⟩
        replace H : (R13Ready.l0 k1 t528 y542 (wrap64 (x9_1 + 1))) = some (r1, r2) := by first | (rw [hy542]; with_reducible exact H) | (have H2_ := (Option.bind_some _ _).symm.trans H; rw [hy542]; with_reducible exact H2_) | (have H2_ := (Option.bind_some _ _).symm.trans H; with_reducible exact H2_) | with_reducible exact H | (rw [hy542]; exact H) | exact H
        have Ny542 := Aside0.mk hy542
        clear hy542
        have H' := Aside0.mk H
        clear H
        obtain ⟨Ao27, co27, eo27⟩ := Kd.R_slice HO_6.out
        subst eo27
        have p535 : 0 ≤ (x9_1 : Int) := of_decide_eq_true ap0
        have q535 : x9_1 < (t528.length : Int) := of_decide_eq_true ap0
        obtain ⟨ad535, e535, hx535_0⟩ := Kd.at_int (Kd.R_reads' HO_6.out).2.2 x9_1 p535 q535
        cases e535
        replace p535 := eq_true p535
        replace q535 := eq_true q535
        have p541 : 0 ≤ (x9_1 : Int) := of_decide_eq_true ap0
        have q541 : x9_1 < (t528.length : Int) := of_decide_eq_true ap0
        obtain ⟨ad541, e541, hx541_0⟩ := Kd.at_int (Kd.R_reads' HO_6.out).2.2 x9_1 p541 q541
        obtain rfl : ad535 = ad541 := (by injection e541)
        replace p541 := eq_true p541
        replace q541 := eq_true q541
        go_wp2_with (first | ((with_reducible refine gate_builtin (b := .append) (xs := #[.tmp 51, .tmp 56]) rfl ?_); (try (refine gate_guard (by rfl) ?_; dsimp only)); at_builtin; refine Kd.R_append (Kd.int .i32) (w0 := w) w.heap.size rfl (.tmp 51) (.tmp 56) 64 21 (.int .i32 0) 4 rfl Tryz.underlying64 info21 rfl (by decide) (by omega) u8 x8_1 (rd t528 x9_1) [.int .i32 (rd t528 x9_1)] (fun k_ => some k_ ≠ (.slice (some ad535) t528.length co27 : Value).ownBlock) (fun _ => False) rfl rfl ?aP (fun _ hk => hk.elim) ?aF ?aO ?aB ?aS ?aL ?_; (case aP => exact rfl); (case aB => exact ap1); (case aF => exact (fun k_ hk => Kd.fresh' (Kd.R_lt (apAR HO_6.out)) k_ hk)); (case aO => exact (apAR HO_8.out)); (case aS => exact (below_size ap1)); (case aL => have := LMc26.out; omega); intro v543 w28 ho hb hg hat; rw [← Ny542.out] at ho; have n0_ := Aside0.mk (Kd.R_after (ok := (fun _ => True)) (by (with_reducible repeat (first | apply Kd.R_alloc | apply Kd.R_drewN | apply Kd.R_drew)); exact Kd.R_mono HO_6.out (fun _ hk => ⟨trivial, hk⟩)) hg hat); have n1_ := Aside0.mk (hb); have n2_ := Aside0.mk (ho); clear HO_6; clear HB; clear HO_8; have HO_6 := n0_; have HB := n1_; have HO544 := n2_; clear n0_ n1_ n2_; clear ho hb hg hat))
        go_roundg k1
        case measure => have := HK1.out; omega
        case rel => exact ⟨(y542), (wrap64 (x9_1 + 1)), ap2, H', ⟨by have := HK1.out; omega⟩, ⟨by (with_reducible repeat (first | apply Kd.R_alloc | apply Kd.R_drewN | apply Kd.R_drew)); exact Kd.R_mono HO_6.out (fun _ hk => hk.2)⟩, ⟨by (with_reducible repeat (first | apply Kd.R_alloc | apply Kd.R_drewN | apply Kd.R_drew)); exact HO544.out⟩, ⟨by repeat (first | (with_reducible first | exact HB.out | apply below_alloc | apply pw_below_drewN | apply below_drew1) | exact HB.out)⟩⟩
       ·
        rw [if_neg c26] at H
        exact absurd H (by simp)
     ·
      rw [if_neg c9] at H
      exact absurd H (by simp)
    ·
     rw [if_neg c8] at H
     have c8b0 := decide_eq_false c8
     clear c8
     replace H := Option.bind_eq_some_iff.mp H
     obtain ⟨t545, A290, H⟩ := H
     replace H : (some (t545, 0)) = some (r1, r2) := H
     have A29 := Aside0.mk A290
     clear A290
     simp only [Option.some.injEq, Prod.mk.injEq] at H
     obtain ⟨rfl, rfl⟩ := H
     obtain ⟨Ao30, co30, eo30⟩ := Kd.R_slice HO_6.out
     subst eo30
     obtain ⟨Ao31, co31, eo31⟩ := Kd.R_slice HO_8.out
     subst eo31
     go_wp2_with (first | ((with_reducible refine gate_callee (f := 41) rfl ?_); refine goesL_ (some 59) rfl rfl Tryz.func41 (by kernel_rfl) rfl #[.slice Ao31 x8_1.length co31] rfl ap3 ?_; (with_reducible refine (R13Text.calls k1 _ _ x8_1 t545 _ ?side1 ?side2 A29.out).mono ?_); (case side1 => repeat (first | exact (Kd.R_reads' HO_8.out).2.2 | (with_reducible refine Kd.C_alloc ?_ _) | (with_reducible refine Kd.C_drewN ?_ _) | (with_reducible refine Kd.C_drew ?_))); (case side2 => exact (Kd.R_reads' HO_8.out).2.1); rintro e w32 ⟨rfl, hb⟩; refine ⟨_, rfl, ?_⟩; have n0_ := Aside0.mk (Kd.R_below (apAR HO_6.out) hb); have n1_ := Aside0.mk (Kd.R_below (apAR HO_8.out) hb); have n2_ := Aside0.mk (below_step ap1 hb); clear HO_6; clear HO_8; clear HB; have HO_6 := n0_; have HO_8 := n1_; have HB := n2_; clear n0_ n1_ n2_; (try clear hb); (try clear hb2); (try clear hk); (try clear hi)))
     go_ret2
     exact ⟨by first | rfl | (simp [errW_none, errW_some, bne_nil8, beq_nil8]; done) | (simp [errW_none, errW_some] <;> rfl) | (simp [*, errW_none, errW_some] <;> rfl), by repeat (first | (with_reducible first | exact HB.out | apply below_alloc | apply pw_below_drewN | apply below_drew1) | exact HB.out)⟩
 ·
  rw [if_neg c4] at H
  have c4b0 : (t529 == 0) = false := beq_eq_false_iff_ne.mpr c4
  have c4b1 : (t529 != 0) = true := bne_iff_ne.mpr c4
  simp only [Option.some.injEq, Prod.mk.injEq] at H
  obtain ⟨rfl, rfl⟩ := H
  go_enter Tryz.func17, Tryz.ntmps17
  go_wp2_with (first | ((with_reducible refine gate_callee (f := 40) rfl ?_); refine goesL_ (some 13) rfl rfl Tryz.func40 (by kernel_rfl) rfl #[.string a0, .bool a1] rfl ap3 ?_; (with_reducible refine (R13Mapped.calls k a0 a1 t528 t529 _ A3.out).mono ?_); rintro e w33 ⟨v530, rfl, ho0, hb⟩; refine ⟨_, rfl, ?_⟩; have n0_ := Aside0.mk (Kd.R_lower ho0 (below_size ap1)); have n1_ := Aside0.mk (below_step ap1 hb); clear HB; have HO531 := n0_; have HB := n1_; clear n0_ n1_; (try clear hb); (try clear hb2); (try clear hk); (try clear hi); (try clear ho0)))
  go_ret2
  exact ⟨by first | rfl | (simp [errW_none, errW_some, bne_nil8, beq_nil8]; done) | (simp [errW_none, errW_some] <;> rfl) | (simp [*, errW_none, errW_some] <;> rfl), by repeat (first | (with_reducible first | exact HB.out | apply below_alloc | apply pw_below_drewN | apply below_drew1) | exact HB.out)⟩
end Go.Proofs.YtpklcnpmppaaoaaGreatDoor.Print
namespace Go.Proofs.YtpklcnpmppaaoaaGreatDoor.Print
open Go.RowKit Go.Proofs.YtpklcnpmppaaoaaGreatDoorW.PrintWords Go.Proofs.YtpklcnpmppaaoaaGreatDoorW.PrintLast Go.Proofs.YtpklcnpmppaaoaaGreatDoorW.PrintMore Go.Proofs.YtpklcnpmppaaoaaGreatDoor.Pure
set_option linter.unusedVariables false
set_option linter.unusedSimpArgs false
theorem sdT {p : Prop} [Decidable p] (h : p) : some true = some (decide p) := congrArg some (decide_eq_true h).symm
theorem sdF {p : Prop} [Decidable p] (h : ¬ p) : some false = some (decide p) := congrArg some (decide_eq_false h).symm
theorem sdB {p : Prop} [Decidable p] {a b : Int} (h : a = b ↔ p) : some (a == b) = some (decide p) := by
  congr 1; rw [Bool.eq_iff_iff, beq_iff_eq, decide_eq_true_iff]; exact h
theorem u8s (n : Nat) (h : n < 256) : n.toUInt8.toNat = n := by
  have e : n.toUInt8.toNat = n % 2 ^ 8 := UInt8.toNat_ofNat'
  rw [e]; exact Nat.mod_eq_of_lt h
set_option maxHeartbeats 4000000 in
theorem rdropped_is (r : Int) : R13Dropped.f r = some (dropB r) := by
  unfold R13Dropped.f dropB
  by_cases h9 : r < 9
  · simp (disch := omega) only [if_pos, if_neg]; first | exact sdT (by omega) | exact sdF (by omega) | exact sdB (by omega)
  by_cases h14 : r < 14
  · simp (disch := omega) only [if_pos, if_neg]; first | exact sdT (by omega) | exact sdF (by omega) | exact sdB (by omega)
  by_cases h32 : r < 32
  · simp (disch := omega) only [if_pos, if_neg]; first | exact sdT (by omega) | exact sdF (by omega) | exact sdB (by omega)
  by_cases h127 : r < 127
  · simp (disch := omega) only [if_pos, if_neg]; first | exact sdT (by omega) | exact sdF (by omega) | exact sdB (by omega)
  by_cases h133 : r < 133
  · simp (disch := omega) only [if_pos, if_neg]; first | exact sdT (by omega) | exact sdF (by omega) | exact sdB (by omega)
  by_cases h134 : r < 134
  · simp (disch := omega) only [if_pos, if_neg]; first | exact sdT (by omega) | exact sdF (by omega) | exact sdB (by omega)
  by_cases h160 : r < 160
  · simp (disch := omega) only [if_pos, if_neg]; first | exact sdT (by omega) | exact sdF (by omega) | exact sdB (by omega)
  by_cases h173 : r < 173
  · simp (disch := omega) only [if_pos, if_neg]; first | exact sdT (by omega) | exact sdF (by omega) | exact sdB (by omega)
  by_cases h174 : r < 174
  · simp (disch := omega) only [if_pos, if_neg]; first | exact sdT (by omega) | exact sdF (by omega) | exact sdB (by omega)
  by_cases h8203 : r < 8203
  · simp (disch := omega) only [if_pos, if_neg]; first | exact sdT (by omega) | exact sdF (by omega) | exact sdB (by omega)
  by_cases h8208 : r < 8208
  · simp (disch := omega) only [if_pos, if_neg]; first | exact sdT (by omega) | exact sdF (by omega) | exact sdB (by omega)
  by_cases h65279 : r < 65279
  · simp (disch := omega) only [if_pos, if_neg]; first | exact sdT (by omega) | exact sdF (by omega) | exact sdB (by omega)
  by_cases h65280 : r < 65280
  · simp (disch := omega) only [if_pos, if_neg]; first | exact sdT (by omega) | exact sdF (by omega) | exact sdB (by omega)
  simp (disch := omega) only [if_pos, if_neg]; first | exact sdT (by omega) | exact sdF (by omega) | exact sdB (by omega)
set_option maxHeartbeats 4000000 in
theorem rblank_is (r : Int) : R13Blank.f r = some (blankB r) := by
  unfold R13Blank.f blankB
  by_cases h9 : r < 9
  · simp (disch := omega) only [if_pos, if_neg]; first | exact sdT (by omega) | exact sdF (by omega) | exact sdB (by omega)
  by_cases h14 : r < 14
  · simp (disch := omega) only [if_pos, if_neg]; first | exact sdT (by omega) | exact sdF (by omega) | exact sdB (by omega)
  by_cases h32 : r < 32
  · simp (disch := omega) only [if_pos, if_neg]; first | exact sdT (by omega) | exact sdF (by omega) | exact sdB (by omega)
  by_cases h33 : r < 33
  · simp (disch := omega) only [if_pos, if_neg]; first | exact sdT (by omega) | exact sdF (by omega) | exact sdB (by omega)
  by_cases h133 : r < 133
  · simp (disch := omega) only [if_pos, if_neg]; first | exact sdT (by omega) | exact sdF (by omega) | exact sdB (by omega)
  by_cases h134 : r < 134
  · simp (disch := omega) only [if_pos, if_neg]; first | exact sdT (by omega) | exact sdF (by omega) | exact sdB (by omega)
  by_cases h160 : r < 160
  · simp (disch := omega) only [if_pos, if_neg]; first | exact sdT (by omega) | exact sdF (by omega) | exact sdB (by omega)
  by_cases h161 : r < 161
  · simp (disch := omega) only [if_pos, if_neg]; first | exact sdT (by omega) | exact sdF (by omega) | exact sdB (by omega)
  by_cases h5760 : r < 5760
  · simp (disch := omega) only [if_pos, if_neg]; first | exact sdT (by omega) | exact sdF (by omega) | exact sdB (by omega)
  by_cases h5761 : r < 5761
  · simp (disch := omega) only [if_pos, if_neg]; first | exact sdT (by omega) | exact sdF (by omega) | exact sdB (by omega)
  by_cases h8192 : r < 8192
  · simp (disch := omega) only [if_pos, if_neg]; first | exact sdT (by omega) | exact sdF (by omega) | exact sdB (by omega)
  by_cases h8203 : r < 8203
  · simp (disch := omega) only [if_pos, if_neg]; first | exact sdT (by omega) | exact sdF (by omega) | exact sdB (by omega)
  by_cases h8232 : r < 8232
  · simp (disch := omega) only [if_pos, if_neg]; first | exact sdT (by omega) | exact sdF (by omega) | exact sdB (by omega)
  by_cases h8233 : r < 8233
  · simp (disch := omega) only [if_pos, if_neg]; first | exact sdT (by omega) | exact sdF (by omega) | exact sdB (by omega)
  by_cases h8234 : r < 8234
  · simp (disch := omega) only [if_pos, if_neg]; first | exact sdT (by omega) | exact sdF (by omega) | exact sdB (by omega)
  by_cases h8239 : r < 8239
  · simp (disch := omega) only [if_pos, if_neg]; first | exact sdT (by omega) | exact sdF (by omega) | exact sdB (by omega)
  by_cases h8240 : r < 8240
  · simp (disch := omega) only [if_pos, if_neg]; first | exact sdT (by omega) | exact sdF (by omega) | exact sdB (by omega)
  by_cases h8287 : r < 8287
  · simp (disch := omega) only [if_pos, if_neg]; first | exact sdT (by omega) | exact sdF (by omega) | exact sdB (by omega)
  by_cases h8288 : r < 8288
  · simp (disch := omega) only [if_pos, if_neg]; first | exact sdT (by omega) | exact sdF (by omega) | exact sdB (by omega)
  by_cases h12288 : r < 12288
  · simp (disch := omega) only [if_pos, if_neg]; first | exact sdT (by omega) | exact sdF (by omega) | exact sdB (by omega)
  by_cases h12289 : r < 12289
  · simp (disch := omega) only [if_pos, if_neg]; first | exact sdT (by omega) | exact sdF (by omega) | exact sdB (by omega)
  simp (disch := omega) only [if_pos, if_neg]; first | exact sdT (by omega) | exact sdF (by omega) | exact sdB (by omega)
set_option maxHeartbeats 4000000 in
theorem rsmall_is (k : Nat) (r : Int) (h0 : 0 ≤ r) (h1 : r ≤ 1114111) : R13Small.f (k + 1) r = some (smallI r) := by
  have w1 : wrap32 (r + 32) = r + 32 := by unfold wrap32; omega
  have w2 : wrap32 (r + 80) = r + 80 := by unfold wrap32; omega
  unfold R13Small.f smallI
  simp only [R13Small.j0, w1, w2, decide_eq_true_eq, if_true, Bool.false_eq_true, if_false]
  by_cases h65 : r < 65
  · simp (disch := omega) only [if_pos, if_neg]
  by_cases h91 : r < 91
  · simp (disch := omega) only [if_pos, if_neg]
  by_cases h192 : r < 192
  · simp (disch := omega) only [if_pos, if_neg]
  by_cases h215 : r < 215
  · simp (disch := omega) only [if_pos, if_neg]
  by_cases h216 : r < 216
  · simp (disch := omega) only [if_pos, if_neg]
  by_cases h223 : r < 223
  · simp (disch := omega) only [if_pos, if_neg]
  by_cases h913 : r < 913
  · simp (disch := omega) only [if_pos, if_neg]
  by_cases h930 : r < 930
  · simp (disch := omega) only [if_pos, if_neg]
  by_cases h931 : r < 931
  · simp (disch := omega) only [if_pos, if_neg]
  by_cases h938 : r < 938
  · simp (disch := omega) only [if_pos, if_neg]
  by_cases h1024 : r < 1024
  · simp (disch := omega) only [if_pos, if_neg]
  by_cases h1040 : r < 1040
  · simp (disch := omega) only [if_pos, if_neg]
  by_cases h1072 : r < 1072
  · simp (disch := omega) only [if_pos, if_neg]
  simp (disch := omega) only [if_pos, if_neg]
theorem rsmall_ev (r : Int) (h0 : 0 ≤ r) (h1 : r ≤ 1114111) : Ev (fun k => R13Small.f k r) (smallI r) := Ev.step (fun k => by rw [rsmall_is k r h0 h1]) Ev.rfl'
def okRune (r : Int) : Prop := 0 ≤ r ∧ r ≤ 1114111 ∧ ¬ (55296 ≤ r ∧ r ≤ 57343)
theorem bytes_is (r : Int) (h : okRune r) : R13Bytes.f r = some (ints (Lib.encodeRune r)) := by
  obtain ⟨h0, h1, h2⟩ := h
  have w0 : wrap64 r = r := by unfold wrap64; omega
  have d1 : Int.tdiv r 64 = r / 64 := Int.tdiv_eq_ediv_of_nonneg h0
  have d2 : Int.tdiv r 4096 = r / 4096 := Int.tdiv_eq_ediv_of_nonneg h0
  have d3 : Int.tdiv r 262144 = r / 262144 := Int.tdiv_eq_ediv_of_nonneg h0
  have w1 : wrap64 (r / 64) = r / 64 := by unfold wrap64; omega
  have w2 : wrap64 (r / 4096) = r / 4096 := by unfold wrap64; omega
  have w3 : wrap64 (r / 262144) = r / 262144 := by unfold wrap64; omega
  have m1 : Int.tmod r 64 = r % 64 := Int.tmod_eq_emod_of_nonneg h0
  have m2 : Int.tmod (r / 64) 64 = r / 64 % 64 := Int.tmod_eq_emod_of_nonneg (by omega)
  have m3 : Int.tmod (r / 4096) 64 = r / 4096 % 64 := Int.tmod_eq_emod_of_nonneg (by omega)
  have e : ∀ z : List Int, (∀ x ∈ z, 0 ≤ x ∧ x < 256) → ints (z.map fun x => x.toNat.toUInt8) = z := by
    intro z hz
    unfold ints
    rw [List.map_map]
    conv => rhs; rw [← List.map_id z]
    refine List.map_congr_left fun x hx => ?_
    have := hz x hx
    show ((x.toNat.toUInt8.toNat : Nat) : Int) = x
    rw [u8s _ (by omega)]; omega
  unfold R13Bytes.f Lib.encodeRune
  rw [w0, d1, d2, d3, w1, w2, w3, m1, m2, m3]
  by_cases a1 : r < 128
  · rw [if_pos a1, Lib.encodeRuneZ_one h0 (by omega), e _ (by simp; omega)]
    rw [show r % 256 = r by omega]
  by_cases a2 : r < 2048
  · rw [if_neg a1, if_pos a2, Lib.encodeRuneZ_two (by omega) (by omega), e _ (by simp; omega)]
    rw [show wrap64 (192 + r / 64) % 256 = 192 + r / 64 by unfold wrap64; omega, show wrap64 (128 + r % 64) % 256 = 128 + r % 64 by unfold wrap64; omega]
  by_cases a3 : r < 65536
  · rw [if_neg a1, if_neg a2, if_pos a3, Lib.encodeRuneZ_three (by omega), e _ (by simp; omega)]
    rw [show wrap64 (224 + r / 4096) % 256 = 224 + r / 4096 by unfold wrap64; omega, show wrap64 (128 + r / 64 % 64) % 256 = 128 + r / 64 % 64 by unfold wrap64; omega, show wrap64 (128 + r % 64) % 256 = 128 + r % 64 by unfold wrap64; omega]
  · rw [if_neg a1, if_neg a2, if_neg a3, Lib.encodeRuneZ_four (by omega) (by omega), e _ (by simp; omega)]
    rw [show wrap64 (240 + r / 262144) % 256 = 240 + r / 262144 by unfold wrap64; omega, show wrap64 (128 + r / 4096 % 64) % 256 = 128 + r / 4096 % 64 by unfold wrap64; omega, show wrap64 (128 + r / 64 % 64) % 256 = 128 + r / 64 % 64 by unfold wrap64; omega, show wrap64 (128 + r % 64) % 256 = 128 + r % 64 by unfold wrap64; omega]
theorem bt_get! (s : ByteArray) (p : Nat) (h : p < s.size) : bt s (p : Int) = ((s.get! p).toNat : Int) := by
  have e : s.get! p = s[p] := by simp [ByteArray.get!, h]; rfl
  unfold bt
  rw [dif_pos (by simpa using h), e]; rfl
def oneR (x : Nat × Nat) : Int × Int := if x.1 = 65533 ∧ x.2 = 1 then (0, 0) else ((x.1 : Int), (x.2 : Int))
theorem one_end (s : ByteArray) (p n : Nat) (v low : Int) : Ev (fun k => R13One.l0 k s (p : Int) (n : Int) v low (n : Int)) (if v < low then (0, 0) else (if v > 1114111 then (0, 0) else (if v ≥ 55296 then (if v ≤ 57343 then (0, 0) else (v, (n : Int))) else (v, (n : Int))))) := by
  refine Ev.step (fun k => by rw [R13One.l0]) (Ev.neg (by omega) ?_)
  by_cases h1 : v < low
  · simp only [if_pos h1]; exact Ev.rfl'
  by_cases h2 : v > 1114111
  · simp only [if_neg h1, if_pos h2]; exact Ev.rfl'
  by_cases h3 : v ≥ 55296
  · by_cases h4 : v ≤ 57343
    · simp only [if_neg h1, if_neg h2, if_pos h3, if_pos h4]; exact Ev.rfl'
    · simp only [if_neg h1, if_neg h2, if_pos h3, if_neg h4]; exact Ev.rfl'
  · simp only [if_neg h1, if_neg h2, if_neg h3]; exact Ev.rfl'
theorem dec2 (n b0 b1 b2 b3 : Nat) (h0 : 194 ≤ b0 ∧ b0 < 224) (hn : 1 < n) (h1 : 128 ≤ b1 ∧ b1 ≤ 191) : Lib.decodeN n b0 b1 b2 b3 = ((b0 - 192) * 64 + b1 - 128, 2) := by
  unfold Lib.decodeN
  repeat' split
  all_goals first | (exfalso; omega) | with_reducible rfl | (apply Prod.ext <;> simp only <;> omega)
theorem dec2b (n b0 b1 b2 b3 : Nat) (h0 : 194 ≤ b0 ∧ b0 < 224) (h1 : n ≤ 1 ∨ b1 < 128 ∨ 191 < b1) (hb1 : b1 < 256) : Lib.decodeN n b0 b1 b2 b3 = (65533, 1) := by
  unfold Lib.decodeN
  repeat' split
  all_goals first | (exfalso; omega) | with_reducible rfl
theorem dec3 (n b0 b1 b2 b3 : Nat) (h0 : 224 ≤ b0 ∧ b0 < 240) (hn : 2 < n) (h1 : 128 ≤ b1 ∧ b1 ≤ 191) (h2 : 128 ≤ b2 ∧ b2 ≤ 191) :
    Lib.decodeN n b0 b1 b2 b3 = if ((b0 - 224) * 64 + b1 - 128) * 64 + b2 - 128 < 2048 ∨ (55296 ≤ ((b0 - 224) * 64 + b1 - 128) * 64 + b2 - 128 ∧ ((b0 - 224) * 64 + b1 - 128) * 64 + b2 - 128 ≤ 57343) then (65533, 1) else (((b0 - 224) * 64 + b1 - 128) * 64 + b2 - 128, 3) := by
  unfold Lib.decodeN
  repeat' split
  all_goals first | (exfalso; omega) | with_reducible rfl | (apply Prod.ext <;> simp only <;> omega)
theorem dec3b (n b0 b1 b2 b3 : Nat) (h0 : 224 ≤ b0 ∧ b0 < 240) (h1 : n ≤ 2 ∨ b1 < 128 ∨ 191 < b1 ∨ b2 < 128 ∨ 191 < b2) (hb1 : b1 < 256) (hb2 : b2 < 256) : Lib.decodeN n b0 b1 b2 b3 = (65533, 1) := by
  unfold Lib.decodeN
  repeat' split
  all_goals first | (exfalso; omega) | with_reducible rfl
theorem dec4 (n b0 b1 b2 b3 : Nat) (h0 : 240 ≤ b0 ∧ b0 < 245) (hn : 3 < n) (h1 : 128 ≤ b1 ∧ b1 ≤ 191) (h2 : 128 ≤ b2 ∧ b2 ≤ 191) (h3 : 128 ≤ b3 ∧ b3 ≤ 191) :
    Lib.decodeN n b0 b1 b2 b3 = if (((b0 - 240) * 64 + b1 - 128) * 64 + b2 - 128) * 64 + b3 - 128 < 65536 ∨ 1114111 < (((b0 - 240) * 64 + b1 - 128) * 64 + b2 - 128) * 64 + b3 - 128 then (65533, 1) else ((((b0 - 240) * 64 + b1 - 128) * 64 + b2 - 128) * 64 + b3 - 128, 4) := by
  unfold Lib.decodeN
  repeat' split
  all_goals first | (exfalso; omega) | with_reducible rfl | (apply Prod.ext <;> simp only <;> omega)
theorem dec4b (n b0 b1 b2 b3 : Nat) (h0 : 240 ≤ b0 ∧ b0 < 245) (h1 : n ≤ 3 ∨ b1 < 128 ∨ 191 < b1 ∨ b2 < 128 ∨ 191 < b2 ∨ b3 < 128 ∨ 191 < b3) (hb1 : b1 < 256) (hb2 : b2 < 256) (hb3 : b3 < 256) : Lib.decodeN n b0 b1 b2 b3 = (65533, 1) := by
  unfold Lib.decodeN
  repeat' split
  all_goals first | (exfalso; omega) | with_reducible rfl
theorem dec0 (n b0 b1 b2 b3 : Nat) (hb0 : b0 < 256) (hb1 : b1 < 256) (h0 : 128 ≤ b0 ∧ b0 < 194 ∨ 245 ≤ b0) : Lib.decodeN n b0 b1 b2 b3 = (65533, 1) := by
  unfold Lib.decodeN
  repeat' split
  all_goals first | (exfalso; omega) | with_reducible rfl
theorem one_step (s : ByteArray) (hs : s.size ≤ 2000000) (p n j : Nat) (v low : Int) (hj : j < n) (hn : n ≤ 4) (hp : p + n ≤ s.size) (hv : 0 ≤ v) (hv2 : v ≤ 100000000) {o : Int × Int}
    (hbad : ((s.get! (p + j)).toNat < 128 ∨ 191 < (s.get! (p + j)).toNat) → o = (0, 0))
    (h : (128 ≤ (s.get! (p + j)).toNat ∧ (s.get! (p + j)).toNat ≤ 191) → Ev (fun k => R13One.l0 k s (p : Int) (n : Int) (v * 64 + (s.get! (p + j)).toNat - 128) low ((j + 1 : Nat) : Int)) o) :
    Ev (fun k => R13One.l0 k s (p : Int) (n : Int) v low (j : Int)) o := by
  have hlt := (s.get! (p + j)).toNat_lt
  refine Ev.step (fun k => by rw [R13One.l0]) ?_
  rw [show wrap64 ((p : Int) + (j : Int)) = ((p + j : Nat) : Int) by unfold wrap64; omega, bt_get! s (p + j) (by omega)]
  rw [show wrap64 ((s.get! (p + j)).toNat : Int) = ((s.get! (p + j)).toNat : Int) by unfold wrap64; omega]
  rw [show wrap64 (v * 64) = v * 64 by unfold wrap64; omega]
  rw [show wrap64 (v * 64 + ((s.get! (p + j)).toNat : Int)) = v * 64 + ((s.get! (p + j)).toNat : Int) by unfold wrap64; omega]
  rw [show wrap64 (v * 64 + ((s.get! (p + j)).toNat : Int) - 128) = v * 64 + ((s.get! (p + j)).toNat : Int) - 128 by unfold wrap64; omega]
  rw [show wrap64 ((j : Int) + 1) = ((j + 1 : Nat) : Int) by unfold wrap64; omega]
  refine Ev.pos (by omega) (Ev.pos (by omega) (Ev.pos (by omega) ?_))
  by_cases h1 : (s.get! (p + j)).toNat < 128
  · rw [hbad (.inl h1)]; exact Ev.pos (by omega) Ev.rfl'
  by_cases h2 : 191 < (s.get! (p + j)).toNat
  · rw [hbad (.inr h2)]; exact Ev.neg (by omega) (Ev.pos (by omega) Ev.rfl')
  · exact Ev.neg (by omega) (Ev.neg (by omega) (h ⟨by omega, by omega⟩))
theorem one_j5 (s : ByteArray) (hs : s.size ≤ 2000000) (p n : Nat) (v low : Int) (hp : p < s.size) (hn : n ≤ 4) {o : Int × Int}
    (hz : (n = 0 ∨ s.size < p + n) → o = (0, 0)) (h : n ≠ 0 → p + n ≤ s.size → Ev (fun k => R13One.l0 k s (p : Int) (n : Int) v low ((1 : Nat) : Int)) o) :
    Ev (fun k => R13One.j5 k s (p : Int) (n : Int) v low) o := by
  refine Ev.step (fun k => by rw [R13One.j5]) ?_
  have ht : Ev (fun k => R13One.j6 k s (p : Int) (n : Int) v low true) (0, 0) := Ev.step (fun k => by rw [R13One.j6]) (Ev.pos rfl Ev.rfl')
  by_cases h0 : n = 0
  · rw [hz (.inl h0)]; exact Ev.pos (by omega) ht
  · refine Ev.neg (by omega) ?_
    rw [show wrap64 ((p : Int) + (n : Int)) = ((p + n : Nat) : Int) by unfold wrap64; omega]
    by_cases h1 : s.size < p + n
    · rw [hz (.inr h1), decide_eq_true (by omega)]; exact ht
    · rw [decide_eq_false (by omega)]
      refine Ev.step (fun k => by rw [R13One.j6]) ?_
      refine Ev.neg (by simp) ?_
      exact h h0 (by omega)
theorem one_ev (s : ByteArray) (hs : s.size ≤ 2000000) (p : Nat) (hp : p < s.size) : Ev (fun k => R13One.f k s (p : Int)) (oneR (Utf8.decode s p)) := by
  rw [Lib.decode_at]
  have l0 := (s.get! p).toNat_lt
  have l1 := (s.get! (p + 1)).toNat_lt
  have l2 := (s.get! (p + 2)).toNat_lt
  have l3 := (s.get! (p + 3)).toNat_lt
  have hb0 := bt_get! s p hp
  have w0 : wrap64 ((s.get! p).toNat : Int) = ((s.get! p).toNat : Int) := by unfold wrap64; omega
  unfold R13One.f
  rw [hb0, w0]
  refine Ev.pos (by omega) (Ev.pos (by omega) ?_)
  have hend : ∀ {v low : Int} {n : Nat} {o : Int × Int}, o = (if v < low then (0, 0) else (if v > 1114111 then (0, 0) else (if v ≥ 55296 then (if v ≤ 57343 then (0, 0) else (v, (n : Int))) else (v, (n : Int))))) → Ev (fun k => R13One.l0 k s (p : Int) (n : Int) v low (n : Int)) o := by
    intro v low n o h; rw [h]; exact one_end s p n v low
  generalize (s.get! p).toNat = b0 at *
  by_cases c1 : b0 < 128
  · refine Ev.pos (by omega) ?_
    have e : oneR (Lib.decodeN (s.size - p) b0 (s.get! (p + 1)).toNat (s.get! (p + 2)).toNat (s.get! (p + 3)).toNat) = ((b0 : Int), 1) := by
      unfold Lib.decodeN oneR
      rw [if_pos c1, if_neg (by dsimp only; omega)]; rfl
    rw [e]; exact Ev.rfl'
  refine Ev.neg (by omega) ?_
  have hto : ∀ (n : Nat) (v low : Int) {o : Int × Int}, (194 ≤ b0 ∧ b0 < 224 ∧ n = 2 ∧ v = (b0 : Int) - 192 ∧ low = 128) ∨ (224 ≤ b0 ∧ b0 < 240 ∧ n = 3 ∧ v = (b0 : Int) - 224 ∧ low = 2048) ∨ (240 ≤ b0 ∧ b0 < 245 ∧ n = 4 ∧ v = (b0 : Int) - 240 ∧ low = 65536) ∨ ((b0 < 194 ∨ 245 ≤ b0) ∧ n = 0 ∧ v = 0 ∧ low = 0) →
      Ev (fun k => R13One.j5 k s (p : Int) (n : Int) v low) o →
      Ev (fun k => if (b0 : Int) ≥ 194 then (R13One.j0 k s (p : Int) (b0 : Int) 0 0 0 (decide ((b0 : Int) < 224))) else (R13One.j0 k s (p : Int) (b0 : Int) 0 0 0 false)) o := by
    intro n v low o hc h
    have h4 : ∀ {x7 x8 x9 : Int}, (b0 < 245 ∧ 240 ≤ b0 → x7 = x7) → Ev (fun k => R13One.j5 k s (p : Int) (if 240 ≤ b0 ∧ b0 < 245 then 4 else x7) (if 240 ≤ b0 ∧ b0 < 245 then (b0 : Int) - 240 else x8) (if 240 ≤ b0 ∧ b0 < 245 then 65536 else x9)) o → Ev (fun k => R13One.j3 k s (p : Int) (b0 : Int) x7 x8 x9) o := by
      intro x7 x8 x9 _ h
      refine Ev.step (fun k => by rw [R13One.j3]) ?_
      by_cases q : 240 ≤ b0 ∧ b0 < 245
      · simp only [if_pos q] at h
        refine Ev.pos (by omega) ?_
        rw [decide_eq_true (by omega)]
        refine Ev.step (fun k => by rw [R13One.j4]) (Ev.pos rfl ?_)
        rw [show wrap64 ((b0 : Int) - 240) = (b0 : Int) - 240 by unfold wrap64; omega]; exact h
      · simp only [if_neg q] at h
        by_cases q2 : 240 ≤ b0
        · refine Ev.pos (by omega) ?_
          rw [decide_eq_false (by omega)]
          exact Ev.step (fun k => by rw [R13One.j4]) (Ev.neg (by simp) h)
        · refine Ev.neg (by omega) ?_
          exact Ev.step (fun k => by rw [R13One.j4]) (Ev.neg (by simp) h)
    have h3 : ∀ {x7 x8 x9 : Int}, Ev (fun k => R13One.j3 k s (p : Int) (b0 : Int) (if 224 ≤ b0 ∧ b0 < 240 then 3 else x7) (if 224 ≤ b0 ∧ b0 < 240 then (b0 : Int) - 224 else x8) (if 224 ≤ b0 ∧ b0 < 240 then 2048 else x9)) o → Ev (fun k => R13One.j1 k s (p : Int) (b0 : Int) x7 x8 x9) o := by
      intro x7 x8 x9 h
      refine Ev.step (fun k => by rw [R13One.j1]) ?_
      by_cases q : 224 ≤ b0 ∧ b0 < 240
      · simp only [if_pos q] at h
        refine Ev.pos (by omega) ?_
        rw [decide_eq_true (by omega)]
        refine Ev.step (fun k => by rw [R13One.j2]) (Ev.pos rfl ?_)
        rw [show wrap64 ((b0 : Int) - 224) = (b0 : Int) - 224 by unfold wrap64; omega]; exact h
      · simp only [if_neg q] at h
        by_cases q2 : 224 ≤ b0
        · refine Ev.pos (by omega) ?_
          rw [decide_eq_false (by omega)]
          exact Ev.step (fun k => by rw [R13One.j2]) (Ev.neg (by simp) h)
        · refine Ev.neg (by omega) ?_
          exact Ev.step (fun k => by rw [R13One.j2]) (Ev.neg (by simp) h)
    by_cases q : 194 ≤ b0 ∧ b0 < 224
    · refine Ev.pos (by omega) ?_
      rw [decide_eq_true (by omega)]
      refine Ev.step (fun k => by rw [R13One.j0]) (Ev.pos rfl ?_)
      rw [show wrap64 ((b0 : Int) - 192) = (b0 : Int) - 192 by unfold wrap64; omega]
      refine h3 (h4 (fun _ => rfl) ?_)
      simp (disch := omega) only [if_neg]
      obtain ⟨rfl, rfl, rfl⟩ : n = 2 ∧ v = (b0 : Int) - 192 ∧ low = 128 := by omega
      exact h
    · have hj : Ev (fun k => R13One.j1 k s (p : Int) (b0 : Int) 0 0 0) o → Ev (fun k => if (b0 : Int) ≥ 194 then (R13One.j0 k s (p : Int) (b0 : Int) 0 0 0 (decide ((b0 : Int) < 224))) else (R13One.j0 k s (p : Int) (b0 : Int) 0 0 0 false)) o := by
        intro h
        by_cases q2 : 194 ≤ b0
        · refine Ev.pos (by omega) ?_
          rw [decide_eq_false (by omega)]
          exact Ev.step (fun k => by rw [R13One.j0]) (Ev.neg (by simp) h)
        · exact Ev.neg (by omega) (Ev.step (fun k => by rw [R13One.j0]) (Ev.neg (by simp) h))
      refine hj (h3 (h4 (fun _ => rfl) ?_))
      by_cases q3 : 224 ≤ b0 ∧ b0 < 240
      · simp (disch := omega) only [if_pos, if_neg]
        obtain ⟨rfl, rfl, rfl⟩ : n = 3 ∧ v = (b0 : Int) - 224 ∧ low = 2048 := by omega
        exact h
      · by_cases q4 : 240 ≤ b0 ∧ b0 < 245
        · simp (disch := omega) only [if_pos, if_neg]
          obtain ⟨rfl, rfl, rfl⟩ : n = 4 ∧ v = (b0 : Int) - 240 ∧ low = 65536 := by omega
          exact h
        · simp (disch := omega) only [if_pos, if_neg]
          obtain ⟨rfl, rfl, rfl⟩ : n = 0 ∧ v = 0 ∧ low = 0 := by omega
          exact h
  by_cases c2 : 194 ≤ b0 ∧ b0 < 224
  · refine hto 2 _ 128 (.inl ⟨by omega, by omega, rfl, rfl, rfl⟩) (one_j5 s hs p 2 _ _ hp (by omega) ?_ fun _ hsz => ?_)
    · intro h
      rw [dec2b _ _ _ _ _ c2 (.inl (by omega)) l1]; rfl
    · refine one_step s hs p 2 1 _ _ (by omega) (by omega) hsz (by omega) (by omega) ?_ fun hd => hend ?_
      · intro h
        rw [dec2b _ _ _ _ _ c2 (.inr h) l1]; rfl
      · rw [dec2 _ _ _ _ _ c2 (by omega) hd]
        unfold oneR
        dsimp only
        rw [if_neg (by omega), if_neg (by omega), if_neg (by omega), if_neg (by omega)]
        apply Prod.ext <;> dsimp only <;> omega
  by_cases c3 : 224 ≤ b0 ∧ b0 < 240
  · refine hto 3 _ 2048 (.inr (.inl ⟨by omega, by omega, rfl, rfl, rfl⟩)) (one_j5 s hs p 3 _ _ hp (by omega) ?_ fun _ hsz => ?_)
    · intro h
      rw [dec3b _ _ _ _ _ c3 (.inl (by omega)) l1 l2]; rfl
    · refine one_step s hs p 3 1 _ _ (by omega) (by omega) hsz (by omega) (by omega) ?_ fun hd => ?_
      · intro h
        rw [dec3b _ _ _ _ _ c3 (by omega) l1 l2]; rfl
      refine one_step s hs p 3 2 _ _ (by omega) (by omega) hsz (by omega) (by omega) ?_ fun hd2 => hend ?_
      · intro h
        rw [dec3b _ _ _ _ _ c3 (by omega) l1 l2]; rfl
      · rw [dec3 _ _ _ _ _ c3 (by omega) hd hd2]
        unfold oneR
        split
        · simp only [and_self, if_true]
          repeat' split
          all_goals first | (exfalso; omega) | with_reducible rfl
        · dsimp only
          repeat' split
          all_goals first | (exfalso; omega) | with_reducible rfl | (apply Prod.ext <;> dsimp only <;> omega)
  by_cases c4 : 240 ≤ b0 ∧ b0 < 245
  · refine hto 4 _ 65536 (.inr (.inr (.inl ⟨by omega, by omega, rfl, rfl, rfl⟩))) (one_j5 s hs p 4 _ _ hp (by omega) ?_ fun _ hsz => ?_)
    · intro h
      rw [dec4b _ _ _ _ _ c4 (.inl (by omega)) l1 l2 l3]; rfl
    · refine one_step s hs p 4 1 _ _ (by omega) (by omega) hsz (by omega) (by omega) ?_ fun hd => ?_
      · intro h
        rw [dec4b _ _ _ _ _ c4 (by omega) l1 l2 l3]; rfl
      refine one_step s hs p 4 2 _ _ (by omega) (by omega) hsz (by omega) (by omega) ?_ fun hd2 => ?_
      · intro h
        rw [dec4b _ _ _ _ _ c4 (by omega) l1 l2 l3]; rfl
      refine one_step s hs p 4 3 _ _ (by omega) (by omega) hsz (by omega) (by omega) ?_ fun hd3 => hend ?_
      · intro h
        rw [dec4b _ _ _ _ _ c4 (by omega) l1 l2 l3]; rfl
      · rw [dec4 _ _ _ _ _ c4 (by omega) hd hd2 hd3]
        unfold oneR
        split
        · simp only [and_self, if_true]
          repeat' split
          all_goals first | (exfalso; omega) | with_reducible rfl
        · dsimp only
          repeat' split
          all_goals first | (exfalso; omega) | with_reducible rfl | (apply Prod.ext <;> dsimp only <;> omega)
  · refine hto 0 0 0 (.inr (.inr (.inr ⟨by omega, rfl, rfl, rfl⟩))) (one_j5 s hs p 0 _ _ hp (by omega) ?_ fun h _ => absurd rfl h)
    intro _
    rw [dec0 _ _ _ _ _ l0 l1 (by omega)]; rfl
def cutAt {α : Type} [DecidableEq α] (b : α) : List α → List (List α)
  | [] => [[]]
  | c :: r => if c = b then [] :: cutAt b r else match cutAt b r with
    | [] => [[c]]
    | w :: ws => (c :: w) :: ws
theorem cutAt_ne {α : Type} [DecidableEq α] (b : α) (l : List α) : cutAt b l ≠ [] := by
  cases l with
  | nil => simp [cutAt]
  | cons c r =>
    unfold cutAt
    split
    · simp
    · split <;> simp
theorem cutAt_cons {α : Type} [DecidableEq α] {b c : α} {l : List α} {w : List α} {ws : List (List α)} (hc : c ≠ b) (h : cutAt b l = w :: ws) : cutAt b (c :: l) = (c :: w) :: ws := by
  unfold cutAt; rw [if_neg hc, h]
theorem cutAt_blank {α : Type} [DecidableEq α] (b : α) (l : List α) : cutAt b (b :: l) = [] :: cutAt b l := by rw [cutAt, if_pos rfl]
theorem cutAt_app {α : Type} [DecidableEq α] {b : α} : ∀ (a l : List α), (∀ x ∈ a, x ≠ b) → ∀ {w : List α} {ws : List (List α)}, cutAt b l = w :: ws → cutAt b (a ++ l) = (a ++ w) :: ws
  | [], l, _, w, ws, h => h
  | x :: a, l, ha, w, ws, h => cutAt_cons (ha x (by simp)) (cutAt_app a l (fun y hy => ha y (by simp [hy])) h)
theorem cutAt_none {α : Type} [DecidableEq α] {b : α} (a : List α) (h : ∀ x ∈ a, x ≠ b) : cutAt b a = [a] := by
  have := cutAt_app a [] h (w := []) (ws := []) rfl
  simpa using this
def words {α : Type} [DecidableEq α] (b : α) (l : List α) : List (List α) := (cutAt b l).filter (fun w => !w.isEmpty)
def nb (r : List Int) : Bool := match r with
  | [] => false
  | y :: _ => y != 32
def sq : List Int → Bool → List Int
  | [], _ => []
  | x :: r, ne => if x ≠ 32 ∨ (ne = true ∧ nb r = true) then x :: sq r true else sq r ne
theorem inter_cons {α : Type} (s w : List α) : ∀ (ws : List (List α)), s.intercalate (w :: ws) = w ++ ws.flatMap (s ++ ·)
  | [] => by simp [List.intercalate]
  | v :: ws => by
    have ih := inter_cons s v ws
    have : s.intercalate (w :: v :: ws) = w ++ (s ++ s.intercalate (v :: ws)) := by simp [List.intercalate, List.intersperse]
    rw [this, ih]; simp
theorem sq_true : ∀ (l w : List Int) (ws : List (List Int)), cutAt 32 l = w :: ws → sq l true = w ++ (ws.filter (fun w => !w.isEmpty)).flatMap ([32] ++ ·)
  | [], w, ws, h => by
    simp only [cutAt, List.cons.injEq] at h
    obtain ⟨rfl, rfl⟩ := h; rfl
  | x :: r, w, ws, h => by
    by_cases hx : x = 32
    · subst hx
      have h' : cutAt (32 : Int) (32 :: r) = [] :: cutAt 32 r := cutAt_blank 32 r
      rw [h'] at h
      simp only [List.cons.injEq] at h
      obtain ⟨rfl, rfl⟩ := h
      cases r with
      | nil => rfl
      | cons y r2 =>
        obtain ⟨w2, ws2, h2⟩ := List.exists_cons_of_ne_nil (cutAt_ne (32 : Int) (y :: r2))
        have ih := sq_true (y :: r2) w2 ws2 h2
        rw [h2]
        by_cases hy : y = 32
        · subst hy
          have e : sq (32 :: 32 :: r2) true = sq (32 :: r2) true := by
            conv => lhs; rw [sq]
            rw [if_neg (by simp [nb])]
          have hw : w2 = [] := by
            have h'' : cutAt (32 : Int) (32 :: r2) = [] :: cutAt 32 r2 := cutAt_blank 32 r2
            rw [h''] at h2; simp at h2; exact h2.1
          subst hw
          rw [e, ih]; simp
        · have e : sq (32 :: y :: r2) true = 32 :: sq (y :: r2) true := by
            conv => lhs; rw [sq]
            rw [if_pos (by simp [hy, nb])]
          have hw : w2 ≠ [] := by
            obtain ⟨w3, ws3, h3⟩ := List.exists_cons_of_ne_nil (cutAt_ne (32 : Int) r2)
            rw [cutAt_cons hy h3] at h2; simp at h2; rw [← h2.1]; simp
          rw [e, ih]
          rw [List.filter_cons_of_pos (by simp [hw])]; simp
    · obtain ⟨w2, ws2, h2⟩ := List.exists_cons_of_ne_nil (cutAt_ne (32 : Int) r)
      rw [cutAt_cons hx h2] at h
      simp only [List.cons.injEq] at h
      obtain ⟨rfl, rfl⟩ := h
      have ih := sq_true r w2 ws2 h2
      have e : sq (x :: r) true = x :: sq r true := by
        conv => lhs; rw [sq]
        rw [if_pos (Or.inl hx)]
      rw [e, ih]; rfl
theorem sq_words : ∀ (l : List Int), sq l false = [32].intercalate (words 32 l)
  | [] => rfl
  | x :: r => by
    by_cases hx : x = 32
    · subst hx
      have h' : words (32 : Int) (32 :: r) = words 32 r := by unfold words; rw [cutAt_blank, List.filter_cons_of_neg (by simp)]
      have e : sq (32 :: r) false = sq r false := by
        conv => lhs; rw [sq]
        rw [if_neg (by simp)]
      rw [e, h', sq_words r]
    · obtain ⟨w2, ws2, h2⟩ := List.exists_cons_of_ne_nil (cutAt_ne (32 : Int) r)
      have e : sq (x :: r) false = x :: sq r true := by
        conv => lhs; rw [sq]
        rw [if_pos (Or.inl hx)]
      rw [e, sq_true r w2 ws2 h2]
      unfold words
      rw [cutAt_cons hx h2, List.filter_cons_of_pos (by simp), inter_cons]; rfl
theorem enc_blank : Lib.encodeRune 32 = [32] := by decide
theorem enc_other (r : Int) (h : r ≠ 32) : Lib.encodeRune r ≠ [] ∧ ∀ c ∈ Lib.encodeRune r, c ≠ 32 := by
  by_cases h1 : 0 ≤ r ∧ r ≤ 127
  · unfold Lib.encodeRune
    rw [Lib.encodeRuneZ_one h1.1 h1.2]
    refine ⟨by simp, ?_⟩
    intro c hc
    simp only [List.map_cons, List.map_nil, List.mem_singleton] at hc
    subst hc
    intro h2
    have := congrArg UInt8.toNat h2
    rw [u8s _ (by omega)] at this
    have h32 : (32 : UInt8).toNat = 32 := rfl
    omega
  · have hall : ∀ z : List Int, (∀ x ∈ z, 128 ≤ x ∧ x < 256) → ∀ c ∈ z.map (fun x => x.toNat.toUInt8), c ≠ 32 := by
      intro z hz c hc h2
      obtain ⟨x, hx, rfl⟩ := List.mem_map.1 hc
      have := hz x hx
      have h3 := congrArg UInt8.toNat h2
      rw [u8s _ (by omega)] at h3
      have h32 : (32 : UInt8).toNat = 32 := rfl
      omega
    unfold Lib.encodeRune
    by_cases h2 : 128 ≤ r ∧ r ≤ 2047
    · rw [Lib.encodeRuneZ_two h2.1 h2.2]
      exact ⟨by simp, hall _ (by simp; omega)⟩
    by_cases h3 : (2048 ≤ r ∧ r < 55296) ∨ (57343 < r ∧ r ≤ 65535)
    · rw [Lib.encodeRuneZ_three h3]
      exact ⟨by simp, hall _ (by simp; omega)⟩
    by_cases h4 : 65536 ≤ r ∧ r ≤ 1114111
    · rw [Lib.encodeRuneZ_four h4.1 h4.2]
      exact ⟨by simp, hall _ (by simp; omega)⟩
    · rw [Lib.encodeRuneZ_bad (by omega)]
      exact ⟨by simp, hall _ (by simp)⟩
theorem encAll_cons (r : Int) (l : List Int) : encAll (r :: l) = Lib.encodeRune r ++ encAll l := rfl
theorem encAll_app (a b : List Int) : encAll (a ++ b) = encAll a ++ encAll b := by simp [encAll]
theorem encAll_nil' {l : List Int} : encAll l = [] ↔ l = [] := by
  cases l with
  | nil => simp [encAll]
  | cons r l =>
    rw [encAll_cons]
    by_cases h : r = 32
    · subst h; rw [enc_blank]; simp
    · simp [(enc_other r h).1]
theorem cut_enc : ∀ (l : List Int), cutAt 32 (encAll l) = (cutAt 32 l).map encAll
  | [] => rfl
  | r :: l => by
    have ih := cut_enc l
    rw [encAll_cons]
    by_cases h : r = 32
    · subst h
      rw [enc_blank]
      show cutAt 32 (32 :: encAll l) = _
      have h1 := cutAt_blank (32 : UInt8) (encAll l)
      have h2 := cutAt_blank (32 : Int) l
      rw [h1, h2, ih]; rfl
    · obtain ⟨w2, ws2, h2⟩ := List.exists_cons_of_ne_nil (cutAt_ne (32 : Int) l)
      rw [h2] at ih
      rw [cutAt_app _ _ (enc_other r h).2 ih, cutAt_cons h h2]; rfl
theorem words_enc (l : List Int) : words 32 (encAll l) = (words 32 l).map encAll := by
  unfold words
  rw [cut_enc, List.filter_map]
  congr 1
  refine List.filter_congr fun w _ => ?_
  have := @encAll_nil' w
  cases w with
  | nil => rfl
  | cons x w =>
    have : encAll (x :: w) ≠ [] := fun h => by simp [encAll_nil'] at h
    simp [this]
theorem encAll_inter (ws : List (List Int)) : encAll ([32].intercalate ws) = [32].intercalate (ws.map encAll) := by
  cases ws with
  | nil => rfl
  | cons w ws =>
    rw [inter_cons, List.map_cons, inter_cons, encAll_app]
    congr 1
    induction ws with
    | nil => rfl
    | cons v ws ih => rw [List.flatMap_cons, List.map_cons, List.flatMap_cons, encAll_app, encAll_app, ih, show encAll [32] = [32] from by decide]
def readyOf (fold : Bool) (s : ByteArray) : Option (List UInt8) := (runesN s s.size 0).map fun l => encAll (sq (l.filterMap (mapRune fold)) false)
theorem ready_words (l : List Int) : [32].intercalate (words 32 (encAll l)) = encAll (sq l false) := by rw [words_enc, sq_words, encAll_inter]
theorem index_blank (a b : List UInt8) (h : ∀ c ∈ a, c ≠ 32) : Lib.index (a ++ 32 :: b) [32] = (a.length : Int) := by
  rw [Lib.index_one]
  induction a with
  | nil => rfl
  | cons c a ih =>
    have hc := h c (by simp)
    have ih := ih fun x hx => h x (by simp [hx])
    rw [List.cons_append, Lib.indexByte, if_neg (by simpa using hc), ih, if_neg (by simp <;> omega)]
    simp
theorem index_noblank (a : List UInt8) (h : ∀ c ∈ a, c ≠ 32) : Lib.index a [32] = -1 := by
  rw [Lib.index_one]
  induction a with
  | nil => rfl
  | cons c a ih =>
    have hc := h c (by simp)
    have ih := ih fun x hx => h x (by simp [hx])
    rw [Lib.indexByte, if_neg (by simpa using hc), ih]; rfl
theorem first_blank (l : List UInt8) : (∀ c ∈ l, c ≠ 32) ∨ ∃ a b, l = a ++ 32 :: b ∧ ∀ c ∈ a, c ≠ 32 := by
  induction l with
  | nil => exact .inl (by simp)
  | cons c l ih =>
    by_cases hc : c = 32
    · exact .inr ⟨[], l, by rw [hc]; rfl, by simp⟩
    · rcases ih with h | ⟨a, b, rfl, h⟩
      · exact .inl fun x hx => by rcases List.mem_cons.1 hx with rfl | hx; exact hc; exact h x hx
      · exact .inr ⟨c :: a, b, rfl, fun x hx => by rcases List.mem_cons.1 hx with rfl | hx; exact hc; exact h x hx⟩
theorem splitK_blank : ∀ (k : Nat) (l : List UInt8), l.count 32 ≤ k → Lib.splitK [32] 0 k l = cutAt 32 l
  | 0, l, h => by
    have hn : ∀ c ∈ l, c ≠ 32 := by
      intro c hc h2; subst h2
      have := List.count_pos_iff.2 hc; omega
    rw [cutAt_none l hn]; rfl
  | k + 1, l, h => by
    rcases first_blank l with hn | ⟨a, b, rfl, hn⟩
    · rw [Lib.splitK, index_noblank l hn, if_pos (show ((-1 : Int) == -1) = true from rfl), cutAt_none l hn]
    · rw [Lib.splitK, index_blank a b hn, if_neg (by simp <;> omega)]
      have hc : b.count 32 ≤ k := by
        rw [List.count_append, List.count_cons] at h; simp at h; omega
      obtain ⟨w2, ws2, h2⟩ := List.exists_cons_of_ne_nil (cutAt_ne (32 : UInt8) (32 :: b))
      have h3 := cutAt_blank (32 : UInt8) b
      rw [cutAt_app a _ hn h3, List.append_nil]
      congr 1
      · simp
      · have e : (a ++ 32 :: b).drop ((a.length : Int).toNat + ([32] : List UInt8).length) = b := by simp
        rw [e]
        exact splitK_blank k b hc
theorem split_f (t : List UInt8) (ht : t.length ≤ 1000000) : ∃ ps : List ByteArray, strings_Split.f ⟨t.toArray⟩ (⟨#[32]⟩ : ByteArray) = some ps ∧ ps.map (·.data.toList) = cutAt 32 t := by
  unfold strings_Split.f
  refine ⟨_, by rw [if_pos (by rw [← bl_length]; exact ht), if_pos (show 1 ≤ (⟨#[32]⟩ : ByteArray).size from Nat.le_refl _)], ?_⟩
  rw [Lib.splitB_data]
  show Lib.splitK [32] 0 (Lib.count t [32]) t = _
  exact splitK_blank _ _ (by rw [Lib.count_one]; exact Nat.le_refl _)
theorem rdOf_at {L : List ByteArray} {i : Nat} {x : ByteArray} {r : List ByteArray} (h : L.drop i = x :: r) : i < L.length ∧ rdOf ByteArray.empty L (i : Int) = x ∧ L.drop (i + 1) = r := by
  have h1 : i < L.length := by
    rcases Nat.lt_or_ge i L.length with h' | h'
    · exact h'
    · rw [List.drop_eq_nil_of_le h'] at h; cases h
  refine ⟨h1, ?_, ?_⟩
  · have h0 : L[i]? = some x := by
      have := congrArg List.head? h
      rw [List.head?_drop] at this; simpa using this
    unfold rdOf
    rw [List.getD_eq_getElem?_getD, Int.toNat_natCast, h0]; rfl
  · have := congrArg List.tail h
    rw [List.tail_drop] at this; simpa using this
theorem ready_loop (ps : List ByteArray) (hps : ps.length ≤ 1000000) {t : ByteArray} : ∀ (n i : Nat) (acc : List ByteArray), ps.length - i = n → i ≤ ps.length → acc.length ≤ i →
    strings_Join.f (acc ++ (ps.drop i).filter (fun w => !w.data.toList.isEmpty)) (⟨#[32]⟩ : ByteArray) = some t →
    Ev (fun k => prep_Ready.l0 k acc ps (ps.length : Int) (i : Int)) (t, 0) := by
  intro n
  induction n with
  | zero =>
    intro i acc hn hi ha hj
    rw [List.drop_eq_nil_of_le (by omega)] at hj
    simp only [List.filter_nil, List.append_nil] at hj
    refine Ev.step (fun k => by rw [prep_Ready.l0]) ?_
    exact Ev.neg (by omega) (Ev.bindc hj Ev.rfl')
  | succ n ih =>
    intro i acc hn hi ha hj
    cases hr : ps.drop i with
    | nil => have := List.drop_eq_nil_iff.1 hr; omega
    | cons x r =>
      obtain ⟨g1, g2, g3⟩ := rdOf_at hr
      rw [hr] at hj
      refine Ev.step (fun k => by rw [prep_Ready.l0]) ?_
      rw [g2, wsucc (by omega), Lib.toList_data]
      refine Ev.pos (by omega) (Ev.pos (by omega) (Ev.pos (by omega) ?_))
      by_cases hx : x.data.toList = []
      · refine Ev.pos hx (ih (i + 1) acc (by omega) (by omega) (by omega) ?_)
        rw [g3]
        rw [List.filter_cons_of_neg (by simp [hx])] at hj; exact hj
      · refine Ev.neg hx (Ev.pos (by omega) (ih (i + 1) (acc ++ [x]) (by omega) (by omega) (by simp; omega) ?_))
        rw [g3]
        rw [List.filter_cons_of_pos (by simpa using hx)] at hj
        rw [List.append_assoc]; exact hj
theorem cutAt_len {α : Type} [DecidableEq α] (b : α) : ∀ l : List α, (cutAt b l).length ≤ l.length + 1
  | [] => by simp [cutAt]
  | c :: r => by
    have ih := cutAt_len b r
    by_cases hc : c = b
    · subst hc; rw [cutAt_blank]; simp; omega
    · obtain ⟨w2, ws2, h2⟩ := List.exists_cons_of_ne_nil (cutAt_ne b r)
      rw [h2] at ih
      rw [cutAt_cons hc h2]; simp at ih ⊢; omega
theorem sq_len : ∀ (l : List Int) (b : Bool), (sq l b).length ≤ l.length
  | [], _ => Nat.le_refl _
  | x :: r, b => by
    rw [sq]
    split
    · have := sq_len r true; simp; omega
    · have := sq_len r b; simp; omega
theorem ready_ev (s : ByteArray) (hs : s.size ≤ 100000) (fold : Bool) : Ev (fun k => prep_Ready.f k s fold) (match readyOf fold s with | some t => (⟨t.toArray⟩, 0) | none => (⟨#[]⟩, 19)) := by
  unfold prep_Ready.f
  have hm : prep_Map.f s fold = some (prep_Map.of fold (runesN s s.size 0)) := by unfold prep_Map.f; rw [if_pos (by omega)]
  refine Ev.bindc hm ?_
  unfold readyOf
  cases hr : runesN s s.size 0 with
  | none => exact Ev.neg (show ¬ ((19 : Int) = 0) by decide) Ev.rfl'
  | some l =>
    obtain ⟨_, hll⟩ := runesN_le s _ _ l hr
    have hfl : (l.filterMap (mapRune fold)).length ≤ s.size := Nat.le_trans (List.length_filterMap_le _ _) hll
    have hel := encAll_length (l.filterMap (mapRune fold))
    obtain ⟨ps, h1, h2⟩ := split_f (encAll (l.filterMap (mapRune fold))) (by omega)
    have hpl : ps.length ≤ 1000000 := by
      have := cutAt_len (32 : UInt8) (encAll (l.filterMap (mapRune fold)))
      rw [← h2, List.length_map] at this; omega
    refine Ev.pos (show (0 : Int) = 0 from rfl) (Ev.bindc h1 ?_)
    refine ready_loop ps hpl _ 0 [] rfl (Nat.zero_le _) (Nat.le_refl _) ?_
    rw [List.drop_zero, List.nil_append]
    unfold strings_Join.f
    have hj : joinB (ps.filter fun w => !w.data.toList.isEmpty) (⟨#[32]⟩ : ByteArray) = encAll (sq (l.filterMap (mapRune fold)) false) := by
      unfold joinB
      rw [← ready_words]
      unfold words
      rw [← h2, List.filter_map]; rfl
    have hfl2 : (ps.filter fun w => !w.data.toList.isEmpty).length ≤ ps.length := List.length_filter_le _ _
    have hsq := sq_len (l.filterMap (mapRune fold)) false
    have hel2 := encAll_length (sq (l.filterMap (mapRune fold)) false)
    rw [if_pos (by omega), hj, if_pos (by omega)]
theorem rd_at {L : List Int} {i : Nat} {x : Int} {r : List Int} (h : L.drop i = x :: r) : i < L.length ∧ rd L (i : Int) = x ∧ L.drop (i + 1) = r := by
  have h1 : i < L.length := by
    rcases Nat.lt_or_ge i L.length with h' | h'
    · exact h'
    · rw [List.drop_eq_nil_of_le h'] at h; cases h
  refine ⟨h1, ?_, ?_⟩
  · have h0 : L[i]? = some x := by
      have := congrArg List.head? h
      rw [List.head?_drop] at this; simpa using this
    unfold rd
    rw [List.getD_eq_getElem?_getD, Int.toNat_natCast, h0]; rfl
  · have := congrArg List.tail h
    rw [List.tail_drop] at this; simpa using this
theorem decode_len (s : ByteArray) (p : Nat) (hp : p < s.size) : 1 ≤ (Utf8.decode s p).2 ∧ (p + (Utf8.decode s p).2 ≤ s.size) ∧ (Utf8.decode s p).1 ≤ 1114111 ∧ ¬ (55296 ≤ (Utf8.decode s p).1 ∧ (Utf8.decode s p).1 ≤ 57343) := by
  rw [Lib.decode_at]
  have l0 := (s.get! p).toNat_lt
  rcases Lib.decodeN_shape (s.size - p) (s.get! p).toNat (s.get! (p + 1)).toNat (s.get! (p + 2)).toNat (s.get! (p + 3)).toNat with ⟨a, e⟩ | ⟨b1, b2, b3, a, e⟩ | ⟨b1, b2, b3, b4, a, b5, e⟩ | ⟨b1, b2, b3, b4, b5, a, b6, e⟩ | e
  all_goals (rw [e]; dsimp only; omega)
theorem runes_ev (s : ByteArray) (hs : s.size ≤ 2000000) : ∀ (n p : Nat) (acc : List Int), p ≤ s.size → s.size - p ≤ n → acc.length ≤ p →
    (runesN s n p = none → Ev (fun k => R13Runes.l0 k s acc (p : Int)) ([], 19)) ∧
    (∀ l, runesN s n p = some l → Ev (fun k => R13Runes.l0 k s acc (p : Int)) (acc ++ l, 0)) := by
  intro n
  induction n with
  | zero =>
    intro p acc hp hn ha
    refine ⟨fun h => by simp [runesN] at h, fun l h => ?_⟩
    simp only [runesN, Option.some.injEq] at h
    subst h
    rw [List.append_nil]
    exact Ev.step (fun k => by rw [R13Runes.l0]) (Ev.neg (by omega) Ev.rfl')
  | succ n ih =>
    intro p acc hp hn ha
    rw [runesN]
    by_cases hlt : p < s.size
    · rw [if_pos hlt]
      have ho := one_ev s hs p hlt
      obtain ⟨w1, w2, w3, w4⟩ := decode_len s p hlt
      have hst : ∀ {o : List Int × Int}, Ev (fun k => if (oneR (Utf8.decode s p)).2 = 0 then (some (([] : List Int), (19 : Int))) else (if acc.length < 35184372088832 then (R13Runes.l0 k s (acc ++ [wrap32 ((oneR (Utf8.decode s p)).1)]) (wrap64 ((p : Int) + (oneR (Utf8.decode s p)).2))) else (none))) o → Ev (fun k => R13Runes.l0 k s acc (p : Int)) o := by
        intro o h
        refine Ev.step (fun k => by rw [R13Runes.l0]) ?_
        exact Ev.pos (by omega) (Ev.bind ho h)
      by_cases he : (Utf8.decode s p).1 = 65533 ∧ (Utf8.decode s p).2 = 1
      · rw [if_pos he]
        have e : oneR (Utf8.decode s p) = (0, 0) := by unfold oneR; rw [if_pos he]
        rw [e] at hst
        exact ⟨fun _ => hst (Ev.pos rfl Ev.rfl'), fun l h => by simp at h⟩
      · rw [if_neg he]
        have e : oneR (Utf8.decode s p) = (((Utf8.decode s p).1 : Int), ((Utf8.decode s p).2 : Int)) := by unfold oneR; rw [if_neg he]
        rw [e] at hst
        dsimp only at hst
        generalize (Utf8.decode s p).1 = v at *
        generalize (Utf8.decode s p).2 = w at *
        have hi := ih (p + w) (acc ++ [(v : Int)]) (by omega) (by omega) (by simp; omega)
        have hgo : ∀ {o : List Int × Int}, Ev (fun k => R13Runes.l0 k s (acc ++ [(v : Int)]) ((p + w : Nat) : Int)) o → Ev (fun k => R13Runes.l0 k s acc (p : Int)) o := by
          intro o h
          refine hst (Ev.neg (by omega) (Ev.pos (by omega) ?_))
          rw [show wrap32 (v : Int) = (v : Int) by unfold wrap32; omega, show wrap64 ((p : Int) + (w : Int)) = ((p + w : Nat) : Int) by unfold wrap64; omega]
          exact h
        refine ⟨fun h => hgo (hi.1 (by simpa using h)), fun l h => ?_⟩
        obtain ⟨l', hl', rfl⟩ := Option.map_eq_some_iff.1 h
        have := hgo (hi.2 l' hl')
        rwa [List.append_assoc] at this
    · rw [if_neg hlt]
      refine ⟨fun h => by simp at h, fun l h => ?_⟩
      simp only [Option.some.injEq] at h
      subst h
      rw [List.append_nil]
      exact Ev.step (fun k => by rw [R13Runes.l0]) (Ev.neg (by omega) Ev.rfl')
theorem runesN_ok (s : ByteArray) : ∀ (n p : Nat) (l : List Int), runesN s n p = some l → ∀ r ∈ l, okRune r
  | 0, p, l, h => by simp [runesN] at h; subst h; simp
  | n + 1, p, l, h => by
    rw [runesN] at h
    split at h
    · rename_i hlt
      split at h
      · cases h
      · obtain ⟨l', hl', rfl⟩ := Option.map_eq_some_iff.1 h
        intro r hr
        rcases List.mem_cons.1 hr with rfl | hr
        · obtain ⟨_, _, w3, w4⟩ := decode_len s p hlt
          exact ⟨by omega, by omega, by omega⟩
        · exact runesN_ok s n _ l' hl' r hr
    · simp at h; subst h; simp
theorem smallI_ok {r : Int} (h : okRune r) : okRune (smallI r) := by
  obtain ⟨h0, h1, h2⟩ := h
  unfold okRune smallI
  split
  · omega
  · split <;> omega
theorem mapRune_ok {fold : Bool} {r x : Int} (h : okRune r) (hx : mapRune fold r = some x) : okRune x := by
  unfold mapRune at hx
  split at hx
  · cases hx
  · split at hx
    · simp at hx; subst hx; exact ⟨by omega, by omega, by omega⟩
    · simp at hx; subst hx
      split
      · exact smallI_ok h
      · exact h
theorem mapped_loop (fold : Bool) (l : List Int) (hl : l.length ≤ 2000000) (hok : ∀ r ∈ l, okRune r) (e : Int) : ∀ (n i : Nat) (acc : List Int), l.length - i = n → i ≤ l.length → acc.length ≤ i →
    Ev (fun k => R13Mapped.l0 k fold l e acc (i : Int)) (acc ++ (l.drop i).filterMap (mapRune fold), e) := by
  intro n
  induction n with
  | zero =>
    intro i acc hn hi ha
    rw [List.drop_eq_nil_of_le (by omega)]
    simp only [List.filterMap_nil, List.append_nil]
    exact Ev.step (fun k => by rw [R13Mapped.l0]) (Ev.neg (by omega) Ev.rfl')
  | succ n ih =>
    intro i acc hn hi ha
    cases hr : l.drop i with
    | nil => have := List.drop_eq_nil_iff.1 hr; omega
    | cons x r =>
      obtain ⟨g1, g2, g3⟩ := rd_at hr
      have hx : okRune x := hok x (by
        have : x ∈ l.drop i := by rw [hr]; simp
        exact List.mem_of_mem_drop this)
      refine Ev.step (fun k => by rw [R13Mapped.l0]) ?_
      rw [g2, wsucc (by omega)]
      refine Ev.pos (by omega) (Ev.pos (by omega) (Ev.bindc (rdropped_is x) ?_))
      rw [List.filterMap_cons]
      have hlen : acc.length < 35184372088832 := by omega
      have hgo : ∀ y, Ev (fun k => R13Mapped.l0 k fold l e (acc ++ [y]) ((i + 1 : Nat) : Int)) (acc ++ (y :: r.filterMap (mapRune fold)), e) := by
        intro y
        have := ih (i + 1) (acc ++ [y]) (by omega) (by omega) (by simp; omega)
        rw [g3, List.append_assoc] at this; exact this
      rw [show mapRune fold x = (if dropB x = true then none else if blankB x = true then some 32 else some (if fold = true then smallI x else x)) from rfl]
      cases hd : dropB x with
      | true =>
        refine Ev.pos rfl ?_
        have := ih (i + 1) acc (by omega) (by omega) (by omega)
        rw [g3] at this
        simpa using this
      | false =>
        refine Ev.neg (by simp) (Ev.bindc (rblank_is x) ?_)
        cases hb : blankB x with
        | true => exact Ev.pos rfl (Ev.pos hlen (by simpa using hgo 32))
        | false =>
          refine Ev.neg (by simp) ?_
          cases fold with
          | true => exact Ev.pos rfl (Ev.bind (rsmall_ev x hx.1 hx.2.1) (Ev.pos hlen (by simpa using hgo (smallI x))))
          | false => exact Ev.neg (by simp) (Ev.pos hlen (by simpa using hgo x))
theorem ints_app (a b : List UInt8) : ints a ++ ints b = ints (a ++ b) := by simp [ints]
theorem text_loop (l : List Int) (hl : l.length ≤ 2000000) (hok : ∀ r ∈ l, okRune r) : ∀ (n i : Nat) (acc : List UInt8), l.length - i = n → i ≤ l.length → acc.length ≤ 4 * i →
    Ev (fun k => R13Text.l0 k l (ints acc) (i : Int)) ⟨(acc ++ encAll (l.drop i)).toArray⟩ := by
  intro n
  induction n with
  | zero =>
    intro i acc hn hi ha
    rw [List.drop_eq_nil_of_le (by omega), show encAll [] = [] from rfl, List.append_nil]
    refine Ev.step (fun k => by rw [R13Text.l0]) (Ev.neg (by omega) ?_)
    rw [strOfNums_ints]; exact Ev.rfl'
  | succ n ih =>
    intro i acc hn hi ha
    cases hr : l.drop i with
    | nil => have := List.drop_eq_nil_iff.1 hr; omega
    | cons x r =>
      obtain ⟨g1, g2, g3⟩ := rd_at hr
      have hx : okRune x := hok x (by
        have : x ∈ l.drop i := by rw [hr]; simp
        exact List.mem_of_mem_drop this)
      have h4 : (Lib.encodeRune x).length ≤ 4 := by
        have := Lib.runeCells_le x
        rw [Lib.runeCells_length] at this; exact this.2
      refine Ev.step (fun k => by rw [R13Text.l0]) ?_
      rw [g2, wsucc (by omega)]
      refine Ev.pos (by omega) (Ev.pos (by omega) (Ev.bindc (bytes_is x hx) (Ev.pos (by rw [ints_length, ints_length]; omega) ?_)))
      rw [ints_app, encAll_cons, ← List.append_assoc, ← g3]
      exact ih (i + 1) (acc ++ Lib.encodeRune x) (by omega) (by omega) (by simp; omega)
theorem refready_loop (l : List Int) (hl : l.length ≤ 2000000) {t : ByteArray} : ∀ (n i : Nat) (acc : List Int), l.length - i = n → i ≤ l.length → acc.length ≤ i →
    Ev (fun k => R13Text.f k (acc ++ sq (l.drop i) (decide (0 < acc.length)))) t →
    Ev (fun k => R13Ready.l0 k l acc (i : Int)) (t, 0) := by
  intro n
  induction n with
  | zero =>
    intro i acc hn hi ha ht
    rw [List.drop_eq_nil_of_le (by omega), show ∀ b, sq [] b = [] from fun _ => rfl, List.append_nil] at ht
    refine Ev.step (fun k => by rw [R13Ready.l0]) ?_
    exact Ev.neg (by omega) (Ev.bind ht Ev.rfl')
  | succ n ih =>
    intro i acc hn hi ha ht
    cases hr : l.drop i with
    | nil => have := List.drop_eq_nil_iff.1 hr; omega
    | cons x r =>
      obtain ⟨g1, g2, g3⟩ := rd_at hr
      rw [hr, sq] at ht
      refine Ev.step (fun k => by rw [R13Ready.l0]) ?_
      rw [g2, wsucc (by omega)]
      have hlen : acc.length < 35184372088832 := by omega
      have hput : (x ≠ 32 ∨ (decide (0 < acc.length) = true ∧ nb r = true)) → Ev (fun k => R13Ready.l0 k l (acc ++ [x]) ((i + 1 : Nat) : Int)) (t, 0) := by
        intro hc
        rw [if_pos hc] at ht
        refine ih (i + 1) (acc ++ [x]) (by omega) (by omega) (by simp; omega) ?_
        rw [g3, List.append_assoc, show decide (0 < (acc ++ [x]).length) = true by simp]
        exact ht
      have hskip : ¬ (x ≠ 32 ∨ (decide (0 < acc.length) = true ∧ nb r = true)) → Ev (fun k => R13Ready.l0 k l acc ((i + 1 : Nat) : Int)) (t, 0) := by
        intro hc
        rw [if_neg hc] at ht
        refine ih (i + 1) acc (by omega) (by omega) (by omega) ?_
        rw [g3]; exact ht
      refine Ev.pos (by omega) (Ev.pos (by omega) ?_)
      by_cases hx : x = 32
      · refine Ev.pos hx ?_
        by_cases h0 : 0 < acc.length
        · refine Ev.pos (by omega) ?_
          cases hr2 : r with
          | nil =>
            rw [hr2] at g3 hskip
            have := List.drop_eq_nil_iff.1 g3
            exact Ev.neg (by omega) (hskip (by simp [hx, nb]))
          | cons y r2 =>
            rw [hr2] at g3 hskip hput
            obtain ⟨f1, f2, f3⟩ := rd_at g3
            refine Ev.pos (by omega) (Ev.pos (by omega) ?_)
            rw [f2]
            by_cases hy : y = 32
            · exact Ev.pos hy (hskip (by simp [hx, hy, nb]))
            · exact Ev.neg hy (Ev.pos hlen (hput (.inr ⟨by simp [h0], by simp [nb, hy]⟩)))
        · exact Ev.neg (by omega) (hskip (by simp [hx]; omega))
      · exact Ev.neg hx (Ev.pos hlen (hput (.inl hx)))
theorem mapped_ev (s : ByteArray) (hs : s.size ≤ 2000000) (fold : Bool) : Ev (fun k => R13Mapped.f k s fold) (match runesN s s.size 0 with | some l => (l.filterMap (mapRune fold), 0) | none => ([], 19)) := by
  unfold R13Mapped.f R13Runes.f
  obtain ⟨r1, r2⟩ := runes_ev s (by omega) s.size 0 [] (Nat.zero_le _) (by omega) (Nat.le_refl _)
  cases hr : runesN s s.size 0 with
  | none =>
    refine Ev.bind (r1 hr) ?_
    have := mapped_loop fold [] (by simp) (by simp) 19 0 0 [] rfl (Nat.le_refl _) (Nat.le_refl _)
    exact this
  | some l =>
    obtain ⟨_, hll⟩ := runesN_le s _ _ l hr
    refine Ev.bind (r2 l hr) ?_
    have := mapped_loop fold l (by omega) (runesN_ok s _ _ l hr) 0 _ 0 [] rfl (Nat.zero_le _) (Nat.le_refl _)
    rw [List.drop_zero, List.nil_append] at this
    rw [List.nil_append]; exact this
theorem sq_mem : ∀ (l : List Int) (b : Bool), ∀ x ∈ sq l b, x ∈ l
  | [], _, x, h => by simp [sq] at h
  | y :: r, b, x, h => by
    rw [sq] at h
    split at h
    · rcases List.mem_cons.1 h with rfl | h
      · simp
      · exact List.mem_cons_of_mem _ (sq_mem r true x h)
    · exact List.mem_cons_of_mem _ (sq_mem r b x h)
theorem refready_ev (s : ByteArray) (hs : s.size ≤ 2000000) (fold : Bool) : Ev (fun k => R13Ready.f k s fold) (match readyOf fold s with | some t => (⟨t.toArray⟩, 0) | none => (⟨#[]⟩, 19)) := by
  unfold R13Ready.f
  have hm := mapped_ev s hs fold
  unfold readyOf
  cases hr : runesN s s.size 0 with
  | none =>
    rw [hr] at hm
    exact Ev.bind hm (Ev.neg (show ¬ ((19 : Int) = 0) by decide) Ev.rfl')
  | some l =>
    rw [hr] at hm
    obtain ⟨_, hll⟩ := runesN_le s _ _ l hr
    have hfl : (l.filterMap (mapRune fold)).length ≤ s.size := Nat.le_trans (List.length_filterMap_le _ _) hll
    have hok : ∀ r ∈ l.filterMap (mapRune fold), okRune r := by
      intro r hr'
      obtain ⟨x, hx, hx2⟩ := List.mem_filterMap.1 hr'
      exact mapRune_ok (runesN_ok s _ _ l hr x hx) hx2
    refine Ev.bind hm (Ev.pos (show (0 : Int) = 0 from rfl) ?_)
    refine refready_loop (l.filterMap (mapRune fold)) (by omega) _ 0 [] rfl (Nat.zero_le _) (Nat.le_refl _) ?_
    have hsl := sq_len (l.filterMap (mapRune fold)) false
    have := text_loop (sq (l.filterMap (mapRune fold)) false) (by omega) (fun r h => hok r (sq_mem _ _ r h)) _ 0 [] rfl (Nat.zero_le _) (Nat.zero_le _)
    rw [List.drop_zero, List.nil_append] at this
    exact this
theorem getD_at {α : Type} {L : List α} {i : Nat} {x d : α} {r : List α} (h : L.drop i = x :: r) : i < L.length ∧ L.getD ((i : Int).toNat) d = x ∧ L.drop (i + 1) = r := by
  have h1 : i < L.length := by
    rcases Nat.lt_or_ge i L.length with h' | h'
    · exact h'
    · rw [List.drop_eq_nil_of_le h'] at h; cases h
  refine ⟨h1, ?_, ?_⟩
  · have h0 : L[i]? = some x := by
      have := congrArg List.head? h
      rw [List.head?_drop] at this; simpa using this
    rw [List.getD_eq_getElem?_getD, Int.toNat_natCast, h0]; rfl
  · have := congrArg List.tail h
    rw [List.tail_drop] at this; simpa using this
abbrev rdR := rd_L8
theorem rdA_at {L : List AvaS} {i : Nat} {x : AvaS} {r : List AvaS} (h : L.drop i = x :: r) : rd_T96 L (i : Int) = x := (getD_at h).2.1
theorem rdR_at {L : List (List AvaS)} {i : Nat} {x : List AvaS} {r : List (List AvaS)} (h : L.drop i = x :: r) : rd_L8 L (i : Int) = x := (getD_at h).2.1
def valueOk (s : ByteArray) : Bool := match readyOf true s with
  | some t => decide (s.size ≤ 255) && !t.isEmpty
  | none => false
theorem rightValue_ev (s : ByteArray) (hs : s.size ≤ 100000) : Ev (fun k => dn_rightValue.f k s) (valueOk s) := by
  unfold dn_rightValue.f valueOk
  have h := ready_ev s hs true
  cases hr : readyOf true s with
  | none =>
    rw [hr] at h
    refine Ev.bind h ?_
    by_cases hz : s.size ≤ 255
    · exact Ev.pos (by omega) (Ev.neg (show ¬ ((19 : Int) = 0) by decide) Ev.rfl')
    · exact Ev.neg (by omega) Ev.rfl'
  | some t =>
    rw [hr] at h
    refine Ev.bind h ?_
    dsimp only
    by_cases hz : s.size ≤ 255
    · refine Ev.pos (by omega) (Ev.pos rfl ?_)
      rw [Lib.toList_data, decide_eq_true hz]
      have : (t != ([] : List UInt8)) = (true && !t.isEmpty) := by cases t <;> rfl
      rw [← this]; exact Ev.rfl'
    · rw [decide_eq_false hz]
      exact Ev.neg (by omega) Ev.rfl'
def szA (a : AvaS) : Prop := a.f0.size ≤ 100000 ∧ a.f1.size ≤ 100000
def rdnIn : List AvaS → List AvaS → Bool
  | _, [] => true
  | pre, a :: rest => typeOk (bl a.f0) && valueOk a.f1 && !(pre.any (sameType a)) && rdnIn (pre ++ [a]) rest
def rdnOk (l : List AvaS) : Bool := decide (1 ≤ l.length ∧ l.length ≤ 4) && rdnIn [] l
theorem rdnGo_ev : ∀ (l pre : List AvaS), (∀ a ∈ l, szA a) → Ev (fun k => rdnGo k pre l) (rdnIn pre l)
  | [], pre, _ => show Ev _ true from Ev.congr (fun k => by rw [rdnGo]) Ev.rfl'
  | a :: rest, pre, h => by
    have ha := h a (by simp)
    have ih := rdnGo_ev rest (pre ++ [a]) fun b hb => h b (by simp [hb])
    refine Ev.congr (fun k => by rw [rdnGo]) ?_
    rw [rdnIn]
    cases hp : pre.any (sameType a) with
    | true => exact Ev.pos rfl (by simpa using Ev.rfl')
    | false =>
      refine Ev.neg (by simp) (Ev.bind (rightType_ev a.f0 (by have := ha.1; omega)) ?_)
      cases ht : typeOk (bl a.f0) with
      | false => exact Ev.neg (by simp) (by simpa using Ev.rfl')
      | true =>
        refine Ev.pos rfl (Ev.bind (rightValue_ev a.f1 ha.2) ?_)
        cases hv : valueOk a.f1 with
        | false => exact Ev.neg (by simp) (by simpa using Ev.rfl')
        | true => exact Ev.pos rfl (by simpa using ih)
theorem rightRdn_ev (l : List AvaS) (h : ∀ a ∈ l, szA a) : Ev (fun k => dn_rightRdn.f k l) (rdnOk l) := by
  unfold dn_rightRdn.f rdnOk
  by_cases h1 : l.length < 1
  · rw [decide_eq_false (by omega)]; exact Ev.pos h1 Ev.rfl'
  by_cases h2 : l.length > 4
  · rw [decide_eq_false (by omega)]; exact Ev.neg h1 (Ev.pos h2 Ev.rfl')
  · rw [decide_eq_true (by omega), Bool.true_and]; exact Ev.neg h1 (Ev.neg h2 (rdnGo_ev l [] h))
def nameOk (n : List (List AvaS)) : Bool := decide (n.length ≤ 12) && n.all rdnOk
def szN (n : List (List AvaS)) : Prop := ∀ l ∈ n, l.length ≤ 1000000 ∧ ∀ a ∈ l, szA a
theorem right_loop (n : List (List AvaS)) (hl : n.length ≤ 1000000) (h : szN n) : ∀ (m i : Nat), n.length - i = m → i ≤ n.length → Ev (fun k => dn_Right.l0 k n (n.length : Int) (i : Int)) ((n.drop i).all rdnOk) := by
  intro m
  induction m with
  | zero =>
    intro i hm hi
    rw [List.drop_eq_nil_of_le (by omega)]
    show Ev _ true
    exact Ev.step (fun k => by rw [dn_Right.l0]) (Ev.neg (by omega) Ev.rfl')
  | succ m ih =>
    intro i hm hi
    cases hr : n.drop i with
    | nil => have := List.drop_eq_nil_iff.1 hr; omega
    | cons l r =>
      obtain ⟨g1, _, g3⟩ := getD_at (d := []) hr
      have g2 := rdR_at hr
      have hsz := h l (by
        have : l ∈ n.drop i := by rw [hr]; simp
        exact List.mem_of_mem_drop this)
      have hi2 := ih (i + 1) (by omega) (by omega)
      rw [g3] at hi2
      refine Ev.step (fun k => by rw [dn_Right.l0]) ?_
      rw [g2, wsucc (by omega), List.all_cons]
      refine Ev.pos (by omega) (Ev.pos (by omega) (Ev.pos (by omega) (Ev.bind (rightRdn_ev l hsz.2) ?_)))
      cases rdnOk l with
      | true => exact Ev.pos rfl (by simpa using hi2)
      | false => exact Ev.neg (by simp) (by simpa using Ev.rfl')
theorem right_ev (n : List (List AvaS)) (hl : n.length ≤ 1000000) (h : szN n) : Ev (fun k => dn_Right.f k n) (nameOk n) := by
  unfold dn_Right.f nameOk
  by_cases h1 : n.length ≤ 12
  · rw [decide_eq_true h1, Bool.true_and]
    refine Ev.neg (by omega) ?_
    have := right_loop n hl h _ 0 rfl (Nat.zero_le _)
    rw [List.drop_zero] at this; exact this
  · rw [decide_eq_false h1]; exact Ev.pos (by omega) Ev.rfl'
theorem scanN_len : ∀ (n : Nat) (r b : List UInt8) (kept : Nat) (v r' : List UInt8), scanN n r b kept = some (v, r') → v.length + r'.length ≤ b.length + r.length
  | 0, r, b, kept, v, r', h => by simp [scanN] at h
  | n + 1, [], b, kept, v, r', h => by
    simp only [scanN, Option.some.injEq, Prod.mk.injEq] at h
    obtain ⟨rfl, rfl⟩ := h
    simp; omega
  | n + 1, c :: r, b, kept, v, r', h => by
    simp only [scanN] at h
    split at h
    · simp only [Option.some.injEq, Prod.mk.injEq] at h
      obtain ⟨rfl, rfl⟩ := h
      simp; omega
    · split at h
      · cases h
      · split at h
        · cases he : esc r with
          | none => rw [he] at h; simp at h
          | some x =>
            rw [he] at h
            simp only [Option.bind_some] at h
            have := scanN_len n _ _ _ _ _ h
            have := esc_lt (x := x.1) (r' := x.2) he
            simp at *; omega
        · have := scanN_len n _ _ _ _ _ h
          simp at *; omega
theorem dw_len {α : Type} (p : α → Bool) (l : List α) : (l.dropWhile p).length ≤ l.length := by
  have := congrArg List.length (split_dw p l)
  rw [List.length_append] at this; omega
theorem kindB_len {r t r' : List UInt8} (h : kindB r = some (t, r')) : t.length + r'.length < r.length ∧ typeOk t = true := by
  obtain ⟨b1, t0, b2, rfl, _, ht, _, rfl⟩ := kind_yes h
  refine ⟨by simp; omega, ht⟩
theorem valueB_len {r v r' : List UInt8} (h : valueB r = some (v, r')) : v.length + r'.length ≤ r.length := by
  unfold valueB at h
  have := dw_len (· == 32) r
  cases hr : r.dropWhile (· == 32) with
  | nil =>
    rw [hr] at h; simp at h; obtain ⟨rfl, rfl⟩ := h; simp
  | cons c r1 =>
    rw [hr] at h this
    dsimp only at h
    split at h
    · cases h
    · have := scanN_len _ _ _ _ _ _ h
      simp at *; omega
def shortN (B : Nat) (n : List (List Pr)) : Prop := n.length ≤ B ∧ ∀ l ∈ n, l.length ≤ B ∧ ∀ a ∈ l, a.1.length ≤ B ∧ a.2.length ≤ B
theorem goB_short (B : Nat) : ∀ (n : Nat) (r : List UInt8) (rdn : List Pr) (l N : List (List Pr)), goB n r rdn l = some N → l.length + r.length ≤ B → rdn.length + r.length ≤ B → (∀ a ∈ rdn, a.1.length ≤ B ∧ a.2.length ≤ B) → (∀ x ∈ l, x.length ≤ B ∧ ∀ a ∈ x, a.1.length ≤ B ∧ a.2.length ≤ B) → shortN B N
  | 0, r, rdn, l, N, h, _, _, _, _ => by simp [goB] at h
  | n + 1, r, rdn, l, N, h, h1, h2, h3, h4 => by
    rw [goB] at h
    cases hk : kindB r with
    | none => rw [hk] at h; simp at h
    | some x =>
      rw [hk] at h
      simp only [Option.bind_some] at h
      have hkl := (kindB_len (t := x.1) (r' := x.2) hk).1
      cases hv : valueB x.2 with
      | none => rw [hv] at h; simp at h
      | some y =>
        rw [hv] at h
        simp only [Option.bind_some] at h
        have hvl := valueB_len (v := y.1) (r' := y.2) hv
        have hnew : ∀ a ∈ rdn ++ [(x.1, y.1)], a.1.length ≤ B ∧ a.2.length ≤ B := by
          intro a ha
          rcases List.mem_append.1 ha with ha | ha
          · exact h3 a ha
          · simp only [List.mem_singleton] at ha; subst ha
            exact ⟨by dsimp only; omega, by dsimp only; omega⟩
        have hlen : (rdn ++ [(x.1, y.1)]).length ≤ B := by simp; omega
        have hl2 : ∀ z ∈ l ++ [rdn ++ [(x.1, y.1)]], z.length ≤ B ∧ ∀ a ∈ z, a.1.length ≤ B ∧ a.2.length ≤ B := by
          intro z hz
          rcases List.mem_append.1 hz with hz | hz
          · exact h4 z hz
          · simp only [List.mem_singleton] at hz; subst hz
            exact ⟨hlen, hnew⟩
        cases hr : y.2 with
        | nil =>
          rw [hr] at h
          simp only [Option.some.injEq] at h
          subst h
          exact ⟨by simp; omega, hl2⟩
        | cons c r3 =>
          rw [hr] at h hvl
          simp only [List.length_cons] at hvl
          dsimp only at h
          split at h
          · exact goB_short B n r3 _ _ N h (by omega) (by simp; omega) hnew h4
          · exact goB_short B n r3 _ _ N h (by simp; omega) (by simp; omega) (by simp) hl2
theorem sz_mk {B : Nat} (hB : B ≤ 100000) {n : List (List Pr)} (h : shortN B n) : (mkN n).length ≤ 1000000 ∧ szN (mkN n) ∧ ∀ l ∈ mkN n, l.length ≤ 1000000 := by
  have hs : szN (mkN n) := by
    intro l hl
    obtain ⟨x, hx, rfl⟩ := List.mem_map.1 hl
    obtain ⟨h1, h2⟩ := h.2 x hx
    refine ⟨by rw [mkR_len]; omega, ?_⟩
    intro a ha
    obtain ⟨p, hp, rfl⟩ := List.mem_map.1 ha
    obtain ⟨k1, k2⟩ := h2 p hp
    have e1 : (mkA p).f0.size = p.1.length := by rw [← bl_length]; rfl
    have e2 : (mkA p).f1.size = p.2.length := by rw [← bl_length]; rfl
    exact ⟨by omega, by omega⟩
  exact ⟨by rw [mkN_len]; have := h.1; omega, hs, fun l hl => (hs l hl).1⟩
theorem read_short {s : ByteArray} (hs : s.size ≤ 100000) {N : List (List Pr)} (h : ((signs (bl s)).bind fun L => goP L [] [] []) = some N) : shortN 100000 N := by
  rw [← goB_eq (s.size + 1) (bl s) [] [] (by rw [bl_length]; omega)] at h
  exact goB_short 100000 _ _ _ _ N h (by rw [bl_length]; simp; omega) (by rw [bl_length]; simp; omega) (by simp) (by simp)
theorem ev_mono {α : Type} {F : Nat → Option α} {v : α} (hm : ∀ k, LeO (F k) (F (k + 1))) (n : Nat) (h : F n = some v) : Ev F v := ⟨n, fun k hk => at_rounds hm hk h⟩
abbrev mkB (l : List UInt8) : ByteArray := ⟨l.toArray⟩
theorem mkB_size (l : List UInt8) : (mkB l).size = l.length := by rw [← bl_length]
def fin (X : List UInt8) : ByteArray × Int := if X.length > 1000 then (⟨#[]⟩, 5) else (mkB X, 0)
end Go.Proofs.YtpklcnpmppaaoaaGreatDoor.Print
namespace Go.Proofs.YtpklcnpmppaaoaaGreatDoor.Print
open Go.RowKit Go.Proofs.YtpklcnpmppaaoaaGreatDoorW.PrintWords
def strings_ReplaceAll.f (a0 a1 a2 : ByteArray) : Option ByteArray :=
  if a0.size ≤ 1000000 then (if 1 ≤ a1.size then (if a2.size ≤ 1000 then some ⟨(Lib.replaceAll a0.data.toList a1.data.toList a2.data.toList).toArray⟩ else none) else none) else none
theorem strings_ReplaceAll.calls (a0 a1 a2 : ByteArray) (r : ByteArray) (w : World) (hG : Gw w) (h : strings_ReplaceAll.f a0 a1 a2 = some r) :
    Calls Tryz.prog 83 #[.string a0, .string a1, .string a2] w fun e w' => e = .returned (.string r) ∧ Below w.heap.size w w' := by
  unfold strings_ReplaceAll.f at h
  by_cases c : a0.size ≤ 1000000
  · by_cases c1 : 1 ≤ a1.size
    · by_cases c2 : a2.size ≤ 1000
      · rw [if_pos c, if_pos c1, if_pos c2] at h
        injection h with h
        subst h
        obtain ⟨m, hm⟩ := hG.maxLen
        have hle := Lib.countB_le a1 c1 a0.size a0 (Nat.le_refl _)
        have : Lib.countB a0 a1 * a2.size ≤ 1000000 * 1000 := Nat.mul_le_mul (by omega) c2
        exact Tryz.strings_ReplaceAll a0 a1 a2 m w (by omega) hm c1 (by omega)
      · rw [if_pos c, if_pos c1, if_neg c2] at h; cases h
    · rw [if_pos c, if_neg c1] at h; cases h
  · rw [if_neg c] at h; cases h
end Go.Proofs.YtpklcnpmppaaoaaGreatDoor.Print
namespace Go.Proofs
open Go.Shelf
def Tryz.lays170_ren : Go.Shelf.Ren := ⟨fun | 170 => 148 | n => n, fun | 70 => 108 | 3 => 3 | 0 => 0 | 72 => 110 | 37 => 82 | 5 => 5 | n => n, fun | n => n⟩
theorem Tryz.lays170 : Go.Proofs.Lays.n170 Tryz.prog Tryz.lays170_ren := {
  mixed := by kernel_rfl
  f170 := Tryz.func148.trans (congrArg some (by kernel_rfl))
  t0 := Tryz.underlying0
  a0 := Tryz.isAgg0
  z0 := Tryz.sizeOf0
  v0 := Tryz.zeroValue0
  t3 := Tryz.underlying3
  a3 := Tryz.isAgg3
  z3 := Tryz.sizeOf3
  v3 := Tryz.zeroValue3
  t37 := Tryz.underlying82
  a37 := Tryz.isAgg82
  z37 := Tryz.sizeOf82
  v37 := Tryz.zeroValue82
  t70 := Tryz.underlying108
  a70 := Tryz.isAgg108
  z70 := Tryz.sizeOf108
  v70 := Tryz.zeroValue108
  t72 := Tryz.underlying110
  a72 := Tryz.isAgg110
  z72 := Tryz.sizeOf110
  v72 := Tryz.zeroValue110 }
open Go.RowKit in
theorem Tryz.Builder_Len_f (B b : Nat) (bs : List Value) (w : World) (h : Lib.IsBuilderF 110 5 B b bs w) :
    Calls Tryz.prog 148 #[.pointer (some ⟨b, 0, none⟩)] w fun e w' => e = .returned (.int .i64 bs.length) ∧ w' = w := Any.Builder_Len_f Tryz.lays170 B b bs w h
end Go.Proofs
namespace Go.Proofs.YtpklcnpmppaaoaaGreatDoor.Print
open Go.RowKit Go.Proofs.YtpklcnpmppaaoaaGreatDoorW.PrintWords Go.Proofs.YtpklcnpmppaaoaaGreatDoorW.PrintLast Go.Proofs.YtpklcnpmppaaoaaGreatDoorW.PrintMore
set_option linter.unusedVariables false
set_option linter.unusedSimpArgs false
theorem idx_of1 (z : UInt8) (a b : List UInt8) (h : ∀ c ∈ a, c ≠ z) : Lib.index (a ++ z :: b) [z] = (a.length : Int) := by
  rw [Lib.index_one]
  induction a with
  | nil => simp [Lib.indexByte]
  | cons c a ih =>
    have hc := h c (by simp)
    have ih := ih fun x hx => h x (by simp [hx])
    rw [List.cons_append, Lib.indexByte, if_neg (by simpa using hc), ih, if_neg (by simp <;> omega)]
    simp
theorem first_z (z : UInt8) (l : List UInt8) : (∀ c ∈ l, c ≠ z) ∨ ∃ a b, l = a ++ z :: b ∧ ∀ c ∈ a, c ≠ z := by
  induction l with
  | nil => exact .inl (by simp)
  | cons c l ih =>
    by_cases hc : c = z
    · exact .inr ⟨[], l, by rw [hc]; rfl, by simp⟩
    · rcases ih with h | ⟨a, b, rfl, h⟩
      · exact .inl fun x hx => by rcases List.mem_cons.1 hx with rfl | hx; exact hc; exact h x hx
      · exact .inr ⟨c :: a, b, rfl, fun x hx => by rcases List.mem_cons.1 hx with rfl | hx; exact hc; exact h x hx⟩
def swapZ (z : UInt8) (new l : List UInt8) : List UInt8 := l.flatMap fun c => if c = z then new else [c]
theorem swapZ_none (z : UInt8) (new : List UInt8) : ∀ (a : List UInt8), (∀ c ∈ a, c ≠ z) → swapZ z new a = a
  | [], _ => rfl
  | c :: a, h => by
    have ih := swapZ_none z new a fun x hx => h x (by simp [hx])
    show (if c = z then new else [c]) ++ swapZ z new a = _
    rw [if_neg (h c (by simp)), ih]; rfl
theorem replaceK_z (z : UInt8) (new : List UInt8) : ∀ (k : Nat) (l : List UInt8), l.count z = k → Lib.replaceK [z] new k l = swapZ z new l
  | 0, l, h => by
    have hn : ∀ c ∈ l, c ≠ z := by
      intro c hc h2; subst h2
      have := List.count_pos_iff.2 hc; omega
    rw [swapZ_none z new l hn]; rfl
  | k + 1, l, h => by
    rcases first_z z l with hn | ⟨a, b, rfl, hn⟩
    · have : l.count z = 0 := List.count_eq_zero.2 fun hc => hn z hc rfl
      omega
    · have hc : b.count z = k := by
        rw [List.count_append, List.count_cons] at h
        have : a.count z = 0 := List.count_eq_zero.2 fun hc => hn z hc rfl
        simp at h; omega
      rw [Lib.replaceK_hit [z] new k _ a.length (idx_of1 z a b hn), show (a ++ z :: b).drop (a.length + ([z] : List UInt8).length) = b by simp, replaceK_z z new k b hc]
      have : swapZ z new (a ++ z :: b) = swapZ z new a ++ (new ++ swapZ z new b) := by simp [swapZ]
      rw [this, swapZ_none z new a hn]; simp
theorem replaceAll_z (z : UInt8) (new l : List UInt8) (h : ([z] == new) = false) : Lib.replaceAll l [z] new = swapZ z new l := by
  unfold Lib.replaceAll Lib.replace
  rw [h]
  have : Lib.replaceNum l [z] (-1) = l.count z := by
    unfold Lib.replaceNum
    rw [if_pos (Or.inl (by decide)), Lib.count_one]
  rw [this, replaceK_z z new _ l rfl]; rfl
theorem swapZ_len (z : UInt8) (new : List UInt8) (B : Nat) (hB : 1 ≤ B) (hn : new.length ≤ B) : ∀ (l : List UInt8), (swapZ z new l).length ≤ B * l.length
  | [] => by simp [swapZ]
  | c :: l => by
    have ih := swapZ_len z new B hB hn l
    have h : (if c = z then new else [c]).length ≤ B := by
      split
      · exact hn
      · simpa using hB
    have : swapZ z new (c :: l) = (if c = z then new else [c]) ++ swapZ z new l := rfl
    rw [this, List.length_append, List.length_cons, Nat.mul_succ]; omega
def part1 (p : ByteArray) : List UInt8 := swapZ 0 [0, 255] p.data.toList ++ [0, 1]
def tupOf (l : List ByteArray) : List UInt8 := l.flatMap part1
def field_Tuple.f (l0 : List ByteArray) : Option (ByteArray × Int) :=
  if 16 < l0.length then some (⟨#[]⟩, 1) else if l0.any (fun p => decide (4096 < p.size)) = true then some (⟨#[]⟩, 5) else if 4096 < (tupOf l0).length then some (⟨#[]⟩, 5) else some (⟨(tupOf l0).toArray⟩, 0)
theorem tupOf_snoc (l : List ByteArray) (p : ByteArray) : tupOf (l ++ [p]) = tupOf l ++ part1 p := by simp [tupOf]
theorem part1_len (p : ByteArray) (h : p.size ≤ 4096) : (part1 p).length ≤ 8194 := by
  have := swapZ_len 0 [0, 255] 2 (by omega) (by simp) p.data.toList
  have h2 : p.data.toList.length = p.size := by simp
  unfold part1
  rw [List.length_append]
  simp only [List.length_cons, List.length_nil]; omega
theorem rep_f (p : ByteArray) (h : p.size ≤ 4096) : strings_ReplaceAll.f p (⟨#[0]⟩ : ByteArray) (⟨#[0, 255]⟩ : ByteArray) = some ⟨(swapZ 0 [0, 255] p.data.toList).toArray⟩ := by
  unfold strings_ReplaceAll.f
  rw [if_pos (by omega), if_pos (show 1 ≤ (⟨#[0]⟩ : ByteArray).size from Nat.le_refl _), if_pos (show (⟨#[0, 255]⟩ : ByteArray).size ≤ 1000 by decide)]
  have : Lib.replaceAll p.data.toList (⟨#[0]⟩ : ByteArray).data.toList (⟨#[0, 255]⟩ : ByteArray).data.toList = swapZ 0 [0, 255] p.data.toList := replaceAll_z 0 [0, 255] _ (by decide)
  rw [this]
theorem take_succ_ba (l : List ByteArray) (k : Nat) (h : k < l.length) : l.take (k + 1) = l.take k ++ [l.getD k ByteArray.empty] := by
  rw [List.take_succ_eq_append_getElem h]
  simp [List.getD_eq_getElem?_getD, h]
set_option maxHeartbeats 4000000 in
set_option maxRecDepth 1000000 in
theorem field_Tuple.calls (A0 : Option Addr) (c0 : Nat) (l0 : List ByteArray) (r1 : ByteArray) (r2 : Int) (w : World) (hr0 : Kd.C Kd.string w A0 l0.length l0) (hc0 : l0.length ≤ c0) (hG : Gw w) (h : field_Tuple.f l0 = some (r1, r2)) :
    Calls Tryz.prog 126 #[.slice A0 l0.length c0] w fun e w' => e = .returned (.tuple #[.string r1, .int .i64 r2]) ∧ Below w.heap.size w w' := by
  have hlm := hr0.2.1
  unfold field_Tuple.f at h
  by_cases h16 : 16 < l0.length
  · rw [if_pos h16] at h
    simp only [Option.some.injEq, Prod.mk.injEq] at h
    obtain ⟨rfl, rfl⟩ := h
    clear hr0
    go_enter Tryz.func126, Tryz.ntmps126
    go_wp2
    go_ret2
    exact ⟨rfl, Below.refl _ _⟩
  · rw [if_neg h16] at h
    have HH := Aside0.mk h
    have HC := Aside0.mk hr0
    have HG := Aside0.mk hG
    clear h hr0 hG
    go_enter Tryz.func126, Tryz.ntmps126
    go_wp2
    go_loopw [12] (fun i wr => ∃ (k : Nat) (acc : List UInt8), k ≤ l0.length ∧ i = .int .i64 k ∧ Aside0 (Bld w.heap.size w.heap.size (Lib.byteCells acc) wr) ∧ Aside0 (Below w.heap.size w wr) ∧ Aside0 (acc = tupOf (l0.take k)) ∧ Aside0 (acc.length ≤ 8194 * k) ∧ Aside0 (∀ p ∈ l0.take k, p.size ≤ 4096)) (fun i wr => l0.length - (intOf i).toNat)
    case atStart =>
      exact ⟨0, [], Nat.zero_le _, rfl, ⟨Lib.IsBuilderF.of (Lib.fresh_isBuilder 110 5 w)⟩, ⟨(Below.refl _ w).alloc (Nat.le_refl _) _⟩, ⟨rfl⟩, ⟨by simp⟩, ⟨by simp⟩⟩
    case round =>
      obtain ⟨k, acc, hk, rfl, HB, hbw, hacc, hacl, hsml⟩ := hrel
      by_cases hlt : k < l0.length
      · obtain ⟨ad, hA, hc⟩ := (Kd.reads_of_C (d := ByteArray.empty) HC.out).at_ (k : Int) (by omega) (by omega)
        have hcw := (hbw.out.cell (World.block_lt_of_cell? _ _ hc)).trans hc
        clear hc
        subst hA
        have hts := take_succ_ba l0 k hlt
        have hmem : l0.getD k ByteArray.empty ∈ l0 := by rw [List.getD_eq_getElem?_getD, List.getElem?_eq_getElem hlt]; simp
        simp only [Int.toNat_natCast, rdOf] at hcw
        generalize hx : l0.getD k ByteArray.empty = p at *
        have HT := Aside0.mk hts
        have HM := Aside0.mk hmem
        clear hts hx hmem
        by_cases hz : 4096 < p.size
        · go_wp2
          go_ret2
          have hany : l0.any (fun p => decide (4096 < p.size)) = true := List.any_eq_true.2 ⟨p, HM.out, by simpa using hz⟩
          have := HH.out
          rw [if_pos hany] at this
          simp only [Option.some.injEq, Prod.mk.injEq] at this
          obtain ⟨rfl, rfl⟩ := this
          exact ⟨rfl, hbw.out⟩
        · have HF := Aside0.mk (rep_f p (by omega))
          have hpl := part1_len p (by omega)
          have h15 : k ≤ 15 := by omega
          have hsw := swapZ_len 0 [0, 255] 2 (by omega) (by simp) p.data.toList
          have h2 : p.data.toList.length = p.size := by simp
          have HS := Aside0.mk (show (swapZ 0 [0, 255] p.data.toList).length ≤ 8192 by omega)
          clear hsw h2
          go_wp2_with (first
            | (go_at_call 83; (with_reducible refine (strings_ReplaceAll.calls _ _ _ _ _ ?hG HF.out).mono ?_); (case hG => exact HG.out.below hbw.out); rintro e w2 ⟨rfl, hb2⟩; have hcc := Aside0.mk (Lib.IsBuilderF.below HB.out hb2); replace hb2 := Aside0.mk (hbw.out.trans (hb2.mono hbw.out.size)))
            | (go_at_call 102; first
                | ((with_reducible refine (bld_WriteString w.heap.size w.heap.size _ _ _ g1.out ?h3 ?h4).mono ?_); (case h3 => have q1 := hacl.out; have q2 := HS.out; simp [Lib.byteCells_length, Lib.strCells_length, ByteArray.size]; omega); (case h4 => have a2 := hb2.out.size; have a3 := g2.out.size; omega); rintro e w4 ⟨rfl, f1, f2, _⟩; replace f1 := Aside0.mk f1; replace f2 := Aside0.mk f2)
                | ((with_reducible refine (bld_WriteString w.heap.size w.heap.size (Lib.byteCells acc) _ _ ?hB ?h3 ?h4).mono ?_); (case hB => exact hcc.out); (case h3 => have q1 := hacl.out; have q2 := HS.out; simp [Lib.byteCells_length, ByteArray.size]; omega); (case h4 => have a2 := hb2.out.size; omega); rintro e w3 ⟨rfl, g1, g2, _⟩; replace g1 := Aside0.mk g1; replace g2 := Aside0.mk g2)))
          go_roundw
          case rel =>
            refine ⟨k + 1, acc ++ part1 p, by omega, by go_num, ⟨?_⟩, ⟨hb2.out.trans (g2.out.trans f2.out)⟩, ⟨?_⟩, ⟨?_⟩, ⟨?_⟩⟩
            · have := f1.out
              rw [Lib.byteCells_append]
              simpa [Lib.byteCells, Lib.strCells, part1, List.append_assoc] using this
            · rw [HT.out, tupOf_snoc, hacc.out]
            · have := hacl.out; rw [List.length_append]; omega
            · intro x hx
              rw [HT.out] at hx
              rcases List.mem_append.1 hx with hx | hx
              · exact hsml.out x hx
              · simp only [List.mem_singleton] at hx; subst hx; omega
          case measure => simp [intOf]; omega
      · obtain rfl : k = l0.length := by omega
        have hac2 : acc = tupOf l0 := by rw [hacc.out, List.take_length]
        have hall : ¬ l0.any (fun p => decide (4096 < p.size)) = true := by
          rw [List.any_eq_true]
          rintro ⟨x, hx, h2⟩
          have := hsml.out x (by rw [List.take_length]; exact hx)
          simp at h2; omega
        have H2 := HH.out
        rw [if_neg hall, ← hac2] at H2
        have HA := Aside0.mk H2
        clear hac2 hall H2 HH hacc
        have hbl : (Lib.byteCells acc).length = acc.length := Lib.byteCells_length _
        by_cases hz : 4096 < acc.length
        · have := HA.out
          rw [if_pos hz] at this
          simp only [Option.some.injEq, Prod.mk.injEq] at this
          obtain ⟨rfl, rfl⟩ := this
          have hz2 : 4096 < (Lib.byteCells acc).length := by omega
          clear hbl
          go_wp2_with (go_at_call 148; (with_reducible refine (Tryz.Builder_Len_f w.heap.size w.heap.size _ _ HB.out).mono ?_); rintro e w2 ⟨rfl, rfl⟩)
          go_ret2
          exact ⟨rfl, hbw.out⟩
        · have := HA.out
          rw [if_neg hz] at this
          simp only [Option.some.injEq, Prod.mk.injEq] at this
          obtain ⟨rfl, rfl⟩ := this
          have hz2 : ¬ 4096 < (Lib.byteCells acc).length := by omega
          clear hbl
          go_wp2_with (first
            | (go_at_call 148; (with_reducible refine (Tryz.Builder_Len_f w.heap.size w.heap.size _ _ HB.out).mono ?_); rintro e w2 ⟨rfl, rfl⟩)
            | (go_at_call 89; (with_reducible refine (bld_String w.heap.size w.heap.size _ _ HB.out ?h1).mono ?_); (case h1 => have := hbw.out.size; omega); rintro e w2 ⟨rfl, h2⟩; replace h2 := Aside0.mk h2))
          go_ret2
          exact ⟨rfl, hbw.out.trans h2.out⟩
end Go.Proofs.YtpklcnpmppaaoaaGreatDoor.Print
namespace Go.Proofs
open Go.Shelf
def Tryz.lays190_ren : Go.Shelf.Ren := ⟨fun | 190 => 127 | 125 => 150 | 258 => 149 | 128 => 170 | 129 => 171 | 302 => 161 | 303 => 162 | 304 => 163 | 305 => 164 | 306 => 165 | 307 => 166 | 308 => 167 | 309 => 168 | 310 => 169 | 333 => 176 | 329 => 177 | 330 => 178 | 334 => 179 | 335 => 180 | 336 => 181 | 344 => 186 | n => n, fun | 31 => 31 | 9 => 9 | 3 => 3 | 46 => 68 | 0 => 0 | 51 => 152 | 53 => 128 | 4 => 4 | 183 => 169 | 182 => 168 | 131 => 173 | 5 => 5 | 218 => 185 | 222 => 189 | 228 => 194 | 229 => 114 | n => n, fun | n => n⟩
theorem Tryz.lays190 : Go.Proofs.Lays.n190 Tryz.prog Tryz.lays190_ren := {
  mixed := by kernel_rfl
  f125 := Tryz.func150.trans (congrArg some (by kernel_rfl))
  f128 := Tryz.func170.trans (congrArg some (by kernel_rfl))
  f129 := Tryz.func171.trans (congrArg some (by kernel_rfl))
  f190 := Tryz.func127.trans (congrArg some (by kernel_rfl))
  f258 := Tryz.func149.trans (congrArg some (by kernel_rfl))
  f302 := Tryz.func161.trans (congrArg some (by kernel_rfl))
  f303 := Tryz.func162.trans (congrArg some (by kernel_rfl))
  f304 := Tryz.func163.trans (congrArg some (by kernel_rfl))
  f305 := Tryz.func164.trans (congrArg some (by kernel_rfl))
  f306 := Tryz.func165.trans (congrArg some (by kernel_rfl))
  f307 := Tryz.func166.trans (congrArg some (by kernel_rfl))
  f308 := Tryz.func167.trans (congrArg some (by kernel_rfl))
  f309 := Tryz.func168.trans (congrArg some (by kernel_rfl))
  f310 := Tryz.func169.trans (congrArg some (by kernel_rfl))
  f329 := Tryz.func177.trans (congrArg some (by kernel_rfl))
  f330 := Tryz.func178.trans (congrArg some (by kernel_rfl))
  f333 := Tryz.func176.trans (congrArg some (by kernel_rfl))
  f334 := Tryz.func179.trans (congrArg some (by kernel_rfl))
  f335 := Tryz.func180.trans (congrArg some (by kernel_rfl))
  f336 := Tryz.func181.trans (congrArg some (by kernel_rfl))
  f344 := Tryz.func186.trans (congrArg some (by kernel_rfl))
  t0 := Tryz.underlying0
  a0 := Tryz.isAgg0
  z0 := Tryz.sizeOf0
  v0 := Tryz.zeroValue0
  t3 := Tryz.underlying3
  a3 := Tryz.isAgg3
  z3 := Tryz.sizeOf3
  v3 := Tryz.zeroValue3
  t4 := Tryz.underlying4
  a4 := Tryz.isAgg4
  z4 := Tryz.sizeOf4
  v4 := Tryz.zeroValue4
  t5 := Tryz.underlying5
  a5 := Tryz.isAgg5
  z5 := Tryz.sizeOf5
  v5 := Tryz.zeroValue5
  t9 := Tryz.underlying9
  a9 := Tryz.isAgg9
  z9 := Tryz.sizeOf9
  v9 := Tryz.zeroValue9
  t31 := Tryz.underlying31
  a31 := Tryz.isAgg31
  z31 := Tryz.sizeOf31
  v31 := Tryz.zeroValue31
  t46 := Tryz.underlying68
  a46 := Tryz.isAgg68
  z46 := Tryz.sizeOf68
  v46 := Tryz.zeroValue68
  t51 := Tryz.underlying152
  a51 := Tryz.isAgg152
  z51 := Tryz.sizeOf152
  v51 := Tryz.zeroValue152
  t53 := Tryz.underlying128
  a53 := Tryz.isAgg128
  z53 := Tryz.sizeOf128
  v53 := Tryz.zeroValue128
  t131 := Tryz.underlying173
  a131 := Tryz.isAgg173
  z131 := Tryz.sizeOf173
  v131 := Tryz.zeroValue173
  t182 := Tryz.underlying168
  a182 := Tryz.isAgg168
  z182 := Tryz.sizeOf168
  v182 := Tryz.zeroValue168
  t183 := Tryz.underlying169
  a183 := Tryz.isAgg169
  z183 := Tryz.sizeOf169
  v183 := Tryz.zeroValue169
  t218 := Tryz.underlying185
  a218 := Tryz.isAgg185
  z218 := Tryz.sizeOf185
  v218 := Tryz.zeroValue185
  t222 := Tryz.underlying189
  a222 := Tryz.isAgg189
  z222 := Tryz.sizeOf189
  v222 := Tryz.zeroValue189
  t228 := Tryz.underlying194
  a228 := Tryz.isAgg194
  z228 := Tryz.sizeOf194
  v228 := Tryz.zeroValue194
  t229 := Tryz.underlying114
  a229 := Tryz.isAgg114
  z229 := Tryz.sizeOf114
  v229 := Tryz.zeroValue114 }
open Go.Sort Go.RowKit in
theorem Tryz.slices_Sort_string (blk off cap : Nat) (ss : List (List UInt8)) (w : World) (hH : Holds encStr w blk off ss.toArray) (hblk : blk < w.heap.size) (hsz : ss.length < 4611686018427387904) :
    Calls Tryz.prog 127 #[.slice (some ⟨blk, off, none⟩) ss.length cap] w fun e w' =>
      e = .returned (.tuple #[]) ∧ ∃ n os, w' = grow (putRow encStr (Sort.ahead w n) blk off (ss.mergeSort fun x y => decide (x ≤ y)).toArray) os := Any.slices_Sort_string Tryz.lays190 blk off cap ss w hH hblk hsz
open Go.RowKit Go.Sort in
theorem Tryz.slices_Sort_string_none (p : Option Addr) (cap : Nat) (w : World) :
    Calls Tryz.prog 127 #[.slice p 0 cap] w fun e w' => e = .returned (.tuple #[]) ∧ w' = w := Any.slices_Sort_string_none Tryz.lays190 p cap w
end Go.Proofs
namespace Go.Proofs.YtpklcnpmppaaoaaGreatDoor.Print
open Go.RowKit Go.Proofs.YtpklcnpmppaaoaaGreatDoorW.PrintWords Go.Proofs.YtpklcnpmppaaoaaGreatDoorW.PrintLast Go.Proofs.YtpklcnpmppaaoaaGreatDoorW.PrintMore Go.Sort
set_option linter.unusedVariables false
def sortL (l : List (List UInt8)) : List (List UInt8) := l.mergeSort fun x y => decide (x ≤ y)
def sortB (xs : List ByteArray) : List ByteArray := (sortL (xs.map (·.data.toList))).map fun l => ⟨l.toArray⟩
theorem sortB_len (xs : List ByteArray) : (sortB xs).length = xs.length := by simp [sortB, sortL]
theorem encs_str (xs : List ByteArray) : encs Value.string xs = (xs.map (·.data.toList)).map encStr := by
  unfold encs
  rw [List.map_map]
  exact List.map_congr_left fun x _ => rfl
theorem encs_sort (xs : List ByteArray) : encs Value.string (sortB xs) = (sortL (xs.map (·.data.toList))).map encStr := by
  unfold encs sortB
  rw [List.map_map]
  exact List.map_congr_left fun x _ => rfl
theorem sort_own (A : Option Addr) (c : Nat) (xs : List ByteArray) (B : Nat) (w : World) (ho : Kd.R Kd.string 9 w B (fun _ => True) (.slice A xs.length c) xs) (hB : B ≤ w.heap.size) (hle : xs.length ≤ 1000000) :
    Calls Tryz.prog 127 #[.slice A xs.length c] w fun e w' => e = .returned (.tuple #[]) ∧ Kd.R Kd.string 9 w' B (fun _ => True) (.slice A xs.length c) (sortB xs) ∧ Below B w w' := by
  have hrow := Kd.own_of_R ho
  rw [encs_str] at hrow
  have hmax := (Kd.R_reads' ho).2.2.2.1
  rcases hrow.2 with ⟨hnil, hn0⟩ | ⟨g, cap, cur, hv, hbase, hb, h1, h2, h3, h4⟩
  · have hx : xs = [] := List.eq_nil_of_length_eq_zero (by simpa using hn0)
    subst hx
    refine (Tryz.slices_Sort_string_none A c w).mono ?_
    rintro e w' ⟨he, rfl⟩
    have e0 : sortB [] = [] := by simp [sortB, sortL]
    rw [e0]
    exact ⟨he, ho, Below.refl _ _⟩
  · injection hv with hA hl hc
    subst hA; subst hc
    have hH : Holds encStr w g 0 (xs.map (·.data.toList)).toArray := holds_of_block hb (by simpa using h4)
    have hlen : xs.length = (xs.map (·.data.toList)).length := by simp
    have hcall := Tryz.slices_Sort_string g 0 c (xs.map (·.data.toList)) w hH (Array.getElem?_eq_some_iff.1 hb).1 (by rw [← hlen]; omega)
    rw [← hlen] at hcall
    refine hcall.mono ?_
    rintro e w' ⟨he, n, os, rfl⟩
    have hs := ownsRow_sorted (w := w) (n := n) (os := os) (ss := xs.map (·.data.toList)) (ts := sortL (xs.map (·.data.toList))) (by simp [sortL]) hbase hb (by rw [← hlen]; exact h1) h2 h3
    rw [← hlen, ← encs_sort] at hs
    refine ⟨he, Kd.R_of_own (by rw [sortB_len]; exact hs) (fun _ _ => trivial), ?_⟩
    exact (Below.refl B w).grown (grownBy_sorted _) hB (fun j hj => by cases hj; exact hbase)
theorem join_le {l : List ByteArray} {s r : ByteArray} (h : strings_Join.f (sortB l) s = some r) : l.length ≤ 1000000 := by
  unfold strings_Join.f at h
  by_cases c : (sortB l).length ≤ 1000000
  · rw [sortB_len] at c; exact c
  · rw [if_neg c] at h; cases h
theorem join_n (A0 : Option Addr) (c0 : Nat) (l0 : List ByteArray) (n : Nat) (hn : l0.length = n) (a1 : ByteArray) (r : ByteArray) (w : World) (hr0 : Kd.C Kd.string w A0 l0.length l0) (hc0 : l0.length ≤ c0) (h : strings_Join.f l0 a1 = some r) :
    Calls Tryz.prog 71 #[.slice A0 n c0, .string a1] w fun e w' => e = .returned (.string r) ∧ Below w.heap.size w w' := by
  subst hn
  exact strings_Join.calls A0 c0 l0 a1 r w hr0 hc0 h
theorem reads_srt {A : Option Addr} {c : Nat} {xs : List ByteArray} {B : Nat} {w : World} {ok : Nat → Prop} (h : Kd.R Kd.string 9 w B ok (.slice A xs.length c) (sortB xs)) : (sortB xs).length ≤ c ∧ Kd.C Kd.string w A (sortB xs).length (sortB xs) := by
  have h2 := Kd.R_reads' (xs := sortB xs) (n := xs.length) h
  refine ⟨?_, ?_⟩
  · rw [sortB_len]; exact h2.2.1
  · exact h2.2.2
end Go.Proofs.YtpklcnpmppaaoaaGreatDoor.Print
namespace Go.Proofs.YtpklcnpmppaaoaaGreatDoor.Print
open Go.RowKit Go.Proofs.YtpklcnpmppaaoaaGreatDoorW.PrintWords Go.Proofs.YtpklcnpmppaaoaaGreatDoorW.PrintLast Go.Proofs.YtpklcnpmppaaoaaGreatDoorW.PrintMore
attribute [local go_sem] max2_int min2_int max_two min_two max_three min_three max_four min_four
set_option linter.unusedVariables false
set_option linter.unusedSimpArgs false
def dn_key.l0 : Nat → List ByteArray → List (S96) → Int → Int → Option (ByteArray)
 | 0, _, _, _, _ => none
 | k + 1, x3, x10, x11, x12 => if x12 < x11 then (if 0 ≤ x12 then (if x12 < (x10.length : Int) then ((prep_Ready.f k ((rd_T96 x10 x12).f1) true).bind fun bt335 => ((field_Tuple.f (([(rd_T96 x10 x12).f0, bt335.1] : List ByteArray))).bind fun bt340 => (if x3.length < 8796093022208 then (dn_key.l0 k (x3 ++ [bt340.1]) x10 x11 (wrap64 (x12 + 1))) else (none)))) else (none)) else (none)) else ((strings_Join.f (sortB x3) (⟨#[]⟩ : ByteArray)).bind fun t345 => (some t345))
def dn_key.f (k : Nat) (l0 : List (S96)) : Option (ByteArray) := dn_key.l0 k ([] : List ByteArray) l0 (l0.length : Int) 0
theorem dn_key.mono_l : ∀ k, (∀ y0 y1 y2 y3, LeO (dn_key.l0 k y0 y1 y2 y3) (dn_key.l0 (k + 1) y0 y1 y2 y3))
 | 0 => fun _ _ _ _ r h => by simp [dn_key.l0] at h
 | k + 1 => by
  have ih0 := dn_key.mono_l k
  ·
   intro y0 y1 y2 y3
   unfold dn_key.l0
   repeat' first
   | (with_reducible exact ih0 _ _ _ _)
   | (with_reducible exact prep_Ready.mono _ _ _)
   | (with_reducible exact LeO.refl _)
   | (with_reducible exact LeO.none _)
   | (with_reducible refine LeO.ite ?_ ?_)
   | (with_reducible refine LeO.bind ?_ (fun _ => ?_))
theorem dn_key.mono : ∀ a0 k, LeO (dn_key.f k a0) (dn_key.f (k + 1) a0) := by
 intro a0 k
 have ih0 := dn_key.mono_l k
 unfold dn_key.f
 repeat' first
   | (with_reducible exact ih0 _ _ _ _)
   | (with_reducible exact prep_Ready.mono _ _ _)
   | (with_reducible exact LeO.refl _)
   | (with_reducible exact LeO.none _)
   | (with_reducible refine LeO.ite ?_ ?_)
   | (with_reducible refine LeO.bind ?_ (fun _ => ?_))
set_option maxHeartbeats 8000000 in
set_option maxRecDepth 100000 in
theorem dn_key.calls (k : Nat) (A0 : Option Addr) (c0 : Nat) (l0 : List (S96)) (r : ByteArray) (w : World) (hr0 : Kd.C k96 w A0 l0.length l0) (hc0 : l0.length ≤ c0) (hG : Gw w) (h : dn_key.f k l0 = some r) :
  Calls Tryz.prog 100 #[.slice A0 l0.length c0] w fun e w' => e = .returned (.string r) ∧ Below w.heap.size w w' := by
 have hu96 := Tryz.underlying96
 have HR0 := Aside0.mk hr0
 have HC0 := Aside0.mk hc0
 clear hr0 hc0
 have HB := Aside0.mk (Below.refl w.heap.size w)
 have HG := Aside0.mk hG
 clear hG
 have H : (dn_key.l0 k ([] : List ByteArray) l0 (l0.length : Int) 0) = some r := h
 clear h
 have H' := Aside0.mk H
 clear H
 go_enter Tryz.func100, Tryz.ntmps100
 go_wp2
 go_loopg [3, 12] k (fun kq v3 v12 w' => ∃ (x3_1 : List ByteArray) (x12_1 : Int), v12 = .int .i64 x12_1 ∧ Aside0 (dn_key.l0 kq x3_1 l0 (l0.length : Int) x12_1 = some r) ∧ Aside0 (kq ≤ k) ∧ Aside0 (Kd.R Kd.string 9 w' w.heap.size (fun _ => True) v3 x3_1) ∧ Aside0 (Below w.heap.size w w'))
 case atStart => exact ⟨(([] : List ByteArray)), (0), ap2, H', ⟨Nat.le_refl _⟩, ⟨by first | exact Kd.R_nil _ _ _ _ _ | exact Kd.N_nil _ _ _ _ _ | exact Kd.V_nil _ _ _ _ _ | exact Kd.Q_nil _ _ _ _ _ | exact Kd.S_nil _ _ _ _ _⟩, ⟨by repeat (first | (with_reducible first | exact HB.out | apply below_alloc | apply pw_below_drewN | apply below_drew1) | exact HB.out)⟩⟩
 case round =>
  clear H'
  try clear c1
  obtain ⟨x3_1, x12_1, rfl, HA, HK1, HO_3, HB⟩ := hrel
  cases gk with
  | zero => exact absurd HA.out (by simp [dn_key.l0])
  | succ k1 =>
   have H := HA.out
   clear HA
   simp only [dn_key.l0] at H
   by_cases c2 : x12_1 < (l0.length : Int)
   ·
    rw [if_pos c2] at H
    have c2b0 := decide_eq_true c2
    clear c2
    by_cases c3 : 0 ≤ x12_1
    ·
     rw [if_pos c3] at H
     have c3b0 := decide_eq_true c3
     clear c3
     by_cases c4 : x12_1 < (l0.length : Int)
     ·
      rw [if_pos c4] at H
      have c4b0 := decide_eq_true c4
      clear c4
      replace H := Option.bind_eq_some_iff.mp H
      obtain ⟨⟨t335, t336⟩, A50, H⟩ := H
      replace H : ((field_Tuple.f (([(rd_T96 l0 x12_1).f0, t335] : List ByteArray))).bind fun bt340 => (if x3_1.length < 8796093022208 then (dn_key.l0 k1 (x3_1 ++ [bt340.1]) l0 (l0.length : Int) (wrap64 (x12_1 + 1))) else (none))) = some r := H
      have A5 := Aside0.mk A50
      clear A50
      obtain ⟨y337, hy337⟩ : ∃ y_ : List ByteArray, y_ = (([(rd_T96 l0 x12_1).f0, t335] : List ByteArray)) := ⟨_, rfl⟩
      replace H : ((field_Tuple.f y337).bind fun bt340 => (if x3_1.length < 8796093022208 then (dn_key.l0 k1 (x3_1 ++ [bt340.1]) l0 (l0.length : Int) (wrap64 (x12_1 + 1))) else (none))) = some r := by first | (rw [hy337]; with_reducible exact H) | (have H2_ := (Option.bind_some _ _).symm.trans H; rw [hy337]; with_reducible exact H2_) | (have H2_ := (Option.bind_some _ _).symm.trans H; with_reducible exact H2_) | with_reducible exact H | (rw [hy337]; exact H) | exact H
      have Ny337 := Aside0.mk hy337
      clear hy337
      replace H := Option.bind_eq_some_iff.mp H
      obtain ⟨⟨t340, t341⟩, A60, H⟩ := H
      replace H : (if x3_1.length < 8796093022208 then (dn_key.l0 k1 (x3_1 ++ [t340]) l0 (l0.length : Int) (wrap64 (x12_1 + 1))) else (none)) = some r := H
      have A6 := Aside0.mk A60
      clear A60
      by_cases c7 : x3_1.length < 8796093022208
      ·
       rw [if_pos c7] at H
       have LMc7 := Aside0.mk c7
       clear c7
       obtain ⟨y342, hy342⟩ : ∃ y_ : List ByteArray, y_ = (x3_1 ++ [t340]) := ⟨_, rfl⟩
       replace H : (dn_key.l0 k1 y342 l0 (l0.length : Int) (wrap64 (x12_1 + 1))) = some r := by first | (rw [hy342]; with_reducible exact H) | (have H2_ := (Option.bind_some _ _).symm.trans H; rw [hy342]; with_reducible exact H2_) | (have H2_ := (Option.bind_some _ _).symm.trans H; with_reducible exact H2_) | with_reducible exact H | (rw [hy342]; exact H) | exact H
       have Ny342 := Aside0.mk hy342
       clear hy342
       have H' := Aside0.mk H
       clear H
       have p333 : 0 ≤ (x12_1 : Int) := of_decide_eq_true ap0
       have q333 : x12_1 < (l0.length : Int) := of_decide_eq_true ap0
       obtain ⟨ad333, e333, hx333_0, hx333_1⟩ := at_T96 HR0.out x12_1 p333 q333
       cases e333
       replace hx333_0 := (HB.out.cell (World.block_lt_of_cell? w _ hx333_0)).trans hx333_0
       replace hx333_1 := (HB.out.cell (World.block_lt_of_cell? w _ hx333_1)).trans hx333_1
       replace p333 := eq_true p333
       replace q333 := eq_true q333
       go_wp2_with (first | ((with_reducible refine gate_dst (N := 5) rfl ?_); refine box_event ?hg (N := 5) ?hd (cs := #[.string (⟨#[]⟩ : ByteArray), .string (⟨#[]⟩ : ByteArray)]) (t := 96) ?hr ?_; (case hd => rfl); (case hg => rfl); (case hr => first | (go_simp; done) | (go_simp; rfl)); intro gb334 hg w8 hbox hb; have n0_ := Aside0.mk (Kd.R_below (apAR HO_3.out) hb); have n1_ := Aside0.mk (below_step ap1 hb); have n2_ := Aside0.mk (hbox); have n3_ := Aside0.mk ((by rw [hg]; exact (below_size ap1) : w.heap.size ≤ gb334)); have n4_ := Aside0.mk ((by rw [hg]; exact (below_size ap1) : w.heap.size ≤ gb334)); clear HO_3; clear HB; have HO_3 := n0_; have HB := n1_; have BK334 := n2_; have GW334 := n3_; have GE334 := n4_; clear n0_ n1_ n2_ n3_ n4_; clear hb hbox hg; have hcz9_0 : w8.cell? ⟨gb334, 0, none⟩ = some (.string (⟨#[]⟩ : ByteArray)) := (blk_cell BK334.out 0).trans rfl; have hcz9_1 : w8.cell? ⟨gb334, 1, none⟩ = some (.string (⟨#[]⟩ : ByteArray)) := (blk_cell BK334.out 1).trans rfl; have hfz9_0 := blk_frozen BK334.out 0; have hfz9_1 := blk_frozen BK334.out 1) | ((with_reducible refine gate_callee (f := 67) rfl ?_); refine goesL_ (some 19) rfl rfl Tryz.func67 (by kernel_rfl) rfl #[.string ((rd_T96 l0 x12_1).f1), .bool true] rfl ap3 ?_; (with_reducible refine (prep_Ready.calls k1 ((rd_T96 l0 x12_1).f1) true t335 t336 _ ?side1 A5.out).mono ?_); (case side1 => first | exact HG.out | (refine Gw.below HG.out ?_; repeat (first | (with_reducible first | exact HB.out | apply below_alloc | apply pw_below_drewN | apply below_drew1 | refine below_set ?_ GE334.out) | exact HB.out))); rintro e w10 ⟨rfl, hb⟩; refine ⟨_, rfl, ?_⟩; have n0_ := Aside0.mk (Kd.R_below (by (with_reducible repeat (first | apply Kd.R_alloc | apply Kd.R_drewN | apply Kd.R_drew)); exact (Kd.R_mono (Kd.R_far (p := ⟨gb334, 1, none⟩) (Kd.R_far (p := ⟨gb334, 0, none⟩) (Kd.R_types HO_3.out BK334.out (by decide)) (fun _ hk => hk.2) (.string ((rd_T96 l0 x12_1).f0))) (fun _ hk => hk.2) (.string ((rd_T96 l0 x12_1).f1))) (fun _ h_ => h_.1))) hb); have n1_ := Aside0.mk (blk_below (g := gb334) (o := .cells #[.string ((rd_T96 l0 x12_1).f0), .string ((rd_T96 l0 x12_1).f1)] 96 (0, 0)) (by (with_reducible repeat (first | refine blk_drewN ?_ _ | refine blk_drew ?_ | refine blk_alloc ?_ _)); refine blk_put (cs := #[.string ((rd_T96 l0 x12_1).f0), .string (⟨#[]⟩ : ByteArray)]) ?_ 1 _ rfl; (with_reducible repeat (first | refine blk_drewN ?_ _ | refine blk_drew ?_ | refine blk_alloc ?_ _)); refine blk_put (cs := #[.string (⟨#[]⟩ : ByteArray), .string (⟨#[]⟩ : ByteArray)]) ?_ 0 _ rfl; (with_reducible repeat (first | refine blk_drewN ?_ _ | refine blk_drew ?_ | refine blk_alloc ?_ _)); exact BK334.out) hb); have n2_ := Aside0.mk (below_step (apG GE334.out) hb); clear HO_3; clear BK334; clear HB; have HO_3 := n0_; have BK334 := n1_; have HB := n2_; clear n0_ n1_ n2_; (try clear hb); (try clear hb2); (try clear hk); (try clear hi); have hcz11_0 : w10.cell? ⟨gb334, 0, none⟩ = some (.string ((rd_T96 l0 x12_1).f0)) := (blk_cell BK334.out 0).trans rfl; have hcz11_1 : w10.cell? ⟨gb334, 1, none⟩ = some (.string ((rd_T96 l0 x12_1).f1)) := (blk_cell BK334.out 1).trans rfl; have hfz11_0 := blk_frozen BK334.out 0; have hfz11_1 := blk_frozen BK334.out 1) | ((with_reducible refine gate_dst (N := 26) rfl ?_); refine Kd.R_lit Kd.string _ 9 ?hg (N := 26) ?hd (xs := ([(rd_T96 l0 x12_1).f0, t335] : List ByteArray)) (inner := [.string ((rd_T96 l0 x12_1).f0), .string t335]) (ok := fun _ => True) (okp := fun _ => True) ?hr ?hp (fun _ hk => hk) trivial (Below.refl _ _) (Nat.le_refl _) (by simp) ?_; (case hd => rfl); (case hg => rfl); (case hr => first | (go_simp; done) | (go_simp; rfl)); (case hp => exact (Reps.one (show Kd.M Kd.string _ _ _ ((rd_T96 l0 x12_1).f0) [.string ((rd_T96 l0 x12_1).f0)] from rfl) (Reps.one (show Kd.M Kd.string _ _ _ t335 [.string t335] from rfl) (Reps.none _ _)))); intro v338 w12 ho13 hb hg_ hnew_; clear hg_ hnew_; (first | rw [← Ny337.out] at ho13 | (simp only [Int.reduceToNat] at ho13; rw [← Ny337.out] at ho13)); have n0_ := Aside0.mk (Kd.R_elder' (apAR HO_3.out) (Kd.R_base ho13) hb); have n1_ := Aside0.mk (Kd.R_lower (Kd.R_new' ho13 (Kd.R_lt (apAR HO_3.out))) (below_size (apG GE334.out))); have n2_ := Aside0.mk (blk_below (g := gb334) (o := .cells #[.string ((rd_T96 l0 x12_1).f0), .string ((rd_T96 l0 x12_1).f1)] 96 (0, 0)) (apB BK334.out) hb); have n3_ := Aside0.mk (below_step (apG GE334.out) hb); clear HO_3; clear BK334; clear HB; have HO_3 := n0_; have HO339 := n1_; have BK334 := n2_; have HB := n3_; clear n0_ n1_ n2_ n3_; clear hb ho13; obtain ⟨Ao14, co14, eo14⟩ := Kd.R_slice HO339.out; subst eo14) | ((with_reducible refine gate_callee (f := 126) rfl ?_); refine goesL_ (some 27) rfl rfl Tryz.func126 (by kernel_rfl) rfl #[.slice Ao14 y337.length co14] rfl ap3 ?_; (with_reducible refine (field_Tuple.calls _ _ y337 t340 t341 _ ?side1 ?side2 ?side3 A6.out).mono ?_); (case side1 => repeat (first | exact (Kd.R_reads' HO339.out).2.2 | (with_reducible refine Kd.C_alloc ?_ _) | (with_reducible refine Kd.C_drewN ?_ _) | (with_reducible refine Kd.C_drew ?_))); (case side2 => exact (Kd.R_reads' HO339.out).2.1); (case side3 => first | exact HG.out | (refine Gw.below HG.out ?_; repeat (first | (with_reducible first | exact HB.out | apply below_alloc | apply pw_below_drewN | apply below_drew1 | refine below_set ?_ GE334.out) | exact HB.out))); rintro e w15 ⟨rfl, hb⟩; refine ⟨_, rfl, ?_⟩; have n0_ := Aside0.mk (Kd.R_below (apAR HO_3.out) hb); have n1_ := Aside0.mk (Kd.R_below (apAR HO339.out) hb); have n2_ := Aside0.mk (blk_below (g := gb334) (o := .cells #[.string ((rd_T96 l0 x12_1).f0), .string ((rd_T96 l0 x12_1).f1)] 96 (0, 0)) (apB BK334.out) hb); have n3_ := Aside0.mk (below_step (apG GE334.out) hb); clear HO_3; clear HO339; clear BK334; clear HB; have HO_3 := n0_; have HO339 := n1_; have BK334 := n2_; have HB := n3_; clear n0_ n1_ n2_ n3_; (try clear hb); (try clear hb2); (try clear hk); (try clear hi)) | ((with_reducible refine gate_builtin (b := .append) (xs := #[.tmp 30, .tmp 32]) rfl ?_); at_builtin; refine Kd.R_append Kd.string (w0 := w) w.heap.size rfl (.tmp 30) (.tmp 32) 31 9 (.string ⟨#[]⟩) 16 rfl Tryz.underlying31 info9 rfl (by decide) (by omega) u3 x3_1 t340 [.string t340] (fun k_ => some k_ ≠ (.slice Ao14 y337.length co14 : Value).ownBlock) (fun _ => False) rfl rfl ?aP (fun _ hk => hk.elim) ?aF ?aO ?aB ?aS ?aL ?_; (case aP => exact rfl); (case aB => exact (apG GE334.out)); (case aF => exact (fun k_ hk => Kd.fresh' (Kd.R_lt (apAR HO339.out)) k_ hk)); (case aO => exact (by (with_reducible repeat (first | apply Kd.R_alloc | apply Kd.R_drewN | apply Kd.R_drew)); exact Kd.R_mono HO_3.out (fun _ hk => hk.2))); (case aS => exact (below_size (apG GE334.out))); (case aL => have := LMc7.out; omega); intro v343 w16 ho hb hg hat; rw [← Ny342.out] at ho; have n0_ := Aside0.mk (blk_grown (g := gb334) (o := .cells #[.string ((rd_T96 l0 x12_1).f0), .string ((rd_T96 l0 x12_1).f1)] 96 (0, 0)) (apB BK334.out) hg (Kd.R_ne HO_3.out BK334.out (by decide))); have n1_ := Aside0.mk (Kd.R_after (ok := (fun _ => True)) (apAR HO339.out) hg hat); have n2_ := Aside0.mk (hb); have n3_ := Aside0.mk (ho); clear BK334; clear HO339; clear HB; clear HO_3; have BK334 := n0_; have HO339 := n1_; have HB := n2_; have HO344 := n3_; clear n0_ n1_ n2_ n3_; clear ho hb hg hat))
       go_roundg k1
       case measure => have := HK1.out; omega
       case rel => exact ⟨(y342), (wrap64 (x12_1 + 1)), ap2, H', ⟨by have := HK1.out; omega⟩, ⟨by (with_reducible repeat (first | apply Kd.R_alloc | apply Kd.R_drewN | apply Kd.R_drew)); exact Kd.R_mono HO344.out (fun _ hk => trivial)⟩, ⟨by repeat (first | (with_reducible first | exact HB.out | apply below_alloc | apply pw_below_drewN | apply below_drew1 | refine below_set ?_ GE334.out) | exact HB.out)⟩⟩
      ·
       rw [if_neg c7] at H
       exact absurd H (by simp)
     ·
      rw [if_neg c4] at H
      exact absurd H (by simp)
    ·
     rw [if_neg c3] at H
     exact absurd H (by simp)
   ·
    rw [if_neg c2] at H
    have c2b0 := decide_eq_false c2
    clear c2
    replace H := Option.bind_eq_some_iff.mp H
    obtain ⟨t345, A170, H⟩ := H
    replace H : (some t345) = some r := H
    have A17 := Aside0.mk A170
    clear A170
    obtain rfl := Option.some.inj H
    have JL := Aside0.mk A17.out
    obtain ⟨Ao18, co18, eo18⟩ := Kd.R_slice HO_3.out
    subst eo18
    go_wp2_with (first | ((with_reducible refine gate_callee (f := 127) rfl ?_); refine goesL_ (some 36) rfl rfl Tryz.func127 (by kernel_rfl) rfl #[.slice Ao18 x3_1.length co18] rfl ap3 ?_; (with_reducible refine (sort_own Ao18 co18 x3_1 w.heap.size _ ?sa ?sb ?sc).mono ?_); (case sa => exact (apAR HO_3.out)); (case sb => exact (below_size ap1)); (case sc => exact join_le JL.out); rintro e w90 ⟨rfl, ho0, hb⟩; refine ⟨_, rfl, ?_⟩; have n0_ := Aside0.mk ho0; have n1_ := Aside0.mk (Below.trans ap1 hb); clear HO_3; clear HB; have HO_3 := n0_; have HB := n1_; clear n0_ n1_; clear hb ho0) | ((with_reducible refine gate_callee (f := 71) rfl ?_); refine goesL_ (some 38) rfl rfl Tryz.func71 (by kernel_rfl) rfl #[.slice Ao18 x3_1.length co18, .string (⟨#[]⟩ : ByteArray)] rfl ap3 ?_; (with_reducible refine (join_n _ _ (sortB x3_1) x3_1.length (sortB_len _) (⟨#[]⟩ : ByteArray) t345 _ ?side1 ?side2 A17.out).mono ?_); (case side1 => repeat (first | exact (reads_srt HO_3.out).2 | (with_reducible refine Kd.C_alloc ?_ _) | (with_reducible refine Kd.C_drewN ?_ _) | (with_reducible refine Kd.C_drew ?_))); (case side2 => exact (reads_srt HO_3.out).1); rintro e w19 ⟨rfl, hb⟩; refine ⟨_, rfl, ?_⟩; have n0_ := Aside0.mk (Kd.R_below (apAR HO_3.out) hb); have n1_ := Aside0.mk (below_step ap1 hb); clear HO_3; clear HB; have HO_3 := n0_; have HB := n1_; clear n0_ n1_; (try clear hb); (try clear hb2); (try clear hk); (try clear hi)))
    go_ret
    exact ⟨by first | rfl | (simp [errW_none, errW_some, bne_nil8, beq_nil8]; done) | (simp [errW_none, errW_some] <;> rfl) | (simp [*, errW_none, errW_some] <;> rfl), by repeat (first | (with_reducible first | exact HB.out | apply below_alloc | apply pw_below_drewN | apply below_drew1) | exact HB.out)⟩
def dn_Keys.l0 : Nat → List (List (S96)) → List ByteArray → Int → Int → Option (List ByteArray × Int)
 | 0, _, _, _, _ => none
 | k + 1, x0, x4, x10, x11 => if x11 < x10 then (if 0 ≤ (wrap64 ((wrap64 ((x0.length : Int) - 1)) - x11)) then (if (wrap64 ((wrap64 ((x0.length : Int) - 1)) - x11)) < (x0.length : Int) then ((dn_key.f k (rd_L8 x0 (wrap64 ((wrap64 ((x0.length : Int) - 1)) - x11)))).bind fun t348 => (if x4.length < 8796093022208 then (dn_Keys.l0 k x0 (x4 ++ [t348]) x10 (wrap64 (x11 + 1))) else (none))) else (none)) else (none)) else (some (x4, 0))
def dn_Keys.f (k : Nat) (l0 : List (List (S96))) : Option (List ByteArray × Int) := (dn_Right.f k l0).bind fun t346 => (if t346 = true then (dn_Keys.l0 k l0 ([] : List ByteArray) (l0.length : Int) 0) else (some (([] : List ByteArray), 4)))
theorem dn_Keys.mono_l : ∀ k, (∀ y0 y1 y2 y3, LeO (dn_Keys.l0 k y0 y1 y2 y3) (dn_Keys.l0 (k + 1) y0 y1 y2 y3))
 | 0 => fun _ _ _ _ r h => by simp [dn_Keys.l0] at h
 | k + 1 => by
  have ih0 := dn_Keys.mono_l k
  ·
   intro y0 y1 y2 y3
   unfold dn_Keys.l0
   repeat' first
   | (with_reducible exact ih0 _ _ _ _)
   | (with_reducible exact dn_Right.mono _ _)
   | (with_reducible exact dn_key.mono _ _)
   | (with_reducible exact LeO.refl _)
   | (with_reducible exact LeO.none _)
   | (with_reducible refine LeO.ite ?_ ?_)
   | (with_reducible refine LeO.bind ?_ (fun _ => ?_))
theorem dn_Keys.mono : ∀ a0 k, LeO (dn_Keys.f k a0) (dn_Keys.f (k + 1) a0) := by
 intro a0 k
 have ih0 := dn_Keys.mono_l k
 unfold dn_Keys.f
 repeat' first
   | (with_reducible exact ih0 _ _ _ _)
   | (with_reducible exact dn_Right.mono _ _)
   | (with_reducible exact dn_key.mono _ _)
   | (with_reducible exact LeO.refl _)
   | (with_reducible exact LeO.none _)
   | (with_reducible refine LeO.ite ?_ ?_)
   | (with_reducible refine LeO.bind ?_ (fun _ => ?_))
set_option maxHeartbeats 8000000 in
set_option maxRecDepth 100000 in
theorem dn_Keys.calls (k : Nat) (A0 : Option Addr) (c0 : Nat) (l0 : List (List (S96))) (r1 : List ByteArray) (r2 : Int) (w : World) (hr0 : Kd.C (Kd.slice 96 k96) w A0 l0.length l0) (hc0 : l0.length ≤ c0) (hG : Gw w) (h : dn_Keys.f k l0 = some (r1, r2)) :
  Calls Tryz.prog 70 #[.slice A0 l0.length c0] w fun e w' => ∃ v0_ : Value, e = .returned (.tuple #[v0_, .int .i64 r2]) ∧ Kd.R Kd.string 9 w' w.heap.size (fun _ => True) v0_ r1 ∧ Below w.heap.size w w' := by
 have HR0 := Aside0.mk hr0
 have HC0 := Aside0.mk hc0
 clear hr0 hc0
 have HB := Aside0.mk (Below.refl w.heap.size w)
 have HG := Aside0.mk hG
 clear hG
 have H : ((dn_Right.f k l0).bind fun t346 => (if t346 = true then (dn_Keys.l0 k l0 ([] : List ByteArray) (l0.length : Int) 0) else (some (([] : List ByteArray), 4)))) = some (r1, r2) := h
 clear h
 replace H := Option.bind_eq_some_iff.mp H
 obtain ⟨t346, A20, H⟩ := H
 replace H : (if t346 = true then (dn_Keys.l0 k l0 ([] : List ByteArray) (l0.length : Int) 0) else (some (([] : List ByteArray), 4))) = some (r1, r2) := H
 have A2 := Aside0.mk A20
 clear A20
 by_cases c3 : t346 = true
 ·
  subst c3
  rw [if_pos rfl] at H
  have H' := Aside0.mk H
  clear H
  go_enter Tryz.func70, Tryz.ntmps70
  go_wp2_with (first | ((with_reducible refine gate_callee (f := 99) rfl ?_); refine goesL_ (some 7) rfl rfl Tryz.func99 (by kernel_rfl) rfl #[.slice A0 l0.length c0] rfl ap3 ?_; (with_reducible refine (dn_Right.calls k _ _ l0 true _ ?side1 ?side2 ?side3 A2.out).mono ?_); (case side1 => repeat (first | exact HR0.out | (with_reducible refine Kd.C_alloc ?_ _) | (with_reducible refine Kd.C_drewN ?_ _) | (with_reducible refine Kd.C_drew ?_))); (case side2 => exact HC0.out); (case side3 => exact ap6); rintro e w4 ⟨rfl, hb⟩; refine ⟨_, rfl, ?_⟩; have n0_ := Aside0.mk (below_step ap1 hb); clear HB; have HB := n0_; clear n0_; (try clear hb); (try clear hb2); (try clear hk); (try clear hi)))
  go_loopg [4, 11] k (fun kq v4 v11 w' => ∃ (x4_1 : List ByteArray) (x11_1 : Int), v11 = .int .i64 x11_1 ∧ Aside0 (dn_Keys.l0 kq l0 x4_1 (l0.length : Int) x11_1 = some (r1, r2)) ∧ Aside0 (kq ≤ k) ∧ Aside0 (Kd.R Kd.string 9 w' w.heap.size (fun _ => True) v4 x4_1) ∧ Aside0 (Below w.heap.size w w'))
  case atStart => exact ⟨(([] : List ByteArray)), (0), ap2, H', ⟨Nat.le_refl _⟩, ⟨by first | exact Kd.R_nil _ _ _ _ _ | exact Kd.N_nil _ _ _ _ _ | exact Kd.V_nil _ _ _ _ _ | exact Kd.Q_nil _ _ _ _ _ | exact Kd.S_nil _ _ _ _ _⟩, ⟨by repeat (first | (with_reducible first | exact HB.out | apply below_alloc | apply pw_below_drewN | apply below_drew1) | exact HB.out)⟩⟩
  case round =>
   clear H'
   try clear p2
   try clear c3
   obtain ⟨x4_1, x11_1, rfl, HA, HK1, HO_4, HB⟩ := hrel
   cases gk with
   | zero => exact absurd HA.out (by simp [dn_Keys.l0])
   | succ k1 =>
    have H := HA.out
    clear HA
    simp only [dn_Keys.l0] at H
    by_cases c5 : x11_1 < (l0.length : Int)
    ·
     rw [if_pos c5] at H
     have c5b0 := decide_eq_true c5
     clear c5
     obtain ⟨ji6, hji6⟩ : ∃ j_ : Int, (wrap64 ((wrap64 ((l0.length : Int) - 1)) - x11_1)) = j_ := ⟨_, rfl⟩
     replace H : (if 0 ≤ (ji6) then (if (ji6) < (l0.length : Int) then ((dn_key.f k1 (rd_L8 l0 (ji6))).bind fun t348 => (if x4_1.length < 8796093022208 then (dn_Keys.l0 k1 l0 (x4_1 ++ [t348]) (l0.length : Int) (wrap64 (x11_1 + 1))) else (none))) else (none)) else (none)) = some (r1, r2) := by first | (rw [hji6] at H; exact H) | (simp only [hji6] at H ⊢; exact H)
     have hji6w : (IntKind.i64.wrap ((wrap64 ((l0.length : Int) - 1)) - x11_1)) = ji6 := (i64_w _).trans hji6
     by_cases c7 : 0 ≤ (ji6)
     ·
      rw [if_pos c7] at H
      have c7b0 := decide_eq_true c7
      clear c7
      by_cases c8 : (ji6) < (l0.length : Int)
      ·
       rw [if_pos c8] at H
       have c8b0 := decide_eq_true c8
       clear c8
       replace H := Option.bind_eq_some_iff.mp H
       obtain ⟨t348, A90, H⟩ := H
       replace H : (if x4_1.length < 8796093022208 then (dn_Keys.l0 k1 l0 (x4_1 ++ [t348]) (l0.length : Int) (wrap64 (x11_1 + 1))) else (none)) = some (r1, r2) := H
       have A9 := Aside0.mk A90
       clear A90
       by_cases c10 : x4_1.length < 8796093022208
       ·
        rw [if_pos c10] at H
        have LMc10 := Aside0.mk c10
        clear c10
        obtain ⟨y349, hy349⟩ : ∃ y_ : List ByteArray, y_ = (x4_1 ++ [t348]) := ⟨_, rfl⟩
        replace H : (dn_Keys.l0 k1 l0 y349 (l0.length : Int) (wrap64 (x11_1 + 1))) = some (r1, r2) := by first | (rw [hy349]; with_reducible exact H) | (have H2_ := (Option.bind_some _ _).symm.trans H; rw [hy349]; with_reducible exact H2_) | (have H2_ := (Option.bind_some _ _).symm.trans H; with_reducible exact H2_) | with_reducible exact H | (rw [hy349]; exact H) | exact H
        have Ny349 := Aside0.mk hy349
        clear hy349
        have H' := Aside0.mk H
        clear H
        have p347 : 0 ≤ ((ji6) : Int) := of_decide_eq_true ap0
        have q347 : (ji6) < (l0.length : Int) := of_decide_eq_true ap0
        obtain ⟨ad347, A347_0, c347_0, e347, hx347_0, hl347_0, hi347_0⟩ := at_L8 HR0.out (ji6) p347 q347
        cases e347
        replace hx347_0 := (HB.out.cell (World.block_lt_of_cell? w _ hx347_0)).trans hx347_0
        have HR347_0 := Aside0.mk hi347_0
        have HC347_0 := Aside0.mk hl347_0
        clear hi347_0 hl347_0
        replace p347 := eq_true p347
        replace q347 := eq_true q347
        go_wp2_with (first | ((with_reducible refine gate_callee (f := 100) rfl ?_); refine goesL_ (some 23) rfl rfl Tryz.func100 (by kernel_rfl) rfl #[.slice A347_0 (rd_L8 l0 (ji6)).length c347_0] rfl (by (try simp only [List.map_toArray, List.map_cons, List.map_nil]); first | done | (simp only [hji6]; rfl) | rfl | (simp only [List.length_drop, List.length_take]; rfl)) ?_; (with_reducible refine (dn_key.calls k1 _ _ (rd_L8 l0 (ji6)) t348 _ ?side1 ?side2 ?side3 A9.out).mono ?_); (case side1 => repeat (first | exact (Kd.C_below HR347_0.out HB.out) | (with_reducible refine Kd.C_alloc ?_ _) | (with_reducible refine Kd.C_drewN ?_ _) | (with_reducible refine Kd.C_drew ?_))); (case side2 => exact HC347_0.out); (case side3 => exact ap6); rintro e w11 ⟨rfl, hb⟩; refine ⟨_, rfl, ?_⟩; have n0_ := Aside0.mk (Kd.R_below (apAR HO_4.out) hb); have n1_ := Aside0.mk (below_step ap1 hb); clear HO_4; clear HB; have HO_4 := n0_; have HB := n1_; clear n0_ n1_; (try clear hb); (try clear hb2); (try clear hk); (try clear hi)) | ((with_reducible refine gate_builtin (b := .append) (xs := #[.tmp 14, .tmp 24]) rfl ?_); at_builtin; refine Kd.R_append Kd.string (w0 := w) w.heap.size rfl (.tmp 14) (.tmp 24) 31 9 (.string ⟨#[]⟩) 16 rfl Tryz.underlying31 info9 rfl (by decide) (by omega) u4 x4_1 t348 [.string t348] (fun _ => True) (fun _ => False) rfl rfl ?aP (fun _ hk => hk.elim) ?aF ?aO ?aB ?aS ?aL ?_; (case aP => exact rfl); (case aB => exact ap1); (case aF => exact (fun _ _ => trivial)); (case aO => exact (apAR HO_4.out)); (case aS => exact (below_size ap1)); (case aL => have := LMc10.out; omega); intro v350 w12 ho hb hg hat; rw [← Ny349.out] at ho; have n0_ := Aside0.mk (hb); have n1_ := Aside0.mk (ho); clear HB; clear HO_4; have HB := n0_; have HO351 := n1_; clear n0_ n1_; clear ho hb hg hat))
        go_roundg k1
        case measure => have := HK1.out; omega
        case rel => exact ⟨(y349), (wrap64 (x11_1 + 1)), ap2, H', ⟨by have := HK1.out; omega⟩, ⟨by (with_reducible repeat (first | apply Kd.R_alloc | apply Kd.R_drewN | apply Kd.R_drew)); exact HO351.out⟩, ⟨by repeat (first | (with_reducible first | exact HB.out | apply below_alloc | apply pw_below_drewN | apply below_drew1) | exact HB.out)⟩⟩
       ·
        rw [if_neg c10] at H
        exact absurd H (by simp)
      ·
       rw [if_neg c8] at H
       exact absurd H (by simp)
     ·
      rw [if_neg c7] at H
      exact absurd H (by simp)
    ·
     rw [if_neg c5] at H
     have c5b0 := decide_eq_false c5
     clear c5
     simp only [Option.some.injEq, Prod.mk.injEq] at H
     obtain ⟨rfl, rfl⟩ := H
     go_wp2
     go_ret2
     exact ⟨_, by first | rfl | (simp [errW_none, errW_some, bne_nil8, beq_nil8]; done) | (simp [errW_none, errW_some] <;> rfl) | (simp [*, errW_none, errW_some] <;> rfl), by (with_reducible repeat (first | apply Kd.R_alloc | apply Kd.R_drewN | apply Kd.R_drew)); exact HO_4.out, by repeat (first | (with_reducible first | exact HB.out | apply below_alloc | apply pw_below_drewN | apply below_drew1) | exact HB.out)⟩
 ·
  replace c3 := Bool.eq_false_iff.mpr c3
  subst c3
  rw [if_neg (show ¬ (false = true) by decide)] at H
  simp only [Option.some.injEq, Prod.mk.injEq] at H
  obtain ⟨rfl, rfl⟩ := H
  go_enter Tryz.func70, Tryz.ntmps70
  go_wp2_with (first | ((with_reducible refine gate_callee (f := 99) rfl ?_); refine goesL_ (some 7) rfl rfl Tryz.func99 (by kernel_rfl) rfl #[.slice A0 l0.length c0] rfl ap3 ?_; (with_reducible refine (dn_Right.calls k _ _ l0 false _ ?side1 ?side2 ?side3 A2.out).mono ?_); (case side1 => repeat (first | exact HR0.out | (with_reducible refine Kd.C_alloc ?_ _) | (with_reducible refine Kd.C_drewN ?_ _) | (with_reducible refine Kd.C_drew ?_))); (case side2 => exact HC0.out); (case side3 => exact ap6); rintro e w13 ⟨rfl, hb⟩; refine ⟨_, rfl, ?_⟩; have n0_ := Aside0.mk (below_step ap1 hb); clear HB; have HB := n0_; clear n0_; (try clear hb); (try clear hb2); (try clear hk); (try clear hi)))
  go_ret2
  exact ⟨_, by first | rfl | (simp [errW_none, errW_some, bne_nil8, beq_nil8]; done) | (simp [errW_none, errW_some] <;> rfl) | (simp [*, errW_none, errW_some] <;> rfl), by first | exact Kd.R_nil _ _ _ _ _ | exact Kd.N_nil _ _ _ _ _ | exact Kd.V_nil _ _ _ _ _ | exact Kd.Q_nil _ _ _ _ _ | exact Kd.S_nil _ _ _ _ _, by repeat (first | (with_reducible first | exact HB.out | apply below_alloc | apply pw_below_drewN | apply below_drew1) | exact HB.out)⟩
end Go.Proofs.YtpklcnpmppaaoaaGreatDoor.Print
namespace Go.Proofs.YtpklcnpmppaaoaaGreatDoor.Print
open Go.RowKit Go.Proofs.YtpklcnpmppaaoaaGreatDoorW.PrintWords Go.Proofs.YtpklcnpmppaaoaaGreatDoorW.PrintLast Go.Proofs.YtpklcnpmppaaoaaGreatDoorW.PrintMore Go.Proofs.YtpklcnpmppaaoaaGreatDoor.Pure
set_option linter.unusedVariables false
set_option linter.unusedSimpArgs false
def readyB (s : ByteArray) : ByteArray := match readyOf true s with
  | some t => ⟨t.toArray⟩
  | none => ⟨#[]⟩
def tupB (l : List ByteArray) : ByteArray × Int :=
  if 16 < l.length then (⟨#[]⟩, 1) else if l.any (fun p => decide (4096 < p.size)) = true then (⟨#[]⟩, 5) else if 4096 < (tupOf l).length then (⟨#[]⟩, 5) else (⟨(tupOf l).toArray⟩, 0)
theorem tup_f (l : List ByteArray) : field_Tuple.f l = some (tupB l) := by
  unfold field_Tuple.f tupB
  by_cases h1 : 16 < l.length
  · rw [if_pos h1, if_pos h1]
  rw [if_neg h1, if_neg h1]
  by_cases h2 : l.any (fun p => decide (4096 < p.size)) = true
  · rw [if_pos h2, if_pos h2]
  rw [if_neg h2, if_neg h2]
  by_cases h3 : 4096 < (tupOf l).length
  · rw [if_pos h3, if_pos h3]
  · rw [if_neg h3, if_neg h3]
theorem tupB_len (l : List ByteArray) : (tupB l).1.size ≤ 4096 := by
  unfold tupB
  by_cases h1 : 16 < l.length
  · rw [if_pos h1]; decide
  rw [if_neg h1]
  by_cases h2 : l.any (fun p => decide (4096 < p.size)) = true
  · rw [if_pos h2]; decide
  rw [if_neg h2]
  by_cases h3 : 4096 < (tupOf l).length
  · rw [if_pos h3]; decide
  · rw [if_neg h3]; show (mkB (tupOf l)).size ≤ _; rw [mkB_size]; omega
def tupV (a : AvaS) : ByteArray := (tupB [a.f0, readyB a.f1]).1
theorem joinB_none (xs : List ByteArray) : joinB xs (⟨#[]⟩ : ByteArray) = (xs.map bl).flatten := by
  show ([] : List UInt8).intercalate (xs.map bl) = _
  cases h : xs.map bl with
  | nil => rfl
  | cons w ws => rw [inter_cons, List.flatten_cons, List.flatMap_def]; simp
theorem flat_len (B : Nat) : ∀ (l : List (List UInt8)), (∀ x ∈ l, x.length ≤ B) → l.flatten.length ≤ l.length * B
  | [], _ => by simp
  | x :: l, h => by
    have ih := flat_len B l fun y hy => h y (by simp [hy])
    have := h x (by simp)
    rw [List.flatten_cons, List.length_append, List.length_cons, Nat.succ_mul]; omega
theorem sortL_mem (l : List (List UInt8)) : ∀ x, x ∈ sortL l ↔ x ∈ l := fun x => (List.mergeSort_perm l _).mem_iff
theorem sortB_size (xs : List ByteArray) (h : ∀ x ∈ xs, x.size ≤ 4096) : ∀ x ∈ (sortB xs).map bl, x.length ≤ 4096 := by
  intro x hx
  unfold sortB at hx
  rw [List.map_map] at hx
  obtain ⟨y, hy, rfl⟩ := List.mem_map.1 hx
  obtain ⟨z, hz, rfl⟩ := List.mem_map.1 ((sortL_mem _ _).1 hy)
  have := h z hz
  rw [← bl_length] at this
  simpa using this
def keyOf (l : List AvaS) : ByteArray := ⟨((sortB (l.map tupV)).map bl).flatten.toArray⟩
theorem key_join (l : List AvaS) (h : l.length ≤ 1000) : strings_Join.f (sortB (l.map tupV)) (⟨#[]⟩ : ByteArray) = some (keyOf l) := by
  have hlen : (sortB (l.map tupV)).length = l.length := by rw [sortB_len, List.length_map]
  have hB := flat_len 4096 ((sortB (l.map tupV)).map bl) (sortB_size _ fun x hx => by
    obtain ⟨a, _, rfl⟩ := List.mem_map.1 hx
    exact tupB_len _)
  rw [List.length_map, hlen] at hB
  have h2 : l.length * 4096 ≤ 1000 * 4096 := Nat.mul_le_mul_right _ h
  unfold strings_Join.f
  rw [if_pos (by omega), joinB_none, if_pos (by omega)]; rfl
theorem ready_ev' (s : ByteArray) (hs : s.size ≤ 100000) : ∃ e, Ev (fun k => prep_Ready.f k s true) (readyB s, e) := by
  have h := ready_ev s hs true
  unfold readyB
  cases hr : readyOf true s with
  | none => rw [hr] at h; exact ⟨_, h⟩
  | some t => rw [hr] at h; exact ⟨_, h⟩
theorem take_next {α : Type} {l : List α} {i : Nat} {x : α} {r : List α} (h : l.drop i = x :: r) : l.take (i + 1) = l.take i ++ [x] := by
  obtain ⟨g1, g0, _⟩ := getD_at (d := x) h
  rw [List.take_succ_eq_append_getElem g1]
  congr 2
  rw [Int.toNat_natCast, List.getD_eq_getElem?_getD, List.getElem?_eq_getElem g1] at g0
  simpa using g0
theorem key_loop (l : List AvaS) (hl : l.length ≤ 1000) (hs : ∀ a ∈ l, szA a) : ∀ (m i : Nat), l.length - i = m → i ≤ l.length → Ev (fun k => dn_key.l0 k ((l.take i).map tupV) l (l.length : Int) (i : Int)) (keyOf l) := by
  intro m
  induction m with
  | zero =>
    intro i hm hi
    rw [List.take_of_length_le (by omega)]
    refine Ev.step (fun k => by rw [dn_key.l0]) ?_
    exact Ev.neg (by omega) (Ev.bindc (key_join l hl) Ev.rfl')
  | succ m ih =>
    intro i hm hi
    cases hr : l.drop i with
    | nil => have := List.drop_eq_nil_iff.1 hr; omega
    | cons a r =>
      obtain ⟨g1, _, g3⟩ := getD_at (d := a) hr
      have g2 := rdA_at hr
      have hsz := hs a (by
        have : a ∈ l.drop i := by rw [hr]; simp
        exact List.mem_of_mem_drop this)
      have hi2 := ih (i + 1) (by omega) (by omega)
      rw [take_next hr, List.map_append] at hi2
      obtain ⟨e, he⟩ := ready_ev' a.f1 hsz.2
      refine Ev.step (fun k => by rw [dn_key.l0]) ?_
      rw [g2, wsucc (by omega)]
      refine Ev.pos (by omega) (Ev.pos (by omega) (Ev.pos (by omega) (Ev.bind he ?_)))
      refine Ev.bindc (tup_f _) ?_
      exact Ev.pos (by rw [List.length_map, List.length_take]; omega) hi2
theorem key_ev (l : List AvaS) (hl : l.length ≤ 1000) (hs : ∀ a ∈ l, szA a) : Ev (fun k => dn_key.f k l) (keyOf l) := by
  unfold dn_key.f
  exact key_loop l hl hs _ 0 rfl (Nat.zero_le _)
def keysOf (n : List (List AvaS)) : List ByteArray := n.reverse.map keyOf
theorem rdR_get {n : List (List AvaS)} {j : Nat} (h : j < n.length) : rdR n (j : Int) = n[j] := rdR_at (r := n.drop (j + 1)) (List.drop_eq_getElem_cons h)
theorem keys_loop (n : List (List AvaS)) (hn : n.length ≤ 1000) (hs : ∀ l ∈ n, l.length ≤ 1000 ∧ ∀ a ∈ l, szA a) : ∀ (m i : Nat), n.length - i = m → i ≤ n.length → Ev (fun k => dn_Keys.l0 k n ((n.reverse.take i).map keyOf) (n.length : Int) (i : Int)) (keysOf n, 0) := by
  intro m
  induction m with
  | zero =>
    intro i hm hi
    rw [List.take_of_length_le (by rw [List.length_reverse]; omega)]
    refine Ev.step (fun k => by rw [dn_Keys.l0]) ?_
    exact Ev.neg (by omega) Ev.rfl'
  | succ m ih =>
    intro i hm hi
    have hlt : i < n.length := by omega
    have hi2 := ih (i + 1) (by omega) (by omega)
    have hj : n.length - 1 - i < n.length := by omega
    have hx : wrap64 ((wrap64 ((n.length : Int) - 1)) - (i : Int)) = ((n.length - 1 - i : Nat) : Int) := by unfold wrap64; omega
    have hr : n.reverse.drop i = n[n.length - 1 - i] :: n.reverse.drop (i + 1) := by
      rw [List.drop_eq_getElem_cons (by rw [List.length_reverse]; exact hlt), List.getElem_reverse]
    rw [take_next hr, List.map_append] at hi2
    obtain ⟨z1, z2⟩ := hs n[n.length - 1 - i] (List.getElem_mem _)
    refine Ev.step (fun k => by rw [dn_Keys.l0]) ?_
    have hg : rd_L8 n ((n.length - 1 - i : Nat) : Int) = n[n.length - 1 - i] := rdR_get hj
    rw [hx, hg, wsucc (by omega)]
    refine Ev.pos (by omega) (Ev.pos (by omega) (Ev.pos (by omega) (Ev.bind (key_ev _ z1 z2) ?_)))
    exact Ev.pos (by rw [List.length_map, List.length_take]; omega) hi2
theorem nameOk_sz {n : List (List AvaS)} (h : nameOk n = true) : n.length ≤ 12 ∧ ∀ l ∈ n, l.length ≤ 4 := by
  unfold nameOk at h
  rw [Bool.and_eq_true] at h
  refine ⟨by simpa using h.1, fun l hl => ?_⟩
  have := List.all_eq_true.1 h.2 l hl
  unfold rdnOk at this
  rw [Bool.and_eq_true] at this
  have h1 := of_decide_eq_true this.1
  exact h1.2
theorem keys_ev (n : List (List AvaS)) (hl : n.length ≤ 1000000) (h : szN n) : Ev (fun k => dn_Keys.f k n) (if nameOk n = true then (keysOf n, 0) else ([], 4)) := by
  unfold dn_Keys.f
  refine Ev.bind (right_ev n hl h) ?_
  cases hn : nameOk n with
  | false => exact Ev.neg (by simp) (by simpa using Ev.rfl')
  | true =>
    rw [if_pos rfl]
    obtain ⟨h1, h2⟩ := nameOk_sz hn
    exact Ev.pos rfl (keys_loop n (by omega) (fun l hl => ⟨by have := h2 l hl; omega, (h l hl).2⟩) _ 0 rfl (Nat.zero_le _))
theorem rdB_at {L : List ByteArray} {i : Nat} {x : ByteArray} {r : List ByteArray} (h : L.drop i = x :: r) : rdOf ByteArray.empty L (i : Int) = x := (rdOf_at h).2.1
theorem keysOf_len (n : List (List AvaS)) : (keysOf n).length = n.length := by unfold keysOf; simp
end Go.Proofs.YtpklcnpmppaaoaaGreatDoor.Print
namespace Go.Proofs.YtpklcnpmppaaoaaGreatDoor.Print
open Go.RowKit Go.Proofs.YtpklcnpmppaaoaaGreatDoorW.PrintWords Go.Proofs.YtpklcnpmppaaoaaGreatDoorW.PrintLast Go.Proofs.YtpklcnpmppaaoaaGreatDoorW.PrintMore
attribute [local go_sem] max2_int min2_int max_two min_two max_three min_three max_four min_four
set_option linter.unusedVariables false
set_option linter.unusedSimpArgs false
def stringslite_TrimPrefix.f (a0 : ByteArray) (a1 : ByteArray) : Option (ByteArray) := (stringslite_HasPrefix.f a0 a1).bind fun t155 => (if t155 = true then (if 0 ≤ (a1.size : Int) then (if (a1.size : Int) ≤ (a0.size : Int) then (some (a0.extract ((a1.size : Int) : Int).toNat a0.size)) else (none)) else (none)) else (some a0))
set_option maxHeartbeats 8000000 in
set_option maxRecDepth 100000 in
theorem stringslite_TrimPrefix.calls (a0 : ByteArray) (a1 : ByteArray) (r : ByteArray) (w : World) (h : stringslite_TrimPrefix.f a0 a1 = some r) :
  Calls Tryz.prog 121 #[.string a0, .string a1] w fun e w' => e = .returned (.string r) ∧ Drawn0 w w' := by
 have H : ((stringslite_HasPrefix.f a0 a1).bind fun t155 => (if t155 = true then (if 0 ≤ (a1.size : Int) then (if (a1.size : Int) ≤ (a0.size : Int) then (some (a0.extract ((a1.size : Int) : Int).toNat a0.size)) else (none)) else (none)) else (some a0))) = some r := h
 clear h
 replace H := Option.bind_eq_some_iff.mp H
 obtain ⟨t155, A30, H⟩ := H
 replace H : (if t155 = true then (if 0 ≤ (a1.size : Int) then (if (a1.size : Int) ≤ (a0.size : Int) then (some (a0.extract ((a1.size : Int) : Int).toNat a0.size)) else (none)) else (none)) else (some a0)) = some r := H
 have A3 := Aside0.mk A30
 clear A30
 by_cases c4 : t155 = true
 ·
  subst c4
  rw [if_pos rfl] at H
  by_cases c5 : 0 ≤ (a1.size : Int)
  ·
   rw [if_pos c5] at H
   have c5b0 := eq_true c5
   have c5b1 := decide_eq_true c5
   clear c5
   by_cases c6 : (a1.size : Int) ≤ (a0.size : Int)
   ·
    rw [if_pos c6] at H
    have c6b0 := eq_true c6
    have c6b1 := decide_eq_true c6
    clear c6
    obtain rfl := Option.some.inj H
    go_enter Tryz.func121, Tryz.ntmps121
    go_wp2_with (first | ((with_reducible refine gate_callee (f := 90) rfl ?_); refine goesL_ (some 7) rfl rfl Tryz.func90 (by kernel_rfl) rfl #[.string a0, .string a1] rfl ap3 ?_; (with_reducible refine (stringslite_HasPrefix.calls a0 a1 true _ A3.out).mono ?_); rintro e w' ⟨rfl, ⟨nd, rfl⟩⟩; refine ⟨_, rfl, ?_⟩))
    go_ret
    exact ⟨ap2, ap7⟩
   ·
    rw [if_neg c6] at H
    exact absurd H (by simp)
  ·
   rw [if_neg c5] at H
   exact absurd H (by simp)
 ·
  replace c4 := Bool.eq_false_iff.mpr c4
  subst c4
  rw [if_neg (show ¬ (false = true) by decide)] at H
  obtain rfl := Option.some.inj H
  go_enter Tryz.func121, Tryz.ntmps121
  go_wp2_with (first | ((with_reducible refine gate_callee (f := 90) rfl ?_); refine goesL_ (some 7) rfl rfl Tryz.func90 (by kernel_rfl) rfl #[.string a0, .string a1] rfl ap3 ?_; (with_reducible refine (stringslite_HasPrefix.calls a0 a1 false _ A3.out).mono ?_); rintro e w' ⟨rfl, ⟨nd, rfl⟩⟩; refine ⟨_, rfl, ?_⟩))
  go_ret
  exact ⟨ap2, ap7⟩
def strings_TrimPrefix.f (a0 : ByteArray) (a1 : ByteArray) : Option (ByteArray) := (stringslite_TrimPrefix.f a0 a1).bind fun t156 => (some t156)
set_option maxHeartbeats 8000000 in
set_option maxRecDepth 100000 in
theorem strings_TrimPrefix.calls (a0 : ByteArray) (a1 : ByteArray) (r : ByteArray) (w : World) (h : strings_TrimPrefix.f a0 a1 = some r) :
  Calls Tryz.prog 95 #[.string a0, .string a1] w fun e w' => e = .returned (.string r) ∧ Drawn0 w w' := by
 have H : ((stringslite_TrimPrefix.f a0 a1).bind fun t156 => (some t156)) = some r := h
 clear h
 replace H := Option.bind_eq_some_iff.mp H
 obtain ⟨t156, A30, H⟩ := H
 replace H : (some t156) = some r := H
 have A3 := Aside0.mk A30
 clear A30
 obtain rfl := Option.some.inj H
 go_enter Tryz.func95, Tryz.ntmps95
 go_wp2_with (first | ((with_reducible refine gate_callee (f := 121) rfl ?_); refine goesL_ (some 7) rfl rfl Tryz.func121 (by kernel_rfl) rfl #[.string a0, .string a1] rfl ap3 ?_; (with_reducible refine (stringslite_TrimPrefix.calls a0 a1 t156 _ A3.out).mono ?_); rintro e w' ⟨rfl, ⟨nd, rfl⟩⟩; refine ⟨_, rfl, ?_⟩))
 go_ret
 exact ⟨ap2, ap7⟩
mutual
def attr_number.j0 : Nat → ByteArray → Bool → Option (Bool)
 | 0, _, _ => none
 | k + 1, x3, x22 => if x22 = true then (some false) else (attr_number.l0 k x3 (x3.size : Int) 0)
def attr_number.l0 : Nat → ByteArray → Int → Int → Option (Bool)
 | 0, _, _, _ => none
 | k + 1, x3, x24, x25 => if x25 < x24 then (if 0 ≤ x25 then (if x25 < (x3.size : Int) then (if (bt x3 x25) < 48 then (some false) else (if (bt x3 x25) > 57 then (some false) else (attr_number.l0 k x3 x24 (wrap64 (x25 + 1))))) else (none)) else (none)) else (some true)
end
def attr_number.f (k : Nat) (a0 : ByteArray) : Option (Bool) := (strings_TrimPrefix.f a0 (⟨#[45]⟩ : ByteArray)).bind fun t157 => (if t157.toList = ([] : List UInt8) then (attr_number.j0 k t157 true) else (if (t157.size : Int) > 18 then (attr_number.j0 k t157 true) else (if 0 < (t157.size : Int) then (if (bt t157 0) = 48 then (attr_number.j0 k t157 (a0.toList != ([48] : List UInt8))) else (attr_number.j0 k t157 false)) else (none))))
theorem attr_number.mono_l : ∀ k, (∀ y0 y1, LeO (attr_number.j0 k y0 y1) (attr_number.j0 (k + 1) y0 y1)) ∧ (∀ y0 y1 y2, LeO (attr_number.l0 k y0 y1 y2) (attr_number.l0 (k + 1) y0 y1 y2))
 | 0 => ⟨fun _ _ r h => by simp [attr_number.j0] at h, fun _ _ _ r h => by simp [attr_number.l0] at h⟩
 | k + 1 => by
  obtain ⟨ih0, ih1⟩ := attr_number.mono_l k
  refine ⟨?_, ?_⟩
  ·
   intro y0 y1
   unfold attr_number.j0
   repeat' first
   | (with_reducible exact ih0 _ _)
   | (with_reducible exact ih1 _ _ _)
   | (with_reducible exact LeO.refl _)
   | (with_reducible exact LeO.none _)
   | (with_reducible refine LeO.ite ?_ ?_)
   | (with_reducible refine LeO.bind ?_ (fun _ => ?_))
  ·
   intro y0 y1 y2
   unfold attr_number.l0
   repeat' first
   | (with_reducible exact ih0 _ _)
   | (with_reducible exact ih1 _ _ _)
   | (with_reducible exact LeO.refl _)
   | (with_reducible exact LeO.none _)
   | (with_reducible refine LeO.ite ?_ ?_)
   | (with_reducible refine LeO.bind ?_ (fun _ => ?_))
theorem attr_number.mono : ∀ a0 k, LeO (attr_number.f k a0) (attr_number.f (k + 1) a0) := by
 intro a0 k
 obtain ⟨ih0, ih1⟩ := attr_number.mono_l k
 unfold attr_number.f
 repeat' first
   | (with_reducible exact ih0 _ _)
   | (with_reducible exact ih1 _ _ _)
   | (with_reducible exact LeO.refl _)
   | (with_reducible exact LeO.none _)
   | (with_reducible refine LeO.ite ?_ ?_)
   | (with_reducible refine LeO.bind ?_ (fun _ => ?_))
set_option maxHeartbeats 8000000 in
set_option maxRecDepth 100000 in
theorem attr_number.calls (k : Nat) (a0 : ByteArray) (r : Bool) (w : World) (h : attr_number.f k a0 = some r) :
  Calls Tryz.prog 68 #[.string a0] w fun e w' => e = .returned (.bool r) ∧ Drawn0 w w' := by
 have H : ((strings_TrimPrefix.f a0 (⟨#[45]⟩ : ByteArray)).bind fun t157 => (if t157.toList = ([] : List UInt8) then (attr_number.j0 k t157 true) else (if (t157.size : Int) > 18 then (attr_number.j0 k t157 true) else (if 0 < (t157.size : Int) then (if (bt t157 0) = 48 then (attr_number.j0 k t157 (a0.toList != ([48] : List UInt8))) else (attr_number.j0 k t157 false)) else (none))))) = some r := h
 clear h
 replace H := Option.bind_eq_some_iff.mp H
 obtain ⟨t157, A20, H⟩ := H
 replace H : (if t157.toList = ([] : List UInt8) then (attr_number.j0 k t157 true) else (if (t157.size : Int) > 18 then (attr_number.j0 k t157 true) else (if 0 < (t157.size : Int) then (if (bt t157 0) = 48 then (attr_number.j0 k t157 (a0.toList != ([48] : List UInt8))) else (attr_number.j0 k t157 false)) else (none)))) = some r := H
 have A2 := Aside0.mk A20
 clear A20
 have HC3 := Aside0.mk H
 clear H
 go_enter Tryz.func68, Tryz.ntmps68
 go_upto_region 2 with (first | ((with_reducible refine gate_callee (f := 95) rfl ?_); refine goesL_ (some 6) rfl rfl Tryz.func95 (by kernel_rfl) rfl #[.string a0, .string (⟨#[45]⟩ : ByteArray)] rfl ap3 ?_; (with_reducible refine (strings_TrimPrefix.calls a0 (⟨#[45]⟩ : ByteArray) t157 _ A2.out).mono ?_); rintro e w' ⟨rfl, ⟨nd, rfl⟩⟩; refine ⟨_, rfl, ?_⟩))
 (try simp only [Act.put, List.setIfInBounds_toArray, List.set_cons_zero, List.set_cons_succ])
 go_cut [22] (fun v22 wc => ∃ (kq : Nat) (x22_2 : Bool), v22 = .bool x22_2 ∧ Aside0 (attr_number.j0 kq t157 x22_2 = some r) ∧ Aside0 (kq ≤ k) ∧ Drawn0 w wc)
 case first =>
  have H := HC3.out
  clear HC3
  by_cases c4 : t157.toList = ([] : List UInt8)
  ·
   rw [if_pos c4] at H
   have c4b0 : (t157.toList == ([] : List UInt8)) = true := beq_iff_eq.mpr c4
   have c4b1 : (t157.toList != ([] : List UInt8)) = false := bne_eq_false_iff_eq.mpr c4
   clear c4
   (first | rw [c4b0] | (simp only [i64_w, i32_w]; rw [c4b0]) | skip)
   have H' := Aside0.mk H
   clear H
   go_wp2
   first | go_meet | (simp only [c4b0] at *; go_meet)
   case rel => exact ⟨_, (true), ap2, H', ⟨by first | omega | exact Nat.le_refl _⟩, by repeat (first | exact Drawn0.refl _ | apply Drawn0.step)⟩
  ·
   rw [if_neg c4] at H
   have c4b0 : (t157.toList == ([] : List UInt8)) = false := beq_eq_false_iff_ne.mpr c4
   have c4b1 : (t157.toList != ([] : List UInt8)) = true := bne_iff_ne.mpr c4
   (first | rw [c4b0] | (simp only [i64_w, i32_w]; rw [c4b0]) | skip)
   by_cases c5 : (t157.size : Int) > 18
   ·
    rw [if_pos c5] at H
    have c5b0 := decide_eq_true c5
    have c5b1 : decide (18 < t157.size) = true := decide_eq_true (by omega)
    clear c5
    have H' := Aside0.mk H
    clear H
    go_wp2
    first | go_meet | (simp only [c4b0] at *; go_meet) | (simp only [c4b0] at *; go_meet)
    case rel => exact ⟨_, (true), ap2, H', ⟨by first | omega | exact Nat.le_refl _⟩, by repeat (first | exact Drawn0.refl _ | apply Drawn0.step)⟩
   ·
    rw [if_neg c5] at H
    have c5b0 := decide_eq_false c5
    have c5b1 : decide (18 < t157.size) = false := decide_eq_false (by omega)
    clear c5
    by_cases c6 : 0 < (t157.size : Int)
    ·
     rw [if_pos c6] at H
     have c6b0 := decide_eq_true c6
     have c6b1 : decide (0 < t157.size) = true := decide_eq_true (by omega)
     clear c6
     by_cases c8 : (bt t157 0) = 48
     ·
      rw [if_pos c8] at H
      have c8b0 : ((bt t157 0) == 48) = true := beq_iff_eq.mpr c8
      have c8b1 : ((bt t157 0) != 48) = false := bne_eq_false_iff_eq.mpr c8
      clear c8
      have H' := Aside0.mk H
      clear H
      have p7 : 0 ≤ (0 : Int) := (by omega)
      have q7 : 0 < t157.size := (by have : (0 : Int) < (t157.size : Int) := of_decide_eq_true ap0; omega)
      have hx7 : ∀ h : 0 < t157.size, ((t157[0]'h).toNat : Int) = bt t157 0 := bt_at t157 0
      clear p7
      have qi7 : (0 < (t157.size : Int)) = True := eq_true (of_decide_eq_true ap0)
      replace q7 := eq_true q7
      go_wp2
      first | go_meet | (simp only [c8b0] at *; go_meet) | (simp only [c4b0] at *; go_meet) | (simp only [c4b0] at *; go_meet)
      case rel => exact ⟨_, ((a0.toList != ([48] : List UInt8))), ap2, H', ⟨by first | omega | exact Nat.le_refl _⟩, by repeat (first | exact Drawn0.refl _ | apply Drawn0.step)⟩
     ·
      rw [if_neg c8] at H
      have c8b0 : ((bt t157 0) == 48) = false := beq_eq_false_iff_ne.mpr c8
      have c8b1 : ((bt t157 0) != 48) = true := bne_iff_ne.mpr c8
      have H' := Aside0.mk H
      clear H
      have p7 : 0 ≤ (0 : Int) := (by omega)
      have q7 : 0 < t157.size := (by have : (0 : Int) < (t157.size : Int) := of_decide_eq_true ap0; omega)
      have hx7 : ∀ h : 0 < t157.size, ((t157[0]'h).toNat : Int) = bt t157 0 := bt_at t157 0
      clear p7
      have qi7 : (0 < (t157.size : Int)) = True := eq_true (of_decide_eq_true ap0)
      replace q7 := eq_true q7
      go_wp2
      first | go_meet | (simp only [c8b0] at *; go_meet) | (simp only [c8b0] at *; go_meet) | (simp only [c4b0] at *; go_meet)
      case rel => exact ⟨_, (false), ap2, H', ⟨by first | omega | exact Nat.le_refl _⟩, by repeat (first | exact Drawn0.refl _ | apply Drawn0.step)⟩
    ·
     rw [if_neg c6] at H
     exact absurd H (by simp)
 case rest =>
  clear HC3
  try clear p2
  try clear c4
  try clear c4b0
  try clear c4b1
  try clear c5
  try clear c5b0
  try clear c5b1
  try clear c6
  try clear c6b0
  try clear c6b1
  try clear p7
  try clear q7
  try clear hx7
  try clear qi7
  try clear c8
  try clear c8b0
  try clear c8b1
  try clear p7
  try clear q7
  obtain ⟨kq, x22_2, rfl, HA, HJ2, ⟨mc2, rfl⟩⟩ := hcut
  cases kq with
  | zero => exact absurd HA.out (by simp [attr_number.j0])
  | succ kj2 =>
   have H := HA.out
   clear HA
   simp only [attr_number.j0] at H
   by_cases c9 : x22_2 = true
   ·
    subst c9
    rw [if_pos rfl] at H
    obtain rfl := Option.some.inj H
    go_wp2
    go_ret
    exact ⟨ap2, ap7⟩
   ·
    replace c9 := Bool.eq_false_iff.mpr c9
    subst c9
    rw [if_neg (show ¬ (false = true) by decide)] at H
    have H' := Aside0.mk H
    clear H
    go_wp2
    go_loopg [25] kj2 (fun kq v25 w' => ∃ (x25_2 : Int), v25 = .int .i64 x25_2 ∧ Aside0 (attr_number.l0 kq t157 (t157.size : Int) x25_2 = some r) ∧ Aside0 (kq ≤ kj2) ∧ Drawn0 w w')
    case atStart => exact ⟨(0), ap2, H', ⟨Nat.le_refl _⟩, by repeat (first | exact Drawn0.refl _ | apply Drawn0.step)⟩
    case round =>
     clear H'
     try clear c2
     try clear p2
     try clear c4
     try clear c4b0
     try clear c4b1
     try clear c5
     try clear c5b0
     try clear c5b1
     try clear c6
     try clear c6b0
     try clear c6b1
     try clear p7
     try clear q7
     try clear hx7
     try clear qi7
     try clear c8
     try clear c8b0
     try clear c8b1
     try clear c9
     try clear p2
     try clear p7
     try clear q7
     obtain ⟨x25_2, rfl, HA, HK2, ⟨m2, rfl⟩⟩ := hrel
     cases gk with
     | zero => exact absurd HA.out (by simp [attr_number.l0])
     | succ k2 =>
      have H := HA.out
      clear HA
      simp only [attr_number.l0] at H
      by_cases c10 : x25_2 < (t157.size : Int)
      ·
       rw [if_pos c10] at H
       have c10b0 := decide_eq_true c10
       clear c10
       by_cases c11 : 0 ≤ x25_2
       ·
        rw [if_pos c11] at H
        have c11b0 := decide_eq_true c11
        clear c11
        by_cases c12 : x25_2 < (t157.size : Int)
        ·
         rw [if_pos c12] at H
         have c12b0 := decide_eq_true c12
         clear c12
         by_cases c14 : (bt t157 x25_2) < 48
         ·
          rw [if_pos c14] at H
          have c14b0 := decide_eq_true c14
          clear c14
          obtain rfl := Option.some.inj H
          have p13 : 0 ≤ (x25_2 : Int) := of_decide_eq_true ap0
          have q13 : x25_2 < (t157.size : Int) := of_decide_eq_true ap0
          have hx13 := bt_at t157 x25_2
          replace p13 := eq_true p13
          replace q13 := eq_true q13
          go_wp2
          go_ret
          exact ⟨ap2, ap7⟩
         ·
          rw [if_neg c14] at H
          have c14b0 := decide_eq_false c14
          clear c14
          by_cases c16 : (bt t157 x25_2) > 57
          ·
           rw [if_pos c16] at H
           have c16b0 := decide_eq_true c16
           clear c16
           obtain rfl := Option.some.inj H
           have p13 : 0 ≤ (x25_2 : Int) := of_decide_eq_true ap0
           have q13 : x25_2 < (t157.size : Int) := of_decide_eq_true ap0
           have hx13 := bt_at t157 x25_2
           replace p13 := eq_true p13
           replace q13 := eq_true q13
           have p15 : 0 ≤ (x25_2 : Int) := of_decide_eq_true ap0
           have q15 : x25_2 < (t157.size : Int) := of_decide_eq_true ap0
           have hx15 := bt_at t157 x25_2
           replace p15 := eq_true p15
           replace q15 := eq_true q15
           go_wp2
           go_ret
           exact ⟨ap2, ap7⟩
          ·
           rw [if_neg c16] at H
           have c16b0 := decide_eq_false c16
           clear c16
           have H' := Aside0.mk H
           clear H
           have p13 : 0 ≤ (x25_2 : Int) := of_decide_eq_true ap0
           have q13 : x25_2 < (t157.size : Int) := of_decide_eq_true ap0
           have hx13 := bt_at t157 x25_2
           replace p13 := eq_true p13
           replace q13 := eq_true q13
           have p15 : 0 ≤ (x25_2 : Int) := of_decide_eq_true ap0
           have q15 : x25_2 < (t157.size : Int) := of_decide_eq_true ap0
           have hx15 := bt_at t157 x25_2
           replace p15 := eq_true p15
           replace q15 := eq_true q15
           go_wp2
           go_roundg k2
           case measure => have := HJ2.out; have := HK2.out; omega
           case rel => exact ⟨(wrap64 (x25_2 + 1)), ap2, H', ⟨by have := HJ2.out; have := HK2.out; omega⟩, by repeat (first | exact Drawn0.refl _ | apply Drawn0.step)⟩
        ·
         rw [if_neg c12] at H
         exact absurd H (by simp)
       ·
        rw [if_neg c11] at H
        exact absurd H (by simp)
      ·
       rw [if_neg c10] at H
       have c10b0 := decide_eq_false c10
       clear c10
       obtain rfl := Option.some.inj H
       go_wp2
       go_ret
       exact ⟨ap2, ap7⟩
def prep_Phone.f (k : Nat) (a0 : ByteArray) : Option (ByteArray × Int) := (prep_Ready.f k a0 true).bind fun bt151 => (if bt151.2 = 0 then ((strings_ReplaceAll.f bt151.1 (⟨#[32]⟩ : ByteArray) (⟨#[]⟩ : ByteArray)).bind fun t153 => ((strings_ReplaceAll.f t153 (⟨#[45]⟩ : ByteArray) (⟨#[]⟩ : ByteArray)).bind fun t154 => (some (t154, 0)))) else (some ((⟨#[]⟩ : ByteArray), bt151.2)))
theorem prep_Phone.mono : ∀ a0 k, LeO (prep_Phone.f k a0) (prep_Phone.f (k + 1) a0) := by
 intro a0 k
 unfold prep_Phone.f
 repeat' first
   | (with_reducible exact prep_Ready.mono _ _ _)
   | (with_reducible exact LeO.refl _)
   | (with_reducible exact LeO.none _)
   | (with_reducible refine LeO.ite ?_ ?_)
   | (with_reducible refine LeO.bind ?_ (fun _ => ?_))
set_option maxHeartbeats 8000000 in
set_option maxRecDepth 100000 in
theorem prep_Phone.calls (k : Nat) (a0 : ByteArray) (r1 : ByteArray) (r2 : Int) (w : World) (hG : Gw w) (h : prep_Phone.f k a0 = some (r1, r2)) :
  Calls Tryz.prog 56 #[.string a0] w fun e w' => e = .returned (.tuple #[.string r1, .int .i64 r2]) ∧ Below w.heap.size w w' := by
 have HB := Aside0.mk (Below.refl w.heap.size w)
 have HG := Aside0.mk hG
 clear hG
 have H : ((prep_Ready.f k a0 true).bind fun bt151 => (if bt151.2 = 0 then ((strings_ReplaceAll.f bt151.1 (⟨#[32]⟩ : ByteArray) (⟨#[]⟩ : ByteArray)).bind fun t153 => ((strings_ReplaceAll.f t153 (⟨#[45]⟩ : ByteArray) (⟨#[]⟩ : ByteArray)).bind fun t154 => (some (t154, 0)))) else (some ((⟨#[]⟩ : ByteArray), bt151.2)))) = some (r1, r2) := h
 clear h
 replace H := Option.bind_eq_some_iff.mp H
 obtain ⟨⟨t151, t152⟩, A20, H⟩ := H
 replace H : (if t152 = 0 then ((strings_ReplaceAll.f t151 (⟨#[32]⟩ : ByteArray) (⟨#[]⟩ : ByteArray)).bind fun t153 => ((strings_ReplaceAll.f t153 (⟨#[45]⟩ : ByteArray) (⟨#[]⟩ : ByteArray)).bind fun t154 => (some (t154, 0)))) else (some ((⟨#[]⟩ : ByteArray), t152))) = some (r1, r2) := H
 have A2 := Aside0.mk A20
 clear A20
 by_cases c3 : t152 = 0
 ·
  rw [if_pos c3] at H
  have c3b0 : (t152 == 0) = true := beq_iff_eq.mpr c3
  have c3b1 : (t152 != 0) = false := bne_eq_false_iff_eq.mpr c3
  clear c3
  replace H := Option.bind_eq_some_iff.mp H
  obtain ⟨t153, A40, H⟩ := H
  replace H : ((strings_ReplaceAll.f t153 (⟨#[45]⟩ : ByteArray) (⟨#[]⟩ : ByteArray)).bind fun t154 => (some (t154, 0))) = some (r1, r2) := H
  have A4 := Aside0.mk A40
  clear A40
  replace H := Option.bind_eq_some_iff.mp H
  obtain ⟨t154, A50, H⟩ := H
  replace H : (some (t154, 0)) = some (r1, r2) := H
  have A5 := Aside0.mk A50
  clear A50
  simp only [Option.some.injEq, Prod.mk.injEq] at H
  obtain ⟨rfl, rfl⟩ := H
  go_enter Tryz.func56, Tryz.ntmps56
  go_wp2_with (first | ((with_reducible refine gate_callee (f := 67) rfl ?_); refine goesL_ (some 8) rfl rfl Tryz.func67 (by kernel_rfl) rfl #[.string a0, .bool true] rfl ap3 ?_; (with_reducible refine (prep_Ready.calls k a0 true t151 t152 _ ?side1 A2.out).mono ?_); (case side1 => exact ap6); rintro e w6 ⟨rfl, hb⟩; refine ⟨_, rfl, ?_⟩; have n0_ := Aside0.mk (below_step ap1 hb); clear HB; have HB := n0_; clear n0_; (try clear hb); (try clear hb2); (try clear hk); (try clear hi)) | ((with_reducible refine gate_callee (f := 83) rfl ?_); refine goesL_ (some 15) rfl rfl Tryz.func83 (by kernel_rfl) rfl #[.string t151, .string (⟨#[32]⟩ : ByteArray), .string (⟨#[]⟩ : ByteArray)] rfl ap3 ?_; (with_reducible refine (strings_ReplaceAll.calls t151 (⟨#[32]⟩ : ByteArray) (⟨#[]⟩ : ByteArray) t153 _ ?side1 A4.out).mono ?_); (case side1 => exact ap6); rintro e w7 ⟨rfl, hb⟩; refine ⟨_, rfl, ?_⟩; have n0_ := Aside0.mk (below_step ap1 hb); clear HB; have HB := n0_; clear n0_; (try clear hb); (try clear hb2); (try clear hk); (try clear hi)) | ((with_reducible refine gate_callee (f := 83) rfl ?_); refine goesL_ (some 16) rfl rfl Tryz.func83 (by kernel_rfl) rfl #[.string t153, .string (⟨#[45]⟩ : ByteArray), .string (⟨#[]⟩ : ByteArray)] rfl ap3 ?_; (with_reducible refine (strings_ReplaceAll.calls t153 (⟨#[45]⟩ : ByteArray) (⟨#[]⟩ : ByteArray) t154 _ ?side1 A5.out).mono ?_); (case side1 => exact ap6); rintro e w8 ⟨rfl, hb⟩; refine ⟨_, rfl, ?_⟩; have n0_ := Aside0.mk (below_step ap1 hb); clear HB; have HB := n0_; clear n0_; (try clear hb); (try clear hb2); (try clear hk); (try clear hi)))
  go_ret2
  exact ⟨by first | rfl | (simp [errW_none, errW_some, bne_nil8, beq_nil8]; done) | (simp [errW_none, errW_some] <;> rfl) | (simp [*, errW_none, errW_some] <;> rfl), by repeat (first | (with_reducible first | exact HB.out | apply below_alloc | apply pw_below_drewN | apply below_drew1) | exact HB.out)⟩
 ·
  rw [if_neg c3] at H
  have c3b0 : (t152 == 0) = false := beq_eq_false_iff_ne.mpr c3
  have c3b1 : (t152 != 0) = true := bne_iff_ne.mpr c3
  simp only [Option.some.injEq, Prod.mk.injEq] at H
  obtain ⟨rfl, rfl⟩ := H
  go_enter Tryz.func56, Tryz.ntmps56
  go_wp2_with (first | ((with_reducible refine gate_callee (f := 67) rfl ?_); refine goesL_ (some 8) rfl rfl Tryz.func67 (by kernel_rfl) rfl #[.string a0, .bool true] rfl ap3 ?_; (with_reducible refine (prep_Ready.calls k a0 true t151 t152 _ ?side1 A2.out).mono ?_); (case side1 => exact ap6); rintro e w9 ⟨rfl, hb⟩; refine ⟨_, rfl, ?_⟩; have n0_ := Aside0.mk (below_step ap1 hb); clear HB; have HB := n0_; clear n0_; (try clear hb); (try clear hb2); (try clear hk); (try clear hi)))
  go_ret2
  exact ⟨by first | rfl | (simp [errW_none, errW_some, bne_nil8, beq_nil8]; done) | (simp [errW_none, errW_some] <;> rfl) | (simp [*, errW_none, errW_some] <;> rfl), by repeat (first | (with_reducible first | exact HB.out | apply below_alloc | apply pw_below_drewN | apply below_drew1) | exact HB.out)⟩
def attr_form.j0 : Nat → ByteArray → Int → Bool → ByteArray → Int → Bool → Option (ByteArray × Bool)
 | 0, _, _, _, _, _, _ => none
 | k + 1, x1, x15, x16, x353000, x353001, x353002 => if x16 = true then ((prep_Ready.f k x1 (x353001 == 1)).bind fun bt353 => (if bt353.2 = 0 then (some (bt353.1, (bt353.1.toList != ([] : List UInt8)))) else (some (bt353.1, false)))) else (if x15 = 7 then ((prep_Phone.f k x1).bind fun bt355 => (if bt355.2 = 0 then (some (bt355.1, (bt355.1.toList != ([] : List UInt8)))) else (some (bt355.1, false)))) else (if x15 = 4 then ((attr_number.f k x1).bind fun t357 => (some (x1, t357))) else (if x15 = 5 then (if x1.toList = ([84, 82, 85, 69] : List UInt8) then (some (x1, true)) else (some (x1, (x1.toList == ([70, 65, 76, 83, 69] : List UInt8))))) else (if x15 = 6 then ((dn_Parse.f k x1).bind fun bt358 => ((dn_Keys.f k bt358.1).bind fun bt362 => ((strings_Join.f bt362.1 (⟨#[]⟩ : ByteArray)).bind fun t366 => (if bt358.2 = 0 then (some (t366, (bt362.2 == 0))) else (some (t366, false)))))) else (some (x1, true))))))
def attr_form.f (k : Nat) (a0_0 : ByteArray) (a0_1 : Int) (a0_2 : Bool) (a1 : ByteArray) : Option (ByteArray × Bool) := if a0_1 = 1 then (attr_form.j0 k a1 a0_1 (a0_1 == 1) a0_0 a0_1 a0_2) else (attr_form.j0 k a1 a0_1 (a0_1 == 2) a0_0 a0_1 a0_2)
theorem attr_form.mono_l : ∀ k, (∀ y0 y1 y2 y3 y4 y5, LeO (attr_form.j0 k y0 y1 y2 y3 y4 y5) (attr_form.j0 (k + 1) y0 y1 y2 y3 y4 y5))
 | 0 => fun _ _ _ _ _ _ r h => by simp [attr_form.j0] at h
 | k + 1 => by
  have ih0 := attr_form.mono_l k
  ·
   intro y0 y1 y2 y3 y4 y5
   unfold attr_form.j0
   repeat' first
   | (with_reducible exact ih0 _ _ _ _ _ _)
   | (with_reducible exact attr_number.mono _ _)
   | (with_reducible exact dn_Keys.mono _ _)
   | (with_reducible exact dn_Parse.mono _ _)
   | (with_reducible exact prep_Phone.mono _ _)
   | (with_reducible exact prep_Ready.mono _ _ _)
   | (with_reducible exact LeO.refl _)
   | (with_reducible exact LeO.none _)
   | (with_reducible refine LeO.ite ?_ ?_)
   | (with_reducible refine LeO.bind ?_ (fun _ => ?_))
theorem attr_form.mono : ∀ a0 a1 a2 a3 k, LeO (attr_form.f k a0 a1 a2 a3) (attr_form.f (k + 1) a0 a1 a2 a3) := by
 intro a0 a1 a2 a3 k
 have ih0 := attr_form.mono_l k
 unfold attr_form.f
 repeat' first
   | (with_reducible exact ih0 _ _ _ _ _ _)
   | (with_reducible exact attr_number.mono _ _)
   | (with_reducible exact dn_Keys.mono _ _)
   | (with_reducible exact dn_Parse.mono _ _)
   | (with_reducible exact prep_Phone.mono _ _)
   | (with_reducible exact prep_Ready.mono _ _ _)
   | (with_reducible exact LeO.refl _)
   | (with_reducible exact LeO.none _)
   | (with_reducible refine LeO.ite ?_ ?_)
   | (with_reducible refine LeO.bind ?_ (fun _ => ?_))
set_option maxHeartbeats 8000000 in
set_option maxRecDepth 100000 in
theorem attr_form.calls (k : Nat) (a0_0 : ByteArray) (a0_1 : Int) (a0_2 : Bool) (a1 : ByteArray) (r1 : ByteArray) (r2 : Bool) (w : World) (hG : Gw w) (h : attr_form.f k a0_0 a0_1 a0_2 a1 = some (r1, r2)) :
  Calls Tryz.prog 43 #[.agg #[.string a0_0, .int .i64 a0_1, .bool a0_2], .string a1] w fun e w' => e = .returned (.tuple #[.string r1, .bool r2]) ∧ Below w.heap.size w w' := by
 have hu23 := Tryz.underlying23
 have HB := Aside0.mk (Below.refl w.heap.size w)
 have HG := Aside0.mk hG
 clear hG
 have H : (if a0_1 = 1 then (attr_form.j0 k a1 a0_1 (a0_1 == 1) a0_0 a0_1 a0_2) else (attr_form.j0 k a1 a0_1 (a0_1 == 2) a0_0 a0_1 a0_2)) = some (r1, r2) := h
 clear h
 have HC3 := Aside0.mk H
 clear H
 go_enter Tryz.func43, Tryz.ntmps43
 go_upto_if 16 with (first | ((with_reducible refine gate_dst (N := 2) rfl ?_); refine box_event ?hg (N := 2) ?hd (cs := #[.string a0_0, .int .i64 a0_1, .bool a0_2]) (t := 23) ?hr ?_; (case hd => rfl); (case hg => rfl); (case hr => first | (go_simp; done) | (go_simp; rfl)); intro gb352 hg w4 hbox hb; have n0_ := Aside0.mk (below_step ap1 hb); have n1_ := Aside0.mk (hbox); have n2_ := Aside0.mk ((by rw [hg]; exact (below_size ap1) : w.heap.size ≤ gb352)); have n3_ := Aside0.mk ((by rw [hg]; exact (below_size ap1) : w.heap.size ≤ gb352)); clear HB; have HB := n0_; have BK352 := n1_; have GW352 := n2_; have GE352 := n3_; clear n0_ n1_ n2_ n3_; clear hb hbox hg; have hcz5_0 : w4.cell? ⟨gb352, 0, none⟩ = some (.string a0_0) := (blk_cell BK352.out 0).trans rfl; have hcz5_1 : w4.cell? ⟨gb352, 1, none⟩ = some (.int .i64 a0_1) := (blk_cell BK352.out 1).trans rfl; have hcz5_2 : w4.cell? ⟨gb352, 2, none⟩ = some (.bool a0_2) := (blk_cell BK352.out 2).trans rfl; have hfz5_0 := blk_frozen BK352.out 0; have hfz5_1 := blk_frozen BK352.out 1; have hfz5_2 := blk_frozen BK352.out 2))
 (try simp only [Act.put, List.setIfInBounds_toArray, List.set_cons_zero, List.set_cons_succ])
 go_cut [16] (fun v16 wc => ∃ (kq : Nat) (x16_2 : Bool), v16 = .bool x16_2 ∧ Aside0 (attr_form.j0 kq a1 a0_1 x16_2 a0_0 a0_1 a0_2 = some (r1, r2)) ∧ Aside0 (kq ≤ k) ∧ Aside0 (wc.heap[gb352]? = some (.cells #[.string a0_0, .int .i64 a0_1, .bool a0_2] 23 (0, 0))) ∧ Aside0 (Below w.heap.size w wc))
 case first =>
  have H := HC3.out
  clear HC3
  by_cases c6 : a0_1 = 1
  ·
   rw [if_pos c6] at H
   have c6b0 : (a0_1 == 1) = true := beq_iff_eq.mpr c6
   have c6b1 : (a0_1 != 1) = false := bne_eq_false_iff_eq.mpr c6
   clear c6
   (first | rw [c6b0] | (simp only [i64_w, i32_w]; rw [c6b0]) | skip)
   have H' := Aside0.mk H
   clear H
   go_wp2
   first | go_meet | (simp only [c6b0] at *; go_meet)
   case rel => exact ⟨_, ((a0_1 == 1)), ap2, H', ⟨by first | omega | exact Nat.le_refl _⟩, ⟨by (with_reducible repeat (first | refine blk_drewN ?_ _ | refine blk_drew ?_ | refine blk_alloc ?_ _)); exact BK352.out⟩, ⟨by repeat (first | (with_reducible first | exact HB.out | apply below_alloc | apply pw_below_drewN | apply below_drew1 | refine below_set ?_ GE352.out) | exact HB.out)⟩⟩
  ·
   rw [if_neg c6] at H
   have c6b0 : (a0_1 == 1) = false := beq_eq_false_iff_ne.mpr c6
   have c6b1 : (a0_1 != 1) = true := bne_iff_ne.mpr c6
   (first | rw [c6b0] | (simp only [i64_w, i32_w]; rw [c6b0]) | skip)
   have H' := Aside0.mk H
   clear H
   go_wp2
   first | go_meet | (simp only [c6b0] at *; go_meet) | (simp only [c6b0] at *; go_meet)
   case rel => exact ⟨_, ((a0_1 == 2)), ap2, H', ⟨by first | omega | exact Nat.le_refl _⟩, ⟨by (with_reducible repeat (first | refine blk_drewN ?_ _ | refine blk_drew ?_ | refine blk_alloc ?_ _)); exact BK352.out⟩, ⟨by repeat (first | (with_reducible first | exact HB.out | apply below_alloc | apply pw_below_drewN | apply below_drew1 | refine below_set ?_ GE352.out) | exact HB.out)⟩⟩
 case rest =>
  clear HC3
  try clear p2
  try clear c4
  try clear c6
  try clear c6b0
  try clear c6b1
  try clear hcz5_0
  try clear hcz5_1
  try clear hcz5_2
  try clear hfz5_0
  try clear hfz5_1
  try clear hfz5_2
  obtain ⟨kq, x16_2, rfl, HA, HJ2, BK352, HB⟩ := hcut
  cases kq with
  | zero => exact absurd HA.out (by simp [attr_form.j0])
  | succ kj2 =>
   have H := HA.out
   clear HA
   simp only [attr_form.j0] at H
   by_cases c7 : x16_2 = true
   ·
    subst c7
    rw [if_pos rfl] at H
    replace H := Option.bind_eq_some_iff.mp H
    obtain ⟨⟨t353, t354⟩, A80, H⟩ := H
    replace H : (if t354 = 0 then (some (t353, (t353.toList != ([] : List UInt8)))) else (some (t353, false))) = some (r1, r2) := H
    have A8 := Aside0.mk A80
    clear A80
    by_cases c9 : t354 = 0
    ·
     rw [if_pos c9] at H
     have c9b0 : (t354 == 0) = true := beq_iff_eq.mpr c9
     have c9b1 : (t354 != 0) = false := bne_eq_false_iff_eq.mpr c9
     clear c9
     simp only [Option.some.injEq, Prod.mk.injEq] at H
     obtain ⟨rfl, rfl⟩ := H
     have hcz10_0 : wc.cell? ⟨gb352, 0, none⟩ = some (.string a0_0) := (blk_cell BK352.out 0).trans rfl
     have hcz10_1 : wc.cell? ⟨gb352, 1, none⟩ = some (.int .i64 a0_1) := (blk_cell BK352.out 1).trans rfl
     have hcz10_2 : wc.cell? ⟨gb352, 2, none⟩ = some (.bool a0_2) := (blk_cell BK352.out 2).trans rfl
     have hfz10_0 := blk_frozen BK352.out 0
     have hfz10_1 := blk_frozen BK352.out 1
     have hfz10_2 := blk_frozen BK352.out 2
     go_wp2_with (first | ((with_reducible refine gate_callee (f := 67) rfl ?_); refine goesL_ (some 24) rfl rfl Tryz.func67 (by kernel_rfl) rfl #[.string a1, .bool (a0_1 == 1)] rfl ap3 ?_; (with_reducible refine (prep_Ready.calls kj2 a1 (a0_1 == 1) t353 t354 _ ?side1 A8.out).mono ?_); (case side1 => first | exact HG.out | (refine Gw.below HG.out ?_; repeat (first | (with_reducible first | exact HB.out | apply below_alloc | apply pw_below_drewN | apply below_drew1 | refine below_set ?_ GE352.out) | exact HB.out))); rintro e w11 ⟨rfl, hb⟩; refine ⟨_, rfl, ?_⟩; have n0_ := Aside0.mk (blk_below (g := gb352) (o := .cells #[.string a0_0, .int .i64 a0_1, .bool a0_2] 23 (0, 0)) (apB BK352.out) hb); have n1_ := Aside0.mk (below_step (apG GE352.out) hb); clear BK352; clear HB; have BK352 := n0_; have HB := n1_; clear n0_ n1_; (try clear hb); (try clear hb2); (try clear hk); (try clear hi)))
     go_ret2
     exact ⟨by first | rfl | (simp [errW_none, errW_some, bne_nil8, beq_nil8]; done) | (simp [errW_none, errW_some] <;> rfl) | (simp [*, errW_none, errW_some] <;> rfl), by repeat (first | (with_reducible first | exact HB.out | apply below_alloc | apply pw_below_drewN | apply below_drew1 | refine below_set ?_ GE352.out) | exact HB.out)⟩
    ·
     rw [if_neg c9] at H
     have c9b0 : (t354 == 0) = false := beq_eq_false_iff_ne.mpr c9
     have c9b1 : (t354 != 0) = true := bne_iff_ne.mpr c9
     simp only [Option.some.injEq, Prod.mk.injEq] at H
     obtain ⟨rfl, rfl⟩ := H
     have hcz12_0 : wc.cell? ⟨gb352, 0, none⟩ = some (.string a0_0) := (blk_cell BK352.out 0).trans rfl
     have hcz12_1 : wc.cell? ⟨gb352, 1, none⟩ = some (.int .i64 a0_1) := (blk_cell BK352.out 1).trans rfl
     have hcz12_2 : wc.cell? ⟨gb352, 2, none⟩ = some (.bool a0_2) := (blk_cell BK352.out 2).trans rfl
     have hfz12_0 := blk_frozen BK352.out 0
     have hfz12_1 := blk_frozen BK352.out 1
     have hfz12_2 := blk_frozen BK352.out 2
     go_wp2_with (first | ((with_reducible refine gate_callee (f := 67) rfl ?_); refine goesL_ (some 24) rfl rfl Tryz.func67 (by kernel_rfl) rfl #[.string a1, .bool (a0_1 == 1)] rfl ap3 ?_; (with_reducible refine (prep_Ready.calls kj2 a1 (a0_1 == 1) t353 t354 _ ?side1 A8.out).mono ?_); (case side1 => first | exact HG.out | (refine Gw.below HG.out ?_; repeat (first | (with_reducible first | exact HB.out | apply below_alloc | apply pw_below_drewN | apply below_drew1 | refine below_set ?_ GE352.out) | exact HB.out))); rintro e w13 ⟨rfl, hb⟩; refine ⟨_, rfl, ?_⟩; have n0_ := Aside0.mk (blk_below (g := gb352) (o := .cells #[.string a0_0, .int .i64 a0_1, .bool a0_2] 23 (0, 0)) (apB BK352.out) hb); have n1_ := Aside0.mk (below_step (apG GE352.out) hb); clear BK352; clear HB; have BK352 := n0_; have HB := n1_; clear n0_ n1_; (try clear hb); (try clear hb2); (try clear hk); (try clear hi)))
     go_ret2
     exact ⟨by first | rfl | (simp [errW_none, errW_some, bne_nil8, beq_nil8]; done) | (simp [errW_none, errW_some] <;> rfl) | (simp [*, errW_none, errW_some] <;> rfl), by repeat (first | (with_reducible first | exact HB.out | apply below_alloc | apply pw_below_drewN | apply below_drew1 | refine below_set ?_ GE352.out) | exact HB.out)⟩
   ·
    replace c7 := Bool.eq_false_iff.mpr c7
    subst c7
    rw [if_neg (show ¬ (false = true) by decide)] at H
    by_cases c14 : a0_1 = 7
    ·
     rw [if_pos c14] at H
     have c14b0 : (a0_1 == 7) = true := beq_iff_eq.mpr c14
     have c14b1 : (a0_1 != 7) = false := bne_eq_false_iff_eq.mpr c14
     clear c14
     replace H := Option.bind_eq_some_iff.mp H
     obtain ⟨⟨t355, t356⟩, A150, H⟩ := H
     replace H : (if t356 = 0 then (some (t355, (t355.toList != ([] : List UInt8)))) else (some (t355, false))) = some (r1, r2) := H
     have A15 := Aside0.mk A150
     clear A150
     by_cases c16 : t356 = 0
     ·
      rw [if_pos c16] at H
      have c16b0 : (t356 == 0) = true := beq_iff_eq.mpr c16
      have c16b1 : (t356 != 0) = false := bne_eq_false_iff_eq.mpr c16
      clear c16
      simp only [Option.some.injEq, Prod.mk.injEq] at H
      obtain ⟨rfl, rfl⟩ := H
      go_wp2_with (first | ((with_reducible refine gate_callee (f := 56) rfl ?_); refine goesL_ (some 38) rfl rfl Tryz.func56 (by kernel_rfl) rfl #[.string a1] rfl ap3 ?_; (with_reducible refine (prep_Phone.calls kj2 a1 t355 t356 _ ?side1 A15.out).mono ?_); (case side1 => first | exact HG.out | (refine Gw.below HG.out ?_; repeat (first | (with_reducible first | exact HB.out | apply below_alloc | apply pw_below_drewN | apply below_drew1 | refine below_set ?_ GE352.out) | exact HB.out))); rintro e w17 ⟨rfl, hb⟩; refine ⟨_, rfl, ?_⟩; have n0_ := Aside0.mk (blk_below (g := gb352) (o := .cells #[.string a0_0, .int .i64 a0_1, .bool a0_2] 23 (0, 0)) (apB BK352.out) hb); have n1_ := Aside0.mk (below_step (apG GE352.out) hb); clear BK352; clear HB; have BK352 := n0_; have HB := n1_; clear n0_ n1_; (try clear hb); (try clear hb2); (try clear hk); (try clear hi)))
      go_ret2
      exact ⟨by first | rfl | (simp [errW_none, errW_some, bne_nil8, beq_nil8]; done) | (simp [errW_none, errW_some] <;> rfl) | (simp [*, errW_none, errW_some] <;> rfl), by repeat (first | (with_reducible first | exact HB.out | apply below_alloc | apply pw_below_drewN | apply below_drew1 | refine below_set ?_ GE352.out) | exact HB.out)⟩
     ·
      rw [if_neg c16] at H
      have c16b0 : (t356 == 0) = false := beq_eq_false_iff_ne.mpr c16
      have c16b1 : (t356 != 0) = true := bne_iff_ne.mpr c16
      simp only [Option.some.injEq, Prod.mk.injEq] at H
      obtain ⟨rfl, rfl⟩ := H
      go_wp2_with (first | ((with_reducible refine gate_callee (f := 56) rfl ?_); refine goesL_ (some 38) rfl rfl Tryz.func56 (by kernel_rfl) rfl #[.string a1] rfl ap3 ?_; (with_reducible refine (prep_Phone.calls kj2 a1 t355 t356 _ ?side1 A15.out).mono ?_); (case side1 => first | exact HG.out | (refine Gw.below HG.out ?_; repeat (first | (with_reducible first | exact HB.out | apply below_alloc | apply pw_below_drewN | apply below_drew1 | refine below_set ?_ GE352.out) | exact HB.out))); rintro e w18 ⟨rfl, hb⟩; refine ⟨_, rfl, ?_⟩; have n0_ := Aside0.mk (blk_below (g := gb352) (o := .cells #[.string a0_0, .int .i64 a0_1, .bool a0_2] 23 (0, 0)) (apB BK352.out) hb); have n1_ := Aside0.mk (below_step (apG GE352.out) hb); clear BK352; clear HB; have BK352 := n0_; have HB := n1_; clear n0_ n1_; (try clear hb); (try clear hb2); (try clear hk); (try clear hi)))
      go_ret2
      exact ⟨by first | rfl | (simp [errW_none, errW_some, bne_nil8, beq_nil8]; done) | (simp [errW_none, errW_some] <;> rfl) | (simp [*, errW_none, errW_some] <;> rfl), by repeat (first | (with_reducible first | exact HB.out | apply below_alloc | apply pw_below_drewN | apply below_drew1 | refine below_set ?_ GE352.out) | exact HB.out)⟩
    ·
     rw [if_neg c14] at H
     have c14b0 : (a0_1 == 7) = false := beq_eq_false_iff_ne.mpr c14
     have c14b1 : (a0_1 != 7) = true := bne_iff_ne.mpr c14
     by_cases c19 : a0_1 = 4
     ·
      rw [if_pos c19] at H
      have c19b0 : (a0_1 == 4) = true := beq_iff_eq.mpr c19
      have c19b1 : (a0_1 != 4) = false := bne_eq_false_iff_eq.mpr c19
      clear c19
      replace H := Option.bind_eq_some_iff.mp H
      obtain ⟨t357, A200, H⟩ := H
      replace H : (some (a1, t357)) = some (r1, r2) := H
      have A20 := Aside0.mk A200
      clear A200
      simp only [Option.some.injEq, Prod.mk.injEq] at H
      obtain ⟨rfl, rfl⟩ := H
      go_wp2_with (first | ((with_reducible refine gate_callee (f := 68) rfl ?_); refine goesL_ (some 52) rfl rfl Tryz.func68 (by kernel_rfl) rfl #[.string a1] rfl ap3 ?_; (with_reducible refine (attr_number.calls kj2 a1 t357 _ A20.out).mono ?_); rintro e w' ⟨rfl, ⟨nd, rfl⟩⟩; refine ⟨_, rfl, ?_⟩))
      go_ret2
      exact ⟨by first | rfl | (simp [errW_none, errW_some, bne_nil8, beq_nil8]; done) | (simp [errW_none, errW_some] <;> rfl) | (simp [*, errW_none, errW_some] <;> rfl), by repeat (first | (with_reducible first | exact HB.out | apply below_alloc | apply pw_below_drewN | apply below_drew1 | refine below_set ?_ GE352.out) | exact HB.out)⟩
     ·
      rw [if_neg c19] at H
      have c19b0 : (a0_1 == 4) = false := beq_eq_false_iff_ne.mpr c19
      have c19b1 : (a0_1 != 4) = true := bne_iff_ne.mpr c19
      by_cases c21 : a0_1 = 5
      ·
       rw [if_pos c21] at H
       have c21b0 : (a0_1 == 5) = true := beq_iff_eq.mpr c21
       have c21b1 : (a0_1 != 5) = false := bne_eq_false_iff_eq.mpr c21
       clear c21
       by_cases c22 : a1.toList = ([84, 82, 85, 69] : List UInt8)
       ·
        rw [if_pos c22] at H
        have c22b0 : (a1.toList == ([84, 82, 85, 69] : List UInt8)) = true := beq_iff_eq.mpr c22
        have c22b1 : (a1.toList != ([84, 82, 85, 69] : List UInt8)) = false := bne_eq_false_iff_eq.mpr c22
        clear c22
        simp only [Option.some.injEq, Prod.mk.injEq] at H
        obtain ⟨rfl, rfl⟩ := H
        go_wp2
        go_ret2
        exact ⟨by first | rfl | (simp [errW_none, errW_some, bne_nil8, beq_nil8]; done) | (simp [errW_none, errW_some] <;> rfl) | (simp [*, errW_none, errW_some] <;> rfl), by repeat (first | (with_reducible first | exact HB.out | apply below_alloc | apply pw_below_drewN | apply below_drew1 | refine below_set ?_ GE352.out) | exact HB.out)⟩
       ·
        rw [if_neg c22] at H
        have c22b0 : (a1.toList == ([84, 82, 85, 69] : List UInt8)) = false := beq_eq_false_iff_ne.mpr c22
        have c22b1 : (a1.toList != ([84, 82, 85, 69] : List UInt8)) = true := bne_iff_ne.mpr c22
        simp only [Option.some.injEq, Prod.mk.injEq] at H
        obtain ⟨rfl, rfl⟩ := H
        go_wp2
        go_ret2
        exact ⟨by first | rfl | (simp [errW_none, errW_some, bne_nil8, beq_nil8]; done) | (simp [errW_none, errW_some] <;> rfl) | (simp [*, errW_none, errW_some] <;> rfl), by repeat (first | (with_reducible first | exact HB.out | apply below_alloc | apply pw_below_drewN | apply below_drew1 | refine below_set ?_ GE352.out) | exact HB.out)⟩
      ·
       rw [if_neg c21] at H
       have c21b0 : (a0_1 == 5) = false := beq_eq_false_iff_ne.mpr c21
       have c21b1 : (a0_1 != 5) = true := bne_iff_ne.mpr c21
       by_cases c23 : a0_1 = 6
       ·
        rw [if_pos c23] at H
        have c23b0 : (a0_1 == 6) = true := beq_iff_eq.mpr c23
        have c23b1 : (a0_1 != 6) = false := bne_eq_false_iff_eq.mpr c23
        clear c23
        replace H := Option.bind_eq_some_iff.mp H
        obtain ⟨⟨t358, t359⟩, A240, H⟩ := H
        replace H : ((dn_Keys.f kj2 t358).bind fun bt362 => ((strings_Join.f bt362.1 (⟨#[]⟩ : ByteArray)).bind fun t366 => (if t359 = 0 then (some (t366, (bt362.2 == 0))) else (some (t366, false))))) = some (r1, r2) := H
        have A24 := Aside0.mk A240
        clear A240
        replace H := Option.bind_eq_some_iff.mp H
        obtain ⟨⟨t362, t363⟩, A250, H⟩ := H
        replace H : ((strings_Join.f t362 (⟨#[]⟩ : ByteArray)).bind fun t366 => (if t359 = 0 then (some (t366, (t363 == 0))) else (some (t366, false)))) = some (r1, r2) := H
        have A25 := Aside0.mk A250
        clear A250
        replace H := Option.bind_eq_some_iff.mp H
        obtain ⟨t366, A260, H⟩ := H
        replace H : (if t359 = 0 then (some (t366, (t363 == 0))) else (some (t366, false))) = some (r1, r2) := H
        have A26 := Aside0.mk A260
        clear A260
        by_cases c27 : t359 = 0
        ·
         rw [if_pos c27] at H
         have c27b0 : (t359 == 0) = true := beq_iff_eq.mpr c27
         have c27b1 : (t359 != 0) = false := bne_eq_false_iff_eq.mpr c27
         clear c27
         simp only [Option.some.injEq, Prod.mk.injEq] at H
         obtain ⟨rfl, rfl⟩ := H
         go_wp2_with (first | ((with_reducible refine gate_callee (f := 69) rfl ?_); refine goesL_ (some 66) rfl rfl Tryz.func69 (by kernel_rfl) rfl #[.string a1] rfl ap3 ?_; (with_reducible refine (dn_Parse.calls kj2 a1 t358 t359 _ ?side1 A24.out).mono ?_); (case side1 => first | exact HG.out | (refine Gw.below HG.out ?_; repeat (first | (with_reducible first | exact HB.out | apply below_alloc | apply pw_below_drewN | apply below_drew1 | refine below_set ?_ GE352.out) | exact HB.out))); rintro e w28 ⟨v360, rfl, ho0, hb⟩; refine ⟨_, rfl, ?_⟩; have n0_ := Aside0.mk (Kd.S_lower ho0 (below_size (apG GE352.out))); have n1_ := Aside0.mk (blk_below (g := gb352) (o := .cells #[.string a0_0, .int .i64 a0_1, .bool a0_2] 23 (0, 0)) (apB BK352.out) hb); have n2_ := Aside0.mk (below_step (apG GE352.out) hb); clear BK352; clear HB; have HO361 := n0_; have BK352 := n1_; have HB := n2_; clear n0_ n1_ n2_; (try clear hb); (try clear hb2); (try clear hk); (try clear hi); (try clear ho0); obtain ⟨Ao29, co29, eo29⟩ := Kd.S_slice HO361.out; subst eo29) | ((with_reducible refine gate_callee (f := 70) rfl ?_); refine goesL_ (some 71) rfl rfl Tryz.func70 (by kernel_rfl) rfl #[.slice Ao29 t358.length co29] rfl ap3 ?_; (with_reducible refine (dn_Keys.calls kj2 _ _ t358 t362 t363 _ ?side1 ?side2 ?side3 A25.out).mono ?_); (case side1 => repeat (first | exact (Kd.S_reads' HO361.out).2.2 | (with_reducible refine Kd.C_alloc ?_ _) | (with_reducible refine Kd.C_drewN ?_ _) | (with_reducible refine Kd.C_drew ?_))); (case side2 => exact (Kd.S_reads' HO361.out).2.1); (case side3 => first | exact HG.out | (refine Gw.below HG.out ?_; repeat (first | (with_reducible first | exact HB.out | apply below_alloc | apply pw_below_drewN | apply below_drew1 | refine below_set ?_ GE352.out) | exact HB.out))); rintro e w30 ⟨v364, rfl, ho0, hb⟩; refine ⟨_, rfl, ?_⟩; have n0_ := Aside0.mk (Kd.S_below (apAS HO361.out) hb); have n1_ := Aside0.mk (Kd.R_lower ho0 (below_size (apG GE352.out))); have n2_ := Aside0.mk (blk_below (g := gb352) (o := .cells #[.string a0_0, .int .i64 a0_1, .bool a0_2] 23 (0, 0)) (apB BK352.out) hb); have n3_ := Aside0.mk (below_step (apG GE352.out) hb); clear HO361; clear BK352; clear HB; have HO361 := n0_; have HO365 := n1_; have BK352 := n2_; have HB := n3_; clear n0_ n1_ n2_ n3_; (try clear hb); (try clear hb2); (try clear hk); (try clear hi); (try clear ho0); obtain ⟨Ao31, co31, eo31⟩ := Kd.R_slice HO365.out; subst eo31) | ((with_reducible refine gate_callee (f := 71) rfl ?_); refine goesL_ (some 75) rfl rfl Tryz.func71 (by kernel_rfl) rfl #[.slice Ao31 t362.length co31, .string (⟨#[]⟩ : ByteArray)] rfl ap3 ?_; (with_reducible refine (strings_Join.calls _ _ t362 (⟨#[]⟩ : ByteArray) t366 _ ?side1 ?side2 A26.out).mono ?_); (case side1 => repeat (first | exact (Kd.R_reads' HO365.out).2.2 | (with_reducible refine Kd.C_alloc ?_ _) | (with_reducible refine Kd.C_drewN ?_ _) | (with_reducible refine Kd.C_drew ?_))); (case side2 => exact (Kd.R_reads' HO365.out).2.1); rintro e w32 ⟨rfl, hb⟩; refine ⟨_, rfl, ?_⟩; have n0_ := Aside0.mk (Kd.S_below (apAS HO361.out) hb); have n1_ := Aside0.mk (Kd.R_below (apAR HO365.out) hb); have n2_ := Aside0.mk (blk_below (g := gb352) (o := .cells #[.string a0_0, .int .i64 a0_1, .bool a0_2] 23 (0, 0)) (apB BK352.out) hb); have n3_ := Aside0.mk (below_step (apG GE352.out) hb); clear HO361; clear HO365; clear BK352; clear HB; have HO361 := n0_; have HO365 := n1_; have BK352 := n2_; have HB := n3_; clear n0_ n1_ n2_ n3_; (try clear hb); (try clear hb2); (try clear hk); (try clear hi)))
         go_ret2
         exact ⟨by first | rfl | (simp [errW_none, errW_some, bne_nil8, beq_nil8]; done) | (simp [errW_none, errW_some] <;> rfl) | (simp [*, errW_none, errW_some] <;> rfl), by repeat (first | (with_reducible first | exact HB.out | apply below_alloc | apply pw_below_drewN | apply below_drew1 | refine below_set ?_ GE352.out) | exact HB.out)⟩
        ·
         rw [if_neg c27] at H
         have c27b0 : (t359 == 0) = false := beq_eq_false_iff_ne.mpr c27
         have c27b1 : (t359 != 0) = true := bne_iff_ne.mpr c27
         simp only [Option.some.injEq, Prod.mk.injEq] at H
         obtain ⟨rfl, rfl⟩ := H
         go_wp2_with (first | ((with_reducible refine gate_callee (f := 69) rfl ?_); refine goesL_ (some 66) rfl rfl Tryz.func69 (by kernel_rfl) rfl #[.string a1] rfl ap3 ?_; (with_reducible refine (dn_Parse.calls kj2 a1 t358 t359 _ ?side1 A24.out).mono ?_); (case side1 => first | exact HG.out | (refine Gw.below HG.out ?_; repeat (first | (with_reducible first | exact HB.out | apply below_alloc | apply pw_below_drewN | apply below_drew1 | refine below_set ?_ GE352.out) | exact HB.out))); rintro e w33 ⟨v360, rfl, ho0, hb⟩; refine ⟨_, rfl, ?_⟩; have n0_ := Aside0.mk (Kd.S_lower ho0 (below_size (apG GE352.out))); have n1_ := Aside0.mk (blk_below (g := gb352) (o := .cells #[.string a0_0, .int .i64 a0_1, .bool a0_2] 23 (0, 0)) (apB BK352.out) hb); have n2_ := Aside0.mk (below_step (apG GE352.out) hb); clear BK352; clear HB; have HO361 := n0_; have BK352 := n1_; have HB := n2_; clear n0_ n1_ n2_; (try clear hb); (try clear hb2); (try clear hk); (try clear hi); (try clear ho0); obtain ⟨Ao34, co34, eo34⟩ := Kd.S_slice HO361.out; subst eo34) | ((with_reducible refine gate_callee (f := 70) rfl ?_); refine goesL_ (some 71) rfl rfl Tryz.func70 (by kernel_rfl) rfl #[.slice Ao34 t358.length co34] rfl ap3 ?_; (with_reducible refine (dn_Keys.calls kj2 _ _ t358 t362 t363 _ ?side1 ?side2 ?side3 A25.out).mono ?_); (case side1 => repeat (first | exact (Kd.S_reads' HO361.out).2.2 | (with_reducible refine Kd.C_alloc ?_ _) | (with_reducible refine Kd.C_drewN ?_ _) | (with_reducible refine Kd.C_drew ?_))); (case side2 => exact (Kd.S_reads' HO361.out).2.1); (case side3 => first | exact HG.out | (refine Gw.below HG.out ?_; repeat (first | (with_reducible first | exact HB.out | apply below_alloc | apply pw_below_drewN | apply below_drew1 | refine below_set ?_ GE352.out) | exact HB.out))); rintro e w35 ⟨v364, rfl, ho0, hb⟩; refine ⟨_, rfl, ?_⟩; have n0_ := Aside0.mk (Kd.S_below (apAS HO361.out) hb); have n1_ := Aside0.mk (Kd.R_lower ho0 (below_size (apG GE352.out))); have n2_ := Aside0.mk (blk_below (g := gb352) (o := .cells #[.string a0_0, .int .i64 a0_1, .bool a0_2] 23 (0, 0)) (apB BK352.out) hb); have n3_ := Aside0.mk (below_step (apG GE352.out) hb); clear HO361; clear BK352; clear HB; have HO361 := n0_; have HO365 := n1_; have BK352 := n2_; have HB := n3_; clear n0_ n1_ n2_ n3_; (try clear hb); (try clear hb2); (try clear hk); (try clear hi); (try clear ho0); obtain ⟨Ao36, co36, eo36⟩ := Kd.R_slice HO365.out; subst eo36) | ((with_reducible refine gate_callee (f := 71) rfl ?_); refine goesL_ (some 75) rfl rfl Tryz.func71 (by kernel_rfl) rfl #[.slice Ao36 t362.length co36, .string (⟨#[]⟩ : ByteArray)] rfl ap3 ?_; (with_reducible refine (strings_Join.calls _ _ t362 (⟨#[]⟩ : ByteArray) t366 _ ?side1 ?side2 A26.out).mono ?_); (case side1 => repeat (first | exact (Kd.R_reads' HO365.out).2.2 | (with_reducible refine Kd.C_alloc ?_ _) | (with_reducible refine Kd.C_drewN ?_ _) | (with_reducible refine Kd.C_drew ?_))); (case side2 => exact (Kd.R_reads' HO365.out).2.1); rintro e w37 ⟨rfl, hb⟩; refine ⟨_, rfl, ?_⟩; have n0_ := Aside0.mk (Kd.S_below (apAS HO361.out) hb); have n1_ := Aside0.mk (Kd.R_below (apAR HO365.out) hb); have n2_ := Aside0.mk (blk_below (g := gb352) (o := .cells #[.string a0_0, .int .i64 a0_1, .bool a0_2] 23 (0, 0)) (apB BK352.out) hb); have n3_ := Aside0.mk (below_step (apG GE352.out) hb); clear HO361; clear HO365; clear BK352; clear HB; have HO361 := n0_; have HO365 := n1_; have BK352 := n2_; have HB := n3_; clear n0_ n1_ n2_ n3_; (try clear hb); (try clear hb2); (try clear hk); (try clear hi)))
         go_ret2
         exact ⟨by first | rfl | (simp [errW_none, errW_some, bne_nil8, beq_nil8]; done) | (simp [errW_none, errW_some] <;> rfl) | (simp [*, errW_none, errW_some] <;> rfl), by repeat (first | (with_reducible first | exact HB.out | apply below_alloc | apply pw_below_drewN | apply below_drew1 | refine below_set ?_ GE352.out) | exact HB.out)⟩
       ·
        rw [if_neg c23] at H
        have c23b0 : (a0_1 == 6) = false := beq_eq_false_iff_ne.mpr c23
        have c23b1 : (a0_1 != 6) = true := bne_iff_ne.mpr c23
        simp only [Option.some.injEq, Prod.mk.injEq] at H
        obtain ⟨rfl, rfl⟩ := H
        go_wp2
        go_ret2
        exact ⟨by first | rfl | (simp [errW_none, errW_some, bne_nil8, beq_nil8]; done) | (simp [errW_none, errW_some] <;> rfl) | (simp [*, errW_none, errW_some] <;> rfl), by repeat (first | (with_reducible first | exact HB.out | apply below_alloc | apply pw_below_drewN | apply below_drew1 | refine below_set ?_ GE352.out) | exact HB.out)⟩
def attr_known.f (a0_0 : ByteArray) (a0_1 : Int) (a0_2 : Bool) : Option (Bool) := if a0_1 ≥ 1 then (some (decide (a0_1 ≤ 7))) else (some false)
set_option maxHeartbeats 8000000 in
set_option maxRecDepth 100000 in
theorem attr_known.calls (a0_0 : ByteArray) (a0_1 : Int) (a0_2 : Bool) (r : Bool) (w : World) (h : attr_known.f a0_0 a0_1 a0_2 = some r) :
  Calls Tryz.prog 42 #[.agg #[.string a0_0, .int .i64 a0_1, .bool a0_2]] w fun e w' => e = .returned (.bool r) ∧ Below w.heap.size w w' := by
 have hu23 := Tryz.underlying23
 have HB := Aside0.mk (Below.refl w.heap.size w)
 have H : (if a0_1 ≥ 1 then (some (decide (a0_1 ≤ 7))) else (some false)) = some r := h
 clear h
 by_cases c2 : a0_1 ≥ 1
 ·
  rw [if_pos c2] at H
  have c2b0 := decide_eq_true c2
  clear c2
  obtain rfl := Option.some.inj H
  go_enter Tryz.func42, Tryz.ntmps42
  go_wp2_with (first | ((with_reducible refine gate_dst (N := 1) rfl ?_); refine box_event ?hg (N := 1) ?hd (cs := #[.string a0_0, .int .i64 a0_1, .bool a0_2]) (t := 23) ?hr ?_; (case hd => rfl); (case hg => rfl); (case hr => first | (go_simp; done) | (go_simp; rfl)); intro gb101 hg w3 hbox hb; have n0_ := Aside0.mk (below_step ap1 hb); have n1_ := Aside0.mk (hbox); have n2_ := Aside0.mk ((by rw [hg]; exact (below_size ap1) : w.heap.size ≤ gb101)); have n3_ := Aside0.mk ((by rw [hg]; exact (below_size ap1) : w.heap.size ≤ gb101)); clear HB; have HB := n0_; have BK101 := n1_; have GW101 := n2_; have GE101 := n3_; clear n0_ n1_ n2_ n3_; clear hb hbox hg; have hcz4_0 : w3.cell? ⟨gb101, 0, none⟩ = some (.string a0_0) := (blk_cell BK101.out 0).trans rfl; have hcz4_1 : w3.cell? ⟨gb101, 1, none⟩ = some (.int .i64 a0_1) := (blk_cell BK101.out 1).trans rfl; have hcz4_2 : w3.cell? ⟨gb101, 2, none⟩ = some (.bool a0_2) := (blk_cell BK101.out 2).trans rfl; have hfz4_0 := blk_frozen BK101.out 0; have hfz4_1 := blk_frozen BK101.out 1; have hfz4_2 := blk_frozen BK101.out 2))
  go_ret
  exact ⟨by first | rfl | (simp [errW_none, errW_some, bne_nil8, beq_nil8]; done) | (simp [errW_none, errW_some] <;> rfl) | (simp [*, errW_none, errW_some] <;> rfl), by repeat (first | (with_reducible first | exact HB.out | apply below_alloc | apply pw_below_drewN | apply below_drew1 | refine below_set ?_ GE101.out) | exact HB.out)⟩
 ·
  rw [if_neg c2] at H
  have c2b0 := decide_eq_false c2
  clear c2
  obtain rfl := Option.some.inj H
  go_enter Tryz.func42, Tryz.ntmps42
  go_wp2_with (first | ((with_reducible refine gate_dst (N := 1) rfl ?_); refine box_event ?hg (N := 1) ?hd (cs := #[.string a0_0, .int .i64 a0_1, .bool a0_2]) (t := 23) ?hr ?_; (case hd => rfl); (case hg => rfl); (case hr => first | (go_simp; done) | (go_simp; rfl)); intro gb101 hg w5 hbox hb; have n0_ := Aside0.mk (below_step ap1 hb); have n1_ := Aside0.mk (hbox); have n2_ := Aside0.mk ((by rw [hg]; exact (below_size ap1) : w.heap.size ≤ gb101)); have n3_ := Aside0.mk ((by rw [hg]; exact (below_size ap1) : w.heap.size ≤ gb101)); clear HB; have HB := n0_; have BK101 := n1_; have GW101 := n2_; have GE101 := n3_; clear n0_ n1_ n2_ n3_; clear hb hbox hg; have hcz6_0 : w5.cell? ⟨gb101, 0, none⟩ = some (.string a0_0) := (blk_cell BK101.out 0).trans rfl; have hcz6_1 : w5.cell? ⟨gb101, 1, none⟩ = some (.int .i64 a0_1) := (blk_cell BK101.out 1).trans rfl; have hcz6_2 : w5.cell? ⟨gb101, 2, none⟩ = some (.bool a0_2) := (blk_cell BK101.out 2).trans rfl; have hfz6_0 := blk_frozen BK101.out 0; have hfz6_1 := blk_frozen BK101.out 1; have hfz6_2 := blk_frozen BK101.out 2))
  go_ret
  exact ⟨by first | rfl | (simp [errW_none, errW_some, bne_nil8, beq_nil8]; done) | (simp [errW_none, errW_some] <;> rfl) | (simp [*, errW_none, errW_some] <;> rfl), by repeat (first | (with_reducible first | exact HB.out | apply below_alloc | apply pw_below_drewN | apply below_drew1 | refine below_set ?_ GE101.out) | exact HB.out)⟩
def attr_Normal.f (k : Nat) (a0_0 : ByteArray) (a0_1 : Int) (a0_2 : Bool) (a1 : ByteArray) : Option (ByteArray × Int) := (attr_known.f a0_0 a0_1 a0_2).bind fun t368 => (if t368 = true then (if (a1.size : Int) > 1000 then (some ((⟨#[]⟩ : ByteArray), 5)) else (if a1.toList = ([] : List UInt8) then (some ((⟨#[]⟩ : ByteArray), 4)) else ((attr_form.f k a0_0 a0_1 a0_2 a1).bind fun bt369 => (if bt369.2 = true then (some (bt369.1, 0)) else (some ((⟨#[]⟩ : ByteArray), 4)))))) else (some ((⟨#[]⟩ : ByteArray), 14)))
theorem attr_Normal.mono : ∀ a0 a1 a2 a3 k, LeO (attr_Normal.f k a0 a1 a2 a3) (attr_Normal.f (k + 1) a0 a1 a2 a3) := by
 intro a0 a1 a2 a3 k
 unfold attr_Normal.f
 repeat' first
   | (with_reducible exact attr_form.mono _ _ _ _ _)
   | (with_reducible exact LeO.refl _)
   | (with_reducible exact LeO.none _)
   | (with_reducible refine LeO.ite ?_ ?_)
   | (with_reducible refine LeO.bind ?_ (fun _ => ?_))
set_option maxHeartbeats 8000000 in
set_option maxRecDepth 100000 in
theorem attr_Normal.calls (k : Nat) (a0_0 : ByteArray) (a0_1 : Int) (a0_2 : Bool) (a1 : ByteArray) (r1 : ByteArray) (r2 : Int) (w : World) (hG : Gw w) (h : attr_Normal.f k a0_0 a0_1 a0_2 a1 = some (r1, r2)) :
  Calls Tryz.prog 19 #[.agg #[.string a0_0, .int .i64 a0_1, .bool a0_2], .string a1] w fun e w' => e = .returned (.tuple #[.string r1, .int .i64 r2]) ∧ Below w.heap.size w w' := by
 have hu23 := Tryz.underlying23
 have HB := Aside0.mk (Below.refl w.heap.size w)
 have HG := Aside0.mk hG
 clear hG
 have H : ((attr_known.f a0_0 a0_1 a0_2).bind fun t368 => (if t368 = true then (if (a1.size : Int) > 1000 then (some ((⟨#[]⟩ : ByteArray), 5)) else (if a1.toList = ([] : List UInt8) then (some ((⟨#[]⟩ : ByteArray), 4)) else ((attr_form.f k a0_0 a0_1 a0_2 a1).bind fun bt369 => (if bt369.2 = true then (some (bt369.1, 0)) else (some ((⟨#[]⟩ : ByteArray), 4)))))) else (some ((⟨#[]⟩ : ByteArray), 14)))) = some (r1, r2) := h
 clear h
 replace H := Option.bind_eq_some_iff.mp H
 obtain ⟨t368, A30, H⟩ := H
 replace H : (if t368 = true then (if (a1.size : Int) > 1000 then (some ((⟨#[]⟩ : ByteArray), 5)) else (if a1.toList = ([] : List UInt8) then (some ((⟨#[]⟩ : ByteArray), 4)) else ((attr_form.f k a0_0 a0_1 a0_2 a1).bind fun bt369 => (if bt369.2 = true then (some (bt369.1, 0)) else (some ((⟨#[]⟩ : ByteArray), 4)))))) else (some ((⟨#[]⟩ : ByteArray), 14))) = some (r1, r2) := H
 have A3 := Aside0.mk A30
 clear A30
 by_cases c4 : t368 = true
 ·
  subst c4
  rw [if_pos rfl] at H
  by_cases c5 : (a1.size : Int) > 1000
  ·
   rw [if_pos c5] at H
   have c5b0 := decide_eq_true c5
   have c5b1 : decide (1000 < a1.size) = true := decide_eq_true (by omega)
   clear c5
   simp only [Option.some.injEq, Prod.mk.injEq] at H
   obtain ⟨rfl, rfl⟩ := H
   go_enter Tryz.func19, Tryz.ntmps19
   go_wp2_with (first | ((with_reducible refine gate_dst (N := 2) rfl ?_); refine box_event ?hg (N := 2) ?hd (cs := #[.string a0_0, .int .i64 a0_1, .bool a0_2]) (t := 23) ?hr ?_; (case hd => rfl); (case hg => rfl); (case hr => first | (go_simp; done) | (go_simp; rfl)); intro gb367 hg w6 hbox hb; have n0_ := Aside0.mk (below_step ap1 hb); have n1_ := Aside0.mk (hbox); have n2_ := Aside0.mk ((by rw [hg]; exact (below_size ap1) : w.heap.size ≤ gb367)); have n3_ := Aside0.mk ((by rw [hg]; exact (below_size ap1) : w.heap.size ≤ gb367)); clear HB; have HB := n0_; have BK367 := n1_; have GW367 := n2_; have GE367 := n3_; clear n0_ n1_ n2_ n3_; clear hb hbox hg; have hcz7_0 : w6.cell? ⟨gb367, 0, none⟩ = some (.string a0_0) := (blk_cell BK367.out 0).trans rfl; have hcz7_1 : w6.cell? ⟨gb367, 1, none⟩ = some (.int .i64 a0_1) := (blk_cell BK367.out 1).trans rfl; have hcz7_2 : w6.cell? ⟨gb367, 2, none⟩ = some (.bool a0_2) := (blk_cell BK367.out 2).trans rfl; have hfz7_0 := blk_frozen BK367.out 0; have hfz7_1 := blk_frozen BK367.out 1; have hfz7_2 := blk_frozen BK367.out 2) | ((with_reducible refine gate_callee (f := 42) rfl ?_); refine goesL_ (some 10) rfl rfl Tryz.func42 (by kernel_rfl) rfl #[.agg #[.string a0_0, .int .i64 a0_1, .bool a0_2]] rfl ap3 ?_; (with_reducible refine (attr_known.calls a0_0 a0_1 a0_2 true _ A3.out).mono ?_); rintro e w8 ⟨rfl, hb⟩; refine ⟨_, rfl, ?_⟩; have n0_ := Aside0.mk (blk_below (g := gb367) (o := .cells #[.string a0_0, .int .i64 a0_1, .bool a0_2] 23 (0, 0)) (apB BK367.out) hb); have n1_ := Aside0.mk (below_step (apG GE367.out) hb); clear BK367; clear HB; have BK367 := n0_; have HB := n1_; clear n0_ n1_; (try clear hb); (try clear hb2); (try clear hk); (try clear hi)))
   go_ret2
   exact ⟨by first | rfl | (simp [errW_none, errW_some, bne_nil8, beq_nil8]; done) | (simp [errW_none, errW_some] <;> rfl) | (simp [*, errW_none, errW_some] <;> rfl), by repeat (first | (with_reducible first | exact HB.out | apply below_alloc | apply pw_below_drewN | apply below_drew1 | refine below_set ?_ GE367.out) | exact HB.out)⟩
  ·
   rw [if_neg c5] at H
   have c5b0 := decide_eq_false c5
   have c5b1 : decide (1000 < a1.size) = false := decide_eq_false (by omega)
   clear c5
   by_cases c9 : a1.toList = ([] : List UInt8)
   ·
    rw [if_pos c9] at H
    have c9b0 : (a1.toList == ([] : List UInt8)) = true := beq_iff_eq.mpr c9
    have c9b1 : (a1.toList != ([] : List UInt8)) = false := bne_eq_false_iff_eq.mpr c9
    clear c9
    simp only [Option.some.injEq, Prod.mk.injEq] at H
    obtain ⟨rfl, rfl⟩ := H
    go_enter Tryz.func19, Tryz.ntmps19
    go_wp2_with (first | ((with_reducible refine gate_dst (N := 2) rfl ?_); refine box_event ?hg (N := 2) ?hd (cs := #[.string a0_0, .int .i64 a0_1, .bool a0_2]) (t := 23) ?hr ?_; (case hd => rfl); (case hg => rfl); (case hr => first | (go_simp; done) | (go_simp; rfl)); intro gb367 hg w10 hbox hb; have n0_ := Aside0.mk (below_step ap1 hb); have n1_ := Aside0.mk (hbox); have n2_ := Aside0.mk ((by rw [hg]; exact (below_size ap1) : w.heap.size ≤ gb367)); have n3_ := Aside0.mk ((by rw [hg]; exact (below_size ap1) : w.heap.size ≤ gb367)); clear HB; have HB := n0_; have BK367 := n1_; have GW367 := n2_; have GE367 := n3_; clear n0_ n1_ n2_ n3_; clear hb hbox hg; have hcz11_0 : w10.cell? ⟨gb367, 0, none⟩ = some (.string a0_0) := (blk_cell BK367.out 0).trans rfl; have hcz11_1 : w10.cell? ⟨gb367, 1, none⟩ = some (.int .i64 a0_1) := (blk_cell BK367.out 1).trans rfl; have hcz11_2 : w10.cell? ⟨gb367, 2, none⟩ = some (.bool a0_2) := (blk_cell BK367.out 2).trans rfl; have hfz11_0 := blk_frozen BK367.out 0; have hfz11_1 := blk_frozen BK367.out 1; have hfz11_2 := blk_frozen BK367.out 2) | ((with_reducible refine gate_callee (f := 42) rfl ?_); refine goesL_ (some 10) rfl rfl Tryz.func42 (by kernel_rfl) rfl #[.agg #[.string a0_0, .int .i64 a0_1, .bool a0_2]] rfl ap3 ?_; (with_reducible refine (attr_known.calls a0_0 a0_1 a0_2 true _ A3.out).mono ?_); rintro e w12 ⟨rfl, hb⟩; refine ⟨_, rfl, ?_⟩; have n0_ := Aside0.mk (blk_below (g := gb367) (o := .cells #[.string a0_0, .int .i64 a0_1, .bool a0_2] 23 (0, 0)) (apB BK367.out) hb); have n1_ := Aside0.mk (below_step (apG GE367.out) hb); clear BK367; clear HB; have BK367 := n0_; have HB := n1_; clear n0_ n1_; (try clear hb); (try clear hb2); (try clear hk); (try clear hi)))
    go_ret2
    exact ⟨by first | rfl | (simp [errW_none, errW_some, bne_nil8, beq_nil8]; done) | (simp [errW_none, errW_some] <;> rfl) | (simp [*, errW_none, errW_some] <;> rfl), by repeat (first | (with_reducible first | exact HB.out | apply below_alloc | apply pw_below_drewN | apply below_drew1 | refine below_set ?_ GE367.out) | exact HB.out)⟩
   ·
    rw [if_neg c9] at H
    have c9b0 : (a1.toList == ([] : List UInt8)) = false := beq_eq_false_iff_ne.mpr c9
    have c9b1 : (a1.toList != ([] : List UInt8)) = true := bne_iff_ne.mpr c9
    replace H := Option.bind_eq_some_iff.mp H
    obtain ⟨⟨t369, t370⟩, A130, H⟩ := H
    replace H : (if t370 = true then (some (t369, 0)) else (some ((⟨#[]⟩ : ByteArray), 4))) = some (r1, r2) := H
    have A13 := Aside0.mk A130
    clear A130
    by_cases c14 : t370 = true
    ·
     subst c14
     rw [if_pos rfl] at H
     simp only [Option.some.injEq, Prod.mk.injEq] at H
     obtain ⟨rfl, rfl⟩ := H
     go_enter Tryz.func19, Tryz.ntmps19
     go_wp2_with (first | ((with_reducible refine gate_dst (N := 2) rfl ?_); refine box_event ?hg (N := 2) ?hd (cs := #[.string a0_0, .int .i64 a0_1, .bool a0_2]) (t := 23) ?hr ?_; (case hd => rfl); (case hg => rfl); (case hr => first | (go_simp; done) | (go_simp; rfl)); intro gb367 hg w15 hbox hb; have n0_ := Aside0.mk (below_step ap1 hb); have n1_ := Aside0.mk (hbox); have n2_ := Aside0.mk ((by rw [hg]; exact (below_size ap1) : w.heap.size ≤ gb367)); have n3_ := Aside0.mk ((by rw [hg]; exact (below_size ap1) : w.heap.size ≤ gb367)); clear HB; have HB := n0_; have BK367 := n1_; have GW367 := n2_; have GE367 := n3_; clear n0_ n1_ n2_ n3_; clear hb hbox hg; have hcz16_0 : w15.cell? ⟨gb367, 0, none⟩ = some (.string a0_0) := (blk_cell BK367.out 0).trans rfl; have hcz16_1 : w15.cell? ⟨gb367, 1, none⟩ = some (.int .i64 a0_1) := (blk_cell BK367.out 1).trans rfl; have hcz16_2 : w15.cell? ⟨gb367, 2, none⟩ = some (.bool a0_2) := (blk_cell BK367.out 2).trans rfl; have hfz16_0 := blk_frozen BK367.out 0; have hfz16_1 := blk_frozen BK367.out 1; have hfz16_2 := blk_frozen BK367.out 2) | ((with_reducible refine gate_callee (f := 42) rfl ?_); refine goesL_ (some 10) rfl rfl Tryz.func42 (by kernel_rfl) rfl #[.agg #[.string a0_0, .int .i64 a0_1, .bool a0_2]] rfl ap3 ?_; (with_reducible refine (attr_known.calls a0_0 a0_1 a0_2 true _ A3.out).mono ?_); rintro e w17 ⟨rfl, hb⟩; refine ⟨_, rfl, ?_⟩; have n0_ := Aside0.mk (blk_below (g := gb367) (o := .cells #[.string a0_0, .int .i64 a0_1, .bool a0_2] 23 (0, 0)) (apB BK367.out) hb); have n1_ := Aside0.mk (below_step (apG GE367.out) hb); clear BK367; clear HB; have BK367 := n0_; have HB := n1_; clear n0_ n1_; (try clear hb); (try clear hb2); (try clear hk); (try clear hi); have hcz18_0 : w17.cell? ⟨gb367, 0, none⟩ = some (.string a0_0) := (blk_cell BK367.out 0).trans rfl; have hcz18_1 : w17.cell? ⟨gb367, 1, none⟩ = some (.int .i64 a0_1) := (blk_cell BK367.out 1).trans rfl; have hcz18_2 : w17.cell? ⟨gb367, 2, none⟩ = some (.bool a0_2) := (blk_cell BK367.out 2).trans rfl; have hfz18_0 := blk_frozen BK367.out 0; have hfz18_1 := blk_frozen BK367.out 1; have hfz18_2 := blk_frozen BK367.out 2) | ((with_reducible refine gate_callee (f := 43) rfl ?_); refine goesL_ (some 22) rfl rfl Tryz.func43 (by kernel_rfl) rfl #[.agg #[.string a0_0, .int .i64 a0_1, .bool a0_2], .string a1] rfl ap3 ?_; (with_reducible refine (attr_form.calls k a0_0 a0_1 a0_2 a1 t369 true _ ?side1 A13.out).mono ?_); (case side1 => first | exact HG.out | (refine Gw.below HG.out ?_; repeat (first | (with_reducible first | exact HB.out | apply below_alloc | apply pw_below_drewN | apply below_drew1 | refine below_set ?_ GE367.out) | exact HB.out))); rintro e w19 ⟨rfl, hb⟩; refine ⟨_, rfl, ?_⟩; have n0_ := Aside0.mk (blk_below (g := gb367) (o := .cells #[.string a0_0, .int .i64 a0_1, .bool a0_2] 23 (0, 0)) (apB BK367.out) hb); have n1_ := Aside0.mk (below_step (apG GE367.out) hb); clear BK367; clear HB; have BK367 := n0_; have HB := n1_; clear n0_ n1_; (try clear hb); (try clear hb2); (try clear hk); (try clear hi)))
     go_ret2
     exact ⟨by first | rfl | (simp [errW_none, errW_some, bne_nil8, beq_nil8]; done) | (simp [errW_none, errW_some] <;> rfl) | (simp [*, errW_none, errW_some] <;> rfl), by repeat (first | (with_reducible first | exact HB.out | apply below_alloc | apply pw_below_drewN | apply below_drew1 | refine below_set ?_ GE367.out) | exact HB.out)⟩
    ·
     replace c14 := Bool.eq_false_iff.mpr c14
     subst c14
     rw [if_neg (show ¬ (false = true) by decide)] at H
     simp only [Option.some.injEq, Prod.mk.injEq] at H
     obtain ⟨rfl, rfl⟩ := H
     go_enter Tryz.func19, Tryz.ntmps19
     go_wp2_with (first | ((with_reducible refine gate_dst (N := 2) rfl ?_); refine box_event ?hg (N := 2) ?hd (cs := #[.string a0_0, .int .i64 a0_1, .bool a0_2]) (t := 23) ?hr ?_; (case hd => rfl); (case hg => rfl); (case hr => first | (go_simp; done) | (go_simp; rfl)); intro gb367 hg w20 hbox hb; have n0_ := Aside0.mk (below_step ap1 hb); have n1_ := Aside0.mk (hbox); have n2_ := Aside0.mk ((by rw [hg]; exact (below_size ap1) : w.heap.size ≤ gb367)); have n3_ := Aside0.mk ((by rw [hg]; exact (below_size ap1) : w.heap.size ≤ gb367)); clear HB; have HB := n0_; have BK367 := n1_; have GW367 := n2_; have GE367 := n3_; clear n0_ n1_ n2_ n3_; clear hb hbox hg; have hcz21_0 : w20.cell? ⟨gb367, 0, none⟩ = some (.string a0_0) := (blk_cell BK367.out 0).trans rfl; have hcz21_1 : w20.cell? ⟨gb367, 1, none⟩ = some (.int .i64 a0_1) := (blk_cell BK367.out 1).trans rfl; have hcz21_2 : w20.cell? ⟨gb367, 2, none⟩ = some (.bool a0_2) := (blk_cell BK367.out 2).trans rfl; have hfz21_0 := blk_frozen BK367.out 0; have hfz21_1 := blk_frozen BK367.out 1; have hfz21_2 := blk_frozen BK367.out 2) | ((with_reducible refine gate_callee (f := 42) rfl ?_); refine goesL_ (some 10) rfl rfl Tryz.func42 (by kernel_rfl) rfl #[.agg #[.string a0_0, .int .i64 a0_1, .bool a0_2]] rfl ap3 ?_; (with_reducible refine (attr_known.calls a0_0 a0_1 a0_2 true _ A3.out).mono ?_); rintro e w22 ⟨rfl, hb⟩; refine ⟨_, rfl, ?_⟩; have n0_ := Aside0.mk (blk_below (g := gb367) (o := .cells #[.string a0_0, .int .i64 a0_1, .bool a0_2] 23 (0, 0)) (apB BK367.out) hb); have n1_ := Aside0.mk (below_step (apG GE367.out) hb); clear BK367; clear HB; have BK367 := n0_; have HB := n1_; clear n0_ n1_; (try clear hb); (try clear hb2); (try clear hk); (try clear hi); have hcz23_0 : w22.cell? ⟨gb367, 0, none⟩ = some (.string a0_0) := (blk_cell BK367.out 0).trans rfl; have hcz23_1 : w22.cell? ⟨gb367, 1, none⟩ = some (.int .i64 a0_1) := (blk_cell BK367.out 1).trans rfl; have hcz23_2 : w22.cell? ⟨gb367, 2, none⟩ = some (.bool a0_2) := (blk_cell BK367.out 2).trans rfl; have hfz23_0 := blk_frozen BK367.out 0; have hfz23_1 := blk_frozen BK367.out 1; have hfz23_2 := blk_frozen BK367.out 2) | ((with_reducible refine gate_callee (f := 43) rfl ?_); refine goesL_ (some 22) rfl rfl Tryz.func43 (by kernel_rfl) rfl #[.agg #[.string a0_0, .int .i64 a0_1, .bool a0_2], .string a1] rfl ap3 ?_; (with_reducible refine (attr_form.calls k a0_0 a0_1 a0_2 a1 t369 false _ ?side1 A13.out).mono ?_); (case side1 => first | exact HG.out | (refine Gw.below HG.out ?_; repeat (first | (with_reducible first | exact HB.out | apply below_alloc | apply pw_below_drewN | apply below_drew1 | refine below_set ?_ GE367.out) | exact HB.out))); rintro e w24 ⟨rfl, hb⟩; refine ⟨_, rfl, ?_⟩; have n0_ := Aside0.mk (blk_below (g := gb367) (o := .cells #[.string a0_0, .int .i64 a0_1, .bool a0_2] 23 (0, 0)) (apB BK367.out) hb); have n1_ := Aside0.mk (below_step (apG GE367.out) hb); clear BK367; clear HB; have BK367 := n0_; have HB := n1_; clear n0_ n1_; (try clear hb); (try clear hb2); (try clear hk); (try clear hi)))
     go_ret2
     exact ⟨by first | rfl | (simp [errW_none, errW_some, bne_nil8, beq_nil8]; done) | (simp [errW_none, errW_some] <;> rfl) | (simp [*, errW_none, errW_some] <;> rfl), by repeat (first | (with_reducible first | exact HB.out | apply below_alloc | apply pw_below_drewN | apply below_drew1 | refine below_set ?_ GE367.out) | exact HB.out)⟩
 ·
  replace c4 := Bool.eq_false_iff.mpr c4
  subst c4
  rw [if_neg (show ¬ (false = true) by decide)] at H
  simp only [Option.some.injEq, Prod.mk.injEq] at H
  obtain ⟨rfl, rfl⟩ := H
  go_enter Tryz.func19, Tryz.ntmps19
  go_wp2_with (first | ((with_reducible refine gate_dst (N := 2) rfl ?_); refine box_event ?hg (N := 2) ?hd (cs := #[.string a0_0, .int .i64 a0_1, .bool a0_2]) (t := 23) ?hr ?_; (case hd => rfl); (case hg => rfl); (case hr => first | (go_simp; done) | (go_simp; rfl)); intro gb367 hg w25 hbox hb; have n0_ := Aside0.mk (below_step ap1 hb); have n1_ := Aside0.mk (hbox); have n2_ := Aside0.mk ((by rw [hg]; exact (below_size ap1) : w.heap.size ≤ gb367)); have n3_ := Aside0.mk ((by rw [hg]; exact (below_size ap1) : w.heap.size ≤ gb367)); clear HB; have HB := n0_; have BK367 := n1_; have GW367 := n2_; have GE367 := n3_; clear n0_ n1_ n2_ n3_; clear hb hbox hg; have hcz26_0 : w25.cell? ⟨gb367, 0, none⟩ = some (.string a0_0) := (blk_cell BK367.out 0).trans rfl; have hcz26_1 : w25.cell? ⟨gb367, 1, none⟩ = some (.int .i64 a0_1) := (blk_cell BK367.out 1).trans rfl; have hcz26_2 : w25.cell? ⟨gb367, 2, none⟩ = some (.bool a0_2) := (blk_cell BK367.out 2).trans rfl; have hfz26_0 := blk_frozen BK367.out 0; have hfz26_1 := blk_frozen BK367.out 1; have hfz26_2 := blk_frozen BK367.out 2) | ((with_reducible refine gate_callee (f := 42) rfl ?_); refine goesL_ (some 10) rfl rfl Tryz.func42 (by kernel_rfl) rfl #[.agg #[.string a0_0, .int .i64 a0_1, .bool a0_2]] rfl ap3 ?_; (with_reducible refine (attr_known.calls a0_0 a0_1 a0_2 false _ A3.out).mono ?_); rintro e w27 ⟨rfl, hb⟩; refine ⟨_, rfl, ?_⟩; have n0_ := Aside0.mk (blk_below (g := gb367) (o := .cells #[.string a0_0, .int .i64 a0_1, .bool a0_2] 23 (0, 0)) (apB BK367.out) hb); have n1_ := Aside0.mk (below_step (apG GE367.out) hb); clear BK367; clear HB; have BK367 := n0_; have HB := n1_; clear n0_ n1_; (try clear hb); (try clear hb2); (try clear hk); (try clear hi)))
  go_ret2
  exact ⟨by first | rfl | (simp [errW_none, errW_some, bne_nil8, beq_nil8]; done) | (simp [errW_none, errW_some] <;> rfl) | (simp [*, errW_none, errW_some] <;> rfl), by repeat (first | (with_reducible first | exact HB.out | apply below_alloc | apply pw_below_drewN | apply below_drew1 | refine below_set ?_ GE367.out) | exact HB.out)⟩
end Go.Proofs.YtpklcnpmppaaoaaGreatDoor.Print
namespace Go.Proofs.YtpklcnpmppaaoaaGreatDoor.Print
open Go.RowKit Go.Proofs.YtpklcnpmppaaoaaGreatDoorW.PrintWords Go.Proofs.YtpklcnpmppaaoaaGreatDoorW.PrintLast Go.Proofs.YtpklcnpmppaaoaaGreatDoorW.PrintMore Go.Proofs.YtpklcnpmppaaoaaGreatDoor.Pure
set_option linter.unusedVariables false
set_option linter.unusedSimpArgs false
theorem ext_take (s : ByteArray) (a b : Nat) : bl (s.extract a b) = ((bl s).drop a).take (b - a) := by
  show (s.extract a b).data.toList = _
  rw [ByteArray.data_extract, Array.toList_extract, List.extract_eq_take_drop]
theorem ext_from (s : ByteArray) (a : Nat) : bl (s.extract a s.size) = (bl s).drop a := by
  rw [ext_take]
  exact List.take_of_length_le (by rw [List.length_drop, bl_length]; omega)
theorem ext_to (s : ByteArray) (b : Nat) : bl (s.extract 0 b) = (bl s).take b := by rw [ext_take]; simp
theorem ba_ext {a b : ByteArray} (h : bl a = bl b) : a = b := ByteArray.ext (Array.toList_inj.1 h)
theorem mk_ext {a : ByteArray} {l : List UInt8} (h : bl a = l) : a = mkB l := ba_ext (by rw [h])
theorem tl_bl (s : ByteArray) : s.toList = bl s := Lib.toList_data s
def digs (l : List UInt8) : Bool := l.all fun c => decide (48 ≤ c.toNat ∧ c.toNat ≤ 57)
def digitsOf : List UInt8 → List UInt8
  | [] => []
  | c :: r => if c = 45 then r else c :: r
def numOk (l : List UInt8) : Bool := decide (l = [48]) || (decide (1 ≤ (digitsOf l).length ∧ (digitsOf l).length ≤ 18 ∧ (digitsOf l).head? ≠ some 48) && digs (digitsOf l))
theorem digitsOf_le (l : List UInt8) : (digitsOf l).length ≤ l.length := by
  cases l with
  | nil => simp [digitsOf]
  | cons c r => rw [digitsOf]; split <;> simp
theorem num_loop (s : ByteArray) (hs : s.size ≤ 1000000) : ∀ (m i : Nat), s.size - i = m → i ≤ s.size → Ev (fun k => attr_number.l0 k s (s.size : Int) (i : Int)) (digs ((bl s).drop i)) := by
  intro m
  induction m with
  | zero =>
    intro i hm hi
    rw [drop_end (by omega)]
    refine Ev.step (fun k => by rw [attr_number.l0]) ?_
    exact Ev.neg (by omega) Ev.rfl'
  | succ m ih =>
    intro i hm hi
    cases hr : (bl s).drop i with
    | nil => have := drop_nil hr; omega
    | cons c r =>
      obtain ⟨h1, h2, h3⟩ := drop_cons hr
      have hi2 := ih (i + 1) (by omega) (by omega)
      rw [h3] at hi2
      refine Ev.step (fun k => by rw [attr_number.l0]) ?_
      rw [h2, wsucc (p := i) (by omega)]
      refine Ev.pos (by omega) (Ev.pos (by omega) (Ev.pos (by omega) ?_))
      by_cases c1 : c.toNat < 48
      · refine Ev.pos (by omega) ?_
        rw [show digs (c :: r) = false by simp [digs]; intro h; omega]
        exact Ev.rfl'
      · refine Ev.neg (by omega) ?_
        by_cases c2 : 57 < c.toNat
        · refine Ev.pos (by omega) ?_
          rw [show digs (c :: r) = false by simp [digs]; intro h; omega]
          exact Ev.rfl'
        · refine Ev.neg (by omega) ?_
          rw [show digs (c :: r) = digs r by simp [digs]; omega]
          exact hi2
theorem trim_f (s : ByteArray) (hs : s.size ≤ 1000000) : strings_TrimPrefix.f s (⟨#[45]⟩ : ByteArray) = some (mkB (digitsOf (bl s))) := by
  have e1 : ((⟨#[45]⟩ : ByteArray).size : Int) = 1 := rfl
  have e2 : (⟨#[45]⟩ : ByteArray).toList = [45] := by rw [Lib.toList_data]
  have hl := bl_length s
  unfold strings_TrimPrefix.f stringslite_TrimPrefix.f stringslite_HasPrefix.f
  rw [e1, e2]
  cases hb : bl s with
  | nil =>
    rw [hb] at hl
    simp only [List.length_nil] at hl
    rw [if_neg (by omega), Option.bind_some, if_neg (by simp), Option.bind_some]
    exact congrArg some (mk_ext hb)
  | cons c r =>
    rw [hb] at hl
    simp only [List.length_cons] at hl
    rw [if_pos (by omega), if_pos (by omega), if_pos (by omega), Option.bind_some, tl_bl, ext_to, hb]
    by_cases h : c = 45
    · subst h
      rw [if_pos (by simp), if_pos (by omega), if_pos (by omega), Option.bind_some]
      refine congrArg some (mk_ext ?_)
      rw [ext_from, hb]; rfl
    · rw [if_neg (by simp [h]), Option.bind_some]
      refine congrArg some (mk_ext ?_)
      rw [hb, digitsOf, if_neg h]
theorem bt_zero {s : ByteArray} {c : UInt8} {r : List UInt8} (h : bl s = c :: r) : bt s 0 = (c.toNat : Int) := by
  have := (drop_cons (s := s) (p := 0) (c := c) (r := r) (by rw [List.drop_zero, h])).2.1
  simpa using this
theorem eq48 (c : UInt8) : ((c.toNat : Int) = 48) ↔ c = 48 := by
  rw [show (48 : Int) = ((48 : UInt8).toNat : Int) from rfl]; exact ieq c 48
theorem number_ev (s : ByteArray) (hs : s.size ≤ 1000000) : Ev (fun k => attr_number.f k s) (numOk (bl s)) := by
  unfold attr_number.f
  refine Ev.bindc (trim_f s hs) ?_
  have hsz : (mkB (digitsOf (bl s))).size = (digitsOf (bl s)).length := mkB_size _
  have hls : (digitsOf (bl s)).length ≤ 1000000 := by
    have := bl_length s
    have h2 := digitsOf_le (bl s)
    omega
  have hloop : Ev (fun k => attr_number.l0 k (mkB (digitsOf (bl s))) ((mkB (digitsOf (bl s))).size : Int) 0) (digs (digitsOf (bl s))) := num_loop (mkB (digitsOf (bl s))) (by omega) _ 0 rfl (by omega)
  have hout : ∀ {b : Bool}, b = true → numOk (bl s) = false → Ev (fun k => attr_number.j0 k (mkB (digitsOf (bl s))) b) (numOk (bl s)) := by
    intro b hb h
    rw [h]
    exact Ev.step (fun k => by rw [attr_number.j0]) (Ev.pos hb Ev.rfl')
  have hin : ∀ {b : Bool}, b = false → numOk (bl s) = digs (digitsOf (bl s)) → Ev (fun k => attr_number.j0 k (mkB (digitsOf (bl s))) b) (numOk (bl s)) := by
    intro b hb h
    rw [h]
    exact Ev.step (fun k => by rw [attr_number.j0]) (Ev.neg (by simp [hb]) hloop)
  rw [tl_bl, show bl (mkB (digitsOf (bl s))) = digitsOf (bl s) from rfl, tl_bl]
  by_cases h0 : digitsOf (bl s) = []
  · refine Ev.pos h0 (hout rfl ?_)
    unfold numOk
    rw [h0]
    have : ¬ bl s = [48] := by intro h; rw [h] at h0; simp [digitsOf] at h0
    simp [this]
  · refine Ev.neg h0 ?_
    obtain ⟨d, r, hd⟩ := List.exists_cons_of_ne_nil h0
    rw [hsz]
    by_cases h18 : 18 < (digitsOf (bl s)).length
    · refine Ev.pos (by omega) (hout rfl ?_)
      unfold numOk
      have : ¬ bl s = [48] := by intro h; rw [h] at h18; simp [digitsOf] at h18
      have h2 : ¬ (1 ≤ (digitsOf (bl s)).length ∧ (digitsOf (bl s)).length ≤ 18 ∧ (digitsOf (bl s)).head? ≠ some 48) := by omega
      rw [decide_eq_false this, decide_eq_false h2]; rfl
    · refine Ev.neg (by omega) (Ev.pos (by rw [hd, List.length_cons]; omega) ?_)
      rw [bt_zero (s := mkB (digitsOf (bl s))) (c := d) (r := r) hd]
      have h1 : 1 ≤ (digitsOf (bl s)).length := by rw [hd]; simp
      by_cases h48 : d = 48
      · refine Ev.pos ((eq48 d).2 h48) ?_
        by_cases hz : bl s = [48]
        · refine hin (by simp [hz]) ?_
          unfold numOk
          rw [hz]; rfl
        · refine hout (by simp [hz]) ?_
          unfold numOk
          have h2 : ¬ (1 ≤ (digitsOf (bl s)).length ∧ (digitsOf (bl s)).length ≤ 18 ∧ (digitsOf (bl s)).head? ≠ some 48) := by rw [hd, h48]; simp
          rw [decide_eq_false hz, decide_eq_false h2]; rfl
      · refine Ev.neg (fun h => h48 ((eq48 d).1 h)) (hin rfl ?_)
        unfold numOk
        have hz : ¬ bl s = [48] := by
          intro h
          rw [h] at hd
          simp [digitsOf] at hd
          exact h48 hd.1.symm
        have h2 : 1 ≤ (digitsOf (bl s)).length ∧ (digitsOf (bl s)).length ≤ 18 ∧ (digitsOf (bl s)).head? ≠ some 48 := ⟨h1, by omega, by rw [hd]; simpa using h48⟩
        rw [decide_eq_false hz, decide_eq_true h2]; simp
theorem tupV_len (a : AvaS) : (tupV a).size ≤ 4096 := tupB_len _
end Go.Proofs.YtpklcnpmppaaoaaGreatDoor.Print
namespace Go.Proofs.YtpklcnpmppaaoaaGreatDoor.Print
open Go.RowKit Go.Proofs.YtpklcnpmppaaoaaGreatDoorW.PrintWords Go.Proofs.YtpklcnpmppaaoaaGreatDoorW.PrintLast Go.Proofs.YtpklcnpmppaaoaaGreatDoorW.PrintMore
attribute [local go_sem] max2_int min2_int max_two min_two max_three min_three max_four min_four
set_option linter.unusedVariables false
set_option linter.unusedSimpArgs false
def attr_piece.f (k : Nat) (a0_0 : ByteArray) (a0_1 : Int) (a0_2 : Bool) (a1 : ByteArray) : Option (ByteArray × Int) := if a0_1 = 7 then ((prep_Phone.f k a1).bind fun bt427 => (some (bt427.1, bt427.2))) else ((prep_Map.f a1 (a0_1 == 1)).bind fun bt429 => (some (bt429.1, bt429.2)))
theorem attr_piece.mono : ∀ a0 a1 a2 a3 k, LeO (attr_piece.f k a0 a1 a2 a3) (attr_piece.f (k + 1) a0 a1 a2 a3) := by
 intro a0 a1 a2 a3 k
 unfold attr_piece.f
 repeat' first
   | (with_reducible exact prep_Phone.mono _ _)
   | (with_reducible exact LeO.refl _)
   | (with_reducible exact LeO.none _)
   | (with_reducible refine LeO.ite ?_ ?_)
   | (with_reducible refine LeO.bind ?_ (fun _ => ?_))
set_option maxHeartbeats 8000000 in
set_option maxRecDepth 100000 in
theorem attr_piece.calls (k : Nat) (a0_0 : ByteArray) (a0_1 : Int) (a0_2 : Bool) (a1 : ByteArray) (r1 : ByteArray) (r2 : Int) (w : World) (hG : Gw w) (h : attr_piece.f k a0_0 a0_1 a0_2 a1 = some (r1, r2)) :
  Calls Tryz.prog 33 #[.agg #[.string a0_0, .int .i64 a0_1, .bool a0_2], .string a1] w fun e w' => e = .returned (.tuple #[.string r1, .int .i64 r2]) ∧ Below w.heap.size w w' := by
 have hu23 := Tryz.underlying23
 have HB := Aside0.mk (Below.refl w.heap.size w)
 have HG := Aside0.mk hG
 clear hG
 have H : (if a0_1 = 7 then ((prep_Phone.f k a1).bind fun bt427 => (some (bt427.1, bt427.2))) else ((prep_Map.f a1 (a0_1 == 1)).bind fun bt429 => (some (bt429.1, bt429.2)))) = some (r1, r2) := h
 clear h
 by_cases c3 : a0_1 = 7
 ·
  rw [if_pos c3] at H
  have c3b0 : (a0_1 == 7) = true := beq_iff_eq.mpr c3
  have c3b1 : (a0_1 != 7) = false := bne_eq_false_iff_eq.mpr c3
  clear c3
  replace H := Option.bind_eq_some_iff.mp H
  obtain ⟨⟨t427, t428⟩, A40, H⟩ := H
  replace H : (some (t427, t428)) = some (r1, r2) := H
  have A4 := Aside0.mk A40
  clear A40
  simp only [Option.some.injEq, Prod.mk.injEq] at H
  obtain ⟨rfl, rfl⟩ := H
  go_enter Tryz.func33, Tryz.ntmps33
  go_wp2_with (first | ((with_reducible refine gate_dst (N := 2) rfl ?_); refine box_event ?hg (N := 2) ?hd (cs := #[.string a0_0, .int .i64 a0_1, .bool a0_2]) (t := 23) ?hr ?_; (case hd => rfl); (case hg => rfl); (case hr => first | (go_simp; done) | (go_simp; rfl)); intro gb426 hg w5 hbox hb; have n0_ := Aside0.mk (below_step ap1 hb); have n1_ := Aside0.mk (hbox); have n2_ := Aside0.mk ((by rw [hg]; exact (below_size ap1) : w.heap.size ≤ gb426)); have n3_ := Aside0.mk ((by rw [hg]; exact (below_size ap1) : w.heap.size ≤ gb426)); clear HB; have HB := n0_; have BK426 := n1_; have GW426 := n2_; have GE426 := n3_; clear n0_ n1_ n2_ n3_; clear hb hbox hg; have hcz6_0 : w5.cell? ⟨gb426, 0, none⟩ = some (.string a0_0) := (blk_cell BK426.out 0).trans rfl; have hcz6_1 : w5.cell? ⟨gb426, 1, none⟩ = some (.int .i64 a0_1) := (blk_cell BK426.out 1).trans rfl; have hcz6_2 : w5.cell? ⟨gb426, 2, none⟩ = some (.bool a0_2) := (blk_cell BK426.out 2).trans rfl; have hfz6_0 := blk_frozen BK426.out 0; have hfz6_1 := blk_frozen BK426.out 1; have hfz6_2 := blk_frozen BK426.out 2) | ((with_reducible refine gate_callee (f := 56) rfl ?_); refine goesL_ (some 10) rfl rfl Tryz.func56 (by kernel_rfl) rfl #[.string a1] rfl ap3 ?_; (with_reducible refine (prep_Phone.calls k a1 t427 t428 _ ?side1 A4.out).mono ?_); (case side1 => first | exact HG.out | (refine Gw.below HG.out ?_; repeat (first | (with_reducible first | exact HB.out | apply below_alloc | apply pw_below_drewN | apply below_drew1 | refine below_set ?_ GE426.out) | exact HB.out))); rintro e w7 ⟨rfl, hb⟩; refine ⟨_, rfl, ?_⟩; have n0_ := Aside0.mk (blk_below (g := gb426) (o := .cells #[.string a0_0, .int .i64 a0_1, .bool a0_2] 23 (0, 0)) (apB BK426.out) hb); have n1_ := Aside0.mk (below_step (apG GE426.out) hb); clear BK426; clear HB; have BK426 := n0_; have HB := n1_; clear n0_ n1_; (try clear hb); (try clear hb2); (try clear hk); (try clear hi)))
  go_ret2
  exact ⟨by first | rfl | (simp [errW_none, errW_some, bne_nil8, beq_nil8]; done) | (simp [errW_none, errW_some] <;> rfl) | (simp [*, errW_none, errW_some] <;> rfl), by repeat (first | (with_reducible first | exact HB.out | apply below_alloc | apply pw_below_drewN | apply below_drew1 | refine below_set ?_ GE426.out) | exact HB.out)⟩
 ·
  rw [if_neg c3] at H
  have c3b0 : (a0_1 == 7) = false := beq_eq_false_iff_ne.mpr c3
  have c3b1 : (a0_1 != 7) = true := bne_iff_ne.mpr c3
  replace H := Option.bind_eq_some_iff.mp H
  obtain ⟨⟨t429, t430⟩, A80, H⟩ := H
  replace H : (some (t429, t430)) = some (r1, r2) := H
  have A8 := Aside0.mk A80
  clear A80
  simp only [Option.some.injEq, Prod.mk.injEq] at H
  obtain ⟨rfl, rfl⟩ := H
  go_enter Tryz.func33, Tryz.ntmps33
  go_wp2_with (first | ((with_reducible refine gate_dst (N := 2) rfl ?_); refine box_event ?hg (N := 2) ?hd (cs := #[.string a0_0, .int .i64 a0_1, .bool a0_2]) (t := 23) ?hr ?_; (case hd => rfl); (case hg => rfl); (case hr => first | (go_simp; done) | (go_simp; rfl)); intro gb426 hg w9 hbox hb; have n0_ := Aside0.mk (below_step ap1 hb); have n1_ := Aside0.mk (hbox); have n2_ := Aside0.mk ((by rw [hg]; exact (below_size ap1) : w.heap.size ≤ gb426)); have n3_ := Aside0.mk ((by rw [hg]; exact (below_size ap1) : w.heap.size ≤ gb426)); clear HB; have HB := n0_; have BK426 := n1_; have GW426 := n2_; have GE426 := n3_; clear n0_ n1_ n2_ n3_; clear hb hbox hg; have hcz10_0 : w9.cell? ⟨gb426, 0, none⟩ = some (.string a0_0) := (blk_cell BK426.out 0).trans rfl; have hcz10_1 : w9.cell? ⟨gb426, 1, none⟩ = some (.int .i64 a0_1) := (blk_cell BK426.out 1).trans rfl; have hcz10_2 : w9.cell? ⟨gb426, 2, none⟩ = some (.bool a0_2) := (blk_cell BK426.out 2).trans rfl; have hfz10_0 := blk_frozen BK426.out 0; have hfz10_1 := blk_frozen BK426.out 1; have hfz10_2 := blk_frozen BK426.out 2) | ((with_reducible refine gate_callee (f := 57) rfl ?_); refine goesL_ (some 17) rfl rfl Tryz.func57 (by kernel_rfl) rfl #[.string a1, .bool (a0_1 == 1)] rfl ap3 ?_; (with_reducible refine (prep_Map.calls a1 (a0_1 == 1) t429 t430 _ A8.out).mono ?_); rintro e w11 ⟨rfl, hb⟩; refine ⟨_, rfl, ?_⟩; have n0_ := Aside0.mk (blk_below (g := gb426) (o := .cells #[.string a0_0, .int .i64 a0_1, .bool a0_2] 23 (0, 0)) (apB BK426.out) hb); have n1_ := Aside0.mk (below_step (apG GE426.out) hb); clear BK426; clear HB; have BK426 := n0_; have HB := n1_; clear n0_ n1_; (try clear hb); (try clear hb2); (try clear hk); (try clear hi)))
  go_ret2
  exact ⟨by first | rfl | (simp [errW_none, errW_some, bne_nil8, beq_nil8]; done) | (simp [errW_none, errW_some] <;> rfl) | (simp [*, errW_none, errW_some] <;> rfl), by repeat (first | (with_reducible first | exact HB.out | apply below_alloc | apply pw_below_drewN | apply below_drew1 | refine below_set ?_ GE426.out) | exact HB.out)⟩
end Go.Proofs.YtpklcnpmppaaoaaGreatDoor.Print
namespace Go.Proofs.YtpklcnpmppaaoaaGreatDoor.Print
open Go.RowKit Go.Proofs.YtpklcnpmppaaoaaGreatDoorW.PrintWords Go.Proofs.YtpklcnpmppaaoaaGreatDoorW.PrintLast Go.Proofs.YtpklcnpmppaaoaaGreatDoorW.PrintMore Go.Proofs.YtpklcnpmppaaoaaGreatDoor.Pure
set_option linter.unusedVariables false
set_option linter.unusedSimpArgs false
theorem enc_is (z : UInt8) (hz : z.toNat < 128) : Lib.encodeRune (z.toNat : Int) = [z] := by
  unfold Lib.encodeRune
  rw [Lib.encodeRuneZ_one (by omega) (by omega)]
  simp only [List.map_cons, List.map_nil, Int.toNat_natCast]
  congr 1
  apply UInt8.toNat_inj.1
  rw [u8s _ (by omega)]
theorem enc_low (z : UInt8) (hz : z.toNat < 128) (r : Int) (h : r ≠ (z.toNat : Int)) : ∀ c ∈ Lib.encodeRune r, c ≠ z := by
  by_cases h1 : 0 ≤ r ∧ r ≤ 127
  · unfold Lib.encodeRune
    rw [Lib.encodeRuneZ_one h1.1 h1.2]
    intro c hc
    simp only [List.map_cons, List.map_nil, List.mem_singleton] at hc
    subst hc
    intro h2
    have := congrArg UInt8.toNat h2
    rw [u8s _ (by omega)] at this
    omega
  · have hall : ∀ q : List Int, (∀ x ∈ q, 128 ≤ x ∧ x < 256) → ∀ c ∈ q.map (fun x => x.toNat.toUInt8), c ≠ z := by
      intro q hq c hc h2
      obtain ⟨x, hx, rfl⟩ := List.mem_map.1 hc
      have := hq x hx
      have h3 := congrArg UInt8.toNat h2
      rw [u8s _ (by omega)] at h3
      omega
    unfold Lib.encodeRune
    by_cases h2 : 128 ≤ r ∧ r ≤ 2047
    · rw [Lib.encodeRuneZ_two h2.1 h2.2]
      exact hall _ (by simp; omega)
    by_cases h3 : (2048 ≤ r ∧ r < 55296) ∨ (57343 < r ∧ r ≤ 65535)
    · rw [Lib.encodeRuneZ_three h3]
      exact hall _ (by simp; omega)
    by_cases h4 : 65536 ≤ r ∧ r ≤ 1114111
    · rw [Lib.encodeRuneZ_four h4.1 h4.2]
      exact hall _ (by simp; omega)
    · rw [Lib.encodeRuneZ_bad (by omega)]
      exact hall _ (by simp)
theorem swapZ_nil (z : UInt8) : ∀ l : List UInt8, swapZ z [] l = l.filter (· != z)
  | [] => rfl
  | c :: l => by
    have ih := swapZ_nil z l
    show (if c = z then [] else [c]) ++ swapZ z [] l = _
    rw [ih]
    by_cases h : c = z
    · simp [h]
    · simp [h]
theorem filt_enc (z : UInt8) (hz : z.toNat < 128) : ∀ l : List Int, (encAll l).filter (· != z) = encAll (l.filter (· != (z.toNat : Int)))
  | [] => rfl
  | r :: l => by
    have ih := filt_enc z hz l
    rw [encAll_cons, List.filter_append, ih]
    by_cases h : r = (z.toNat : Int)
    · subst h
      rw [enc_is z hz, List.filter_cons_of_neg (by simp), List.filter_cons_of_neg (by simp)]; rfl
    · rw [List.filter_cons_of_pos (by simpa using h), encAll_cons]
      congr 1
      exact List.filter_eq_self.2 fun c hc => by simpa using enc_low z hz r h c hc
theorem nb_filter (l : List Int) : ∀ b, (sq l b).filter (· != 32) = l.filter (· != 32) := by
  induction l with
  | nil => intro b; rfl
  | cons x r ih =>
    intro b
    rw [sq]
    split
    · rename_i h
      rw [List.filter_cons, List.filter_cons, ih]
    · rename_i h
      rw [ih]
      have hx : x = 32 := by
        by_cases h2 : x = 32
        · exact h2
        · exact absurd (Or.inl h2) h
      rw [List.filter_cons_of_neg (by simp [hx])]
def phoneL (m : List Int) : List Int := (m.filter (· != 32)).filter (· != 45)
def phoneOf (s : ByteArray) : Option (List UInt8) := (runesN s s.size 0).map fun l => encAll (phoneL (l.filterMap (mapRune true)))
def ansOf : Option (List UInt8) → ByteArray × Int
  | some t => (mkB t, 0)
  | none => (⟨#[]⟩, 19)
theorem repl_f (z : UInt8) (L : List UInt8) (h : L.length ≤ 1000000) : strings_ReplaceAll.f (mkB L) (⟨#[z]⟩ : ByteArray) (⟨#[]⟩ : ByteArray) = some (mkB (L.filter (· != z))) := by
  unfold strings_ReplaceAll.f
  rw [if_pos (by rw [mkB_size]; exact h), if_pos (show 1 ≤ (⟨#[z]⟩ : ByteArray).size from Nat.le_refl _), if_pos (show (⟨#[]⟩ : ByteArray).size ≤ 1000 by decide)]
  have : Lib.replaceAll (mkB L).data.toList (⟨#[z]⟩ : ByteArray).data.toList (⟨#[]⟩ : ByteArray).data.toList = swapZ z [] L := replaceAll_z z [] _ (by simp)
  rw [this, swapZ_nil]
theorem phone_ev (s : ByteArray) (hs : s.size ≤ 100000) : Ev (fun k => prep_Phone.f k s) (ansOf (phoneOf s)) := by
  unfold prep_Phone.f
  have hr := ready_ev s hs true
  unfold phoneOf
  unfold readyOf at hr
  cases h : runesN s s.size 0 with
  | none =>
    rw [h] at hr
    exact Ev.bind hr (Ev.neg (show ¬ ((19 : Int) = 0) by decide) Ev.rfl')
  | some l =>
    rw [h] at hr
    simp only [Option.map_some] at hr
    obtain ⟨_, hll⟩ := runesN_le s _ _ l h
    have hfl : (l.filterMap (mapRune true)).length ≤ s.size := Nat.le_trans (List.length_filterMap_le _ _) hll
    have hsl := sq_len (l.filterMap (mapRune true)) false
    have hel := encAll_length (sq (l.filterMap (mapRune true)) false)
    refine Ev.bind hr (Ev.pos (show (0 : Int) = 0 from rfl) (Ev.bindc (repl_f 32 _ (by omega)) (Ev.bindc (repl_f 45 _ ?_) ?_)))
    · have := List.length_filter_le (fun x : UInt8 => x != 32) (encAll (sq (l.filterMap (mapRune true)) false))
      omega
    · have e1 := filt_enc 32 (by decide) (sq (l.filterMap (mapRune true)) false)
      have e2 := filt_enc 45 (by decide) ((sq (l.filterMap (mapRune true)) false).filter (· != 32))
      have e3 := nb_filter (l.filterMap (mapRune true)) false
      refine Ev.const fun k => ?_
      show some (mkB _, 0) = some (mkB _, 0)
      rw [e1]
      rw [show ((32 : UInt8).toNat : Int) = 32 from rfl, show ((45 : UInt8).toNat : Int) = 45 from rfl] at *
      rw [e2, e3]; rfl
theorem mapped_ok {s : ByteArray} {l : List Int} (h : runesN s s.size 0 = some l) (fold : Bool) : (l.filterMap (mapRune fold)).length ≤ s.size ∧ ∀ r ∈ l.filterMap (mapRune fold), okRune r := by
  obtain ⟨_, hll⟩ := runesN_le s _ _ l h
  refine ⟨Nat.le_trans (List.length_filterMap_le _ _) hll, ?_⟩
  intro r hr'
  obtain ⟨x, hx, hx2⟩ := List.mem_filterMap.1 hr'
  exact mapRune_ok (runesN_ok s _ _ l h x hx) hx2
def mapOf (fold : Bool) (s : ByteArray) : Option (List UInt8) := (runesN s s.size 0).map fun l => encAll (l.filterMap (mapRune fold))
theorem map_f (s : ByteArray) (hs : s.size ≤ 100000) (fold : Bool) : prep_Map.f s fold = some (ansOf (mapOf fold s)) := by
  unfold prep_Map.f
  rw [if_pos (by omega)]
  unfold mapOf
  cases runesN s s.size 0 <;> rfl
def pieceOf (t : Int) (s : ByteArray) : ByteArray × Int := if t = 7 then ansOf (phoneOf s) else ansOf (mapOf (t == 1) s)
theorem piece_ev (n : ByteArray) (t : Int) (b : Bool) (s : ByteArray) (hs : s.size ≤ 100000) : Ev (fun k => attr_piece.f k n t b s) (pieceOf t s) := by
  unfold attr_piece.f pieceOf
  by_cases h : t = 7
  · rw [if_pos h]; exact Ev.pos h (Ev.bind (phone_ev s hs) Ev.rfl')
  · rw [if_neg h]; exact Ev.neg h (Ev.bindc (map_f s hs _) Ev.rfl')
end Go.Proofs.YtpklcnpmppaaoaaGreatDoor.Print
namespace Go.Proofs.YtpklcnpmppaaoaaGreatDoor.Print
open Go.RowKit Go.Proofs.YtpklcnpmppaaoaaGreatDoorW.PrintWords Go.Proofs.YtpklcnpmppaaoaaGreatDoorW.PrintLast Go.Proofs.YtpklcnpmppaaoaaGreatDoorW.PrintMore
attribute [local go_sem] max2_int min2_int max_two min_two max_three min_three max_four min_four
set_option linter.unusedVariables false
set_option linter.unusedSimpArgs false
def attr_both.f (k : Nat) (a0_0 : ByteArray) (a0_1 : Int) (a0_2 : Bool) (a1 : ByteArray) (a2 : ByteArray) : Option (ByteArray × ByteArray × Int) := (attr_Normal.f k a0_0 a0_1 a0_2 a1).bind fun bt372 => (if bt372.2 = 0 then ((attr_Normal.f k a0_0 a0_1 a0_2 a2).bind fun bt374 => (if bt374.2 = 0 then (some (bt372.1, bt374.1, 0)) else (some ((⟨#[]⟩ : ByteArray), (⟨#[]⟩ : ByteArray), bt374.2)))) else (some ((⟨#[]⟩ : ByteArray), (⟨#[]⟩ : ByteArray), bt372.2)))
theorem attr_both.mono : ∀ a0 a1 a2 a3 a4 k, LeO (attr_both.f k a0 a1 a2 a3 a4) (attr_both.f (k + 1) a0 a1 a2 a3 a4) := by
 intro a0 a1 a2 a3 a4 k
 unfold attr_both.f
 repeat' first
   | (with_reducible exact attr_Normal.mono _ _ _ _ _)
   | (with_reducible exact LeO.refl _)
   | (with_reducible exact LeO.none _)
   | (with_reducible refine LeO.ite ?_ ?_)
   | (with_reducible refine LeO.bind ?_ (fun _ => ?_))
end Go.Proofs.YtpklcnpmppaaoaaGreatDoor.Print
