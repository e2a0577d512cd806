-- laid together by pack.py (a program of this session)
import Derived.Test.YtkklacijhmoopaaDoorADnParses2
namespace Go.Proofs.YtkklacijhmoopaaDoor.Print
open Go.RowKit Go.Proofs.YtkklacijhmoopaaDoorW.PrintWords Go.Proofs.YtkklacijhmoopaaDoorW.PrintLast Go.Proofs.YtkklacijhmoopaaDoorW.PrintMore
attribute [local go_sem] max2_int min2_int max_two min_two max_three min_three max_four min_four
set_option linter.unusedVariables false
set_option linter.unusedSimpArgs false
set_option maxHeartbeats 8000000 in
set_option maxRecDepth 100000 in
theorem R13Mapped.calls (k : Nat) (a0 : ByteArray) (a1 : Bool) (r1 : List Int) (r2 : Int) (w : World) (h : R13Mapped.f k a0 a1 = some (r1, r2)) :
  Calls Tryd.prog 113 #[.string a0, .bool a1] w fun e w' => ∃ v0_ : Value, e = .returned (.tuple #[v0_, .int .i64 r2]) ∧ Kd.R (Kd.int .i32) 21 w' w.heap.size (fun _ => True) v0_ r1 ∧ Below w.heap.size w w' := by
 have HB := Aside0.mk (Below.refl w.heap.size w)
 have H : ((R13Runes.f k a0).bind fun bt368 => (R13Mapped.l0 k a1 bt368.1 bt368.2 (([] : List Int)) 0)) = some (r1, r2) := h
 clear h
 replace H := Option.bind_eq_some_iff.mp H
 obtain ⟨⟨t368, t369⟩, A30, H⟩ := H
 replace H : (R13Mapped.l0 k a1 t368 t369 (([] : List Int)) 0) = some (r1, r2) := H
 have A3 := Aside0.mk A30
 clear A30
 obtain ⟨y372, hy372⟩ : ∃ y_ : List Int, y_ = (([] : List Int)) := ⟨_, rfl⟩
 replace H : (R13Mapped.l0 k a1 t368 t369 y372 0) = some (r1, r2) := by first | (rw [hy372]; with_reducible exact H) | (have H2_ := (Option.bind_some _ _).symm.trans H; rw [hy372]; with_reducible exact H2_) | (have H2_ := (Option.bind_some _ _).symm.trans H; with_reducible exact H2_) | with_reducible exact H | (rw [hy372]; exact H) | exact H
 have Ny372 := Aside0.mk hy372
 clear hy372
 have H' := Aside0.mk H
 clear H
 go_enter Tryd.func113, Tryd.ntmps113
 go_wp2_with (first | ((with_reducible refine gate_callee (f := 130) rfl ?_); refine goesL_ (some 13) rfl rfl Tryd.func130 (by kernel_rfl) rfl #[.string a0] rfl ap3 ?_; (with_reducible refine (R13Runes.calls k a0 t368 t369 _ A3.out).mono ?_); rintro e w4 ⟨v370, rfl, ho0, hb⟩; refine ⟨_, rfl, ?_⟩; have n0_ := Aside0.mk (Kd.R_lower ho0 (below_size ap1)); have n1_ := Aside0.mk (below_step ap1 hb); clear HB; have HO371 := n0_; have HB := n1_; clear n0_ n1_; (try clear hb); (try clear hb2); (try clear hk); (try clear hi); (try clear ho0)) | ((with_reducible refine gate_dst (N := 16) rfl ?_); refine Kd.R_lit (Kd.int .i32) _ 21 ?hg (N := 16) ?hd (xs := ([] : List Int)) (inner := []) (ok := fun _ => True) (okp := fun _ => True) ?hr ?hp (fun _ hk => hk) trivial (Below.refl _ _) (Nat.le_refl _) (by simp) ?_; (case hd => rfl); (case hg => rfl); (case hr => first | (go_simp; done) | (go_simp; rfl)); (case hp => exact (Reps.none _ _)); intro v373 w5 ho6 hb hg_ hnew_; clear hg_ hnew_; (first | rw [← Ny372.out] at ho6 | (simp only [Int.reduceToNat] at ho6; rw [← Ny372.out] at ho6)); have n0_ := Aside0.mk (Kd.R_elder' (apAR HO371.out) (Kd.R_base ho6) hb); have n1_ := Aside0.mk (Kd.R_lower (Kd.R_new' ho6 (Kd.R_lt (apAR HO371.out))) (below_size ap1)); have n2_ := Aside0.mk (below_step ap1 hb); clear HO371; clear HB; have HO371 := n0_; have HO374 := n1_; have HB := n2_; clear n0_ n1_ n2_; clear hb ho6))
 go_loopg [8, 9] k (fun kq v8 v9 w' => ∃ (x8_1 : List Int) (x9_1 : Int), v9 = .int .i64 x9_1 ∧ Aside0 (R13Mapped.l0 kq a1 t368 t369 x8_1 x9_1 = some (r1, r2)) ∧ Aside0 (kq ≤ k) ∧ Aside0 (Kd.R (Kd.int .i32) 21 w' w.heap.size (fun k_ => some k_ ≠ (v8 : Value).ownBlock) v370 t368) ∧ Aside0 (Kd.R (Kd.int .i32) 21 w' w.heap.size (fun k_ => some k_ ≠ (v370 : Value).ownBlock) v8 x8_1) ∧ Aside0 (Below w.heap.size w w'))
 case atStart => exact ⟨(y372), (0), ap2, H', ⟨Nat.le_refl _⟩, ⟨by (with_reducible repeat (first | apply Kd.R_alloc | apply Kd.R_drewN | apply Kd.R_drew)); exact Kd.R_mono HO371.out (fun _ hk => hk.2)⟩, ⟨by (with_reducible repeat (first | apply Kd.R_alloc | apply Kd.R_drewN | apply Kd.R_drew)); exact Kd.R_mono HO374.out (fun _ hk => hk.2)⟩, ⟨by repeat (first | (with_reducible first | exact HB.out | apply below_alloc | apply pw_below_drewN | apply below_drew1) | exact HB.out)⟩⟩
 case round =>
  clear H'
  try clear c1
  try clear p2
  obtain ⟨x8_1, x9_1, rfl, HA, HK1, HO_6, HO_8, HB⟩ := hrel
  cases gk with
  | zero => exact absurd HA.out (by simp [R13Mapped.l0])
  | succ k1 =>
   have H := HA.out
   clear HA
   simp only [R13Mapped.l0] at H
   by_cases c7 : x9_1 < (t368.length : Int)
   ·
    rw [if_pos c7] at H
    have c7b0 := decide_eq_true c7
    clear c7
    by_cases c8 : 0 ≤ x9_1
    ·
     rw [if_pos c8] at H
     have c8b0 := decide_eq_true c8
     clear c8
     replace H := Option.bind_eq_some_iff.mp H
     obtain ⟨t376, A90, H⟩ := H
     replace H : (if t376 = true then (R13Mapped.l0 k1 a1 t368 t369 x8_1 (wrap64 (x9_1 + 1))) else ((R13Blank.f (rd t368 x9_1)).bind fun t377 => (if t377 = true then (if x8_1.length < 35184372088832 then (R13Mapped.l0 k1 a1 t368 t369 (x8_1 ++ [32]) (wrap64 (x9_1 + 1))) else (none)) else (if a1 = true then ((R13Small.f k1 (rd t368 x9_1)).bind fun t381 => (if x8_1.length < 35184372088832 then (R13Mapped.l0 k1 a1 t368 t369 (x8_1 ++ [t381]) (wrap64 (x9_1 + 1))) else (none))) else (if x8_1.length < 35184372088832 then (R13Mapped.l0 k1 a1 t368 t369 (x8_1 ++ [rd t368 x9_1]) (wrap64 (x9_1 + 1))) else (none)))))) = some (r1, r2) := H
     have A9 := Aside0.mk A90
     clear A90
     by_cases c10 : t376 = true
     ·
      subst c10
      rw [if_pos rfl] at H
      have H' := Aside0.mk H
      clear H
      obtain ⟨Ao11, co11, eo11⟩ := Kd.R_slice HO_6.out
      subst eo11
      have p375 : 0 ≤ (x9_1 : Int) := of_decide_eq_true ap0
      have q375 : x9_1 < (t368.length : Int) := of_decide_eq_true ap0
      obtain ⟨ad375, e375, hx375_0⟩ := Kd.at_int (Kd.R_reads' HO_6.out).2.2 x9_1 p375 q375
      cases e375
      replace p375 := eq_true p375
      replace q375 := eq_true q375
      go_wp2_with (first | ((with_reducible refine gate_callee (f := 131) rfl ?_); refine goesL_ (some 28) rfl rfl Tryd.func131 (by kernel_rfl) rfl #[.int .i32 (rd t368 x9_1)] rfl ap3 ?_; (with_reducible refine (R13Dropped.calls (rd t368 x9_1) true _ A9.out).mono ?_); rintro e w' ⟨rfl, ⟨nd, rfl⟩⟩; refine ⟨_, rfl, ?_⟩))
      go_roundg k1
      case measure => have := HK1.out; omega
      case rel => exact ⟨(x8_1), (wrap64 (x9_1 + 1)), ap2, H', ⟨by have := HK1.out; omega⟩, ⟨by (with_reducible repeat (first | apply Kd.R_alloc | apply Kd.R_drewN | apply Kd.R_drew)); exact HO_6.out⟩, ⟨by (with_reducible repeat (first | apply Kd.R_alloc | apply Kd.R_drewN | apply Kd.R_drew)); exact HO_8.out⟩, ⟨by repeat (first | (with_reducible first | exact HB.out | apply below_alloc | apply pw_below_drewN | apply below_drew1) | exact HB.out)⟩⟩
     ·
      replace c10 := Bool.eq_false_iff.mpr c10
      subst c10
      rw [if_neg (show ¬ (false = true) by decide)] at H
      replace H := Option.bind_eq_some_iff.mp H
      obtain ⟨t377, A120, H⟩ := H
      replace H : (if t377 = true then (if x8_1.length < 35184372088832 then (R13Mapped.l0 k1 a1 t368 t369 (x8_1 ++ [32]) (wrap64 (x9_1 + 1))) else (none)) else (if a1 = true then ((R13Small.f k1 (rd t368 x9_1)).bind fun t381 => (if x8_1.length < 35184372088832 then (R13Mapped.l0 k1 a1 t368 t369 (x8_1 ++ [t381]) (wrap64 (x9_1 + 1))) else (none))) else (if x8_1.length < 35184372088832 then (R13Mapped.l0 k1 a1 t368 t369 (x8_1 ++ [rd t368 x9_1]) (wrap64 (x9_1 + 1))) else (none)))) = some (r1, r2) := H
      have A12 := Aside0.mk A120
      clear A120
      by_cases c13 : t377 = true
      ·
       subst c13
       rw [if_pos rfl] at H
       by_cases c14 : x8_1.length < 35184372088832
       ·
        rw [if_pos c14] at H
        have LMc14 := Aside0.mk c14
        clear c14
        obtain ⟨y378, hy378⟩ : ∃ y_ : List Int, y_ = (x8_1 ++ [32]) := ⟨_, rfl⟩
        replace H : (R13Mapped.l0 k1 a1 t368 t369 y378 (wrap64 (x9_1 + 1))) = some (r1, r2) := by first | (rw [hy378]; with_reducible exact H) | (have H2_ := (Option.bind_some _ _).symm.trans H; rw [hy378]; with_reducible exact H2_) | (have H2_ := (Option.bind_some _ _).symm.trans H; with_reducible exact H2_) | with_reducible exact H | (rw [hy378]; exact H) | exact H
        have Ny378 := Aside0.mk hy378
        clear hy378
        have H' := Aside0.mk H
        clear H
        obtain ⟨Ao15, co15, eo15⟩ := Kd.R_slice HO_6.out
        subst eo15
        have p375 : 0 ≤ (x9_1 : Int) := of_decide_eq_true ap0
        have q375 : x9_1 < (t368.length : Int) := of_decide_eq_true ap0
        obtain ⟨ad375, e375, hx375_0⟩ := Kd.at_int (Kd.R_reads' HO_6.out).2.2 x9_1 p375 q375
        cases e375
        replace p375 := eq_true p375
        replace q375 := eq_true q375
        go_wp2_with (first | ((with_reducible refine gate_callee (f := 131) rfl ?_); refine goesL_ (some 28) rfl rfl Tryd.func131 (by kernel_rfl) rfl #[.int .i32 (rd t368 x9_1)] rfl ap3 ?_; (with_reducible refine (R13Dropped.calls (rd t368 x9_1) false _ A9.out).mono ?_); rintro e w' ⟨rfl, ⟨nd, rfl⟩⟩; refine ⟨_, rfl, ?_⟩) | ((with_reducible refine gate_callee (f := 132) rfl ?_); refine goesL_ (some 30) rfl rfl Tryd.func132 (by kernel_rfl) rfl #[.int .i32 (rd t368 x9_1)] rfl ap3 ?_; (with_reducible refine (R13Blank.calls (rd t368 x9_1) true _ A12.out).mono ?_); rintro e w' ⟨rfl, ⟨nd, rfl⟩⟩; refine ⟨_, rfl, ?_⟩) | ((with_reducible refine gate_builtin (b := .append) (xs := #[.tmp 34, .tmp 36]) rfl ?_); at_builtin; refine Kd.R_append (Kd.int .i32) (w0 := w) w.heap.size rfl (.tmp 34) (.tmp 36) 129 21 (.int .i32 0) 4 rfl Tryd.underlying129 info21 rfl (by decide) (by omega) u8 x8_1 32 [.int .i32 32] (fun k_ => some k_ ≠ (.slice (some ad375) t368.length co15 : Value).ownBlock) (fun _ => False) rfl rfl ?aP (fun _ hk => hk.elim) ?aF ?aO ?aB ?aS ?aL ?_; (case aP => exact rfl); (case aB => exact ap1); (case aF => exact (fun k_ hk => Kd.fresh' (Kd.R_lt (apAR HO_6.out)) k_ hk)); (case aO => exact (apAR HO_8.out)); (case aS => exact (below_size ap1)); (case aL => have := LMc14.out; omega); intro v379 w16 ho hb hg hat; rw [← Ny378.out] at ho; have n0_ := Aside0.mk (Kd.R_after (ok := (fun _ => True)) (by (with_reducible repeat (first | apply Kd.R_alloc | apply Kd.R_drewN | apply Kd.R_drew)); exact Kd.R_mono HO_6.out (fun _ hk => ⟨trivial, hk⟩)) hg hat); have n1_ := Aside0.mk (hb); have n2_ := Aside0.mk (ho); clear HO_6; clear HB; clear HO_8; have HO_6 := n0_; have HB := n1_; have HO380 := n2_; clear n0_ n1_ n2_; clear ho hb hg hat))
        go_roundg k1
        case measure => have := HK1.out; omega
        case rel => exact ⟨(y378), (wrap64 (x9_1 + 1)), ap2, H', ⟨by have := HK1.out; omega⟩, ⟨by (with_reducible repeat (first | apply Kd.R_alloc | apply Kd.R_drewN | apply Kd.R_drew)); exact Kd.R_mono HO_6.out (fun _ hk => hk.2)⟩, ⟨by (with_reducible repeat (first | apply Kd.R_alloc | apply Kd.R_drewN | apply Kd.R_drew)); exact HO380.out⟩, ⟨by repeat (first | (with_reducible first | exact HB.out | apply below_alloc | apply pw_below_drewN | apply below_drew1) | exact HB.out)⟩⟩
       ·
        rw [if_neg c14] at H
        exact absurd H (by simp)
      ·
       replace c13 := Bool.eq_false_iff.mpr c13
       subst c13
       rw [if_neg (show ¬ (false = true) by decide)] at H
       by_cases c17 : a1 = true
       ·
        subst c17
        rw [if_pos rfl] at H
        replace H := Option.bind_eq_some_iff.mp H
        obtain ⟨t381, A180, H⟩ := H
        replace H : (if x8_1.length < 35184372088832 then (R13Mapped.l0 k1 true t368 t369 (x8_1 ++ [t381]) (wrap64 (x9_1 + 1))) else (none)) = some (r1, r2) := H
        have A18 := Aside0.mk A180
        clear A180
        by_cases c19 : x8_1.length < 35184372088832
        ·
         rw [if_pos c19] at H
         have LMc19 := Aside0.mk c19
         clear c19
         obtain ⟨y382, hy382⟩ : ∃ y_ : List Int, y_ = (x8_1 ++ [t381]) := ⟨_, rfl⟩
         replace H : (R13Mapped.l0 k1 true t368 t369 y382 (wrap64 (x9_1 + 1))) = some (r1, r2) := by first | (rw [hy382]; with_reducible exact H) | (have H2_ := (Option.bind_some _ _).symm.trans H; rw [hy382]; with_reducible exact H2_) | (have H2_ := (Option.bind_some _ _).symm.trans H; with_reducible exact H2_) | with_reducible exact H | (rw [hy382]; exact H) | exact H
         have Ny382 := Aside0.mk hy382
         clear hy382
         have H' := Aside0.mk H
         clear H
         obtain ⟨Ao20, co20, eo20⟩ := Kd.R_slice HO_6.out
         subst eo20
         have p375 : 0 ≤ (x9_1 : Int) := of_decide_eq_true ap0
         have q375 : x9_1 < (t368.length : Int) := of_decide_eq_true ap0
         obtain ⟨ad375, e375, hx375_0⟩ := Kd.at_int (Kd.R_reads' HO_6.out).2.2 x9_1 p375 q375
         cases e375
         replace p375 := eq_true p375
         replace q375 := eq_true q375
         go_wp2_with (first | ((with_reducible refine gate_callee (f := 131) rfl ?_); refine goesL_ (some 28) rfl rfl Tryd.func131 (by kernel_rfl) rfl #[.int .i32 (rd t368 x9_1)] rfl ap3 ?_; (with_reducible refine (R13Dropped.calls (rd t368 x9_1) false _ A9.out).mono ?_); rintro e w' ⟨rfl, ⟨nd, rfl⟩⟩; refine ⟨_, rfl, ?_⟩) | ((with_reducible refine gate_callee (f := 132) rfl ?_); refine goesL_ (some 30) rfl rfl Tryd.func132 (by kernel_rfl) rfl #[.int .i32 (rd t368 x9_1)] rfl ap3 ?_; (with_reducible refine (R13Blank.calls (rd t368 x9_1) false _ A12.out).mono ?_); rintro e w' ⟨rfl, ⟨nd, rfl⟩⟩; refine ⟨_, rfl, ?_⟩) | ((with_reducible refine gate_callee (f := 133) rfl ?_); refine goesL_ (some 33) rfl rfl Tryd.func133 (by kernel_rfl) rfl #[.int .i32 (rd t368 x9_1)] rfl ap3 ?_; (with_reducible refine (R13Small.calls k1 (rd t368 x9_1) t381 _ A18.out).mono ?_); rintro e w' ⟨rfl, ⟨nd, rfl⟩⟩; refine ⟨_, rfl, ?_⟩) | ((with_reducible refine gate_builtin (b := .append) (xs := #[.tmp 34, .tmp 36]) rfl ?_); at_builtin; refine Kd.R_append (Kd.int .i32) (w0 := w) w.heap.size rfl (.tmp 34) (.tmp 36) 129 21 (.int .i32 0) 4 rfl Tryd.underlying129 info21 rfl (by decide) (by omega) u8 x8_1 t381 [.int .i32 t381] (fun k_ => some k_ ≠ (.slice (some ad375) t368.length co20 : Value).ownBlock) (fun _ => False) rfl rfl ?aP (fun _ hk => hk.elim) ?aF ?aO ?aB ?aS ?aL ?_; (case aP => exact rfl); (case aB => exact ap1); (case aF => exact (fun k_ hk => Kd.fresh' (Kd.R_lt (apAR HO_6.out)) k_ hk)); (case aO => exact (apAR HO_8.out)); (case aS => exact (below_size ap1)); (case aL => have := LMc19.out; omega); intro v383 w21 ho hb hg hat; rw [← Ny382.out] at ho; have n0_ := Aside0.mk (Kd.R_after (ok := (fun _ => True)) (by (with_reducible repeat (first | apply Kd.R_alloc | apply Kd.R_drewN | apply Kd.R_drew)); exact Kd.R_mono HO_6.out (fun _ hk => ⟨trivial, hk⟩)) hg hat); have n1_ := Aside0.mk (hb); have n2_ := Aside0.mk (ho); clear HO_6; clear HB; clear HO_8; have HO_6 := n0_; have HB := n1_; have HO384 := n2_; clear n0_ n1_ n2_; clear ho hb hg hat))
         go_roundg k1
         case measure => have := HK1.out; omega
         case rel => exact ⟨(y382), (wrap64 (x9_1 + 1)), ap2, H', ⟨by have := HK1.out; omega⟩, ⟨by (with_reducible repeat (first | apply Kd.R_alloc | apply Kd.R_drewN | apply Kd.R_drew)); exact Kd.R_mono HO_6.out (fun _ hk => hk.2)⟩, ⟨by (with_reducible repeat (first | apply Kd.R_alloc | apply Kd.R_drewN | apply Kd.R_drew)); exact HO384.out⟩, ⟨by repeat (first | (with_reducible first | exact HB.out | apply below_alloc | apply pw_below_drewN | apply below_drew1) | exact HB.out)⟩⟩
        ·
         rw [if_neg c19] at H
         exact absurd H (by simp)
       ·
        replace c17 := Bool.eq_false_iff.mpr c17
        subst c17
        rw [if_neg (show ¬ (false = true) by decide)] at H
        by_cases c22 : x8_1.length < 35184372088832
        ·
         rw [if_pos c22] at H
         have LMc22 := Aside0.mk c22
         clear c22
         obtain ⟨y385, hy385⟩ : ∃ y_ : List Int, y_ = (x8_1 ++ [rd t368 x9_1]) := ⟨_, rfl⟩
         replace H : (R13Mapped.l0 k1 false t368 t369 y385 (wrap64 (x9_1 + 1))) = some (r1, r2) := by first | (rw [hy385]; with_reducible exact H) | (have H2_ := (Option.bind_some _ _).symm.trans H; rw [hy385]; with_reducible exact H2_) | (have H2_ := (Option.bind_some _ _).symm.trans H; with_reducible exact H2_) | with_reducible exact H | (rw [hy385]; exact H) | exact H
         have Ny385 := Aside0.mk hy385
         clear hy385
         have H' := Aside0.mk H
         clear H
         obtain ⟨Ao23, co23, eo23⟩ := Kd.R_slice HO_6.out
         subst eo23
         have p375 : 0 ≤ (x9_1 : Int) := of_decide_eq_true ap0
         have q375 : x9_1 < (t368.length : Int) := of_decide_eq_true ap0
         obtain ⟨ad375, e375, hx375_0⟩ := Kd.at_int (Kd.R_reads' HO_6.out).2.2 x9_1 p375 q375
         cases e375
         replace p375 := eq_true p375
         replace q375 := eq_true q375
         go_wp2_with (first | ((with_reducible refine gate_callee (f := 131) rfl ?_); refine goesL_ (some 28) rfl rfl Tryd.func131 (by kernel_rfl) rfl #[.int .i32 (rd t368 x9_1)] rfl ap3 ?_; (with_reducible refine (R13Dropped.calls (rd t368 x9_1) false _ A9.out).mono ?_); rintro e w' ⟨rfl, ⟨nd, rfl⟩⟩; refine ⟨_, rfl, ?_⟩) | ((with_reducible refine gate_callee (f := 132) rfl ?_); refine goesL_ (some 30) rfl rfl Tryd.func132 (by kernel_rfl) rfl #[.int .i32 (rd t368 x9_1)] rfl ap3 ?_; (with_reducible refine (R13Blank.calls (rd t368 x9_1) false _ A12.out).mono ?_); rintro e w' ⟨rfl, ⟨nd, rfl⟩⟩; refine ⟨_, rfl, ?_⟩) | ((with_reducible refine gate_builtin (b := .append) (xs := #[.tmp 34, .tmp 36]) rfl ?_); at_builtin; refine Kd.R_append (Kd.int .i32) (w0 := w) w.heap.size rfl (.tmp 34) (.tmp 36) 129 21 (.int .i32 0) 4 rfl Tryd.underlying129 info21 rfl (by decide) (by omega) u8 x8_1 (rd t368 x9_1) [.int .i32 (rd t368 x9_1)] (fun k_ => some k_ ≠ (.slice (some ad375) t368.length co23 : Value).ownBlock) (fun _ => False) rfl rfl ?aP (fun _ hk => hk.elim) ?aF ?aO ?aB ?aS ?aL ?_; (case aP => exact rfl); (case aB => exact ap1); (case aF => exact (fun k_ hk => Kd.fresh' (Kd.R_lt (apAR HO_6.out)) k_ hk)); (case aO => exact (apAR HO_8.out)); (case aS => exact (below_size ap1)); (case aL => have := LMc22.out; omega); intro v386 w24 ho hb hg hat; rw [← Ny385.out] at ho; have n0_ := Aside0.mk (Kd.R_after (ok := (fun _ => True)) (by (with_reducible repeat (first | apply Kd.R_alloc | apply Kd.R_drewN | apply Kd.R_drew)); exact Kd.R_mono HO_6.out (fun _ hk => ⟨trivial, hk⟩)) hg hat); have n1_ := Aside0.mk (hb); have n2_ := Aside0.mk (ho); clear HO_6; clear HB; clear HO_8; have HO_6 := n0_; have HB := n1_; have HO387 := n2_; clear n0_ n1_ n2_; clear ho hb hg hat))
         go_roundg k1
         case measure => have := HK1.out; omega
         case rel => exact ⟨(y385), (wrap64 (x9_1 + 1)), ap2, H', ⟨by have := HK1.out; omega⟩, ⟨by (with_reducible repeat (first | apply Kd.R_alloc | apply Kd.R_drewN | apply Kd.R_drew)); exact Kd.R_mono HO_6.out (fun _ hk => hk.2)⟩, ⟨by (with_reducible repeat (first | apply Kd.R_alloc | apply Kd.R_drewN | apply Kd.R_drew)); exact HO387.out⟩, ⟨by repeat (first | (with_reducible first | exact HB.out | apply below_alloc | apply pw_below_drewN | apply below_drew1) | exact HB.out)⟩⟩
        ·
         rw [if_neg c22] at H
         exact absurd H (by simp)
    ·
     rw [if_neg c8] at H
     exact absurd H (by simp)
   ·
    rw [if_neg c7] at H
    have c7b0 := decide_eq_false c7
    clear c7
    simp only [Option.some.injEq, Prod.mk.injEq] at H
    obtain ⟨rfl, rfl⟩ := H
    obtain ⟨Ao25, co25, eo25⟩ := Kd.R_slice HO_6.out
    subst eo25
    go_wp2
    go_ret2
    exact ⟨_, by first | rfl | (simp [errW_none, errW_some, bne_nil8, beq_nil8]; done) | (simp [errW_none, errW_some] <;> rfl) | (simp [*, errW_none, errW_some] <;> rfl), by (with_reducible repeat (first | apply Kd.R_alloc | apply Kd.R_drewN | apply Kd.R_drew)); exact Kd.R_mono HO_8.out (fun _ hk => trivial), by repeat (first | (with_reducible first | exact HB.out | apply below_alloc | apply pw_below_drewN | apply below_drew1) | exact HB.out)⟩
def R13Bytes.f (a0 : Int) : Option (List Int) := if (wrap64 (a0)) < 128 then (some (([(wrap64 (a0)) % 256] : List Int))) else (if (wrap64 (a0)) < 2048 then (some (([(wrap64 (192 + (wrap64 (Int.tdiv (wrap64 (a0)) 64)))) % 256, (wrap64 (128 + (Int.tmod (wrap64 (a0)) 64))) % 256] : List Int))) else (if (wrap64 (a0)) < 65536 then (some (([(wrap64 (224 + (wrap64 (Int.tdiv (wrap64 (a0)) 4096)))) % 256, (wrap64 (128 + (Int.tmod (wrap64 (Int.tdiv (wrap64 (a0)) 64)) 64))) % 256, (wrap64 (128 + (Int.tmod (wrap64 (a0)) 64))) % 256] : List Int))) else (some (([(wrap64 (240 + (wrap64 (Int.tdiv (wrap64 (a0)) 262144)))) % 256, (wrap64 (128 + (Int.tmod (wrap64 (Int.tdiv (wrap64 (a0)) 4096)) 64))) % 256, (wrap64 (128 + (Int.tmod (wrap64 (Int.tdiv (wrap64 (a0)) 64)) 64))) % 256, (wrap64 (128 + (Int.tmod (wrap64 (a0)) 64))) % 256] : List Int)))))
set_option maxHeartbeats 8000000 in
set_option maxRecDepth 100000 in
theorem R13Bytes.calls (a0 : Int) (r : List Int) (w : World) (h : R13Bytes.f a0 = some r) :
  Calls Tryd.prog 134 #[.int .i32 a0] w fun e w' => ∃ v0_ : Value, e = .returned (v0_) ∧ Kd.R (Kd.int .u8) 5 w' w.heap.size (fun _ => True) v0_ r ∧ Below w.heap.size w w' := by
 have HB := Aside0.mk (Below.refl w.heap.size w)
 have H : (if (wrap64 (a0)) < 128 then (some (([(wrap64 (a0)) % 256] : List Int))) else (if (wrap64 (a0)) < 2048 then (some (([(wrap64 (192 + (wrap64 (Int.tdiv (wrap64 (a0)) 64)))) % 256, (wrap64 (128 + (Int.tmod (wrap64 (a0)) 64))) % 256] : List Int))) else (if (wrap64 (a0)) < 65536 then (some (([(wrap64 (224 + (wrap64 (Int.tdiv (wrap64 (a0)) 4096)))) % 256, (wrap64 (128 + (Int.tmod (wrap64 (Int.tdiv (wrap64 (a0)) 64)) 64))) % 256, (wrap64 (128 + (Int.tmod (wrap64 (a0)) 64))) % 256] : List Int))) else (some (([(wrap64 (240 + (wrap64 (Int.tdiv (wrap64 (a0)) 262144)))) % 256, (wrap64 (128 + (Int.tmod (wrap64 (Int.tdiv (wrap64 (a0)) 4096)) 64))) % 256, (wrap64 (128 + (Int.tmod (wrap64 (Int.tdiv (wrap64 (a0)) 64)) 64))) % 256, (wrap64 (128 + (Int.tmod (wrap64 (a0)) 64))) % 256] : List Int)))))) = some r := h
 clear h
 by_cases c2 : (wrap64 (a0)) < 128
 ·
  rw [if_pos c2] at H
  have c2b0 := decide_eq_true c2
  clear c2
  obtain ⟨y388, hy388⟩ : ∃ y_ : List Int, y_ = (([(wrap64 (a0)) % 256] : List Int)) := ⟨_, rfl⟩
  replace H : (some y388) = some r := by first | (rw [hy388]; with_reducible exact H) | (have H2_ := (Option.bind_some _ _).symm.trans H; rw [hy388]; with_reducible exact H2_) | (have H2_ := (Option.bind_some _ _).symm.trans H; with_reducible exact H2_) | with_reducible exact H | (rw [hy388]; exact H) | exact H
  have Ny388 := Aside0.mk hy388
  clear hy388
  obtain rfl := Option.some.inj H
  go_enter Tryd.func134, Tryd.ntmps134
  go_wp2_with (first | ((with_reducible refine gate_dst (N := 10) rfl ?_); refine Kd.R_lit (Kd.int .u8) _ 5 ?hg (N := 10) ?hd (xs := ([(wrap64 (a0)) % 256] : List Int)) (inner := [.int .u8 ((wrap64 (a0)) % 256)]) (ok := fun _ => True) (okp := fun _ => True) ?hr ?hp (fun _ hk => hk) trivial (Below.refl _ _) (Nat.le_refl _) (by simp) ?_; (case hd => rfl); (case hg => rfl); (case hr => first | (go_simp; done) | (go_simp; rfl)); (case hp => exact (Reps.one (show Kd.M (Kd.int .u8) _ _ _ ((wrap64 (a0)) % 256) [.int .u8 ((wrap64 (a0)) % 256)] from rfl) (Reps.none _ _))); intro v389 w3 ho4 hb hg_ hnew_; clear hg_ hnew_; (first | rw [← Ny388.out] at ho4 | (simp only [Int.reduceToNat] at ho4; rw [← Ny388.out] at ho4)); have n0_ := Aside0.mk (Kd.R_lower ho4 (below_size ap1)); have n1_ := Aside0.mk (below_step ap1 hb); clear HB; have HO390 := n0_; have HB := n1_; clear n0_ n1_; clear hb ho4))
  go_ret
  exact ⟨_, by first | rfl | (simp [errW_none, errW_some, bne_nil8, beq_nil8]; done) | (simp [errW_none, errW_some] <;> rfl) | (simp [*, errW_none, errW_some] <;> rfl), by (with_reducible repeat (first | apply Kd.R_alloc | apply Kd.R_drewN | apply Kd.R_drew)); exact HO390.out, by repeat (first | (with_reducible first | exact HB.out | apply below_alloc | apply pw_below_drewN | apply below_drew1) | exact HB.out)⟩
 ·
  rw [if_neg c2] at H
  have c2b0 := decide_eq_false c2
  clear c2
  by_cases c5 : (wrap64 (a0)) < 2048
  ·
   rw [if_pos c5] at H
   have c5b0 := decide_eq_true c5
   clear c5
   obtain ⟨y391, hy391⟩ : ∃ y_ : List Int, y_ = (([(wrap64 (192 + (wrap64 (Int.tdiv (wrap64 (a0)) 64)))) % 256, (wrap64 (128 + (Int.tmod (wrap64 (a0)) 64))) % 256] : List Int)) := ⟨_, rfl⟩
   replace H : (some y391) = some r := by first | (rw [hy391]; with_reducible exact H) | (have H2_ := (Option.bind_some _ _).symm.trans H; rw [hy391]; with_reducible exact H2_) | (have H2_ := (Option.bind_some _ _).symm.trans H; with_reducible exact H2_) | with_reducible exact H | (rw [hy391]; exact H) | exact H
   have Ny391 := Aside0.mk hy391
   clear hy391
   obtain rfl := Option.some.inj H
   go_enter Tryd.func134, Tryd.ntmps134
   go_wp2_with (first | ((with_reducible refine gate_dst (N := 21) rfl ?_); refine Kd.R_lit (Kd.int .u8) _ 5 ?hg (N := 21) ?hd (xs := ([(wrap64 (192 + (wrap64 (Int.tdiv (wrap64 (a0)) 64)))) % 256, (wrap64 (128 + (Int.tmod (wrap64 (a0)) 64))) % 256] : List Int)) (inner := [.int .u8 ((wrap64 (192 + (wrap64 (Int.tdiv (wrap64 (a0)) 64)))) % 256), .int .u8 ((wrap64 (128 + (Int.tmod (wrap64 (a0)) 64))) % 256)]) (ok := fun _ => True) (okp := fun _ => True) ?hr ?hp (fun _ hk => hk) trivial (Below.refl _ _) (Nat.le_refl _) (by simp) ?_; (case hd => rfl); (case hg => rfl); (case hr => first | (go_simp; done) | (go_simp; rfl)); (case hp => exact (Reps.one (show Kd.M (Kd.int .u8) _ _ _ ((wrap64 (192 + (wrap64 (Int.tdiv (wrap64 (a0)) 64)))) % 256) [.int .u8 ((wrap64 (192 + (wrap64 (Int.tdiv (wrap64 (a0)) 64)))) % 256)] from rfl) (Reps.one (show Kd.M (Kd.int .u8) _ _ _ ((wrap64 (128 + (Int.tmod (wrap64 (a0)) 64))) % 256) [.int .u8 ((wrap64 (128 + (Int.tmod (wrap64 (a0)) 64))) % 256)] from rfl) (Reps.none _ _)))); intro v392 w6 ho7 hb hg_ hnew_; clear hg_ hnew_; (first | rw [← Ny391.out] at ho7 | (simp only [Int.reduceToNat] at ho7; rw [← Ny391.out] at ho7)); have n0_ := Aside0.mk (Kd.R_lower ho7 (below_size ap1)); have n1_ := Aside0.mk (below_step ap1 hb); clear HB; have HO393 := n0_; have HB := n1_; clear n0_ n1_; clear hb ho7))
   go_ret
   exact ⟨_, by first | rfl | (simp [errW_none, errW_some, bne_nil8, beq_nil8]; done) | (simp [errW_none, errW_some] <;> rfl) | (simp [*, errW_none, errW_some] <;> rfl), by (with_reducible repeat (first | apply Kd.R_alloc | apply Kd.R_drewN | apply Kd.R_drew)); exact HO393.out, by repeat (first | (with_reducible first | exact HB.out | apply below_alloc | apply pw_below_drewN | apply below_drew1) | exact HB.out)⟩
  ·
   rw [if_neg c5] at H
   have c5b0 := decide_eq_false c5
   clear c5
   by_cases c8 : (wrap64 (a0)) < 65536
   ·
    rw [if_pos c8] at H
    have c8b0 := decide_eq_true c8
    clear c8
    obtain ⟨y394, hy394⟩ : ∃ y_ : List Int, y_ = (([(wrap64 (224 + (wrap64 (Int.tdiv (wrap64 (a0)) 4096)))) % 256, (wrap64 (128 + (Int.tmod (wrap64 (Int.tdiv (wrap64 (a0)) 64)) 64))) % 256, (wrap64 (128 + (Int.tmod (wrap64 (a0)) 64))) % 256] : List Int)) := ⟨_, rfl⟩
    replace H : (some y394) = some r := by first | (rw [hy394]; with_reducible exact H) | (have H2_ := (Option.bind_some _ _).symm.trans H; rw [hy394]; with_reducible exact H2_) | (have H2_ := (Option.bind_some _ _).symm.trans H; with_reducible exact H2_) | with_reducible exact H | (rw [hy394]; exact H) | exact H
    have Ny394 := Aside0.mk hy394
    clear hy394
    obtain rfl := Option.some.inj H
    go_enter Tryd.func134, Tryd.ntmps134
    go_wp2_with (first | ((with_reducible refine gate_dst (N := 37) rfl ?_); refine Kd.R_lit (Kd.int .u8) _ 5 ?hg (N := 37) ?hd (xs := ([(wrap64 (224 + (wrap64 (Int.tdiv (wrap64 (a0)) 4096)))) % 256, (wrap64 (128 + (Int.tmod (wrap64 (Int.tdiv (wrap64 (a0)) 64)) 64))) % 256, (wrap64 (128 + (Int.tmod (wrap64 (a0)) 64))) % 256] : List Int)) (inner := [.int .u8 ((wrap64 (224 + (wrap64 (Int.tdiv (wrap64 (a0)) 4096)))) % 256), .int .u8 ((wrap64 (128 + (Int.tmod (wrap64 (Int.tdiv (wrap64 (a0)) 64)) 64))) % 256), .int .u8 ((wrap64 (128 + (Int.tmod (wrap64 (a0)) 64))) % 256)]) (ok := fun _ => True) (okp := fun _ => True) ?hr ?hp (fun _ hk => hk) trivial (Below.refl _ _) (Nat.le_refl _) (by simp) ?_; (case hd => rfl); (case hg => rfl); (case hr => first | (go_simp; done) | (go_simp; rfl)); (case hp => exact (Reps.one (show Kd.M (Kd.int .u8) _ _ _ ((wrap64 (224 + (wrap64 (Int.tdiv (wrap64 (a0)) 4096)))) % 256) [.int .u8 ((wrap64 (224 + (wrap64 (Int.tdiv (wrap64 (a0)) 4096)))) % 256)] from rfl) (Reps.one (show Kd.M (Kd.int .u8) _ _ _ ((wrap64 (128 + (Int.tmod (wrap64 (Int.tdiv (wrap64 (a0)) 64)) 64))) % 256) [.int .u8 ((wrap64 (128 + (Int.tmod (wrap64 (Int.tdiv (wrap64 (a0)) 64)) 64))) % 256)] from rfl) (Reps.one (show Kd.M (Kd.int .u8) _ _ _ ((wrap64 (128 + (Int.tmod (wrap64 (a0)) 64))) % 256) [.int .u8 ((wrap64 (128 + (Int.tmod (wrap64 (a0)) 64))) % 256)] from rfl) (Reps.none _ _))))); intro v395 w9 ho10 hb hg_ hnew_; clear hg_ hnew_; (first | rw [← Ny394.out] at ho10 | (simp only [Int.reduceToNat] at ho10; rw [← Ny394.out] at ho10)); have n0_ := Aside0.mk (Kd.R_lower ho10 (below_size ap1)); have n1_ := Aside0.mk (below_step ap1 hb); clear HB; have HO396 := n0_; have HB := n1_; clear n0_ n1_; clear hb ho10))
    go_ret
    exact ⟨_, by first | rfl | (simp [errW_none, errW_some, bne_nil8, beq_nil8]; done) | (simp [errW_none, errW_some] <;> rfl) | (simp [*, errW_none, errW_some] <;> rfl), by (with_reducible repeat (first | apply Kd.R_alloc | apply Kd.R_drewN | apply Kd.R_drew)); exact HO396.out, by repeat (first | (with_reducible first | exact HB.out | apply below_alloc | apply pw_below_drewN | apply below_drew1) | exact HB.out)⟩
   ·
    rw [if_neg c8] at H
    have c8b0 := decide_eq_false c8
    clear c8
    obtain ⟨y397, hy397⟩ : ∃ y_ : List Int, y_ = (([(wrap64 (240 + (wrap64 (Int.tdiv (wrap64 (a0)) 262144)))) % 256, (wrap64 (128 + (Int.tmod (wrap64 (Int.tdiv (wrap64 (a0)) 4096)) 64))) % 256, (wrap64 (128 + (Int.tmod (wrap64 (Int.tdiv (wrap64 (a0)) 64)) 64))) % 256, (wrap64 (128 + (Int.tmod (wrap64 (a0)) 64))) % 256] : List Int)) := ⟨_, rfl⟩
    replace H : (some y397) = some r := by first | (rw [hy397]; with_reducible exact H) | (have H2_ := (Option.bind_some _ _).symm.trans H; rw [hy397]; with_reducible exact H2_) | (have H2_ := (Option.bind_some _ _).symm.trans H; with_reducible exact H2_) | with_reducible exact H | (rw [hy397]; exact H) | exact H
    have Ny397 := Aside0.mk hy397
    clear hy397
    obtain rfl := Option.some.inj H
    go_enter Tryd.func134, Tryd.ntmps134
    go_wp2_with (first | ((with_reducible refine gate_dst (N := 56) rfl ?_); refine Kd.R_lit (Kd.int .u8) _ 5 ?hg (N := 56) ?hd (xs := ([(wrap64 (240 + (wrap64 (Int.tdiv (wrap64 (a0)) 262144)))) % 256, (wrap64 (128 + (Int.tmod (wrap64 (Int.tdiv (wrap64 (a0)) 4096)) 64))) % 256, (wrap64 (128 + (Int.tmod (wrap64 (Int.tdiv (wrap64 (a0)) 64)) 64))) % 256, (wrap64 (128 + (Int.tmod (wrap64 (a0)) 64))) % 256] : List Int)) (inner := [.int .u8 ((wrap64 (240 + (wrap64 (Int.tdiv (wrap64 (a0)) 262144)))) % 256), .int .u8 ((wrap64 (128 + (Int.tmod (wrap64 (Int.tdiv (wrap64 (a0)) 4096)) 64))) % 256), .int .u8 ((wrap64 (128 + (Int.tmod (wrap64 (Int.tdiv (wrap64 (a0)) 64)) 64))) % 256), .int .u8 ((wrap64 (128 + (Int.tmod (wrap64 (a0)) 64))) % 256)]) (ok := fun _ => True) (okp := fun _ => True) ?hr ?hp (fun _ hk => hk) trivial (Below.refl _ _) (Nat.le_refl _) (by simp) ?_; (case hd => rfl); (case hg => rfl); (case hr => first | (go_simp; done) | (go_simp; rfl)); (case hp => exact (Reps.one (show Kd.M (Kd.int .u8) _ _ _ ((wrap64 (240 + (wrap64 (Int.tdiv (wrap64 (a0)) 262144)))) % 256) [.int .u8 ((wrap64 (240 + (wrap64 (Int.tdiv (wrap64 (a0)) 262144)))) % 256)] from rfl) (Reps.one (show Kd.M (Kd.int .u8) _ _ _ ((wrap64 (128 + (Int.tmod (wrap64 (Int.tdiv (wrap64 (a0)) 4096)) 64))) % 256) [.int .u8 ((wrap64 (128 + (Int.tmod (wrap64 (Int.tdiv (wrap64 (a0)) 4096)) 64))) % 256)] from rfl) (Reps.one (show Kd.M (Kd.int .u8) _ _ _ ((wrap64 (128 + (Int.tmod (wrap64 (Int.tdiv (wrap64 (a0)) 64)) 64))) % 256) [.int .u8 ((wrap64 (128 + (Int.tmod (wrap64 (Int.tdiv (wrap64 (a0)) 64)) 64))) % 256)] from rfl) (Reps.one (show Kd.M (Kd.int .u8) _ _ _ ((wrap64 (128 + (Int.tmod (wrap64 (a0)) 64))) % 256) [.int .u8 ((wrap64 (128 + (Int.tmod (wrap64 (a0)) 64))) % 256)] from rfl) (Reps.none _ _)))))); intro v398 w11 ho12 hb hg_ hnew_; clear hg_ hnew_; (first | rw [← Ny397.out] at ho12 | (simp only [Int.reduceToNat] at ho12; rw [← Ny397.out] at ho12)); have n0_ := Aside0.mk (Kd.R_lower ho12 (below_size ap1)); have n1_ := Aside0.mk (below_step ap1 hb); clear HB; have HO399 := n0_; have HB := n1_; clear n0_ n1_; clear hb ho12))
    go_ret
    exact ⟨_, by first | rfl | (simp [errW_none, errW_some, bne_nil8, beq_nil8]; done) | (simp [errW_none, errW_some] <;> rfl) | (simp [*, errW_none, errW_some] <;> rfl), by (with_reducible repeat (first | apply Kd.R_alloc | apply Kd.R_drewN | apply Kd.R_drew)); exact HO399.out, by repeat (first | (with_reducible first | exact HB.out | apply below_alloc | apply pw_below_drewN | apply below_drew1) | exact HB.out)⟩
def R13Text.l0 : Nat → List Int → List Int → Int → Option (ByteArray)
 | 0, _, _, _ => none
 | k + 1, x0, x3, x4 => if x4 < (x0.length : Int) then (if 0 ≤ x4 then ((R13Bytes.f (rd x0 x4)).bind fun t404 => (if x3.length + t404.length < 140737488355328 then (R13Text.l0 k x0 (x3 ++ t404) (wrap64 (x4 + 1))) else (none))) else (none)) else (some (strOfNums x3))
def R13Text.f (k : Nat) (l0 : List Int) : Option (ByteArray) := R13Text.l0 k l0 (([] : List Int)) 0
set_option maxHeartbeats 8000000 in
set_option maxRecDepth 100000 in
theorem R13Text.calls (k : Nat) (A0 : Option Addr) (c0 : Nat) (l0 : List Int) (r : ByteArray) (w : World) (hr0 : Kd.C (Kd.int .i32) w A0 l0.length l0) (hc0 : l0.length ≤ c0) (h : R13Text.f k l0 = some r) :
  Calls Tryd.prog 114 #[.slice A0 l0.length c0] w fun e w' => e = .returned (.string r) ∧ Below w.heap.size w w' := by
 have HR0 := Aside0.mk hr0
 have HC0 := Aside0.mk hc0
 clear hr0 hc0
 have HB := Aside0.mk (Below.refl w.heap.size w)
 have H : (R13Text.l0 k l0 (([] : List Int)) 0) = some r := h
 clear h
 obtain ⟨y400, hy400⟩ : ∃ y_ : List Int, y_ = (([] : List Int)) := ⟨_, rfl⟩
 replace H : (R13Text.l0 k l0 y400 0) = some r := by first | (rw [hy400]; with_reducible exact H) | (have H2_ := (Option.bind_some _ _).symm.trans H; rw [hy400]; with_reducible exact H2_) | (have H2_ := (Option.bind_some _ _).symm.trans H; with_reducible exact H2_) | with_reducible exact H | (rw [hy400]; exact H) | exact H
 have Ny400 := Aside0.mk hy400
 clear hy400
 have H' := Aside0.mk H
 clear H
 go_enter Tryd.func114, Tryd.ntmps114
 go_wp2_with (first | ((with_reducible refine gate_dst (N := 5) rfl ?_); refine Kd.R_lit (Kd.int .u8) _ 5 ?hg (N := 5) ?hd (xs := ([] : List Int)) (inner := []) (ok := fun _ => True) (okp := fun _ => True) ?hr ?hp (fun _ hk => hk) trivial (Below.refl _ _) (Nat.le_refl _) (by simp) ?_; (case hd => rfl); (case hg => rfl); (case hr => first | (go_simp; done) | (go_simp; rfl)); (case hp => exact (Reps.none _ _)); intro v401 w2 ho3 hb hg_ hnew_; clear hg_ hnew_; (first | rw [← Ny400.out] at ho3 | (simp only [Int.reduceToNat] at ho3; rw [← Ny400.out] at ho3)); have n0_ := Aside0.mk (Kd.R_lower ho3 (below_size ap1)); have n1_ := Aside0.mk (below_step ap1 hb); clear HB; have HO402 := n0_; have HB := n1_; clear n0_ n1_; clear hb ho3))
 go_loopg [3, 4] k (fun kq v3 v4 w' => ∃ (x3_1 : List Int) (x4_1 : Int), v4 = .int .i64 x4_1 ∧ Aside0 (R13Text.l0 kq l0 x3_1 x4_1 = some r) ∧ Aside0 (kq ≤ k) ∧ Aside0 (Kd.R (Kd.int .u8) 5 w' w.heap.size (fun _ => True) v3 x3_1) ∧ Aside0 (Below w.heap.size w w'))
 case atStart => exact ⟨(y400), (0), ap2, H', ⟨Nat.le_refl _⟩, ⟨by (with_reducible repeat (first | apply Kd.R_alloc | apply Kd.R_drewN | apply Kd.R_drew)); exact HO402.out⟩, ⟨by repeat (first | (with_reducible first | exact HB.out | apply below_alloc | apply pw_below_drewN | apply below_drew1) | exact HB.out)⟩⟩
 case round =>
  clear H'
  try clear c1
  try clear p2
  obtain ⟨x3_1, x4_1, rfl, HA, HK1, HO_3, HB⟩ := hrel
  cases gk with
  | zero => exact absurd HA.out (by simp [R13Text.l0])
  | succ k1 =>
   have H := HA.out
   clear HA
   simp only [R13Text.l0] at H
   by_cases c4 : x4_1 < (l0.length : Int)
   ·
    rw [if_pos c4] at H
    have c4b0 := decide_eq_true c4
    clear c4
    by_cases c5 : 0 ≤ x4_1
    ·
     rw [if_pos c5] at H
     have c5b0 := decide_eq_true c5
     clear c5
     replace H := Option.bind_eq_some_iff.mp H
     obtain ⟨t404, A60, H⟩ := H
     replace H : (if x3_1.length + t404.length < 140737488355328 then (R13Text.l0 k1 l0 (x3_1 ++ t404) (wrap64 (x4_1 + 1))) else (none)) = some r := H
     have A6 := Aside0.mk A60
     clear A60
     by_cases c7 : x3_1.length + t404.length < 140737488355328
     ·
      rw [if_pos c7] at H
      have LMc7 := Aside0.mk c7
      clear c7
      obtain ⟨y407, hy407⟩ : ∃ y_ : List Int, y_ = (x3_1 ++ t404) := ⟨_, rfl⟩
      replace H : (R13Text.l0 k1 l0 y407 (wrap64 (x4_1 + 1))) = some r := by first | (rw [hy407]; with_reducible exact H) | (have H2_ := (Option.bind_some _ _).symm.trans H; rw [hy407]; with_reducible exact H2_) | (have H2_ := (Option.bind_some _ _).symm.trans H; with_reducible exact H2_) | with_reducible exact H | (rw [hy407]; exact H) | exact H
      have Ny407 := Aside0.mk hy407
      clear hy407
      have H' := Aside0.mk H
      clear H
      have p403 : 0 ≤ (x4_1 : Int) := of_decide_eq_true ap0
      have q403 : x4_1 < (l0.length : Int) := of_decide_eq_true ap0
      obtain ⟨ad403, e403, hx403_0⟩ := Kd.at_int HR0.out x4_1 p403 q403
      cases e403
      replace hx403_0 := (HB.out.cell (World.block_lt_of_cell? w _ hx403_0)).trans hx403_0
      replace p403 := eq_true p403
      replace q403 := eq_true q403
      go_wp2_with (first | ((with_reducible refine gate_callee (f := 134) rfl ?_); refine goesL_ (some 17) rfl rfl Tryd.func134 (by kernel_rfl) rfl #[.int .i32 (rd l0 x4_1)] rfl ap3 ?_; (with_reducible refine (R13Bytes.calls (rd l0 x4_1) t404 _ A6.out).mono ?_); rintro e w8 ⟨v405, rfl, ho0, hb⟩; refine ⟨_, rfl, ?_⟩; have n0_ := Aside0.mk (Kd.R_elder' (apAR HO_3.out) (Kd.R_base ho0) hb); have n1_ := Aside0.mk (Kd.R_lower (Kd.R_new' ho0 (Kd.R_lt (apAR HO_3.out))) (below_size ap1)); have n2_ := Aside0.mk (below_step ap1 hb); clear HO_3; clear HB; have HO_3 := n0_; have HO406 := n1_; have HB := n2_; clear n0_ n1_ n2_; (try clear hb); (try clear hb2); (try clear hk); (try clear hi); (try clear ho0); obtain ⟨Ao10, co10, eo10⟩ := Kd.R_slice HO406.out; subst eo10) | ((with_reducible refine gate_builtin (b := .append) (xs := #[.tmp 12, .tmp 17]) rfl ?_); at_builtin; refine Kd.R_append_rows (Kd.int .u8) (w0 := w) w.heap.size rfl (.tmp 12) (.tmp 17) 72 5 (.int .u8 0) 1 rfl Tryd.underlying72 info5 rfl (by decide) (by omega) u3 x3_1 t404 _ _ _ (fun k_ => some k_ ≠ (.slice Ao10 t404.length co10 : Value).ownBlock) (fun _ => False) rfl rfl ?aO ?aR (fun _ _ h => h) (fun _ h => h.elim) ?aF ?aB ?aS ?aL ?_; (case aR => repeat (first | exact (Kd.R_reads' HO406.out).2.2 | (with_reducible refine Kd.C_alloc ?_ _) | (with_reducible refine Kd.C_drewN ?_ _) | (with_reducible refine Kd.C_drew ?_))); (case aB => exact ap1); (case aF => exact (fun k_ hk => Kd.fresh' (Kd.R_lt (apAR HO406.out)) k_ hk)); (case aO => exact (by (with_reducible repeat (first | apply Kd.R_alloc | apply Kd.R_drewN | apply Kd.R_drew)); exact Kd.R_mono HO_3.out (fun _ hk => hk.2))); (case aS => exact (below_size ap1)); (case aL => have := LMc7.out; omega); intro v408 w9 ho hb hg hat; rw [← Ny407.out] at ho; have n0_ := Aside0.mk (Kd.R_after (ok := (fun _ => True)) (apAR HO406.out) hg hat); have n1_ := Aside0.mk (hb); have n2_ := Aside0.mk (ho); clear HO406; clear HB; clear HO_3; have HO406 := n0_; have HB := n1_; have HO409 := n2_; clear n0_ n1_ n2_; clear ho hb hg hat))
      go_roundg k1
      case measure => have := HK1.out; omega
      case rel => exact ⟨(y407), (wrap64 (x4_1 + 1)), ap2, H', ⟨by have := HK1.out; omega⟩, ⟨by (with_reducible repeat (first | apply Kd.R_alloc | apply Kd.R_drewN | apply Kd.R_drew)); exact Kd.R_mono HO409.out (fun _ hk => trivial)⟩, ⟨by repeat (first | (with_reducible first | exact HB.out | apply below_alloc | apply pw_below_drewN | apply below_drew1) | exact HB.out)⟩⟩
     ·
      rw [if_neg c7] at H
      exact absurd H (by simp)
    ·
     rw [if_neg c5] at H
     exact absurd H (by simp)
   ·
    rw [if_neg c4] at H
    have c4b0 := decide_eq_false c4
    clear c4
    obtain rfl := Option.some.inj H
    have hcv11 := own_string (P := Tryd.prog) Tryd.underlying72 Tryd.underlying5 Tryd.underlying9 (Kd.own_of_R HO_3.out)
    go_wp2
    go_ret
    exact ⟨by first | rfl | (simp [errW_none, errW_some, bne_nil8, beq_nil8]; done) | (simp [errW_none, errW_some] <;> rfl) | (simp [*, errW_none, errW_some] <;> rfl), by repeat (first | (with_reducible first | exact HB.out | apply below_alloc | apply pw_below_drewN | apply below_drew1) | exact HB.out)⟩
def R13Ready.l0 : Nat → List Int → List Int → Int → Option (ByteArray × Int)
 | 0, _, _, _ => none
 | k + 1, x6, x8, x9 => if x9 < (x6.length : Int) then (if 0 ≤ x9 then (if (rd x6 x9) = 32 then (if (x8.length : Int) > 0 then (if (wrap64 (x9 + 1)) < (x6.length : Int) then (if 0 ≤ (wrap64 (x9 + 1)) then (if (rd x6 (wrap64 (x9 + 1))) = 32 then (R13Ready.l0 k x6 x8 (wrap64 (x9 + 1))) else (if x8.length < 35184372088832 then (R13Ready.l0 k x6 (x8 ++ [rd x6 x9]) (wrap64 (x9 + 1))) else (none))) else (none)) else (R13Ready.l0 k x6 x8 (wrap64 (x9 + 1)))) else (R13Ready.l0 k x6 x8 (wrap64 (x9 + 1)))) else (if x8.length < 35184372088832 then (R13Ready.l0 k x6 (x8 ++ [rd x6 x9]) (wrap64 (x9 + 1))) else (none))) else (none)) else ((R13Text.f k x8).bind fun t427 => (some (t427, 0)))
def R13Ready.f (k : Nat) (a0 : ByteArray) (a1 : Bool) : Option (ByteArray × Int) := (R13Mapped.f k a0 a1).bind fun bt410 => (if bt410.2 = 0 then (R13Ready.l0 k bt410.1 (([] : List Int)) 0) else (some ((⟨#[]⟩ : ByteArray), bt410.2)))
set_option maxHeartbeats 8000000 in
set_option maxRecDepth 100000 in
theorem R13Ready.calls (k : Nat) (a0 : ByteArray) (a1 : Bool) (r1 : ByteArray) (r2 : Int) (w : World) (h : R13Ready.f k a0 a1 = some (r1, r2)) :
  Calls Tryd.prog 94 #[.string a0, .bool a1] w fun e w' => e = .returned (.tuple #[.string r1, .int .i64 r2]) ∧ Below w.heap.size w w' := by
 have HB := Aside0.mk (Below.refl w.heap.size w)
 have H : ((R13Mapped.f k a0 a1).bind fun bt410 => (if bt410.2 = 0 then (R13Ready.l0 k bt410.1 (([] : List Int)) 0) else (some ((⟨#[]⟩ : ByteArray), bt410.2)))) = some (r1, r2) := h
 clear h
 replace H := Option.bind_eq_some_iff.mp H
 obtain ⟨⟨t410, t411⟩, A30, H⟩ := H
 replace H : (if t411 = 0 then (R13Ready.l0 k t410 (([] : List Int)) 0) else (some ((⟨#[]⟩ : ByteArray), t411))) = some (r1, r2) := H
 have A3 := Aside0.mk A30
 clear A30
 by_cases c4 : t411 = 0
 ·
  rw [if_pos c4] at H
  have c4b0 : (t411 == 0) = true := beq_iff_eq.mpr c4
  have c4b1 : (t411 != 0) = false := bne_eq_false_iff_eq.mpr c4
  clear c4
  obtain ⟨y414, hy414⟩ : ∃ y_ : List Int, y_ = (([] : List Int)) := ⟨_, rfl⟩
  replace H : (R13Ready.l0 k t410 y414 0) = some (r1, r2) := by first | (rw [hy414]; with_reducible exact H) | (have H2_ := (Option.bind_some _ _).symm.trans H; rw [hy414]; with_reducible exact H2_) | (have H2_ := (Option.bind_some _ _).symm.trans H; with_reducible exact H2_) | with_reducible exact H | (rw [hy414]; exact H) | exact H
  have Ny414 := Aside0.mk hy414
  clear hy414
  have H' := Aside0.mk H
  clear H
  go_enter Tryd.func94, Tryd.ntmps94
  go_wp2_with (first | ((with_reducible refine gate_callee (f := 113) rfl ?_); refine goesL_ (some 13) rfl rfl Tryd.func113 (by kernel_rfl) rfl #[.string a0, .bool a1] rfl ap3 ?_; (with_reducible refine (R13Mapped.calls k a0 a1 t410 t411 _ A3.out).mono ?_); rintro e w5 ⟨v412, rfl, ho0, hb⟩; refine ⟨_, rfl, ?_⟩; have n0_ := Aside0.mk (Kd.R_lower ho0 (below_size ap1)); have n1_ := Aside0.mk (below_step ap1 hb); clear HB; have HO413 := n0_; have HB := n1_; clear n0_ n1_; (try clear hb); (try clear hb2); (try clear hk); (try clear hi); (try clear ho0)) | ((with_reducible refine gate_dst (N := 19) rfl ?_); (try (refine gate_guard (by rfl) ?_; dsimp only)); refine Kd.R_lit (Kd.int .i32) _ 21 ?hg (N := 19) ?hd (xs := ([] : List Int)) (inner := []) (ok := fun _ => True) (okp := fun _ => True) ?hr ?hp (fun _ hk => hk) trivial (Below.refl _ _) (Nat.le_refl _) (by simp) ?_; (case hd => rfl); (case hg => rfl); (case hr => first | (go_simp; done) | (go_simp; rfl)); (case hp => exact (Reps.none _ _)); intro v415 w6 ho7 hb hg_ hnew_; clear hg_ hnew_; (first | rw [← Ny414.out] at ho7 | (simp only [Int.reduceToNat] at ho7; rw [← Ny414.out] at ho7)); have n0_ := Aside0.mk (Kd.R_elder' (apAR HO413.out) (Kd.R_base ho7) hb); have n1_ := Aside0.mk (Kd.R_lower (Kd.R_new' ho7 (Kd.R_lt (apAR HO413.out))) (below_size ap1)); have n2_ := Aside0.mk (below_step ap1 hb); clear HO413; clear HB; have HO413 := n0_; have HO416 := n1_; have HB := n2_; clear n0_ n1_ n2_; clear hb ho7))
  go_loopg [8, 9] k (fun kq v8 v9 w' => ∃ (x8_1 : List Int) (x9_1 : Int), v9 = .int .i64 x9_1 ∧ Aside0 (R13Ready.l0 kq t410 x8_1 x9_1 = some (r1, r2)) ∧ Aside0 (kq ≤ k) ∧ Aside0 (Kd.R (Kd.int .i32) 21 w' w.heap.size (fun k_ => some k_ ≠ (v8 : Value).ownBlock) v412 t410) ∧ Aside0 (Kd.R (Kd.int .i32) 21 w' w.heap.size (fun k_ => some k_ ≠ (v412 : Value).ownBlock) v8 x8_1) ∧ Aside0 (Below w.heap.size w w'))
  case atStart => exact ⟨(y414), (0), ap2, H', ⟨Nat.le_refl _⟩, ⟨by (with_reducible repeat (first | apply Kd.R_alloc | apply Kd.R_drewN | apply Kd.R_drew)); exact Kd.R_mono HO413.out (fun _ hk => hk.2)⟩, ⟨by (with_reducible repeat (first | apply Kd.R_alloc | apply Kd.R_drewN | apply Kd.R_drew)); exact Kd.R_mono HO416.out (fun _ hk => hk.2)⟩, ⟨by repeat (first | (with_reducible first | exact HB.out | apply below_alloc | apply pw_below_drewN | apply below_drew1) | exact HB.out)⟩⟩
  case round =>
   clear H'
   try clear c1
   try clear p2
   try clear c4
   try clear c4b0
   try clear c4b1
   obtain ⟨x8_1, x9_1, rfl, HA, HK1, HO_6, HO_8, HB⟩ := hrel
   cases gk with
   | zero => exact absurd HA.out (by simp [R13Ready.l0])
   | succ k1 =>
    have H := HA.out
    clear HA
    simp only [R13Ready.l0] at H
    by_cases c8 : x9_1 < (t410.length : Int)
    ·
     rw [if_pos c8] at H
     have c8b0 := decide_eq_true c8
     clear c8
     by_cases c9 : 0 ≤ x9_1
     ·
      rw [if_pos c9] at H
      have c9b0 := decide_eq_true c9
      clear c9
      by_cases c10 : (rd t410 x9_1) = 32
      ·
       rw [if_pos c10] at H
       have c10b0 : ((rd t410 x9_1) == 32) = true := beq_iff_eq.mpr c10
       have c10b1 : ((rd t410 x9_1) != 32) = false := bne_eq_false_iff_eq.mpr c10
       clear c10
       by_cases c11 : (x8_1.length : Int) > 0
       ·
        rw [if_pos c11] at H
        have c11b0 := decide_eq_true c11
        have c11b1 : decide (0 < x8_1.length) = true := decide_eq_true (by omega)
        clear c11
        by_cases c12 : (wrap64 (x9_1 + 1)) < (t410.length : Int)
        ·
         rw [if_pos c12] at H
         have c12b0 := decide_eq_true c12
         clear c12
         obtain ⟨ji13, hji13⟩ : ∃ j_ : Int, (wrap64 (x9_1 + 1)) = j_ := ⟨_, rfl⟩
         replace H : (if 0 ≤ (ji13) then (if (rd t410 (ji13)) = 32 then (R13Ready.l0 k1 t410 x8_1 ji13) else (if x8_1.length < 35184372088832 then (R13Ready.l0 k1 t410 (x8_1 ++ [rd t410 x9_1]) ji13) else (none))) else (none)) = some (r1, r2) := by first | (rw [hji13] at H; exact H) | (simp only [hji13] at H ⊢; exact H)
         (try rw [hji13] at c12b0)
         have hji13w : (IntKind.i64.wrap (x9_1 + 1)) = ji13 := (i64_w _).trans hji13
         by_cases c14 : 0 ≤ (ji13)
         ·
          rw [if_pos c14] at H
          have c14b0 := decide_eq_true c14
          clear c14
          by_cases c15 : (rd t410 (ji13)) = 32
          ·
           rw [if_pos c15] at H
           have c15b0 : ((rd t410 (ji13)) == 32) = true := beq_iff_eq.mpr c15
           have c15b1 : ((rd t410 (ji13)) != 32) = false := bne_eq_false_iff_eq.mpr c15
           clear c15
           have H' := Aside0.mk H
           clear H
           obtain ⟨Ao16, co16, eo16⟩ := Kd.R_slice HO_6.out
           subst eo16
           have p417 : 0 ≤ (x9_1 : Int) := of_decide_eq_true ap0
           have q417 : x9_1 < (t410.length : Int) := of_decide_eq_true ap0
           obtain ⟨ad417, e417, hx417_0⟩ := Kd.at_int (Kd.R_reads' HO_6.out).2.2 x9_1 p417 q417
           cases e417
           replace p417 := eq_true p417
           replace q417 := eq_true q417
           obtain ⟨Ao17, co17, eo17⟩ := Kd.R_slice HO_8.out
           subst eo17
           have p418 : 0 ≤ ((ji13) : Int) := of_decide_eq_true ap0
           have q418 : (ji13) < (t410.length : Int) := of_decide_eq_true ap0
           obtain ⟨ad418, e418, hx418_0⟩ := Kd.at_int (Kd.R_reads' HO_6.out).2.2 (ji13) p418 q418
           obtain rfl : ad417 = ad418 := (by injection e418)
           replace p418 := eq_true p418
           replace q418 := eq_true q418
           go_wp2
           go_roundg k1
           case measure => have := HK1.out; omega
           case rel => exact ⟨(x8_1), (ji13), (by first | rfl | (simp; done) | (simp only [← hji13] <;> (first | rfl | simp)) | (simp [*]; done)), H', ⟨by have := HK1.out; omega⟩, ⟨by (with_reducible repeat (first | apply Kd.R_alloc | apply Kd.R_drewN | apply Kd.R_drew)); exact HO_6.out⟩, ⟨by (with_reducible repeat (first | apply Kd.R_alloc | apply Kd.R_drewN | apply Kd.R_drew)); exact HO_8.out⟩, ⟨by repeat (first | (with_reducible first | exact HB.out | apply below_alloc | apply pw_below_drewN | apply below_drew1) | exact HB.out)⟩⟩
          ·
           rw [if_neg c15] at H
           have c15b0 : ((rd t410 (ji13)) == 32) = false := beq_eq_false_iff_ne.mpr c15
           have c15b1 : ((rd t410 (ji13)) != 32) = true := bne_iff_ne.mpr c15
           by_cases c18 : x8_1.length < 35184372088832
           ·
            rw [if_pos c18] at H
            have LMc18 := Aside0.mk c18
            clear c18
            obtain ⟨y420, hy420⟩ : ∃ y_ : List Int, y_ = (x8_1 ++ [rd t410 x9_1]) := ⟨_, rfl⟩
            replace H : (R13Ready.l0 k1 t410 y420 ji13) = some (r1, r2) := by first | (rw [hy420]; with_reducible exact H) | (have H2_ := (Option.bind_some _ _).symm.trans H; rw [hy420]; with_reducible exact H2_) | (have H2_ := (Option.bind_some _ _).symm.trans H; with_reducible exact H2_) | with_reducible exact H | (rw [hy420]; exact H) | exact H
            have Ny420 := Aside0.mk hy420
            clear hy420
            have H' := Aside0.mk H
            clear H
            obtain ⟨Ao19, co19, eo19⟩ := Kd.R_slice HO_6.out
            subst eo19
            have p417 : 0 ≤ (x9_1 : Int) := of_decide_eq_true ap0
            have q417 : x9_1 < (t410.length : Int) := of_decide_eq_true ap0
            obtain ⟨ad417, e417, hx417_0⟩ := Kd.at_int (Kd.R_reads' HO_6.out).2.2 x9_1 p417 q417
            cases e417
            replace p417 := eq_true p417
            replace q417 := eq_true q417
            obtain ⟨Ao20, co20, eo20⟩ := Kd.R_slice HO_8.out
            subst eo20
            have p418 : 0 ≤ ((ji13) : Int) := of_decide_eq_true ap0
            have q418 : (ji13) < (t410.length : Int) := of_decide_eq_true ap0
            obtain ⟨ad418, e418, hx418_0⟩ := Kd.at_int (Kd.R_reads' HO_6.out).2.2 (ji13) p418 q418
            obtain rfl : ad417 = ad418 := (by injection e418)
            replace p418 := eq_true p418
            replace q418 := eq_true q418
            have p419 : 0 ≤ (x9_1 : Int) := of_decide_eq_true ap0
            have q419 : x9_1 < (t410.length : Int) := of_decide_eq_true ap0
            obtain ⟨ad419, e419, hx419_0⟩ := Kd.at_int (Kd.R_reads' HO_6.out).2.2 x9_1 p419 q419
            obtain rfl : ad417 = ad419 := (by injection e419)
            replace p419 := eq_true p419
            replace q419 := eq_true q419
            go_wp2_with (first | ((with_reducible refine gate_builtin (b := .append) (xs := #[.tmp 51, .tmp 56]) rfl ?_); (try (refine gate_guard (by rfl) ?_; dsimp only)); at_builtin; refine Kd.R_append (Kd.int .i32) (w0 := w) w.heap.size rfl (.tmp 51) (.tmp 56) 129 21 (.int .i32 0) 4 rfl Tryd.underlying129 info21 rfl (by decide) (by omega) (.slice Ao20 x8_1.length co20) x8_1 (rd t410 x9_1) [.int .i32 (rd t410 x9_1)] (fun k_ => some k_ ≠ (.slice (some ad417) t410.length co19 : Value).ownBlock) (fun _ => False) rfl rfl ?aP (fun _ hk => hk.elim) ?aF ?aO ?aB ?aS ?aL ?_; (case aP => exact rfl); (case aB => exact ap1); (case aF => exact (fun k_ hk => Kd.fresh' (Kd.R_lt (apAR HO_6.out)) k_ hk)); (case aO => exact (apAR HO_8.out)); (case aS => exact (below_size ap1)); (case aL => have := LMc18.out; omega); intro v421 w21 ho hb hg hat; rw [← Ny420.out] at ho; have n0_ := Aside0.mk (Kd.R_after (ok := (fun _ => True)) (by (with_reducible repeat (first | apply Kd.R_alloc | apply Kd.R_drewN | apply Kd.R_drew)); exact Kd.R_mono HO_6.out (fun _ hk => ⟨trivial, hk⟩)) hg hat); have n1_ := Aside0.mk (hb); have n2_ := Aside0.mk (ho); clear HO_6; clear HB; clear HO_8; have HO_6 := n0_; have HB := n1_; have HO422 := n2_; clear n0_ n1_ n2_; clear ho hb hg hat))
            go_roundg k1
            case measure => have := HK1.out; omega
            case rel => exact ⟨(y420), (ji13), (by first | rfl | (simp; done) | (simp only [← hji13] <;> (first | rfl | simp)) | (simp [*]; done)), H', ⟨by have := HK1.out; omega⟩, ⟨by (with_reducible repeat (first | apply Kd.R_alloc | apply Kd.R_drewN | apply Kd.R_drew)); exact Kd.R_mono HO_6.out (fun _ hk => hk.2)⟩, ⟨by (with_reducible repeat (first | apply Kd.R_alloc | apply Kd.R_drewN | apply Kd.R_drew)); exact HO422.out⟩, ⟨by repeat (first | (with_reducible first | exact HB.out | apply below_alloc | apply pw_below_drewN | apply below_drew1) | exact HB.out)⟩⟩
           ·
            rw [if_neg c18] at H
            exact absurd H (by simp)
         ·
          rw [if_neg c14] at H
          exact absurd H (by simp)
        ·
         rw [if_neg c12] at H
         have c12b0 := decide_eq_false c12
         clear c12
         have H' := Aside0.mk H
         clear H
         obtain ⟨Ao22, co22, eo22⟩ := Kd.R_slice HO_6.out
         subst eo22
         have p417 : 0 ≤ (x9_1 : Int) := of_decide_eq_true ap0
         have q417 : x9_1 < (t410.length : Int) := of_decide_eq_true ap0
         obtain ⟨ad417, e417, hx417_0⟩ := Kd.at_int (Kd.R_reads' HO_6.out).2.2 x9_1 p417 q417
         cases e417
         replace p417 := eq_true p417
         replace q417 := eq_true q417
         obtain ⟨Ao23, co23, eo23⟩ := Kd.R_slice HO_8.out
         subst eo23
         go_wp2
         go_roundg k1
         case measure => have := HK1.out; omega
         case rel => exact ⟨(x8_1), (wrap64 (x9_1 + 1)), ap2, H', ⟨by have := HK1.out; omega⟩, ⟨by (with_reducible repeat (first | apply Kd.R_alloc | apply Kd.R_drewN | apply Kd.R_drew)); exact HO_6.out⟩, ⟨by (with_reducible repeat (first | apply Kd.R_alloc | apply Kd.R_drewN | apply Kd.R_drew)); exact HO_8.out⟩, ⟨by repeat (first | (with_reducible first | exact HB.out | apply below_alloc | apply pw_below_drewN | apply below_drew1) | exact HB.out)⟩⟩
       ·
        rw [if_neg c11] at H
        have c11b0 := decide_eq_false c11
        have c11b1 : decide (0 < x8_1.length) = false := decide_eq_false (by omega)
        clear c11
        have H' := Aside0.mk H
        clear H
        obtain ⟨Ao24, co24, eo24⟩ := Kd.R_slice HO_6.out
        subst eo24
        have p417 : 0 ≤ (x9_1 : Int) := of_decide_eq_true ap0
        have q417 : x9_1 < (t410.length : Int) := of_decide_eq_true ap0
        obtain ⟨ad417, e417, hx417_0⟩ := Kd.at_int (Kd.R_reads' HO_6.out).2.2 x9_1 p417 q417
        cases e417
        replace p417 := eq_true p417
        replace q417 := eq_true q417
        obtain ⟨Ao25, co25, eo25⟩ := Kd.R_slice HO_8.out
        subst eo25
        go_wp2
        go_roundg k1
        case measure => have := HK1.out; omega
        case rel => exact ⟨(x8_1), (wrap64 (x9_1 + 1)), ap2, H', ⟨by have := HK1.out; omega⟩, ⟨by (with_reducible repeat (first | apply Kd.R_alloc | apply Kd.R_drewN | apply Kd.R_drew)); exact HO_6.out⟩, ⟨by (with_reducible repeat (first | apply Kd.R_alloc | apply Kd.R_drewN | apply Kd.R_drew)); exact HO_8.out⟩, ⟨by repeat (first | (with_reducible first | exact HB.out | apply below_alloc | apply pw_below_drewN | apply below_drew1) | exact HB.out)⟩⟩
      ·
       rw [if_neg c10] at H
       have c10b0 : ((rd t410 x9_1) == 32) = false := beq_eq_false_iff_ne.mpr c10
       have c10b1 : ((rd t410 x9_1) != 32) = true := bne_iff_ne.mpr c10
       by_cases c26 : x8_1.length < 35184372088832
       ·
        rw [if_pos c26] at H
        have LMc26 := Aside0.mk c26
        clear c26
        obtain ⟨y424, hy424⟩ : ∃ y_ : List Int, y_ = (x8_1 ++ [rd t410 x9_1]) := ⟨_, rfl⟩
        replace H : (R13Ready.l0 k1 t410 y424 (wrap64 (x9_1 + 1))) = some (r1, r2) := by first | (rw [hy424]; with_reducible exact H) | (have H2_ := (Option.bind_some _ _).symm.trans H; rw [hy424]; with_reducible exact H2_) | (have H2_ := (Option.bind_some _ _).symm.trans H; with_reducible exact H2_) | with_reducible exact H | (rw [hy424]; exact H) | exact H
        have Ny424 := Aside0.mk hy424
        clear hy424
        have H' := Aside0.mk H
        clear H
        obtain ⟨Ao27, co27, eo27⟩ := Kd.R_slice HO_6.out
        subst eo27
        have p417 : 0 ≤ (x9_1 : Int) := of_decide_eq_true ap0
        have q417 : x9_1 < (t410.length : Int) := of_decide_eq_true ap0
        obtain ⟨ad417, e417, hx417_0⟩ := Kd.at_int (Kd.R_reads' HO_6.out).2.2 x9_1 p417 q417
        cases e417
        replace p417 := eq_true p417
        replace q417 := eq_true q417
        have p423 : 0 ≤ (x9_1 : Int) := of_decide_eq_true ap0
        have q423 : x9_1 < (t410.length : Int) := of_decide_eq_true ap0
        obtain ⟨ad423, e423, hx423_0⟩ := Kd.at_int (Kd.R_reads' HO_6.out).2.2 x9_1 p423 q423
        obtain rfl : ad417 = ad423 := (by injection e423)
        replace p423 := eq_true p423
        replace q423 := eq_true q423
        go_wp2_with (first | ((with_reducible refine gate_builtin (b := .append) (xs := #[.tmp 51, .tmp 56]) rfl ?_); (try (refine gate_guard (by rfl) ?_; dsimp only)); at_builtin; refine Kd.R_append (Kd.int .i32) (w0 := w) w.heap.size rfl (.tmp 51) (.tmp 56) 129 21 (.int .i32 0) 4 rfl Tryd.underlying129 info21 rfl (by decide) (by omega) u8 x8_1 (rd t410 x9_1) [.int .i32 (rd t410 x9_1)] (fun k_ => some k_ ≠ (.slice (some ad417) t410.length co27 : Value).ownBlock) (fun _ => False) rfl rfl ?aP (fun _ hk => hk.elim) ?aF ?aO ?aB ?aS ?aL ?_; (case aP => exact rfl); (case aB => exact ap1); (case aF => exact (fun k_ hk => Kd.fresh' (Kd.R_lt (apAR HO_6.out)) k_ hk)); (case aO => exact (apAR HO_8.out)); (case aS => exact (below_size ap1)); (case aL => have := LMc26.out; omega); intro v425 w28 ho hb hg hat; rw [← Ny424.out] at ho; have n0_ := Aside0.mk (Kd.R_after (ok := (fun _ => True)) (by (with_reducible repeat (first | apply Kd.R_alloc | apply Kd.R_drewN | apply Kd.R_drew)); exact Kd.R_mono HO_6.out (fun _ hk => ⟨trivial, hk⟩)) hg hat); have n1_ := Aside0.mk (hb); have n2_ := Aside0.mk (ho); clear HO_6; clear HB; clear HO_8; have HO_6 := n0_; have HB := n1_; have HO426 := n2_; clear n0_ n1_ n2_; clear ho hb hg hat))
        go_roundg k1
        case measure => have := HK1.out; omega
        case rel => exact ⟨(y424), (wrap64 (x9_1 + 1)), ap2, H', ⟨by have := HK1.out; omega⟩, ⟨by (with_reducible repeat (first | apply Kd.R_alloc | apply Kd.R_drewN | apply Kd.R_drew)); exact Kd.R_mono HO_6.out (fun _ hk => hk.2)⟩, ⟨by (with_reducible repeat (first | apply Kd.R_alloc | apply Kd.R_drewN | apply Kd.R_drew)); exact HO426.out⟩, ⟨by repeat (first | (with_reducible first | exact HB.out | apply below_alloc | apply pw_below_drewN | apply below_drew1) | exact HB.out)⟩⟩
       ·
        rw [if_neg c26] at H
        exact absurd H (by simp)
     ·
      rw [if_neg c9] at H
      exact absurd H (by simp)
    ·
     rw [if_neg c8] at H
     have c8b0 := decide_eq_false c8
     clear c8
     replace H := Option.bind_eq_some_iff.mp H
     obtain ⟨t427, A290, H⟩ := H
     replace H : (some (t427, 0)) = some (r1, r2) := H
     have A29 := Aside0.mk A290
     clear A290
     simp only [Option.some.injEq, Prod.mk.injEq] at H
     obtain ⟨rfl, rfl⟩ := H
     obtain ⟨Ao30, co30, eo30⟩ := Kd.R_slice HO_6.out
     subst eo30
     obtain ⟨Ao31, co31, eo31⟩ := Kd.R_slice HO_8.out
     subst eo31
     go_wp2_with (first | ((with_reducible refine gate_callee (f := 114) rfl ?_); refine goesL_ (some 59) rfl rfl Tryd.func114 (by kernel_rfl) rfl #[.slice Ao31 x8_1.length co31] rfl ap3 ?_; (with_reducible refine (R13Text.calls k1 _ _ x8_1 t427 _ ?side1 ?side2 A29.out).mono ?_); (case side1 => repeat (first | exact (Kd.R_reads' HO_8.out).2.2 | (with_reducible refine Kd.C_alloc ?_ _) | (with_reducible refine Kd.C_drewN ?_ _) | (with_reducible refine Kd.C_drew ?_))); (case side2 => exact (Kd.R_reads' HO_8.out).2.1); rintro e w32 ⟨rfl, hb⟩; refine ⟨_, rfl, ?_⟩; have n0_ := Aside0.mk (Kd.R_below (apAR HO_6.out) hb); have n1_ := Aside0.mk (Kd.R_below (apAR HO_8.out) hb); have n2_ := Aside0.mk (below_step ap1 hb); clear HO_6; clear HO_8; clear HB; have HO_6 := n0_; have HO_8 := n1_; have HB := n2_; clear n0_ n1_ n2_; (try clear hb); (try clear hb2); (try clear hk); (try clear hi)))
     go_ret2
     exact ⟨by first | rfl | (simp [errW_none, errW_some, bne_nil8, beq_nil8]; done) | (simp [errW_none, errW_some] <;> rfl) | (simp [*, errW_none, errW_some] <;> rfl), by repeat (first | (with_reducible first | exact HB.out | apply below_alloc | apply pw_below_drewN | apply below_drew1) | exact HB.out)⟩
 ·
  rw [if_neg c4] at H
  have c4b0 : (t411 == 0) = false := beq_eq_false_iff_ne.mpr c4
  have c4b1 : (t411 != 0) = true := bne_iff_ne.mpr c4
  simp only [Option.some.injEq, Prod.mk.injEq] at H
  obtain ⟨rfl, rfl⟩ := H
  go_enter Tryd.func94, Tryd.ntmps94
  go_wp2_with (first | ((with_reducible refine gate_callee (f := 113) rfl ?_); refine goesL_ (some 13) rfl rfl Tryd.func113 (by kernel_rfl) rfl #[.string a0, .bool a1] rfl ap3 ?_; (with_reducible refine (R13Mapped.calls k a0 a1 t410 t411 _ A3.out).mono ?_); rintro e w33 ⟨v412, rfl, ho0, hb⟩; refine ⟨_, rfl, ?_⟩; have n0_ := Aside0.mk (Kd.R_lower ho0 (below_size ap1)); have n1_ := Aside0.mk (below_step ap1 hb); clear HB; have HO413 := n0_; have HB := n1_; clear n0_ n1_; (try clear hb); (try clear hb2); (try clear hk); (try clear hi); (try clear ho0)))
  go_ret2
  exact ⟨by first | rfl | (simp [errW_none, errW_some, bne_nil8, beq_nil8]; done) | (simp [errW_none, errW_some] <;> rfl) | (simp [*, errW_none, errW_some] <;> rfl), by repeat (first | (with_reducible first | exact HB.out | apply below_alloc | apply pw_below_drewN | apply below_drew1) | exact HB.out)⟩
end Go.Proofs.YtkklacijhmoopaaDoor.Print
namespace Go.Proofs.YtkklacijhmoopaaDoor.Print
open Go.RowKit Go.Proofs.YtkklacijhmoopaaDoorW.PrintWords Go.Proofs.YtkklacijhmoopaaDoorW.PrintLast Go.Proofs.YtkklacijhmoopaaDoorW.PrintMore Go.Proofs.YtkklacijhmoopaaDoor.Pure
set_option linter.unusedVariables false
set_option linter.unusedSimpArgs false
theorem sdT {p : Prop} [Decidable p] (h : p) : some true = some (decide p) := congrArg some (decide_eq_true h).symm
theorem sdF {p : Prop} [Decidable p] (h : ¬ p) : some false = some (decide p) := congrArg some (decide_eq_false h).symm
theorem sdB {p : Prop} [Decidable p] {a b : Int} (h : a = b ↔ p) : some (a == b) = some (decide p) := by
  congr 1; rw [Bool.eq_iff_iff, beq_iff_eq, decide_eq_true_iff]; exact h
theorem u8s (n : Nat) (h : n < 256) : n.toUInt8.toNat = n := by
  have e : n.toUInt8.toNat = n % 2 ^ 8 := UInt8.toNat_ofNat'
  rw [e]; exact Nat.mod_eq_of_lt h
set_option maxHeartbeats 4000000 in
theorem rdropped_is (r : Int) : R13Dropped.f r = some (dropB r) := by
  unfold R13Dropped.f dropB
  by_cases h9 : r < 9
  · simp (disch := omega) only [if_pos, if_neg]; first | exact sdT (by omega) | exact sdF (by omega) | exact sdB (by omega)
  by_cases h14 : r < 14
  · simp (disch := omega) only [if_pos, if_neg]; first | exact sdT (by omega) | exact sdF (by omega) | exact sdB (by omega)
  by_cases h32 : r < 32
  · simp (disch := omega) only [if_pos, if_neg]; first | exact sdT (by omega) | exact sdF (by omega) | exact sdB (by omega)
  by_cases h127 : r < 127
  · simp (disch := omega) only [if_pos, if_neg]; first | exact sdT (by omega) | exact sdF (by omega) | exact sdB (by omega)
  by_cases h133 : r < 133
  · simp (disch := omega) only [if_pos, if_neg]; first | exact sdT (by omega) | exact sdF (by omega) | exact sdB (by omega)
  by_cases h134 : r < 134
  · simp (disch := omega) only [if_pos, if_neg]; first | exact sdT (by omega) | exact sdF (by omega) | exact sdB (by omega)
  by_cases h160 : r < 160
  · simp (disch := omega) only [if_pos, if_neg]; first | exact sdT (by omega) | exact sdF (by omega) | exact sdB (by omega)
  by_cases h173 : r < 173
  · simp (disch := omega) only [if_pos, if_neg]; first | exact sdT (by omega) | exact sdF (by omega) | exact sdB (by omega)
  by_cases h174 : r < 174
  · simp (disch := omega) only [if_pos, if_neg]; first | exact sdT (by omega) | exact sdF (by omega) | exact sdB (by omega)
  by_cases h8203 : r < 8203
  · simp (disch := omega) only [if_pos, if_neg]; first | exact sdT (by omega) | exact sdF (by omega) | exact sdB (by omega)
  by_cases h8208 : r < 8208
  · simp (disch := omega) only [if_pos, if_neg]; first | exact sdT (by omega) | exact sdF (by omega) | exact sdB (by omega)
  by_cases h65279 : r < 65279
  · simp (disch := omega) only [if_pos, if_neg]; first | exact sdT (by omega) | exact sdF (by omega) | exact sdB (by omega)
  by_cases h65280 : r < 65280
  · simp (disch := omega) only [if_pos, if_neg]; first | exact sdT (by omega) | exact sdF (by omega) | exact sdB (by omega)
  simp (disch := omega) only [if_pos, if_neg]; first | exact sdT (by omega) | exact sdF (by omega) | exact sdB (by omega)
set_option maxHeartbeats 4000000 in
theorem rblank_is (r : Int) : R13Blank.f r = some (blankB r) := by
  unfold R13Blank.f blankB
  by_cases h9 : r < 9
  · simp (disch := omega) only [if_pos, if_neg]; first | exact sdT (by omega) | exact sdF (by omega) | exact sdB (by omega)
  by_cases h14 : r < 14
  · simp (disch := omega) only [if_pos, if_neg]; first | exact sdT (by omega) | exact sdF (by omega) | exact sdB (by omega)
  by_cases h32 : r < 32
  · simp (disch := omega) only [if_pos, if_neg]; first | exact sdT (by omega) | exact sdF (by omega) | exact sdB (by omega)
  by_cases h33 : r < 33
  · simp (disch := omega) only [if_pos, if_neg]; first | exact sdT (by omega) | exact sdF (by omega) | exact sdB (by omega)
  by_cases h133 : r < 133
  · simp (disch := omega) only [if_pos, if_neg]; first | exact sdT (by omega) | exact sdF (by omega) | exact sdB (by omega)
  by_cases h134 : r < 134
  · simp (disch := omega) only [if_pos, if_neg]; first | exact sdT (by omega) | exact sdF (by omega) | exact sdB (by omega)
  by_cases h160 : r < 160
  · simp (disch := omega) only [if_pos, if_neg]; first | exact sdT (by omega) | exact sdF (by omega) | exact sdB (by omega)
  by_cases h161 : r < 161
  · simp (disch := omega) only [if_pos, if_neg]; first | exact sdT (by omega) | exact sdF (by omega) | exact sdB (by omega)
  by_cases h5760 : r < 5760
  · simp (disch := omega) only [if_pos, if_neg]; first | exact sdT (by omega) | exact sdF (by omega) | exact sdB (by omega)
  by_cases h5761 : r < 5761
  · simp (disch := omega) only [if_pos, if_neg]; first | exact sdT (by omega) | exact sdF (by omega) | exact sdB (by omega)
  by_cases h8192 : r < 8192
  · simp (disch := omega) only [if_pos, if_neg]; first | exact sdT (by omega) | exact sdF (by omega) | exact sdB (by omega)
  by_cases h8203 : r < 8203
  · simp (disch := omega) only [if_pos, if_neg]; first | exact sdT (by omega) | exact sdF (by omega) | exact sdB (by omega)
  by_cases h8232 : r < 8232
  · simp (disch := omega) only [if_pos, if_neg]; first | exact sdT (by omega) | exact sdF (by omega) | exact sdB (by omega)
  by_cases h8233 : r < 8233
  · simp (disch := omega) only [if_pos, if_neg]; first | exact sdT (by omega) | exact sdF (by omega) | exact sdB (by omega)
  by_cases h8234 : r < 8234
  · simp (disch := omega) only [if_pos, if_neg]; first | exact sdT (by omega) | exact sdF (by omega) | exact sdB (by omega)
  by_cases h8239 : r < 8239
  · simp (disch := omega) only [if_pos, if_neg]; first | exact sdT (by omega) | exact sdF (by omega) | exact sdB (by omega)
  by_cases h8240 : r < 8240
  · simp (disch := omega) only [if_pos, if_neg]; first | exact sdT (by omega) | exact sdF (by omega) | exact sdB (by omega)
  by_cases h8287 : r < 8287
  · simp (disch := omega) only [if_pos, if_neg]; first | exact sdT (by omega) | exact sdF (by omega) | exact sdB (by omega)
  by_cases h8288 : r < 8288
  · simp (disch := omega) only [if_pos, if_neg]; first | exact sdT (by omega) | exact sdF (by omega) | exact sdB (by omega)
  by_cases h12288 : r < 12288
  · simp (disch := omega) only [if_pos, if_neg]; first | exact sdT (by omega) | exact sdF (by omega) | exact sdB (by omega)
  by_cases h12289 : r < 12289
  · simp (disch := omega) only [if_pos, if_neg]; first | exact sdT (by omega) | exact sdF (by omega) | exact sdB (by omega)
  simp (disch := omega) only [if_pos, if_neg]; first | exact sdT (by omega) | exact sdF (by omega) | exact sdB (by omega)
set_option maxHeartbeats 4000000 in
theorem rsmall_is (k : Nat) (r : Int) (h0 : 0 ≤ r) (h1 : r ≤ 1114111) : R13Small.f (k + 1) r = some (smallI r) := by
  have w1 : wrap32 (r + 32) = r + 32 := by unfold wrap32; omega
  have w2 : wrap32 (r + 80) = r + 80 := by unfold wrap32; omega
  unfold R13Small.f smallI
  simp only [R13Small.j0, w1, w2, decide_eq_true_eq, if_true, Bool.false_eq_true, if_false]
  by_cases h65 : r < 65
  · simp (disch := omega) only [if_pos, if_neg]
  by_cases h91 : r < 91
  · simp (disch := omega) only [if_pos, if_neg]
  by_cases h192 : r < 192
  · simp (disch := omega) only [if_pos, if_neg]
  by_cases h215 : r < 215
  · simp (disch := omega) only [if_pos, if_neg]
  by_cases h216 : r < 216
  · simp (disch := omega) only [if_pos, if_neg]
  by_cases h223 : r < 223
  · simp (disch := omega) only [if_pos, if_neg]
  by_cases h913 : r < 913
  · simp (disch := omega) only [if_pos, if_neg]
  by_cases h930 : r < 930
  · simp (disch := omega) only [if_pos, if_neg]
  by_cases h931 : r < 931
  · simp (disch := omega) only [if_pos, if_neg]
  by_cases h938 : r < 938
  · simp (disch := omega) only [if_pos, if_neg]
  by_cases h1024 : r < 1024
  · simp (disch := omega) only [if_pos, if_neg]
  by_cases h1040 : r < 1040
  · simp (disch := omega) only [if_pos, if_neg]
  by_cases h1072 : r < 1072
  · simp (disch := omega) only [if_pos, if_neg]
  simp (disch := omega) only [if_pos, if_neg]
theorem rsmall_ev (r : Int) (h0 : 0 ≤ r) (h1 : r ≤ 1114111) : Ev (fun k => R13Small.f k r) (smallI r) := Ev.step (fun k => by rw [rsmall_is k r h0 h1]) Ev.rfl'
def okRune (r : Int) : Prop := 0 ≤ r ∧ r ≤ 1114111 ∧ ¬ (55296 ≤ r ∧ r ≤ 57343)
theorem bytes_is (r : Int) (h : okRune r) : R13Bytes.f r = some (ints (Lib.encodeRune r)) := by
  obtain ⟨h0, h1, h2⟩ := h
  have w0 : wrap64 r = r := by unfold wrap64; omega
  have d1 : Int.tdiv r 64 = r / 64 := Int.tdiv_eq_ediv_of_nonneg h0
  have d2 : Int.tdiv r 4096 = r / 4096 := Int.tdiv_eq_ediv_of_nonneg h0
  have d3 : Int.tdiv r 262144 = r / 262144 := Int.tdiv_eq_ediv_of_nonneg h0
  have w1 : wrap64 (r / 64) = r / 64 := by unfold wrap64; omega
  have w2 : wrap64 (r / 4096) = r / 4096 := by unfold wrap64; omega
  have w3 : wrap64 (r / 262144) = r / 262144 := by unfold wrap64; omega
  have m1 : Int.tmod r 64 = r % 64 := Int.tmod_eq_emod_of_nonneg h0
  have m2 : Int.tmod (r / 64) 64 = r / 64 % 64 := Int.tmod_eq_emod_of_nonneg (by omega)
  have m3 : Int.tmod (r / 4096) 64 = r / 4096 % 64 := Int.tmod_eq_emod_of_nonneg (by omega)
  have e : ∀ z : List Int, (∀ x ∈ z, 0 ≤ x ∧ x < 256) → ints (z.map fun x => x.toNat.toUInt8) = z := by
    intro z hz
    unfold ints
    rw [List.map_map]
    conv => rhs; rw [← List.map_id z]
    refine List.map_congr_left fun x hx => ?_
    have := hz x hx
    show ((x.toNat.toUInt8.toNat : Nat) : Int) = x
    rw [u8s _ (by omega)]; omega
  unfold R13Bytes.f Lib.encodeRune
  rw [w0, d1, d2, d3, w1, w2, w3, m1, m2, m3]
  by_cases a1 : r < 128
  · rw [if_pos a1, Lib.encodeRuneZ_one h0 (by omega), e _ (by simp; omega)]
    rw [show r % 256 = r by omega]
  by_cases a2 : r < 2048
  · rw [if_neg a1, if_pos a2, Lib.encodeRuneZ_two (by omega) (by omega), e _ (by simp; omega)]
    rw [show wrap64 (192 + r / 64) % 256 = 192 + r / 64 by unfold wrap64; omega, show wrap64 (128 + r % 64) % 256 = 128 + r % 64 by unfold wrap64; omega]
  by_cases a3 : r < 65536
  · rw [if_neg a1, if_neg a2, if_pos a3, Lib.encodeRuneZ_three (by omega), e _ (by simp; omega)]
    rw [show wrap64 (224 + r / 4096) % 256 = 224 + r / 4096 by unfold wrap64; omega, show wrap64 (128 + r / 64 % 64) % 256 = 128 + r / 64 % 64 by unfold wrap64; omega, show wrap64 (128 + r % 64) % 256 = 128 + r % 64 by unfold wrap64; omega]
  · rw [if_neg a1, if_neg a2, if_neg a3, Lib.encodeRuneZ_four (by omega) (by omega), e _ (by simp; omega)]
    rw [show wrap64 (240 + r / 262144) % 256 = 240 + r / 262144 by unfold wrap64; omega, show wrap64 (128 + r / 4096 % 64) % 256 = 128 + r / 4096 % 64 by unfold wrap64; omega, show wrap64 (128 + r / 64 % 64) % 256 = 128 + r / 64 % 64 by unfold wrap64; omega, show wrap64 (128 + r % 64) % 256 = 128 + r % 64 by unfold wrap64; omega]
theorem bt_get! (s : ByteArray) (p : Nat) (h : p < s.size) : bt s (p : Int) = ((s.get! p).toNat : Int) := by
  have e : s.get! p = s[p] := by simp [ByteArray.get!, h]; rfl
  unfold bt
  rw [dif_pos (by simpa using h), e]; rfl
def oneR (x : Nat × Nat) : Int × Int := if x.1 = 65533 ∧ x.2 = 1 then (0, 0) else ((x.1 : Int), (x.2 : Int))
theorem one_end (s : ByteArray) (p n : Nat) (v low : Int) : Ev (fun k => R13One.l0 k s (p : Int) (n : Int) v low (n : Int)) (if v < low then (0, 0) else (if v > 1114111 then (0, 0) else (if v ≥ 55296 then (if v ≤ 57343 then (0, 0) else (v, (n : Int))) else (v, (n : Int))))) := by
  refine Ev.step (fun k => by rw [R13One.l0]) (Ev.neg (by omega) ?_)
  by_cases h1 : v < low
  · simp only [if_pos h1]; exact Ev.rfl'
  by_cases h2 : v > 1114111
  · simp only [if_neg h1, if_pos h2]; exact Ev.rfl'
  by_cases h3 : v ≥ 55296
  · by_cases h4 : v ≤ 57343
    · simp only [if_neg h1, if_neg h2, if_pos h3, if_pos h4]; exact Ev.rfl'
    · simp only [if_neg h1, if_neg h2, if_pos h3, if_neg h4]; exact Ev.rfl'
  · simp only [if_neg h1, if_neg h2, if_neg h3]; exact Ev.rfl'
theorem dec2 (n b0 b1 b2 b3 : Nat) (h0 : 194 ≤ b0 ∧ b0 < 224) (hn : 1 < n) (h1 : 128 ≤ b1 ∧ b1 ≤ 191) : Lib.decodeN n b0 b1 b2 b3 = ((b0 - 192) * 64 + b1 - 128, 2) := by
  unfold Lib.decodeN
  repeat' split
  all_goals first | (exfalso; omega) | with_reducible rfl | (apply Prod.ext <;> simp only <;> omega)
theorem dec2b (n b0 b1 b2 b3 : Nat) (h0 : 194 ≤ b0 ∧ b0 < 224) (h1 : n ≤ 1 ∨ b1 < 128 ∨ 191 < b1) (hb1 : b1 < 256) : Lib.decodeN n b0 b1 b2 b3 = (65533, 1) := by
  unfold Lib.decodeN
  repeat' split
  all_goals first | (exfalso; omega) | with_reducible rfl
theorem dec3 (n b0 b1 b2 b3 : Nat) (h0 : 224 ≤ b0 ∧ b0 < 240) (hn : 2 < n) (h1 : 128 ≤ b1 ∧ b1 ≤ 191) (h2 : 128 ≤ b2 ∧ b2 ≤ 191) :
    Lib.decodeN n b0 b1 b2 b3 = if ((b0 - 224) * 64 + b1 - 128) * 64 + b2 - 128 < 2048 ∨ (55296 ≤ ((b0 - 224) * 64 + b1 - 128) * 64 + b2 - 128 ∧ ((b0 - 224) * 64 + b1 - 128) * 64 + b2 - 128 ≤ 57343) then (65533, 1) else (((b0 - 224) * 64 + b1 - 128) * 64 + b2 - 128, 3) := by
  unfold Lib.decodeN
  repeat' split
  all_goals first | (exfalso; omega) | with_reducible rfl | (apply Prod.ext <;> simp only <;> omega)
theorem dec3b (n b0 b1 b2 b3 : Nat) (h0 : 224 ≤ b0 ∧ b0 < 240) (h1 : n ≤ 2 ∨ b1 < 128 ∨ 191 < b1 ∨ b2 < 128 ∨ 191 < b2) (hb1 : b1 < 256) (hb2 : b2 < 256) : Lib.decodeN n b0 b1 b2 b3 = (65533, 1) := by
  unfold Lib.decodeN
  repeat' split
  all_goals first | (exfalso; omega) | with_reducible rfl
theorem dec4 (n b0 b1 b2 b3 : Nat) (h0 : 240 ≤ b0 ∧ b0 < 245) (hn : 3 < n) (h1 : 128 ≤ b1 ∧ b1 ≤ 191) (h2 : 128 ≤ b2 ∧ b2 ≤ 191) (h3 : 128 ≤ b3 ∧ b3 ≤ 191) :
    Lib.decodeN n b0 b1 b2 b3 = if (((b0 - 240) * 64 + b1 - 128) * 64 + b2 - 128) * 64 + b3 - 128 < 65536 ∨ 1114111 < (((b0 - 240) * 64 + b1 - 128) * 64 + b2 - 128) * 64 + b3 - 128 then (65533, 1) else ((((b0 - 240) * 64 + b1 - 128) * 64 + b2 - 128) * 64 + b3 - 128, 4) := by
  unfold Lib.decodeN
  repeat' split
  all_goals first | (exfalso; omega) | with_reducible rfl | (apply Prod.ext <;> simp only <;> omega)
theorem dec4b (n b0 b1 b2 b3 : Nat) (h0 : 240 ≤ b0 ∧ b0 < 245) (h1 : n ≤ 3 ∨ b1 < 128 ∨ 191 < b1 ∨ b2 < 128 ∨ 191 < b2 ∨ b3 < 128 ∨ 191 < b3) (hb1 : b1 < 256) (hb2 : b2 < 256) (hb3 : b3 < 256) : Lib.decodeN n b0 b1 b2 b3 = (65533, 1) := by
  unfold Lib.decodeN
  repeat' split
  all_goals first | (exfalso; omega) | with_reducible rfl
theorem dec0 (n b0 b1 b2 b3 : Nat) (hb0 : b0 < 256) (hb1 : b1 < 256) (h0 : 128 ≤ b0 ∧ b0 < 194 ∨ 245 ≤ b0) : Lib.decodeN n b0 b1 b2 b3 = (65533, 1) := by
  unfold Lib.decodeN
  repeat' split
  all_goals first | (exfalso; omega) | with_reducible rfl
theorem one_step (s : ByteArray) (hs : s.size ≤ 1000000) (p n j : Nat) (v low : Int) (hj : j < n) (hn : n ≤ 4) (hp : p + n ≤ s.size) (hv : 0 ≤ v) (hv2 : v ≤ 100000000) {o : Int × Int}
    (hbad : ((s.get! (p + j)).toNat < 128 ∨ 191 < (s.get! (p + j)).toNat) → o = (0, 0))
    (h : (128 ≤ (s.get! (p + j)).toNat ∧ (s.get! (p + j)).toNat ≤ 191) → Ev (fun k => R13One.l0 k s (p : Int) (n : Int) (v * 64 + (s.get! (p + j)).toNat - 128) low ((j + 1 : Nat) : Int)) o) :
    Ev (fun k => R13One.l0 k s (p : Int) (n : Int) v low (j : Int)) o := by
  have hlt := (s.get! (p + j)).toNat_lt
  refine Ev.step (fun k => by rw [R13One.l0]) ?_
  rw [show wrap64 ((p : Int) + (j : Int)) = ((p + j : Nat) : Int) by unfold wrap64; omega, bt_get! s (p + j) (by omega)]
  rw [show wrap64 ((s.get! (p + j)).toNat : Int) = ((s.get! (p + j)).toNat : Int) by unfold wrap64; omega]
  rw [show wrap64 (v * 64) = v * 64 by unfold wrap64; omega]
  rw [show wrap64 (v * 64 + ((s.get! (p + j)).toNat : Int)) = v * 64 + ((s.get! (p + j)).toNat : Int) by unfold wrap64; omega]
  rw [show wrap64 (v * 64 + ((s.get! (p + j)).toNat : Int) - 128) = v * 64 + ((s.get! (p + j)).toNat : Int) - 128 by unfold wrap64; omega]
  rw [show wrap64 ((j : Int) + 1) = ((j + 1 : Nat) : Int) by unfold wrap64; omega]
  refine Ev.pos (by omega) (Ev.pos (by omega) (Ev.pos (by omega) ?_))
  by_cases h1 : (s.get! (p + j)).toNat < 128
  · rw [hbad (.inl h1)]; exact Ev.pos (by omega) Ev.rfl'
  by_cases h2 : 191 < (s.get! (p + j)).toNat
  · rw [hbad (.inr h2)]; exact Ev.neg (by omega) (Ev.pos (by omega) Ev.rfl')
  · exact Ev.neg (by omega) (Ev.neg (by omega) (h ⟨by omega, by omega⟩))
theorem one_j5 (s : ByteArray) (hs : s.size ≤ 1000000) (p n : Nat) (v low : Int) (hp : p < s.size) (hn : n ≤ 4) {o : Int × Int}
    (hz : (n = 0 ∨ s.size < p + n) → o = (0, 0)) (h : n ≠ 0 → p + n ≤ s.size → Ev (fun k => R13One.l0 k s (p : Int) (n : Int) v low ((1 : Nat) : Int)) o) :
    Ev (fun k => R13One.j5 k s (p : Int) (n : Int) v low) o := by
  refine Ev.step (fun k => by rw [R13One.j5]) ?_
  have ht : Ev (fun k => R13One.j6 k s (p : Int) (n : Int) v low true) (0, 0) := Ev.step (fun k => by rw [R13One.j6]) (Ev.pos rfl Ev.rfl')
  by_cases h0 : n = 0
  · rw [hz (.inl h0)]; exact Ev.pos (by omega) ht
  · refine Ev.neg (by omega) ?_
    rw [show wrap64 ((p : Int) + (n : Int)) = ((p + n : Nat) : Int) by unfold wrap64; omega]
    by_cases h1 : s.size < p + n
    · rw [hz (.inr h1), decide_eq_true (by omega)]; exact ht
    · rw [decide_eq_false (by omega)]
      refine Ev.step (fun k => by rw [R13One.j6]) ?_
      refine Ev.neg (by simp) ?_
      exact h h0 (by omega)
theorem one_ev (s : ByteArray) (hs : s.size ≤ 1000000) (p : Nat) (hp : p < s.size) : Ev (fun k => R13One.f k s (p : Int)) (oneR (Utf8.decode s p)) := by
  rw [Lib.decode_at]
  have l0 := (s.get! p).toNat_lt
  have l1 := (s.get! (p + 1)).toNat_lt
  have l2 := (s.get! (p + 2)).toNat_lt
  have l3 := (s.get! (p + 3)).toNat_lt
  have hb0 := bt_get! s p hp
  have w0 : wrap64 ((s.get! p).toNat : Int) = ((s.get! p).toNat : Int) := by unfold wrap64; omega
  unfold R13One.f
  rw [hb0, w0]
  refine Ev.pos (by omega) (Ev.pos (by omega) ?_)
  have hend : ∀ {v low : Int} {n : Nat} {o : Int × Int}, o = (if v < low then (0, 0) else (if v > 1114111 then (0, 0) else (if v ≥ 55296 then (if v ≤ 57343 then (0, 0) else (v, (n : Int))) else (v, (n : Int))))) → Ev (fun k => R13One.l0 k s (p : Int) (n : Int) v low (n : Int)) o := by
    intro v low n o h; rw [h]; exact one_end s p n v low
  generalize (s.get! p).toNat = b0 at *
  by_cases c1 : b0 < 128
  · refine Ev.pos (by omega) ?_
    have e : oneR (Lib.decodeN (s.size - p) b0 (s.get! (p + 1)).toNat (s.get! (p + 2)).toNat (s.get! (p + 3)).toNat) = ((b0 : Int), 1) := by
      unfold Lib.decodeN oneR
      rw [if_pos c1, if_neg (by dsimp only; omega)]; rfl
    rw [e]; exact Ev.rfl'
  refine Ev.neg (by omega) ?_
  have hto : ∀ (n : Nat) (v low : Int) {o : Int × Int}, (194 ≤ b0 ∧ b0 < 224 ∧ n = 2 ∧ v = (b0 : Int) - 192 ∧ low = 128) ∨ (224 ≤ b0 ∧ b0 < 240 ∧ n = 3 ∧ v = (b0 : Int) - 224 ∧ low = 2048) ∨ (240 ≤ b0 ∧ b0 < 245 ∧ n = 4 ∧ v = (b0 : Int) - 240 ∧ low = 65536) ∨ ((b0 < 194 ∨ 245 ≤ b0) ∧ n = 0 ∧ v = 0 ∧ low = 0) →
      Ev (fun k => R13One.j5 k s (p : Int) (n : Int) v low) o →
      Ev (fun k => if (b0 : Int) ≥ 194 then (R13One.j0 k s (p : Int) (b0 : Int) 0 0 0 (decide ((b0 : Int) < 224))) else (R13One.j0 k s (p : Int) (b0 : Int) 0 0 0 false)) o := by
    intro n v low o hc h
    have h4 : ∀ {x7 x8 x9 : Int}, (b0 < 245 ∧ 240 ≤ b0 → x7 = x7) → Ev (fun k => R13One.j5 k s (p : Int) (if 240 ≤ b0 ∧ b0 < 245 then 4 else x7) (if 240 ≤ b0 ∧ b0 < 245 then (b0 : Int) - 240 else x8) (if 240 ≤ b0 ∧ b0 < 245 then 65536 else x9)) o → Ev (fun k => R13One.j3 k s (p : Int) (b0 : Int) x7 x8 x9) o := by
      intro x7 x8 x9 _ h
      refine Ev.step (fun k => by rw [R13One.j3]) ?_
      by_cases q : 240 ≤ b0 ∧ b0 < 245
      · simp only [if_pos q] at h
        refine Ev.pos (by omega) ?_
        rw [decide_eq_true (by omega)]
        refine Ev.step (fun k => by rw [R13One.j4]) (Ev.pos rfl ?_)
        rw [show wrap64 ((b0 : Int) - 240) = (b0 : Int) - 240 by unfold wrap64; omega]; exact h
      · simp only [if_neg q] at h
        by_cases q2 : 240 ≤ b0
        · refine Ev.pos (by omega) ?_
          rw [decide_eq_false (by omega)]
          exact Ev.step (fun k => by rw [R13One.j4]) (Ev.neg (by simp) h)
        · refine Ev.neg (by omega) ?_
          exact Ev.step (fun k => by rw [R13One.j4]) (Ev.neg (by simp) h)
    have h3 : ∀ {x7 x8 x9 : Int}, Ev (fun k => R13One.j3 k s (p : Int) (b0 : Int) (if 224 ≤ b0 ∧ b0 < 240 then 3 else x7) (if 224 ≤ b0 ∧ b0 < 240 then (b0 : Int) - 224 else x8) (if 224 ≤ b0 ∧ b0 < 240 then 2048 else x9)) o → Ev (fun k => R13One.j1 k s (p : Int) (b0 : Int) x7 x8 x9) o := by
      intro x7 x8 x9 h
      refine Ev.step (fun k => by rw [R13One.j1]) ?_
      by_cases q : 224 ≤ b0 ∧ b0 < 240
      · simp only [if_pos q] at h
        refine Ev.pos (by omega) ?_
        rw [decide_eq_true (by omega)]
        refine Ev.step (fun k => by rw [R13One.j2]) (Ev.pos rfl ?_)
        rw [show wrap64 ((b0 : Int) - 224) = (b0 : Int) - 224 by unfold wrap64; omega]; exact h
      · simp only [if_neg q] at h
        by_cases q2 : 224 ≤ b0
        · refine Ev.pos (by omega) ?_
          rw [decide_eq_false (by omega)]
          exact Ev.step (fun k => by rw [R13One.j2]) (Ev.neg (by simp) h)
        · refine Ev.neg (by omega) ?_
          exact Ev.step (fun k => by rw [R13One.j2]) (Ev.neg (by simp) h)
    by_cases q : 194 ≤ b0 ∧ b0 < 224
    · refine Ev.pos (by omega) ?_
      rw [decide_eq_true (by omega)]
      refine Ev.step (fun k => by rw [R13One.j0]) (Ev.pos rfl ?_)
      rw [show wrap64 ((b0 : Int) - 192) = (b0 : Int) - 192 by unfold wrap64; omega]
      refine h3 (h4 (fun _ => rfl) ?_)
      simp (disch := omega) only [if_neg]
      obtain ⟨rfl, rfl, rfl⟩ : n = 2 ∧ v = (b0 : Int) - 192 ∧ low = 128 := by omega
      exact h
    · have hj : Ev (fun k => R13One.j1 k s (p : Int) (b0 : Int) 0 0 0) o → Ev (fun k => if (b0 : Int) ≥ 194 then (R13One.j0 k s (p : Int) (b0 : Int) 0 0 0 (decide ((b0 : Int) < 224))) else (R13One.j0 k s (p : Int) (b0 : Int) 0 0 0 false)) o := by
        intro h
        by_cases q2 : 194 ≤ b0
        · refine Ev.pos (by omega) ?_
          rw [decide_eq_false (by omega)]
          exact Ev.step (fun k => by rw [R13One.j0]) (Ev.neg (by simp) h)
        · exact Ev.neg (by omega) (Ev.step (fun k => by rw [R13One.j0]) (Ev.neg (by simp) h))
      refine hj (h3 (h4 (fun _ => rfl) ?_))
      by_cases q3 : 224 ≤ b0 ∧ b0 < 240
      · simp (disch := omega) only [if_pos, if_neg]
        obtain ⟨rfl, rfl, rfl⟩ : n = 3 ∧ v = (b0 : Int) - 224 ∧ low = 2048 := by omega
        exact h
      · by_cases q4 : 240 ≤ b0 ∧ b0 < 245
        · simp (disch := omega) only [if_pos, if_neg]
          obtain ⟨rfl, rfl, rfl⟩ : n = 4 ∧ v = (b0 : Int) - 240 ∧ low = 65536 := by omega
          exact h
        · simp (disch := omega) only [if_pos, if_neg]
          obtain ⟨rfl, rfl, rfl⟩ : n = 0 ∧ v = 0 ∧ low = 0 := by omega
          exact h
  by_cases c2 : 194 ≤ b0 ∧ b0 < 224
  · refine hto 2 _ 128 (.inl ⟨by omega, by omega, rfl, rfl, rfl⟩) (one_j5 s hs p 2 _ _ hp (by omega) ?_ fun _ hsz => ?_)
    · intro h
      rw [dec2b _ _ _ _ _ c2 (.inl (by omega)) l1]; rfl
    · refine one_step s hs p 2 1 _ _ (by omega) (by omega) hsz (by omega) (by omega) ?_ fun hd => hend ?_
      · intro h
        rw [dec2b _ _ _ _ _ c2 (.inr h) l1]; rfl
      · rw [dec2 _ _ _ _ _ c2 (by omega) hd]
        unfold oneR
        dsimp only
        rw [if_neg (by omega), if_neg (by omega), if_neg (by omega), if_neg (by omega)]
        apply Prod.ext <;> dsimp only <;> omega
  by_cases c3 : 224 ≤ b0 ∧ b0 < 240
  · refine hto 3 _ 2048 (.inr (.inl ⟨by omega, by omega, rfl, rfl, rfl⟩)) (one_j5 s hs p 3 _ _ hp (by omega) ?_ fun _ hsz => ?_)
    · intro h
      rw [dec3b _ _ _ _ _ c3 (.inl (by omega)) l1 l2]; rfl
    · refine one_step s hs p 3 1 _ _ (by omega) (by omega) hsz (by omega) (by omega) ?_ fun hd => ?_
      · intro h
        rw [dec3b _ _ _ _ _ c3 (by omega) l1 l2]; rfl
      refine one_step s hs p 3 2 _ _ (by omega) (by omega) hsz (by omega) (by omega) ?_ fun hd2 => hend ?_
      · intro h
        rw [dec3b _ _ _ _ _ c3 (by omega) l1 l2]; rfl
      · rw [dec3 _ _ _ _ _ c3 (by omega) hd hd2]
        unfold oneR
        split
        · simp only [and_self, if_true]
          repeat' split
          all_goals first | (exfalso; omega) | with_reducible rfl
        · dsimp only
          repeat' split
          all_goals first | (exfalso; omega) | with_reducible rfl | (apply Prod.ext <;> dsimp only <;> omega)
  by_cases c4 : 240 ≤ b0 ∧ b0 < 245
  · refine hto 4 _ 65536 (.inr (.inr (.inl ⟨by omega, by omega, rfl, rfl, rfl⟩))) (one_j5 s hs p 4 _ _ hp (by omega) ?_ fun _ hsz => ?_)
    · intro h
      rw [dec4b _ _ _ _ _ c4 (.inl (by omega)) l1 l2 l3]; rfl
    · refine one_step s hs p 4 1 _ _ (by omega) (by omega) hsz (by omega) (by omega) ?_ fun hd => ?_
      · intro h
        rw [dec4b _ _ _ _ _ c4 (by omega) l1 l2 l3]; rfl
      refine one_step s hs p 4 2 _ _ (by omega) (by omega) hsz (by omega) (by omega) ?_ fun hd2 => ?_
      · intro h
        rw [dec4b _ _ _ _ _ c4 (by omega) l1 l2 l3]; rfl
      refine one_step s hs p 4 3 _ _ (by omega) (by omega) hsz (by omega) (by omega) ?_ fun hd3 => hend ?_
      · intro h
        rw [dec4b _ _ _ _ _ c4 (by omega) l1 l2 l3]; rfl
      · rw [dec4 _ _ _ _ _ c4 (by omega) hd hd2 hd3]
        unfold oneR
        split
        · simp only [and_self, if_true]
          repeat' split
          all_goals first | (exfalso; omega) | with_reducible rfl
        · dsimp only
          repeat' split
          all_goals first | (exfalso; omega) | with_reducible rfl | (apply Prod.ext <;> dsimp only <;> omega)
  · refine hto 0 0 0 (.inr (.inr (.inr ⟨by omega, rfl, rfl, rfl⟩))) (one_j5 s hs p 0 _ _ hp (by omega) ?_ fun h _ => absurd rfl h)
    intro _
    rw [dec0 _ _ _ _ _ l0 l1 (by omega)]; rfl
def cutAt {α : Type} [DecidableEq α] (b : α) : List α → List (List α)
  | [] => [[]]
  | c :: r => if c = b then [] :: cutAt b r else match cutAt b r with
    | [] => [[c]]
    | w :: ws => (c :: w) :: ws
theorem cutAt_ne {α : Type} [DecidableEq α] (b : α) (l : List α) : cutAt b l ≠ [] := by
  cases l with
  | nil => simp [cutAt]
  | cons c r =>
    unfold cutAt
    split
    · simp
    · split <;> simp
theorem cutAt_cons {α : Type} [DecidableEq α] {b c : α} {l : List α} {w : List α} {ws : List (List α)} (hc : c ≠ b) (h : cutAt b l = w :: ws) : cutAt b (c :: l) = (c :: w) :: ws := by
  unfold cutAt; rw [if_neg hc, h]
theorem cutAt_blank {α : Type} [DecidableEq α] (b : α) (l : List α) : cutAt b (b :: l) = [] :: cutAt b l := by rw [cutAt, if_pos rfl]
theorem cutAt_app {α : Type} [DecidableEq α] {b : α} : ∀ (a l : List α), (∀ x ∈ a, x ≠ b) → ∀ {w : List α} {ws : List (List α)}, cutAt b l = w :: ws → cutAt b (a ++ l) = (a ++ w) :: ws
  | [], l, _, w, ws, h => h
  | x :: a, l, ha, w, ws, h => cutAt_cons (ha x (by simp)) (cutAt_app a l (fun y hy => ha y (by simp [hy])) h)
theorem cutAt_none {α : Type} [DecidableEq α] {b : α} (a : List α) (h : ∀ x ∈ a, x ≠ b) : cutAt b a = [a] := by
  have := cutAt_app a [] h (w := []) (ws := []) rfl
  simpa using this
def words {α : Type} [DecidableEq α] (b : α) (l : List α) : List (List α) := (cutAt b l).filter (fun w => !w.isEmpty)
def nb (r : List Int) : Bool := match r with
  | [] => false
  | y :: _ => y != 32
def sq : List Int → Bool → List Int
  | [], _ => []
  | x :: r, ne => if x ≠ 32 ∨ (ne = true ∧ nb r = true) then x :: sq r true else sq r ne
theorem inter_cons {α : Type} (s w : List α) : ∀ (ws : List (List α)), s.intercalate (w :: ws) = w ++ ws.flatMap (s ++ ·)
  | [] => by simp [List.intercalate]
  | v :: ws => by
    have ih := inter_cons s v ws
    have : s.intercalate (w :: v :: ws) = w ++ (s ++ s.intercalate (v :: ws)) := by simp [List.intercalate, List.intersperse]
    rw [this, ih]; simp
theorem sq_true : ∀ (l w : List Int) (ws : List (List Int)), cutAt 32 l = w :: ws → sq l true = w ++ (ws.filter (fun w => !w.isEmpty)).flatMap ([32] ++ ·)
  | [], w, ws, h => by
    simp only [cutAt, List.cons.injEq] at h
    obtain ⟨rfl, rfl⟩ := h; rfl
  | x :: r, w, ws, h => by
    by_cases hx : x = 32
    · subst hx
      have h' : cutAt (32 : Int) (32 :: r) = [] :: cutAt 32 r := cutAt_blank 32 r
      rw [h'] at h
      simp only [List.cons.injEq] at h
      obtain ⟨rfl, rfl⟩ := h
      cases r with
      | nil => rfl
      | cons y r2 =>
        obtain ⟨w2, ws2, h2⟩ := List.exists_cons_of_ne_nil (cutAt_ne (32 : Int) (y :: r2))
        have ih := sq_true (y :: r2) w2 ws2 h2
        rw [h2]
        by_cases hy : y = 32
        · subst hy
          have e : sq (32 :: 32 :: r2) true = sq (32 :: r2) true := by
            conv => lhs; rw [sq]
            rw [if_neg (by simp [nb])]
          have hw : w2 = [] := by
            have h'' : cutAt (32 : Int) (32 :: r2) = [] :: cutAt 32 r2 := cutAt_blank 32 r2
            rw [h''] at h2; simp at h2; exact h2.1
          subst hw
          rw [e, ih]; simp
        · have e : sq (32 :: y :: r2) true = 32 :: sq (y :: r2) true := by
            conv => lhs; rw [sq]
            rw [if_pos (by simp [hy, nb])]
          have hw : w2 ≠ [] := by
            obtain ⟨w3, ws3, h3⟩ := List.exists_cons_of_ne_nil (cutAt_ne (32 : Int) r2)
            rw [cutAt_cons hy h3] at h2; simp at h2; rw [← h2.1]; simp
          rw [e, ih]
          rw [List.filter_cons_of_pos (by simp [hw])]; simp
    · obtain ⟨w2, ws2, h2⟩ := List.exists_cons_of_ne_nil (cutAt_ne (32 : Int) r)
      rw [cutAt_cons hx h2] at h
      simp only [List.cons.injEq] at h
      obtain ⟨rfl, rfl⟩ := h
      have ih := sq_true r w2 ws2 h2
      have e : sq (x :: r) true = x :: sq r true := by
        conv => lhs; rw [sq]
        rw [if_pos (Or.inl hx)]
      rw [e, ih]; rfl
theorem sq_words : ∀ (l : List Int), sq l false = [32].intercalate (words 32 l)
  | [] => rfl
  | x :: r => by
    by_cases hx : x = 32
    · subst hx
      have h' : words (32 : Int) (32 :: r) = words 32 r := by unfold words; rw [cutAt_blank, List.filter_cons_of_neg (by simp)]
      have e : sq (32 :: r) false = sq r false := by
        conv => lhs; rw [sq]
        rw [if_neg (by simp)]
      rw [e, h', sq_words r]
    · obtain ⟨w2, ws2, h2⟩ := List.exists_cons_of_ne_nil (cutAt_ne (32 : Int) r)
      have e : sq (x :: r) false = x :: sq r true := by
        conv => lhs; rw [sq]
        rw [if_pos (Or.inl hx)]
      rw [e, sq_true r w2 ws2 h2]
      unfold words
      rw [cutAt_cons hx h2, List.filter_cons_of_pos (by simp), inter_cons]; rfl
theorem enc_blank : Lib.encodeRune 32 = [32] := by decide
theorem enc_other (r : Int) (h : r ≠ 32) : Lib.encodeRune r ≠ [] ∧ ∀ c ∈ Lib.encodeRune r, c ≠ 32 := by
  by_cases h1 : 0 ≤ r ∧ r ≤ 127
  · unfold Lib.encodeRune
    rw [Lib.encodeRuneZ_one h1.1 h1.2]
    refine ⟨by simp, ?_⟩
    intro c hc
    simp only [List.map_cons, List.map_nil, List.mem_singleton] at hc
    subst hc
    intro h2
    have := congrArg UInt8.toNat h2
    rw [u8s _ (by omega)] at this
    have h32 : (32 : UInt8).toNat = 32 := rfl
    omega
  · have hall : ∀ z : List Int, (∀ x ∈ z, 128 ≤ x ∧ x < 256) → ∀ c ∈ z.map (fun x => x.toNat.toUInt8), c ≠ 32 := by
      intro z hz c hc h2
      obtain ⟨x, hx, rfl⟩ := List.mem_map.1 hc
      have := hz x hx
      have h3 := congrArg UInt8.toNat h2
      rw [u8s _ (by omega)] at h3
      have h32 : (32 : UInt8).toNat = 32 := rfl
      omega
    unfold Lib.encodeRune
    by_cases h2 : 128 ≤ r ∧ r ≤ 2047
    · rw [Lib.encodeRuneZ_two h2.1 h2.2]
      exact ⟨by simp, hall _ (by simp; omega)⟩
    by_cases h3 : (2048 ≤ r ∧ r < 55296) ∨ (57343 < r ∧ r ≤ 65535)
    · rw [Lib.encodeRuneZ_three h3]
      exact ⟨by simp, hall _ (by simp; omega)⟩
    by_cases h4 : 65536 ≤ r ∧ r ≤ 1114111
    · rw [Lib.encodeRuneZ_four h4.1 h4.2]
      exact ⟨by simp, hall _ (by simp; omega)⟩
    · rw [Lib.encodeRuneZ_bad (by omega)]
      exact ⟨by simp, hall _ (by simp)⟩
theorem encAll_cons (r : Int) (l : List Int) : encAll (r :: l) = Lib.encodeRune r ++ encAll l := rfl
theorem encAll_app (a b : List Int) : encAll (a ++ b) = encAll a ++ encAll b := by simp [encAll]
theorem encAll_nil' {l : List Int} : encAll l = [] ↔ l = [] := by
  cases l with
  | nil => simp [encAll]
  | cons r l =>
    rw [encAll_cons]
    by_cases h : r = 32
    · subst h; rw [enc_blank]; simp
    · simp [(enc_other r h).1]
theorem cut_enc : ∀ (l : List Int), cutAt 32 (encAll l) = (cutAt 32 l).map encAll
  | [] => rfl
  | r :: l => by
    have ih := cut_enc l
    rw [encAll_cons]
    by_cases h : r = 32
    · subst h
      rw [enc_blank]
      show cutAt 32 (32 :: encAll l) = _
      have h1 := cutAt_blank (32 : UInt8) (encAll l)
      have h2 := cutAt_blank (32 : Int) l
      rw [h1, h2, ih]; rfl
    · obtain ⟨w2, ws2, h2⟩ := List.exists_cons_of_ne_nil (cutAt_ne (32 : Int) l)
      rw [h2] at ih
      rw [cutAt_app _ _ (enc_other r h).2 ih, cutAt_cons h h2]; rfl
theorem words_enc (l : List Int) : words 32 (encAll l) = (words 32 l).map encAll := by
  unfold words
  rw [cut_enc, List.filter_map]
  congr 1
  refine List.filter_congr fun w _ => ?_
  have := @encAll_nil' w
  cases w with
  | nil => rfl
  | cons x w =>
    have : encAll (x :: w) ≠ [] := fun h => by simp [encAll_nil'] at h
    simp [this]
theorem encAll_inter (ws : List (List Int)) : encAll ([32].intercalate ws) = [32].intercalate (ws.map encAll) := by
  cases ws with
  | nil => rfl
  | cons w ws =>
    rw [inter_cons, List.map_cons, inter_cons, encAll_app]
    congr 1
    induction ws with
    | nil => rfl
    | cons v ws ih => rw [List.flatMap_cons, List.map_cons, List.flatMap_cons, encAll_app, encAll_app, ih, show encAll [32] = [32] from by decide]
def readyOf (fold : Bool) (s : ByteArray) : Option (List UInt8) := (runesN s s.size 0).map fun l => encAll (sq (l.filterMap (mapRune fold)) false)
theorem ready_words (l : List Int) : [32].intercalate (words 32 (encAll l)) = encAll (sq l false) := by rw [words_enc, sq_words, encAll_inter]
theorem index_blank (a b : List UInt8) (h : ∀ c ∈ a, c ≠ 32) : Lib.index (a ++ 32 :: b) [32] = (a.length : Int) := by
  rw [Lib.index_one]
  induction a with
  | nil => rfl
  | cons c a ih =>
    have hc := h c (by simp)
    have ih := ih fun x hx => h x (by simp [hx])
    rw [List.cons_append, Lib.indexByte, if_neg (by simpa using hc), ih, if_neg (by simp <;> omega)]
    simp
theorem index_noblank (a : List UInt8) (h : ∀ c ∈ a, c ≠ 32) : Lib.index a [32] = -1 := by
  rw [Lib.index_one]
  induction a with
  | nil => rfl
  | cons c a ih =>
    have hc := h c (by simp)
    have ih := ih fun x hx => h x (by simp [hx])
    rw [Lib.indexByte, if_neg (by simpa using hc), ih]; rfl
theorem first_blank (l : List UInt8) : (∀ c ∈ l, c ≠ 32) ∨ ∃ a b, l = a ++ 32 :: b ∧ ∀ c ∈ a, c ≠ 32 := by
  induction l with
  | nil => exact .inl (by simp)
  | cons c l ih =>
    by_cases hc : c = 32
    · exact .inr ⟨[], l, by rw [hc]; rfl, by simp⟩
    · rcases ih with h | ⟨a, b, rfl, h⟩
      · exact .inl fun x hx => by rcases List.mem_cons.1 hx with rfl | hx; exact hc; exact h x hx
      · exact .inr ⟨c :: a, b, rfl, fun x hx => by rcases List.mem_cons.1 hx with rfl | hx; exact hc; exact h x hx⟩
theorem splitK_blank : ∀ (k : Nat) (l : List UInt8), l.count 32 ≤ k → Lib.splitK [32] 0 k l = cutAt 32 l
  | 0, l, h => by
    have hn : ∀ c ∈ l, c ≠ 32 := by
      intro c hc h2; subst h2
      have := List.count_pos_iff.2 hc; omega
    rw [cutAt_none l hn]; rfl
  | k + 1, l, h => by
    rcases first_blank l with hn | ⟨a, b, rfl, hn⟩
    · rw [Lib.splitK, index_noblank l hn, if_pos (show ((-1 : Int) == -1) = true from rfl), cutAt_none l hn]
    · rw [Lib.splitK, index_blank a b hn, if_neg (by simp <;> omega)]
      have hc : b.count 32 ≤ k := by
        rw [List.count_append, List.count_cons] at h; simp at h; omega
      obtain ⟨w2, ws2, h2⟩ := List.exists_cons_of_ne_nil (cutAt_ne (32 : UInt8) (32 :: b))
      have h3 := cutAt_blank (32 : UInt8) b
      rw [cutAt_app a _ hn h3, List.append_nil]
      congr 1
      · simp
      · have e : (a ++ 32 :: b).drop ((a.length : Int).toNat + ([32] : List UInt8).length) = b := by simp
        rw [e]
        exact splitK_blank k b hc
theorem split_f (t : List UInt8) (ht : t.length ≤ 1000000) : ∃ ps : List ByteArray, strings_Split.f ⟨t.toArray⟩ (⟨#[32]⟩ : ByteArray) = some ps ∧ ps.map (·.data.toList) = cutAt 32 t := by
  unfold strings_Split.f
  refine ⟨_, by rw [if_pos (by rw [← bl_length]; exact ht), if_pos (show 1 ≤ (⟨#[32]⟩ : ByteArray).size from Nat.le_refl _)], ?_⟩
  rw [Lib.splitB_data]
  show Lib.splitK [32] 0 (Lib.count t [32]) t = _
  exact splitK_blank _ _ (by rw [Lib.count_one]; exact Nat.le_refl _)
theorem rdOf_at {L : List ByteArray} {i : Nat} {x : ByteArray} {r : List ByteArray} (h : L.drop i = x :: r) : i < L.length ∧ rdOf ByteArray.empty L (i : Int) = x ∧ L.drop (i + 1) = r := by
  have h1 : i < L.length := by
    rcases Nat.lt_or_ge i L.length with h' | h'
    · exact h'
    · rw [List.drop_eq_nil_of_le h'] at h; cases h
  refine ⟨h1, ?_, ?_⟩
  · have h0 : L[i]? = some x := by
      have := congrArg List.head? h
      rw [List.head?_drop] at this; simpa using this
    unfold rdOf
    rw [List.getD_eq_getElem?_getD, Int.toNat_natCast, h0]; rfl
  · have := congrArg List.tail h
    rw [List.tail_drop] at this; simpa using this
theorem ready_loop (ps : List ByteArray) (hps : ps.length ≤ 1000000) {t : ByteArray} : ∀ (n i : Nat) (acc : List ByteArray), ps.length - i = n → i ≤ ps.length → acc.length ≤ i →
    strings_Join.f (acc ++ (ps.drop i).filter (fun w => !w.data.toList.isEmpty)) (⟨#[32]⟩ : ByteArray) = some t →
    Ev (fun k => prep_Ready.l0 k acc ps (ps.length : Int) (i : Int)) (t, 0) := by
  intro n
  induction n with
  | zero =>
    intro i acc hn hi ha hj
    rw [List.drop_eq_nil_of_le (by omega)] at hj
    simp only [List.filter_nil, List.append_nil] at hj
    refine Ev.step (fun k => by rw [prep_Ready.l0]) ?_
    exact Ev.neg (by omega) (Ev.bindc hj Ev.rfl')
  | succ n ih =>
    intro i acc hn hi ha hj
    cases hr : ps.drop i with
    | nil => have := List.drop_eq_nil_iff.1 hr; omega
    | cons x r =>
      obtain ⟨g1, g2, g3⟩ := rdOf_at hr
      rw [hr] at hj
      refine Ev.step (fun k => by rw [prep_Ready.l0]) ?_
      rw [g2, wsucc (by omega), Lib.toList_data]
      refine Ev.pos (by omega) (Ev.pos (by omega) (Ev.pos (by omega) ?_))
      by_cases hx : x.data.toList = []
      · refine Ev.pos hx (ih (i + 1) acc (by omega) (by omega) (by omega) ?_)
        rw [g3]
        rw [List.filter_cons_of_neg (by simp [hx])] at hj; exact hj
      · refine Ev.neg hx (Ev.pos (by omega) (ih (i + 1) (acc ++ [x]) (by omega) (by omega) (by simp; omega) ?_))
        rw [g3]
        rw [List.filter_cons_of_pos (by simpa using hx)] at hj
        rw [List.append_assoc]; exact hj
theorem cutAt_len {α : Type} [DecidableEq α] (b : α) : ∀ l : List α, (cutAt b l).length ≤ l.length + 1
  | [] => by simp [cutAt]
  | c :: r => by
    have ih := cutAt_len b r
    by_cases hc : c = b
    · subst hc; rw [cutAt_blank]; simp; omega
    · obtain ⟨w2, ws2, h2⟩ := List.exists_cons_of_ne_nil (cutAt_ne b r)
      rw [h2] at ih
      rw [cutAt_cons hc h2]; simp at ih ⊢; omega
theorem sq_len : ∀ (l : List Int) (b : Bool), (sq l b).length ≤ l.length
  | [], _ => Nat.le_refl _
  | x :: r, b => by
    rw [sq]
    split
    · have := sq_len r true; simp; omega
    · have := sq_len r b; simp; omega
theorem ready_ev (s : ByteArray) (hs : s.size ≤ 100000) (fold : Bool) : Ev (fun k => prep_Ready.f k s fold) (match readyOf fold s with | some t => (⟨t.toArray⟩, 0) | none => (⟨#[]⟩, 19)) := by
  unfold prep_Ready.f
  have hm : prep_Map.f s fold = some (prep_Map.of fold (runesN s s.size 0)) := by unfold prep_Map.f; rw [if_pos (by omega)]
  refine Ev.bindc hm ?_
  unfold readyOf
  cases hr : runesN s s.size 0 with
  | none => exact Ev.neg (show ¬ ((19 : Int) = 0) by decide) Ev.rfl'
  | some l =>
    obtain ⟨_, hll⟩ := runesN_le s _ _ l hr
    have hfl : (l.filterMap (mapRune fold)).length ≤ s.size := Nat.le_trans (List.length_filterMap_le _ _) hll
    have hel := encAll_length (l.filterMap (mapRune fold))
    obtain ⟨ps, h1, h2⟩ := split_f (encAll (l.filterMap (mapRune fold))) (by omega)
    have hpl : ps.length ≤ 1000000 := by
      have := cutAt_len (32 : UInt8) (encAll (l.filterMap (mapRune fold)))
      rw [← h2, List.length_map] at this; omega
    refine Ev.pos (show (0 : Int) = 0 from rfl) (Ev.bindc h1 ?_)
    refine ready_loop ps hpl _ 0 [] rfl (Nat.zero_le _) (Nat.le_refl _) ?_
    rw [List.drop_zero, List.nil_append]
    unfold strings_Join.f
    have hj : joinB (ps.filter fun w => !w.data.toList.isEmpty) (⟨#[32]⟩ : ByteArray) = encAll (sq (l.filterMap (mapRune fold)) false) := by
      unfold joinB
      rw [← ready_words]
      unfold words
      rw [← h2, List.filter_map]; rfl
    have hfl2 : (ps.filter fun w => !w.data.toList.isEmpty).length ≤ ps.length := List.length_filter_le _ _
    have hsq := sq_len (l.filterMap (mapRune fold)) false
    have hel2 := encAll_length (sq (l.filterMap (mapRune fold)) false)
    rw [if_pos (by omega), hj, if_pos (by omega)]
theorem rd_at {L : List Int} {i : Nat} {x : Int} {r : List Int} (h : L.drop i = x :: r) : i < L.length ∧ rd L (i : Int) = x ∧ L.drop (i + 1) = r := by
  have h1 : i < L.length := by
    rcases Nat.lt_or_ge i L.length with h' | h'
    · exact h'
    · rw [List.drop_eq_nil_of_le h'] at h; cases h
  refine ⟨h1, ?_, ?_⟩
  · have h0 : L[i]? = some x := by
      have := congrArg List.head? h
      rw [List.head?_drop] at this; simpa using this
    unfold rd
    rw [List.getD_eq_getElem?_getD, Int.toNat_natCast, h0]; rfl
  · have := congrArg List.tail h
    rw [List.tail_drop] at this; simpa using this
theorem decode_len (s : ByteArray) (p : Nat) (hp : p < s.size) : 1 ≤ (Utf8.decode s p).2 ∧ (p + (Utf8.decode s p).2 ≤ s.size) ∧ (Utf8.decode s p).1 ≤ 1114111 ∧ ¬ (55296 ≤ (Utf8.decode s p).1 ∧ (Utf8.decode s p).1 ≤ 57343) := by
  rw [Lib.decode_at]
  have l0 := (s.get! p).toNat_lt
  rcases Lib.decodeN_shape (s.size - p) (s.get! p).toNat (s.get! (p + 1)).toNat (s.get! (p + 2)).toNat (s.get! (p + 3)).toNat with ⟨a, e⟩ | ⟨b1, b2, b3, a, e⟩ | ⟨b1, b2, b3, b4, a, b5, e⟩ | ⟨b1, b2, b3, b4, b5, a, b6, e⟩ | e
  all_goals (rw [e]; dsimp only; omega)
theorem runes_ev (s : ByteArray) (hs : s.size ≤ 1000000) : ∀ (n p : Nat) (acc : List Int), p ≤ s.size → s.size - p ≤ n → acc.length ≤ p →
    (runesN s n p = none → Ev (fun k => R13Runes.l0 k s acc (p : Int)) ([], 19)) ∧
    (∀ l, runesN s n p = some l → Ev (fun k => R13Runes.l0 k s acc (p : Int)) (acc ++ l, 0)) := by
  intro n
  induction n with
  | zero =>
    intro p acc hp hn ha
    refine ⟨fun h => by simp [runesN] at h, fun l h => ?_⟩
    simp only [runesN, Option.some.injEq] at h
    subst h
    rw [List.append_nil]
    exact Ev.step (fun k => by rw [R13Runes.l0]) (Ev.neg (by omega) Ev.rfl')
  | succ n ih =>
    intro p acc hp hn ha
    rw [runesN]
    by_cases hlt : p < s.size
    · rw [if_pos hlt]
      have ho := one_ev s hs p hlt
      obtain ⟨w1, w2, w3, w4⟩ := decode_len s p hlt
      have hst : ∀ {o : List Int × Int}, Ev (fun k => if (oneR (Utf8.decode s p)).2 = 0 then (some (([] : List Int), (19 : Int))) else (if acc.length < 35184372088832 then (R13Runes.l0 k s (acc ++ [wrap32 ((oneR (Utf8.decode s p)).1)]) (wrap64 ((p : Int) + (oneR (Utf8.decode s p)).2))) else (none))) o → Ev (fun k => R13Runes.l0 k s acc (p : Int)) o := by
        intro o h
        refine Ev.step (fun k => by rw [R13Runes.l0]) ?_
        exact Ev.pos (by omega) (Ev.bind ho h)
      by_cases he : (Utf8.decode s p).1 = 65533 ∧ (Utf8.decode s p).2 = 1
      · rw [if_pos he]
        have e : oneR (Utf8.decode s p) = (0, 0) := by unfold oneR; rw [if_pos he]
        rw [e] at hst
        exact ⟨fun _ => hst (Ev.pos rfl Ev.rfl'), fun l h => by simp at h⟩
      · rw [if_neg he]
        have e : oneR (Utf8.decode s p) = (((Utf8.decode s p).1 : Int), ((Utf8.decode s p).2 : Int)) := by unfold oneR; rw [if_neg he]
        rw [e] at hst
        dsimp only at hst
        generalize (Utf8.decode s p).1 = v at *
        generalize (Utf8.decode s p).2 = w at *
        have hi := ih (p + w) (acc ++ [(v : Int)]) (by omega) (by omega) (by simp; omega)
        have hgo : ∀ {o : List Int × Int}, Ev (fun k => R13Runes.l0 k s (acc ++ [(v : Int)]) ((p + w : Nat) : Int)) o → Ev (fun k => R13Runes.l0 k s acc (p : Int)) o := by
          intro o h
          refine hst (Ev.neg (by omega) (Ev.pos (by omega) ?_))
          rw [show wrap32 (v : Int) = (v : Int) by unfold wrap32; omega, show wrap64 ((p : Int) + (w : Int)) = ((p + w : Nat) : Int) by unfold wrap64; omega]
          exact h
        refine ⟨fun h => hgo (hi.1 (by simpa using h)), fun l h => ?_⟩
        obtain ⟨l', hl', rfl⟩ := Option.map_eq_some_iff.1 h
        have := hgo (hi.2 l' hl')
        rwa [List.append_assoc] at this
    · rw [if_neg hlt]
      refine ⟨fun h => by simp at h, fun l h => ?_⟩
      simp only [Option.some.injEq] at h
      subst h
      rw [List.append_nil]
      exact Ev.step (fun k => by rw [R13Runes.l0]) (Ev.neg (by omega) Ev.rfl')
theorem runesN_ok (s : ByteArray) : ∀ (n p : Nat) (l : List Int), runesN s n p = some l → ∀ r ∈ l, okRune r
  | 0, p, l, h => by simp [runesN] at h; subst h; simp
  | n + 1, p, l, h => by
    rw [runesN] at h
    split at h
    · rename_i hlt
      split at h
      · cases h
      · obtain ⟨l', hl', rfl⟩ := Option.map_eq_some_iff.1 h
        intro r hr
        rcases List.mem_cons.1 hr with rfl | hr
        · obtain ⟨_, _, w3, w4⟩ := decode_len s p hlt
          exact ⟨by omega, by omega, by omega⟩
        · exact runesN_ok s n _ l' hl' r hr
    · simp at h; subst h; simp
theorem smallI_ok {r : Int} (h : okRune r) : okRune (smallI r) := by
  obtain ⟨h0, h1, h2⟩ := h
  unfold okRune smallI
  split
  · omega
  · split <;> omega
theorem mapRune_ok {fold : Bool} {r x : Int} (h : okRune r) (hx : mapRune fold r = some x) : okRune x := by
  unfold mapRune at hx
  split at hx
  · cases hx
  · split at hx
    · simp at hx; subst hx; exact ⟨by omega, by omega, by omega⟩
    · simp at hx; subst hx
      split
      · exact smallI_ok h
      · exact h
theorem mapped_loop (fold : Bool) (l : List Int) (hl : l.length ≤ 1000000) (hok : ∀ r ∈ l, okRune r) (e : Int) : ∀ (n i : Nat) (acc : List Int), l.length - i = n → i ≤ l.length → acc.length ≤ i →
    Ev (fun k => R13Mapped.l0 k fold l e acc (i : Int)) (acc ++ (l.drop i).filterMap (mapRune fold), e) := by
  intro n
  induction n with
  | zero =>
    intro i acc hn hi ha
    rw [List.drop_eq_nil_of_le (by omega)]
    simp only [List.filterMap_nil, List.append_nil]
    exact Ev.step (fun k => by rw [R13Mapped.l0]) (Ev.neg (by omega) Ev.rfl')
  | succ n ih =>
    intro i acc hn hi ha
    cases hr : l.drop i with
    | nil => have := List.drop_eq_nil_iff.1 hr; omega
    | cons x r =>
      obtain ⟨g1, g2, g3⟩ := rd_at hr
      have hx : okRune x := hok x (by
        have : x ∈ l.drop i := by rw [hr]; simp
        exact List.mem_of_mem_drop this)
      refine Ev.step (fun k => by rw [R13Mapped.l0]) ?_
      rw [g2, wsucc (by omega)]
      refine Ev.pos (by omega) (Ev.pos (by omega) (Ev.bindc (rdropped_is x) ?_))
      rw [List.filterMap_cons]
      have hlen : acc.length < 35184372088832 := by omega
      have hgo : ∀ y, Ev (fun k => R13Mapped.l0 k fold l e (acc ++ [y]) ((i + 1 : Nat) : Int)) (acc ++ (y :: r.filterMap (mapRune fold)), e) := by
        intro y
        have := ih (i + 1) (acc ++ [y]) (by omega) (by omega) (by simp; omega)
        rw [g3, List.append_assoc] at this; exact this
      rw [show mapRune fold x = (if dropB x = true then none else if blankB x = true then some 32 else some (if fold = true then smallI x else x)) from rfl]
      cases hd : dropB x with
      | true =>
        refine Ev.pos rfl ?_
        have := ih (i + 1) acc (by omega) (by omega) (by omega)
        rw [g3] at this
        simpa using this
      | false =>
        refine Ev.neg (by simp) (Ev.bindc (rblank_is x) ?_)
        cases hb : blankB x with
        | true => exact Ev.pos rfl (Ev.pos hlen (by simpa using hgo 32))
        | false =>
          refine Ev.neg (by simp) ?_
          cases fold with
          | true => exact Ev.pos rfl (Ev.bind (rsmall_ev x hx.1 hx.2.1) (Ev.pos hlen (by simpa using hgo (smallI x))))
          | false => exact Ev.neg (by simp) (Ev.pos hlen (by simpa using hgo x))
theorem ints_app (a b : List UInt8) : ints a ++ ints b = ints (a ++ b) := by simp [ints]
theorem text_loop (l : List Int) (hl : l.length ≤ 1000000) (hok : ∀ r ∈ l, okRune r) : ∀ (n i : Nat) (acc : List UInt8), l.length - i = n → i ≤ l.length → acc.length ≤ 4 * i →
    Ev (fun k => R13Text.l0 k l (ints acc) (i : Int)) ⟨(acc ++ encAll (l.drop i)).toArray⟩ := by
  intro n
  induction n with
  | zero =>
    intro i acc hn hi ha
    rw [List.drop_eq_nil_of_le (by omega), show encAll [] = [] from rfl, List.append_nil]
    refine Ev.step (fun k => by rw [R13Text.l0]) (Ev.neg (by omega) ?_)
    rw [strOfNums_ints]; exact Ev.rfl'
  | succ n ih =>
    intro i acc hn hi ha
    cases hr : l.drop i with
    | nil => have := List.drop_eq_nil_iff.1 hr; omega
    | cons x r =>
      obtain ⟨g1, g2, g3⟩ := rd_at hr
      have hx : okRune x := hok x (by
        have : x ∈ l.drop i := by rw [hr]; simp
        exact List.mem_of_mem_drop this)
      have h4 : (Lib.encodeRune x).length ≤ 4 := by
        have := Lib.runeCells_le x
        rw [Lib.runeCells_length] at this; exact this.2
      refine Ev.step (fun k => by rw [R13Text.l0]) ?_
      rw [g2, wsucc (by omega)]
      refine Ev.pos (by omega) (Ev.pos (by omega) (Ev.bindc (bytes_is x hx) (Ev.pos (by rw [ints_length, ints_length]; omega) ?_)))
      rw [ints_app, encAll_cons, ← List.append_assoc, ← g3]
      exact ih (i + 1) (acc ++ Lib.encodeRune x) (by omega) (by omega) (by simp; omega)
theorem refready_loop (l : List Int) (hl : l.length ≤ 1000000) {t : ByteArray} : ∀ (n i : Nat) (acc : List Int), l.length - i = n → i ≤ l.length → acc.length ≤ i →
    Ev (fun k => R13Text.f k (acc ++ sq (l.drop i) (decide (0 < acc.length)))) t →
    Ev (fun k => R13Ready.l0 k l acc (i : Int)) (t, 0) := by
  intro n
  induction n with
  | zero =>
    intro i acc hn hi ha ht
    rw [List.drop_eq_nil_of_le (by omega), show ∀ b, sq [] b = [] from fun _ => rfl, List.append_nil] at ht
    refine Ev.step (fun k => by rw [R13Ready.l0]) ?_
    exact Ev.neg (by omega) (Ev.bind ht Ev.rfl')
  | succ n ih =>
    intro i acc hn hi ha ht
    cases hr : l.drop i with
    | nil => have := List.drop_eq_nil_iff.1 hr; omega
    | cons x r =>
      obtain ⟨g1, g2, g3⟩ := rd_at hr
      rw [hr, sq] at ht
      refine Ev.step (fun k => by rw [R13Ready.l0]) ?_
      rw [g2, wsucc (by omega)]
      have hlen : acc.length < 35184372088832 := by omega
      have hput : (x ≠ 32 ∨ (decide (0 < acc.length) = true ∧ nb r = true)) → Ev (fun k => R13Ready.l0 k l (acc ++ [x]) ((i + 1 : Nat) : Int)) (t, 0) := by
        intro hc
        rw [if_pos hc] at ht
        refine ih (i + 1) (acc ++ [x]) (by omega) (by omega) (by simp; omega) ?_
        rw [g3, List.append_assoc, show decide (0 < (acc ++ [x]).length) = true by simp]
        exact ht
      have hskip : ¬ (x ≠ 32 ∨ (decide (0 < acc.length) = true ∧ nb r = true)) → Ev (fun k => R13Ready.l0 k l acc ((i + 1 : Nat) : Int)) (t, 0) := by
        intro hc
        rw [if_neg hc] at ht
        refine ih (i + 1) acc (by omega) (by omega) (by omega) ?_
        rw [g3]; exact ht
      refine Ev.pos (by omega) (Ev.pos (by omega) ?_)
      by_cases hx : x = 32
      · refine Ev.pos hx ?_
        by_cases h0 : 0 < acc.length
        · refine Ev.pos (by omega) ?_
          cases hr2 : r with
          | nil =>
            rw [hr2] at g3 hskip
            have := List.drop_eq_nil_iff.1 g3
            exact Ev.neg (by omega) (hskip (by simp [hx, nb]))
          | cons y r2 =>
            rw [hr2] at g3 hskip hput
            obtain ⟨f1, f2, f3⟩ := rd_at g3
            refine Ev.pos (by omega) (Ev.pos (by omega) ?_)
            rw [f2]
            by_cases hy : y = 32
            · exact Ev.pos hy (hskip (by simp [hx, hy, nb]))
            · exact Ev.neg hy (Ev.pos hlen (hput (.inr ⟨by simp [h0], by simp [nb, hy]⟩)))
        · exact Ev.neg (by omega) (hskip (by simp [hx]; omega))
      · exact Ev.neg hx (Ev.pos hlen (hput (.inl hx)))
theorem mapped_ev (s : ByteArray) (hs : s.size ≤ 100000) (fold : Bool) : Ev (fun k => R13Mapped.f k s fold) (match runesN s s.size 0 with | some l => (l.filterMap (mapRune fold), 0) | none => ([], 19)) := by
  unfold R13Mapped.f R13Runes.f
  obtain ⟨r1, r2⟩ := runes_ev s (by omega) s.size 0 [] (Nat.zero_le _) (by omega) (Nat.le_refl _)
  cases hr : runesN s s.size 0 with
  | none =>
    refine Ev.bind (r1 hr) ?_
    have := mapped_loop fold [] (by simp) (by simp) 19 0 0 [] rfl (Nat.le_refl _) (Nat.le_refl _)
    exact this
  | some l =>
    obtain ⟨_, hll⟩ := runesN_le s _ _ l hr
    refine Ev.bind (r2 l hr) ?_
    have := mapped_loop fold l (by omega) (runesN_ok s _ _ l hr) 0 _ 0 [] rfl (Nat.zero_le _) (Nat.le_refl _)
    rw [List.drop_zero, List.nil_append] at this
    rw [List.nil_append]; exact this
theorem sq_mem : ∀ (l : List Int) (b : Bool), ∀ x ∈ sq l b, x ∈ l
  | [], _, x, h => by simp [sq] at h
  | y :: r, b, x, h => by
    rw [sq] at h
    split at h
    · rcases List.mem_cons.1 h with rfl | h
      · simp
      · exact List.mem_cons_of_mem _ (sq_mem r true x h)
    · exact List.mem_cons_of_mem _ (sq_mem r b x h)
theorem refready_ev (s : ByteArray) (hs : s.size ≤ 100000) (fold : Bool) : Ev (fun k => R13Ready.f k s fold) (match readyOf fold s with | some t => (⟨t.toArray⟩, 0) | none => (⟨#[]⟩, 19)) := by
  unfold R13Ready.f
  have hm := mapped_ev s hs fold
  unfold readyOf
  cases hr : runesN s s.size 0 with
  | none =>
    rw [hr] at hm
    exact Ev.bind hm (Ev.neg (show ¬ ((19 : Int) = 0) by decide) Ev.rfl')
  | some l =>
    rw [hr] at hm
    obtain ⟨_, hll⟩ := runesN_le s _ _ l hr
    have hfl : (l.filterMap (mapRune fold)).length ≤ s.size := Nat.le_trans (List.length_filterMap_le _ _) hll
    have hok : ∀ r ∈ l.filterMap (mapRune fold), okRune r := by
      intro r hr'
      obtain ⟨x, hx, hx2⟩ := List.mem_filterMap.1 hr'
      exact mapRune_ok (runesN_ok s _ _ l hr x hx) hx2
    refine Ev.bind hm (Ev.pos (show (0 : Int) = 0 from rfl) ?_)
    refine refready_loop (l.filterMap (mapRune fold)) (by omega) _ 0 [] rfl (Nat.zero_le _) (Nat.le_refl _) ?_
    have hsl := sq_len (l.filterMap (mapRune fold)) false
    have := text_loop (sq (l.filterMap (mapRune fold)) false) (by omega) (fun r h => hok r (sq_mem _ _ r h)) _ 0 [] rfl (Nat.zero_le _) (Nat.zero_le _)
    rw [List.drop_zero, List.nil_append] at this
    exact this
end Go.Proofs.YtkklacijhmoopaaDoor.Print
namespace Go.Proofs.YtkklacijhmoopaaDoor.Print
open Go.RowKit Go.Proofs.YtkklacijhmoopaaDoorW.PrintWords Go.Proofs.YtkklacijhmoopaaDoorW.PrintLast Go.Proofs.YtkklacijhmoopaaDoorW.PrintMore
attribute [local go_sem] max2_int min2_int max_two min_two max_three min_three max_four min_four
set_option linter.unusedVariables false
set_option linter.unusedSimpArgs false
mutual
def R14Value.j0 : Nat → Int → Bool → Option (Int)
 | 0, _, _ => none
 | k + 1, x0, x8 => if x8 = true then (some (wrap64 ((wrap64 (x0)) - 48))) else (if x0 ≥ 97 then (R14Value.j1 k x0 (decide (x0 ≤ 102))) else (R14Value.j1 k x0 false))
def R14Value.j1 : Nat → Int → Bool → Option (Int)
 | 0, _, _ => none
 | k + 1, x0, x17 => if x17 = true then (some (wrap64 ((wrap64 (x0)) - 87))) else (if x0 ≥ 65 then (if x0 ≤ 70 then (some (wrap64 ((wrap64 (x0)) - 55))) else (some (-1))) else (some (-1)))
end
def R14Value.f (k : Nat) (a0 : Int) : Option (Int) := if a0 ≥ 48 then (R14Value.j0 k a0 (decide (a0 ≤ 57))) else (R14Value.j0 k a0 false)
set_option maxHeartbeats 8000000 in
set_option maxRecDepth 100000 in
theorem R14Value.calls (k : Nat) (a0 : Int) (r : Int) (w : World) (h : R14Value.f k a0 = some r) :
  Calls Tryd.prog 63 #[.int .u8 a0] w fun e w' => e = .returned (.int .i64 r) ∧ Drawn0 w w' := by
 have H : (if a0 ≥ 48 then (R14Value.j0 k a0 (decide (a0 ≤ 57))) else (R14Value.j0 k a0 false)) = some r := h
 clear h
 have HC2 := Aside0.mk H
 clear H
 go_enter Tryd.func63, Tryd.ntmps63
 go_upto_region 1 with (fail)
 go_cut [8] (fun v8 wc => ∃ (kq : Nat) (x8_1 : Bool), v8 = .bool x8_1 ∧ Aside0 (R14Value.j0 kq a0 x8_1 = some r) ∧ Aside0 (kq ≤ k) ∧ Drawn0 w wc)
 case first =>
  have H := HC2.out
  clear HC2
  by_cases c3 : a0 ≥ 48
  ·
   rw [if_pos c3] at H
   have c3b0 := decide_eq_true c3
   clear c3
   (first | rw [c3b0] | (simp only [i64_w, i32_w]; rw [c3b0]) | skip)
   have H' := Aside0.mk H
   clear H
   go_wp2
   go_meet
   case rel => exact ⟨_, (decide (a0 ≤ 57)), ap2, H', ⟨by first | omega | exact Nat.le_refl _⟩, by repeat (first | exact Drawn0.refl _ | apply Drawn0.step)⟩
  ·
   rw [if_neg c3] at H
   have c3b0 := decide_eq_false c3
   clear c3
   (first | rw [c3b0] | (simp only [i64_w, i32_w]; rw [c3b0]) | skip)
   have H' := Aside0.mk H
   clear H
   go_wp2
   go_meet
   case rel => exact ⟨_, (false), ap2, H', ⟨by first | omega | exact Nat.le_refl _⟩, by repeat (first | exact Drawn0.refl _ | apply Drawn0.step)⟩
 case rest =>
  clear HC2
  try clear p2
  try clear c3
  try clear c3b0
  obtain ⟨kq, x8_1, rfl, HA, HJ1, ⟨mc1, rfl⟩⟩ := hcut
  cases kq with
  | zero => exact absurd HA.out (by simp [R14Value.j0])
  | succ kj1 =>
   have H := HA.out
   clear HA
   simp only [R14Value.j0] at H
   by_cases c4 : x8_1 = true
   ·
    subst c4
    rw [if_pos rfl] at H
    obtain rfl := Option.some.inj H
    go_wp2
    go_ret
    exact ⟨ap2, ap7⟩
   ·
    replace c4 := Bool.eq_false_iff.mpr c4
    subst c4
    rw [if_neg (show ¬ (false = true) by decide)] at H
    have HC5 := Aside0.mk H
    clear H
    go_upto_region 3 with (fail)
    go_cut [17] (fun v17 wc => ∃ (kq : Nat) (x17_4 : Bool), v17 = .bool x17_4 ∧ Aside0 (R14Value.j1 kq a0 x17_4 = some r) ∧ Aside0 (kq ≤ kj1) ∧ Drawn0 w wc)
    case first =>
     have H := HC5.out
     clear HC5
     by_cases c6 : a0 ≥ 97
     ·
      rw [if_pos c6] at H
      have c6b0 := decide_eq_true c6
      clear c6
      (first | rw [c6b0] | (simp only [i64_w, i32_w]; rw [c6b0]) | skip)
      have H' := Aside0.mk H
      clear H
      go_wp2
      go_meet
      case rel => exact ⟨_, (decide (a0 ≤ 102)), ap2, H', ⟨by have := HJ1.out; first | omega | exact Nat.le_refl _⟩, by repeat (first | exact Drawn0.refl _ | apply Drawn0.step)⟩
     ·
      rw [if_neg c6] at H
      have c6b0 := decide_eq_false c6
      clear c6
      (first | rw [c6b0] | (simp only [i64_w, i32_w]; rw [c6b0]) | skip)
      have H' := Aside0.mk H
      clear H
      go_wp2
      go_meet
      case rel => exact ⟨_, (false), ap2, H', ⟨by have := HJ1.out; first | omega | exact Nat.le_refl _⟩, by repeat (first | exact Drawn0.refl _ | apply Drawn0.step)⟩
    case rest =>
     clear HC5
     try clear c1
     try clear p2
     try clear c3
     try clear c3b0
     try clear c4
     try clear c6
     try clear c6b0
     try clear p6
     try clear p2
     obtain ⟨kq, x17_4, rfl, HA, HJ4, ⟨mc4, rfl⟩⟩ := hcut
     cases kq with
     | zero => exact absurd HA.out (by simp [R14Value.j1])
     | succ kj4 =>
      have H := HA.out
      clear HA
      simp only [R14Value.j1] at H
      by_cases c7 : x17_4 = true
      ·
       subst c7
       rw [if_pos rfl] at H
       obtain rfl := Option.some.inj H
       go_wp2
       go_ret
       exact ⟨ap2, ap7⟩
      ·
       replace c7 := Bool.eq_false_iff.mpr c7
       subst c7
       rw [if_neg (show ¬ (false = true) by decide)] at H
       by_cases c8 : a0 ≥ 65
       ·
        rw [if_pos c8] at H
        have c8b0 := decide_eq_true c8
        clear c8
        by_cases c9 : a0 ≤ 70
        ·
         rw [if_pos c9] at H
         have c9b0 := decide_eq_true c9
         clear c9
         obtain rfl := Option.some.inj H
         go_wp2
         go_ret
         exact ⟨ap2, ap7⟩
        ·
         rw [if_neg c9] at H
         have c9b0 := decide_eq_false c9
         clear c9
         obtain rfl := Option.some.inj H
         go_wp2
         go_ret
         exact ⟨ap2, ap7⟩
       ·
        rw [if_neg c8] at H
        have c8b0 := decide_eq_false c8
        clear c8
        obtain rfl := Option.some.inj H
        go_wp2
        go_ret
        exact ⟨ap2, ap7⟩
def R15Special.f (a0 : Int) : Option (Bool) := if a0 = 34 then (some true) else (if a0 = 43 then (some true) else (if a0 = 44 then (some true) else (if a0 = 59 then (some true) else (if a0 = 60 then (some true) else (if a0 = 61 then (some true) else (if a0 = 62 then (some true) else (some (a0 == 92))))))))
set_option maxHeartbeats 8000000 in
set_option maxRecDepth 100000 in
theorem R15Special.calls (a0 : Int) (r : Bool) (w : World) (h : R15Special.f a0 = some r) :
  Calls Tryd.prog 44 #[.int .u8 a0] w fun e w' => e = .returned (.bool r) ∧ Drawn0 w w' := by
 have H : (if a0 = 34 then (some true) else (if a0 = 43 then (some true) else (if a0 = 44 then (some true) else (if a0 = 59 then (some true) else (if a0 = 60 then (some true) else (if a0 = 61 then (some true) else (if a0 = 62 then (some true) else (some (a0 == 92))))))))) = some r := h
 clear h
 by_cases c2 : a0 = 34
 ·
  rw [if_pos c2] at H
  have c2b0 : (a0 == 34) = true := beq_iff_eq.mpr c2
  have c2b1 : (a0 != 34) = false := bne_eq_false_iff_eq.mpr c2
  clear c2
  obtain rfl := Option.some.inj H
  go_enter Tryd.func44, Tryd.ntmps44
  go_wp2
  go_ret
  exact ⟨ap2, ap7⟩
 ·
  rw [if_neg c2] at H
  have c2b0 : (a0 == 34) = false := beq_eq_false_iff_ne.mpr c2
  have c2b1 : (a0 != 34) = true := bne_iff_ne.mpr c2
  by_cases c3 : a0 = 43
  ·
   rw [if_pos c3] at H
   have c3b0 : (a0 == 43) = true := beq_iff_eq.mpr c3
   have c3b1 : (a0 != 43) = false := bne_eq_false_iff_eq.mpr c3
   clear c3
   obtain rfl := Option.some.inj H
   go_enter Tryd.func44, Tryd.ntmps44
   go_wp2
   go_ret
   exact ⟨ap2, ap7⟩
  ·
   rw [if_neg c3] at H
   have c3b0 : (a0 == 43) = false := beq_eq_false_iff_ne.mpr c3
   have c3b1 : (a0 != 43) = true := bne_iff_ne.mpr c3
   by_cases c4 : a0 = 44
   ·
    rw [if_pos c4] at H
    have c4b0 : (a0 == 44) = true := beq_iff_eq.mpr c4
    have c4b1 : (a0 != 44) = false := bne_eq_false_iff_eq.mpr c4
    clear c4
    obtain rfl := Option.some.inj H
    go_enter Tryd.func44, Tryd.ntmps44
    go_wp2
    go_ret
    exact ⟨ap2, ap7⟩
   ·
    rw [if_neg c4] at H
    have c4b0 : (a0 == 44) = false := beq_eq_false_iff_ne.mpr c4
    have c4b1 : (a0 != 44) = true := bne_iff_ne.mpr c4
    by_cases c5 : a0 = 59
    ·
     rw [if_pos c5] at H
     have c5b0 : (a0 == 59) = true := beq_iff_eq.mpr c5
     have c5b1 : (a0 != 59) = false := bne_eq_false_iff_eq.mpr c5
     clear c5
     obtain rfl := Option.some.inj H
     go_enter Tryd.func44, Tryd.ntmps44
     go_wp2
     go_ret
     exact ⟨ap2, ap7⟩
    ·
     rw [if_neg c5] at H
     have c5b0 : (a0 == 59) = false := beq_eq_false_iff_ne.mpr c5
     have c5b1 : (a0 != 59) = true := bne_iff_ne.mpr c5
     by_cases c6 : a0 = 60
     ·
      rw [if_pos c6] at H
      have c6b0 : (a0 == 60) = true := beq_iff_eq.mpr c6
      have c6b1 : (a0 != 60) = false := bne_eq_false_iff_eq.mpr c6
      clear c6
      obtain rfl := Option.some.inj H
      go_enter Tryd.func44, Tryd.ntmps44
      go_wp2
      go_ret
      exact ⟨ap2, ap7⟩
     ·
      rw [if_neg c6] at H
      have c6b0 : (a0 == 60) = false := beq_eq_false_iff_ne.mpr c6
      have c6b1 : (a0 != 60) = true := bne_iff_ne.mpr c6
      by_cases c7 : a0 = 61
      ·
       rw [if_pos c7] at H
       have c7b0 : (a0 == 61) = true := beq_iff_eq.mpr c7
       have c7b1 : (a0 != 61) = false := bne_eq_false_iff_eq.mpr c7
       clear c7
       obtain rfl := Option.some.inj H
       go_enter Tryd.func44, Tryd.ntmps44
       go_wp2
       go_ret
       exact ⟨ap2, ap7⟩
      ·
       rw [if_neg c7] at H
       have c7b0 : (a0 == 61) = false := beq_eq_false_iff_ne.mpr c7
       have c7b1 : (a0 != 61) = true := bne_iff_ne.mpr c7
       by_cases c8 : a0 = 62
       ·
        rw [if_pos c8] at H
        have c8b0 : (a0 == 62) = true := beq_iff_eq.mpr c8
        have c8b1 : (a0 != 62) = false := bne_eq_false_iff_eq.mpr c8
        clear c8
        obtain rfl := Option.some.inj H
        go_enter Tryd.func44, Tryd.ntmps44
        go_wp2
        go_ret
        exact ⟨ap2, ap7⟩
       ·
        rw [if_neg c8] at H
        have c8b0 : (a0 == 62) = false := beq_eq_false_iff_ne.mpr c8
        have c8b1 : (a0 != 62) = true := bne_iff_ne.mpr c8
        obtain rfl := Option.some.inj H
        go_enter Tryd.func44, Tryd.ntmps44
        go_wp2
        go_ret
        exact ⟨ap2, ap7⟩
mutual
def R15Signs.l0 : Nat → ByteArray → List (S67) → Int → Option ((List (S67)) × Bool)
 | 0, _, _, _ => none
 | k + 1, x0, x4, x5 => if x5 < (x0.size : Int) then (if 0 ≤ x5 then (if (bt x0 x5) = 92 then (if (wrap64 (x5 + 1)) < (x0.size : Int) then (if 0 ≤ (wrap64 (x5 + 1)) then ((R15Special.f (bt x0 (wrap64 (x5 + 1)))).bind fun t444 => (if t444 = true then (R15Signs.j1 k x0 x4 x5 true) else (if (bt x0 (wrap64 (x5 + 1))) = 35 then (R15Signs.j1 k x0 x4 x5 true) else (R15Signs.j1 k x0 x4 x5 ((bt x0 (wrap64 (x5 + 1))) == 32))))) else (none)) else (R15Signs.j1 k x0 x4 x5 false)) else (if x4.length < 70368744177664 then (R15Signs.l0 k x0 (x4 ++ [(⟨bt x0 x5, true⟩ : S67)]) (wrap64 (x5 + 1))) else (none))) else (none)) else (some (x4, true))
def R15Signs.j1 : Nat → ByteArray → List (S67) → Int → Bool → Option ((List (S67)) × Bool)
 | 0, _, _, _, _ => none
 | k + 1, x0, x4, x5, x49 => if x49 = true then (if 0 ≤ (wrap64 (x5 + 1)) then (if (wrap64 (x5 + 1)) < (x0.size : Int) then (if x4.length < 70368744177664 then (R15Signs.l0 k x0 (x4 ++ [(⟨bt x0 (wrap64 (x5 + 1)), false⟩ : S67)]) (wrap64 ((wrap64 (x5 + 1)) + 1))) else (none)) else (none)) else (none)) else (if (wrap64 (x5 + 2)) ≥ (x0.size : Int) then (R15Signs.j2 k x0 x4 x5 true) else (if 0 ≤ (wrap64 (x5 + 1)) then (if (wrap64 (x5 + 1)) < (x0.size : Int) then ((R14Value.f k (bt x0 (wrap64 (x5 + 1)))).bind fun t448 => (if t448 < 0 then (R15Signs.j2 k x0 x4 x5 true) else (if 0 ≤ (wrap64 (x5 + 2)) then (if (wrap64 (x5 + 2)) < (x0.size : Int) then ((R14Value.f k (bt x0 (wrap64 (x5 + 2)))).bind fun t449 => (R15Signs.j2 k x0 x4 x5 (decide (t449 < 0)))) else (none)) else (none)))) else (none)) else (none)))
def R15Signs.j2 : Nat → ByteArray → List (S67) → Int → Bool → Option ((List (S67)) × Bool)
 | 0, _, _, _, _ => none
 | k + 1, x0, x4, x5, x80 => if x80 = true then (some (([] : List (S67)), false)) else (if 0 ≤ (wrap64 (x5 + 1)) then (if (wrap64 (x5 + 1)) < (x0.size : Int) then ((R14Value.f k (bt x0 (wrap64 (x5 + 1)))).bind fun t450 => (if 0 ≤ (wrap64 (x5 + 2)) then (if (wrap64 (x5 + 2)) < (x0.size : Int) then ((R14Value.f k (bt x0 (wrap64 (x5 + 2)))).bind fun t451 => (if x4.length < 70368744177664 then (R15Signs.l0 k x0 (x4 ++ [(⟨(wrap64 ((wrap64 (16 * t450)) + t451)) % 256, false⟩ : S67)]) (wrap64 ((wrap64 (x5 + 2)) + 1))) else (none))) else (none)) else (none))) else (none)) else (none))
end
def R15Signs.f (k : Nat) (a0 : ByteArray) : Option ((List (S67)) × Bool) := R15Signs.l0 k a0 (([] : List (S67))) 0
def R15Signs.T12 : Bool × List (List Nat × List Nat) := (true, [([], []), ([], []), ([], []), ([2], [2]), ([1, 3], [1, 3]), ([4], [4]), ([5], [5]), ([], []), ([], []), ([8], [8]), ([7, 9], [7, 9]), ([10, 5], [10]), ([6, 11], [6, 11]), ([12], [12]), ([13], [13]), ([14], [14]), ([0, 15, 11], [0, 15]), ([16, 16, 0, 1, 2, 3, 4, 5, 6, 7, 8, 9, 10, 11, 12, 13, 14, 15, 16], [0, 16])])
def R15Signs.B12 : List Nat := [0, 0, 0, 4, 14, 30, 62, 0, 0, 256, 896, 1982, 4094, 8190, 16382, 32766, 65535, 131071]
theorem R15Signs.tab12 : rtab .any (opsOf Tryd.f36 12) = R15Signs.T12 := by kernel_rfl
theorem R15Signs.bits12 : waitsOk R15Signs.T12.2 R15Signs.B12 = true := by kernel_rfl
set_option maxHeartbeats 8000000 in
set_option maxRecDepth 100000 in
theorem R15Signs.calls (k : Nat) (a0 : ByteArray) (r1 : List (S67)) (r2 : Bool) (w : World) (h : R15Signs.f k a0 = some (r1, r2)) :
  Calls Tryd.prog 36 #[.string a0] w fun e w' => ∃ v0_ : Value, e = .returned (.tuple #[v0_, .bool r2]) ∧ Kd.R k67 67 w' w.heap.size (fun _ => True) v0_ r1 ∧ Below w.heap.size w w' := by
 have hu67 := Tryd.underlying67
 have HB := Aside0.mk (Below.refl w.heap.size w)
 have H : (R15Signs.l0 k a0 (([] : List (S67))) 0) = some (r1, r2) := h
 clear h
 obtain ⟨y438, hy438⟩ : ∃ y_ : List (S67), y_ = (([] : List (S67))) := ⟨_, rfl⟩
 replace H : (R15Signs.l0 k a0 y438 0) = some (r1, r2) := by first | (rw [hy438]; with_reducible exact H) | (have H2_ := (Option.bind_some _ _).symm.trans H; rw [hy438]; with_reducible exact H2_) | (have H2_ := (Option.bind_some _ _).symm.trans H; with_reducible exact H2_) | with_reducible exact H | (rw [hy438]; exact H) | exact H
 have Ny438 := Aside0.mk hy438
 clear hy438
 have H' := Aside0.mk H
 clear H
 go_enter Tryd.func36, Tryd.ntmps36
 go_wp2_with (first | ((with_reducible refine gate_dst (N := 6) rfl ?_); refine Kd.R_lit k67 _ 67 ?hg (N := 6) ?hd (xs := ([] : List (S67))) (inner := []) (ok := fun _ => True) (okp := fun _ => True) ?hr ?hp (fun _ hk => hk) trivial (Below.refl _ _) (Nat.le_refl _) (by simp) ?_; (case hd => rfl); (case hg => rfl); (case hr => first | (go_simp; done) | (go_simp; rfl)); (case hp => exact (Reps.none _ _)); intro v439 w2 ho3 hb hg_ hnew_; clear hg_ hnew_; (first | rw [← Ny438.out] at ho3 | (simp only [Int.reduceToNat] at ho3; rw [← Ny438.out] at ho3)); have n0_ := Aside0.mk (Kd.R_lower ho3 (below_size ap1)); have n1_ := Aside0.mk (below_step ap1 hb); clear HB; have HO440 := n0_; have HB := n1_; clear n0_ n1_; clear hb ho3))
 go_loopg [4, 5] k (fun kq v4 v5 w' => ∃ (x4_1 : List (S67)) (x5_1 : Int), v5 = .int .i64 x5_1 ∧ Aside0 (R15Signs.l0 kq a0 x4_1 x5_1 = some (r1, r2)) ∧ Aside0 (kq ≤ k) ∧ Aside0 (Kd.R k67 67 w' w.heap.size (fun _ => True) v4 x4_1) ∧ Aside0 (Below w.heap.size w w'))
 case atStart => exact ⟨(y438), (0), ap2, H', ⟨Nat.le_refl _⟩, ⟨by (with_reducible repeat (first | apply Kd.R_alloc | apply Kd.R_drewN | apply Kd.R_drew)); exact HO440.out⟩, ⟨by repeat (first | (with_reducible first | exact HB.out | apply below_alloc | apply pw_below_drewN | apply below_drew1) | exact HB.out)⟩⟩
 case round =>
  clear H'
  try clear p2
  try clear c3
  obtain ⟨x4_1, x5_1, rfl, HA, HK1, HO_4, HB⟩ := hrel
  cases gk with
  | zero => exact absurd HA.out (by simp [R15Signs.l0])
  | succ k1 =>
   have H := HA.out
   clear HA
   simp only [R15Signs.l0] at H
   by_cases c4 : x5_1 < (a0.size : Int)
   ·
    rw [if_pos c4] at H
    have c4b0 := decide_eq_true c4
    clear c4
    by_cases c5 : 0 ≤ x5_1
    ·
     rw [if_pos c5] at H
     have c5b0 := decide_eq_true c5
     clear c5
     by_cases c7 : (bt a0 x5_1) = 92
     ·
      rw [if_pos c7] at H
      have c7b0 : ((bt a0 x5_1) == 92) = true := beq_iff_eq.mpr c7
      have c7b1 : ((bt a0 x5_1) != 92) = false := bne_eq_false_iff_eq.mpr c7
      clear c7
      have HC8 := Aside0.mk H
      clear H
      have p6 : 0 ≤ (x5_1 : Int) := of_decide_eq_true ap0
      have q6 : x5_1 < (a0.size : Int) := of_decide_eq_true ap0
      have hx6 := bt_at a0 x5_1
      replace p6 := eq_true p6
      replace q6 := eq_true q6
      go_upto_region 7 with (fail)
      go_cut [49] (fun v49 wc => ∃ (kq : Nat) (x49_7 : Bool), v49 = .bool x49_7 ∧ Aside0 (R15Signs.j1 kq a0 x4_1 x5_1 x49_7 = some (r1, r2)) ∧ Aside0 (kq ≤ k1) ∧ Aside0 (Kd.R k67 67 wc w.heap.size (fun _ => True) u4 x4_1) ∧ Aside0 (Below w.heap.size w wc))
      case first =>
       have H := HC8.out
       clear HC8
       by_cases c9 : (wrap64 (x5_1 + 1)) < (a0.size : Int)
       ·
        rw [if_pos c9] at H
        have c9b0 := decide_eq_true c9
        clear c9
        (first | rw [c9b0] | (simp only [i64_w, i32_w]; rw [c9b0]) | skip)
        obtain ⟨ji10, hji10⟩ : ∃ j_ : Int, (wrap64 (x5_1 + 1)) = j_ := ⟨_, rfl⟩
        replace H : (if 0 ≤ (ji10) then ((R15Special.f (bt a0 (ji10))).bind fun t444 => (if t444 = true then (R15Signs.j1 k1 a0 x4_1 x5_1 true) else (if (bt a0 (ji10)) = 35 then (R15Signs.j1 k1 a0 x4_1 x5_1 true) else (R15Signs.j1 k1 a0 x4_1 x5_1 ((bt a0 (ji10)) == 32))))) else (none)) = some (r1, r2) := by first | (rw [hji10] at H; exact H) | (simp only [hji10] at H ⊢; exact H)
        (try rw [hji10] at c9b0)
        have hji10w : (IntKind.i64.wrap (x5_1 + 1)) = ji10 := (i64_w _).trans hji10
        by_cases c11 : 0 ≤ (ji10)
        ·
         rw [if_pos c11] at H
         have c11b0 := decide_eq_true c11
         clear c11
         replace H := Option.bind_eq_some_iff.mp H
         obtain ⟨t444, A130, H⟩ := H
         replace H : (if t444 = true then (R15Signs.j1 k1 a0 x4_1 x5_1 true) else (if (bt a0 (ji10)) = 35 then (R15Signs.j1 k1 a0 x4_1 x5_1 true) else (R15Signs.j1 k1 a0 x4_1 x5_1 ((bt a0 (ji10)) == 32)))) = some (r1, r2) := H
         have A13 := Aside0.mk A130
         clear A130
         by_cases c14 : t444 = true
         ·
          subst c14
          rw [if_pos rfl] at H
          have H' := Aside0.mk H
          clear H
          have p12 : 0 ≤ ((ji10) : Int) := of_decide_eq_true ap0
          have q12 : (ji10) < (a0.size : Int) := of_decide_eq_true ap0
          have hx12 := bt_at a0 (ji10)
          replace p12 := eq_true p12
          replace q12 := eq_true q12
          go_wp2_with (first | (go_at_call 44; (with_reducible refine (R15Special.calls (bt a0 (ji10)) true _ A13.out).mono ?_); rintro e w' ⟨rfl, ⟨nd, rfl⟩⟩))
          first | go_meet | (simp only [c7b0] at *; go_meet)
          case rel => exact ⟨_, (true), ap2, H', ⟨by have := HK1.out; first | omega | exact Nat.le_refl _⟩, ⟨by (with_reducible repeat (first | apply Kd.R_alloc | apply Kd.R_drewN | apply Kd.R_drew)); exact HO_4.out⟩, ⟨by repeat (first | (with_reducible first | exact HB.out | apply below_alloc | apply pw_below_drewN | apply below_drew1) | exact HB.out)⟩⟩
         ·
          replace c14 := Bool.eq_false_iff.mpr c14
          subst c14
          rw [if_neg (show ¬ (false = true) by decide)] at H
          by_cases c16 : (bt a0 (ji10)) = 35
          ·
           rw [if_pos c16] at H
           have c16b0 : ((bt a0 (ji10)) == 35) = true := beq_iff_eq.mpr c16
           have c16b1 : ((bt a0 (ji10)) != 35) = false := bne_eq_false_iff_eq.mpr c16
           clear c16
           have H' := Aside0.mk H
           clear H
           have p12 : 0 ≤ ((ji10) : Int) := of_decide_eq_true ap0
           have q12 : (ji10) < (a0.size : Int) := of_decide_eq_true ap0
           have hx12 := bt_at a0 (ji10)
           replace p12 := eq_true p12
           replace q12 := eq_true q12
           go_wp2_with (first | (go_at_call 44; (with_reducible refine (R15Special.calls (bt a0 (ji10)) false _ A13.out).mono ?_); rintro e w' ⟨rfl, ⟨nd, rfl⟩⟩; have p15 : 0 ≤ ((ji10) : Int) := of_decide_eq_true ap0; have q15 : (ji10) < (a0.size : Int) := of_decide_eq_true ap0; have hx15 := bt_at a0 (ji10); replace p15 := eq_true p15; replace q15 := eq_true q15))
           first | go_meet | (simp only [c16b0] at *; go_meet) | (simp only [c7b0] at *; go_meet)
           case rel => exact ⟨_, (true), ap2, H', ⟨by have := HK1.out; first | omega | exact Nat.le_refl _⟩, ⟨by (with_reducible repeat (first | apply Kd.R_alloc | apply Kd.R_drewN | apply Kd.R_drew)); exact HO_4.out⟩, ⟨by repeat (first | (with_reducible first | exact HB.out | apply below_alloc | apply pw_below_drewN | apply below_drew1) | exact HB.out)⟩⟩
          ·
           rw [if_neg c16] at H
           have c16b0 : ((bt a0 (ji10)) == 35) = false := beq_eq_false_iff_ne.mpr c16
           have c16b1 : ((bt a0 (ji10)) != 35) = true := bne_iff_ne.mpr c16
           have H' := Aside0.mk H
           clear H
           have p12 : 0 ≤ ((ji10) : Int) := of_decide_eq_true ap0
           have q12 : (ji10) < (a0.size : Int) := of_decide_eq_true ap0
           have hx12 := bt_at a0 (ji10)
           replace p12 := eq_true p12
           replace q12 := eq_true q12
           go_wp2_with (first | (go_at_call 44; (with_reducible refine (R15Special.calls (bt a0 (ji10)) false _ A13.out).mono ?_); rintro e w' ⟨rfl, ⟨nd, rfl⟩⟩; have p15 : 0 ≤ ((ji10) : Int) := of_decide_eq_true ap0; have q15 : (ji10) < (a0.size : Int) := of_decide_eq_true ap0; have hx15 := bt_at a0 (ji10); replace p15 := eq_true p15; replace q15 := eq_true q15; have p17 : 0 ≤ ((ji10) : Int) := of_decide_eq_true ap0; have q17 : (ji10) < (a0.size : Int) := of_decide_eq_true ap0; have hx17 := bt_at a0 (ji10); replace p17 := eq_true p17; replace q17 := eq_true q17))
           first | go_meet | (simp only [c16b0] at *; go_meet) | (simp only [c16b0] at *; go_meet) | (simp only [c7b0] at *; go_meet)
           case rel => exact ⟨_, (((bt a0 (ji10)) == 32)), (by first | rfl | (simp; done) | (simp only [← hji10] <;> (first | rfl | simp)) | (simp [*]; done)), H', ⟨by have := HK1.out; first | omega | exact Nat.le_refl _⟩, ⟨by (with_reducible repeat (first | apply Kd.R_alloc | apply Kd.R_drewN | apply Kd.R_drew)); exact HO_4.out⟩, ⟨by repeat (first | (with_reducible first | exact HB.out | apply below_alloc | apply pw_below_drewN | apply below_drew1) | exact HB.out)⟩⟩
        ·
         rw [if_neg c11] at H
         exact absurd H (by simp)
       ·
        rw [if_neg c9] at H
        have c9b0 := decide_eq_false c9
        clear c9
        (first | rw [c9b0] | (simp only [i64_w, i32_w]; rw [c9b0]) | skip)
        have H' := Aside0.mk H
        clear H
        go_wp2
        first | go_meet | (simp only [c16b0] at *; go_meet) | (simp only [c16b0] at *; go_meet) | (simp only [c7b0] at *; go_meet)
        case rel => exact ⟨_, (false), ap2, H', ⟨by have := HK1.out; first | omega | exact Nat.le_refl _⟩, ⟨by (with_reducible repeat (first | apply Kd.R_alloc | apply Kd.R_drewN | apply Kd.R_drew)); exact HO_4.out⟩, ⟨by repeat (first | (with_reducible first | exact HB.out | apply below_alloc | apply pw_below_drewN | apply below_drew1) | exact HB.out)⟩⟩
      case rest =>
       clear HC8
       try clear c1
       try clear p1
       try clear q1
       try clear hx1
       try clear p2
       try clear c3
       try clear c4
       try clear c4b0
       try clear c5
       try clear c5b0
       try clear p6
       try clear q6
       try clear hx6
       try clear c7
       try clear c7b0
       try clear c7b1
       try clear c9
       try clear c9b0
       try clear c11
       try clear c11b0
       try clear p12
       try clear q12
       try clear hx12
       try clear c14
       try clear p15
       try clear q15
       try clear hx15
       try clear c16
       try clear c16b0
       try clear c16b1
       try clear p17
       try clear q17
       try clear hx17
       try clear p12
       try clear p15
       try clear p17
       try clear p2
       try clear p6
       try clear q12
       try clear q15
       try clear q17
       try clear q6
       obtain ⟨kq, x49_7, rfl, HA, HJ7, HO_4, HB⟩ := hcut
       cases kq with
       | zero => exact absurd HA.out (by simp [R15Signs.j1])
       | succ kj7 =>
        have H := HA.out
        clear HA
        simp only [R15Signs.j1] at H
        by_cases c18 : x49_7 = true
        ·
         subst c18
         rw [if_pos rfl] at H
         obtain ⟨ji19, hji19⟩ : ∃ j_ : Int, (wrap64 (x5_1 + 1)) = j_ := ⟨_, rfl⟩
         replace H : (if 0 ≤ (ji19) then (if (ji19) < (a0.size : Int) then (if x4_1.length < 70368744177664 then (R15Signs.l0 kj7 a0 (x4_1 ++ [(⟨bt a0 (ji19), false⟩ : S67)]) (wrap64 ((ji19) + 1))) else (none)) else (none)) else (none)) = some (r1, r2) := by first | (rw [hji19] at H; exact H) | (simp only [hji19] at H ⊢; exact H)
         have hji19w : (IntKind.i64.wrap (x5_1 + 1)) = ji19 := (i64_w _).trans hji19
         by_cases c20 : 0 ≤ (ji19)
         ·
          rw [if_pos c20] at H
          have c20b0 := decide_eq_true c20
          clear c20
          by_cases c21 : (ji19) < (a0.size : Int)
          ·
           rw [if_pos c21] at H
           have c21b0 := decide_eq_true c21
           clear c21
           by_cases c23 : x4_1.length < 70368744177664
           ·
            rw [if_pos c23] at H
            have LMc23 := Aside0.mk c23
            clear c23
            obtain ⟨y445, hy445⟩ : ∃ y_ : List (S67), y_ = (x4_1 ++ [(⟨bt a0 (ji19), false⟩ : S67)]) := ⟨_, rfl⟩
            replace H : (R15Signs.l0 kj7 a0 y445 (wrap64 ((ji19) + 1))) = some (r1, r2) := by first | (rw [hy445]; with_reducible exact H) | (have H2_ := (Option.bind_some _ _).symm.trans H; rw [hy445]; with_reducible exact H2_) | (have H2_ := (Option.bind_some _ _).symm.trans H; with_reducible exact H2_) | with_reducible exact H | (rw [hy445]; exact H) | exact H
            have Ny445 := Aside0.mk hy445
            clear hy445
            have H' := Aside0.mk H
            clear H
            have p22 : 0 ≤ ((ji19) : Int) := of_decide_eq_true ap0
            have q22 : (ji19) < (a0.size : Int) := of_decide_eq_true ap0
            have hx22 := bt_at a0 (ji19)
            replace p22 := eq_true p22
            replace q22 := eq_true q22
            go_wp2_with (first | ((with_reducible refine gate_builtin (b := .append) (xs := #[.tmp 50, .tmp 56]) rfl ?_); at_builtin; refine Kd.R_append k67 (w0 := w) w.heap.size rfl (.tmp 50) (.tmp 56) 62 67 (.agg #[(.int .u8 0), (.bool false)]) 2 rfl Tryd.underlying62 info67 rfl (by decide) (by omega) u4 x4_1 (⟨bt a0 (ji19), false⟩ : S67) [.int .u8 (bt a0 (ji19)), .bool false] (fun _ => True) (fun _ => False) rfl rfl ?aP (fun _ hk => hk.elim) ?aF ?aO ?aB ?aS ?aL ?_; (case aP => exact k67_mkM _ _ _ (⟨bt a0 (ji19), false⟩ : S67)); (case aB => exact ap1); (case aF => exact (fun _ _ => trivial)); (case aO => exact (apAR HO_4.out)); (case aS => exact (below_size ap1)); (case aL => have := LMc23.out; omega); intro v446 w24 ho hb hg hat; rw [← Ny445.out] at ho; have n0_ := Aside0.mk (hb); have n1_ := Aside0.mk (ho); clear HB; clear HO_4; have HB := n0_; have HO447 := n1_; clear n0_ n1_; clear ho hb hg hat))
            go_roundg kj7
            case measure => have := HK1.out; have := HJ7.out; omega
            case rel => exact ⟨(y445), (wrap64 ((ji19) + 1)), (by first | rfl | (simp; done) | (simp only [← hji19] <;> (first | rfl | simp)) | (simp [*]; done)), H', ⟨by have := HK1.out; have := HJ7.out; omega⟩, ⟨by (with_reducible repeat (first | apply Kd.R_alloc | apply Kd.R_drewN | apply Kd.R_drew)); exact HO447.out⟩, ⟨by repeat (first | (with_reducible first | exact HB.out | apply below_alloc | apply pw_below_drewN | apply below_drew1) | exact HB.out)⟩⟩
           ·
            rw [if_neg c23] at H
            exact absurd H (by simp)
          ·
           rw [if_neg c21] at H
           exact absurd H (by simp)
         ·
          rw [if_neg c20] at H
          exact absurd H (by simp)
        ·
         replace c18 := Bool.eq_false_iff.mpr c18
         subst c18
         rw [if_neg (show ¬ (false = true) by decide)] at H
         have HC25 := Aside0.mk H
         clear H
         go_upto_region 10 with (fail)
         go_cut [80] (fun v80 wc => ∃ (kq : Nat) (x80_24 : Bool), v80 = .bool x80_24 ∧ Aside0 (R15Signs.j2 kq a0 x4_1 x5_1 x80_24 = some (r1, r2)) ∧ Aside0 (kq ≤ kj7) ∧ Aside0 (Kd.R k67 67 wc w.heap.size (fun _ => True) u4 x4_1) ∧ Aside0 (Below w.heap.size w wc))
         case first =>
          have H := HC25.out
          clear HC25
          by_cases c26 : (wrap64 (x5_1 + 2)) ≥ (a0.size : Int)
          ·
           rw [if_pos c26] at H
           have c26b0 := decide_eq_true c26
           clear c26
           (first | rw [c26b0] | (simp only [i64_w, i32_w]; rw [c26b0]) | skip)
           have H' := Aside0.mk H
           clear H
           go_wp2
           first | go_meet | (simp only [c16b0] at *; go_meet) | (simp only [c16b0] at *; go_meet) | (simp only [c7b0] at *; go_meet)
           case rel => exact ⟨_, (true), ap2, H', ⟨by have := HK1.out; have := HJ7.out; first | omega | exact Nat.le_refl _⟩, ⟨by (with_reducible repeat (first | apply Kd.R_alloc | apply Kd.R_drewN | apply Kd.R_drew)); exact HO_4.out⟩, ⟨by repeat (first | (with_reducible first | exact HB.out | apply below_alloc | apply pw_below_drewN | apply below_drew1) | exact HB.out)⟩⟩
          ·
           rw [if_neg c26] at H
           have c26b0 := decide_eq_false c26
           clear c26
           (first | rw [c26b0] | (simp only [i64_w, i32_w]; rw [c26b0]) | skip)
           obtain ⟨ji27, hji27⟩ : ∃ j_ : Int, (wrap64 (x5_1 + 1)) = j_ := ⟨_, rfl⟩
           replace H : (if 0 ≤ (ji27) then (if (ji27) < (a0.size : Int) then ((R14Value.f kj7 (bt a0 (ji27))).bind fun t448 => (if t448 < 0 then (R15Signs.j2 kj7 a0 x4_1 x5_1 true) else (if 0 ≤ (wrap64 (x5_1 + 2)) then (if (wrap64 (x5_1 + 2)) < (a0.size : Int) then ((R14Value.f kj7 (bt a0 (wrap64 (x5_1 + 2)))).bind fun t449 => (R15Signs.j2 kj7 a0 x4_1 x5_1 (decide (t449 < 0)))) else (none)) else (none)))) else (none)) else (none)) = some (r1, r2) := by first | (rw [hji27] at H; exact H) | (simp only [hji27] at H ⊢; exact H)
           have hji27w : (IntKind.i64.wrap (x5_1 + 1)) = ji27 := (i64_w _).trans hji27
           by_cases c28 : 0 ≤ (ji27)
           ·
            rw [if_pos c28] at H
            have c28b0 := decide_eq_true c28
            clear c28
            by_cases c29 : (ji27) < (a0.size : Int)
            ·
             rw [if_pos c29] at H
             have c29b0 := decide_eq_true c29
             clear c29
             replace H := Option.bind_eq_some_iff.mp H
             obtain ⟨t448, A310, H⟩ := H
             replace H : (if t448 < 0 then (R15Signs.j2 kj7 a0 x4_1 x5_1 true) else (if 0 ≤ (wrap64 (x5_1 + 2)) then (if (wrap64 (x5_1 + 2)) < (a0.size : Int) then ((R14Value.f kj7 (bt a0 (wrap64 (x5_1 + 2)))).bind fun t449 => (R15Signs.j2 kj7 a0 x4_1 x5_1 (decide (t449 < 0)))) else (none)) else (none))) = some (r1, r2) := H
             have A31 := Aside0.mk A310
             clear A310
             by_cases c32 : t448 < 0
             ·
              rw [if_pos c32] at H
              have c32b0 := decide_eq_true c32
              clear c32
              have H' := Aside0.mk H
              clear H
              have p30 : 0 ≤ ((ji27) : Int) := of_decide_eq_true ap0
              have q30 : (ji27) < (a0.size : Int) := of_decide_eq_true ap0
              have hx30 := bt_at a0 (ji27)
              replace p30 := eq_true p30
              replace q30 := eq_true q30
              go_wp2_with (first | (go_at_call 63; (with_reducible refine (R14Value.calls kj7 (bt a0 (ji27)) t448 _ A31.out).mono ?_); rintro e w' ⟨rfl, ⟨nd, rfl⟩⟩))
              first | go_meet | (simp only [c16b0] at *; go_meet) | (simp only [c16b0] at *; go_meet) | (simp only [c7b0] at *; go_meet)
              case rel => exact ⟨_, (true), ap2, H', ⟨by have := HK1.out; have := HJ7.out; first | omega | exact Nat.le_refl _⟩, ⟨by (with_reducible repeat (first | apply Kd.R_alloc | apply Kd.R_drewN | apply Kd.R_drew)); exact HO_4.out⟩, ⟨by repeat (first | (with_reducible first | exact HB.out | apply below_alloc | apply pw_below_drewN | apply below_drew1) | exact HB.out)⟩⟩
             ·
              rw [if_neg c32] at H
              have c32b0 := decide_eq_false c32
              clear c32
              obtain ⟨ji33, hji33⟩ : ∃ j_ : Int, (wrap64 (x5_1 + 2)) = j_ := ⟨_, rfl⟩
              replace H : (if 0 ≤ (ji33) then (if (ji33) < (a0.size : Int) then ((R14Value.f kj7 (bt a0 (ji33))).bind fun t449 => (R15Signs.j2 kj7 a0 x4_1 x5_1 (decide (t449 < 0)))) else (none)) else (none)) = some (r1, r2) := by first | (rw [hji33] at H; exact H) | (simp only [hji33] at H ⊢; exact H)
              (try rw [hji33] at c26b0)
              (try rw [hji33] at A31)
              have hji33w : (IntKind.i64.wrap (x5_1 + 2)) = ji33 := (i64_w _).trans hji33
              by_cases c34 : 0 ≤ (ji33)
              ·
               rw [if_pos c34] at H
               have c34b0 := decide_eq_true c34
               clear c34
               by_cases c35 : (ji33) < (a0.size : Int)
               ·
                rw [if_pos c35] at H
                have c35b0 := decide_eq_true c35
                clear c35
                replace H := Option.bind_eq_some_iff.mp H
                obtain ⟨t449, A370, H⟩ := H
                replace H : (R15Signs.j2 kj7 a0 x4_1 x5_1 (decide (t449 < 0))) = some (r1, r2) := H
                have A37 := Aside0.mk A370
                clear A370
                have H' := Aside0.mk H
                clear H
                have p30 : 0 ≤ ((ji27) : Int) := of_decide_eq_true ap0
                have q30 : (ji27) < (a0.size : Int) := of_decide_eq_true ap0
                have hx30 := bt_at a0 (ji27)
                replace p30 := eq_true p30
                replace q30 := eq_true q30
                go_wp2_with (first | (go_at_call 63; (with_reducible refine (R14Value.calls kj7 (bt a0 (ji27)) t448 _ A31.out).mono ?_); rintro e w' ⟨rfl, ⟨nd, rfl⟩⟩; have p36 : 0 ≤ ((ji33) : Int) := of_decide_eq_true ap0; have q36 : (ji33) < (a0.size : Int) := of_decide_eq_true ap0; have hx36 := bt_at a0 (ji33); replace p36 := eq_true p36; replace q36 := eq_true q36) | (go_at_call 63; (with_reducible refine (R14Value.calls kj7 (bt a0 (ji33)) t449 _ A37.out).mono ?_); rintro e w' ⟨rfl, ⟨nd, rfl⟩⟩))
                first | go_meet | (simp only [c16b0] at *; go_meet) | (simp only [c16b0] at *; go_meet) | (simp only [c7b0] at *; go_meet)
                case rel => exact ⟨_, (decide (t449 < 0)), ap2, H', ⟨by have := HK1.out; have := HJ7.out; first | omega | exact Nat.le_refl _⟩, ⟨by (with_reducible repeat (first | apply Kd.R_alloc | apply Kd.R_drewN | apply Kd.R_drew)); exact HO_4.out⟩, ⟨by repeat (first | (with_reducible first | exact HB.out | apply below_alloc | apply pw_below_drewN | apply below_drew1) | exact HB.out)⟩⟩
               ·
                rw [if_neg c35] at H
                exact absurd H (by simp)
              ·
               rw [if_neg c34] at H
               exact absurd H (by simp)
            ·
             rw [if_neg c29] at H
             exact absurd H (by simp)
           ·
            rw [if_neg c28] at H
            exact absurd H (by simp)
         case rest =>
          clear HC25
          try clear c1
          try clear p1
          try clear q1
          try clear hx1
          try clear c2
          try clear p2
          try clear q2
          try clear hx2
          try clear c3
          try clear p3
          try clear q3
          try clear hx3
          try clear c4
          try clear c4b0
          try clear c5
          try clear c5b0
          try clear p6
          try clear q6
          try clear hx6
          try clear c7
          try clear c7b0
          try clear c7b1
          try clear c9
          try clear c9b0
          try clear c11
          try clear c11b0
          try clear p12
          try clear q12
          try clear hx12
          try clear c14
          try clear p15
          try clear q15
          try clear hx15
          try clear c16
          try clear c16b0
          try clear c16b1
          try clear p17
          try clear q17
          try clear hx17
          try clear c18
          try clear c20
          try clear c20b0
          try clear c21
          try clear c21b0
          try clear p22
          try clear q22
          try clear hx22
          try clear c23
          try clear c26
          try clear c26b0
          try clear c28
          try clear c28b0
          try clear c29
          try clear c29b0
          try clear p30
          try clear q30
          try clear hx30
          try clear c32
          try clear c32b0
          try clear c34
          try clear c34b0
          try clear c35
          try clear c35b0
          try clear c36
          try clear p36
          try clear q36
          try clear hx36
          try clear p1
          try clear p12
          try clear p15
          try clear p17
          try clear p2
          try clear p22
          try clear p30
          try clear p36
          try clear p6
          try clear q1
          try clear q12
          try clear q15
          try clear q17
          try clear q22
          try clear q30
          try clear q36
          try clear q6
          obtain ⟨kq, x80_24, rfl, HA, HJ24, HO_4, HB⟩ := hcut
          cases kq with
          | zero => exact absurd HA.out (by simp [R15Signs.j2])
          | succ kj24 =>
           have H := HA.out
           clear HA
           simp only [R15Signs.j2] at H
           by_cases c38 : x80_24 = true
           ·
            subst c38
            rw [if_pos rfl] at H
            simp only [Option.some.injEq, Prod.mk.injEq] at H
            obtain ⟨rfl, rfl⟩ := H
            go_wp2
            go_ret2
            exact ⟨_, by first | rfl | (simp [errW_none, errW_some, bne_nil8, beq_nil8]; done) | (simp [errW_none, errW_some] <;> rfl) | (simp [*, errW_none, errW_some] <;> rfl), by first | exact Kd.R_nil _ _ _ _ _ | exact Kd.N_nil _ _ _ _ _ | exact Kd.V_nil _ _ _ _ _ | exact Kd.Q_nil _ _ _ _ _ | exact Kd.S_nil _ _ _ _ _, by repeat (first | (with_reducible first | exact HB.out | apply below_alloc | apply pw_below_drewN | apply below_drew1) | exact HB.out)⟩
           ·
            replace c38 := Bool.eq_false_iff.mpr c38
            subst c38
            rw [if_neg (show ¬ (false = true) by decide)] at H
            obtain ⟨ji39, hji39⟩ : ∃ j_ : Int, (wrap64 (x5_1 + 1)) = j_ := ⟨_, rfl⟩
            replace H : (if 0 ≤ (ji39) then (if (ji39) < (a0.size : Int) then ((R14Value.f kj24 (bt a0 (ji39))).bind fun t450 => (if 0 ≤ (wrap64 (x5_1 + 2)) then (if (wrap64 (x5_1 + 2)) < (a0.size : Int) then ((R14Value.f kj24 (bt a0 (wrap64 (x5_1 + 2)))).bind fun t451 => (if x4_1.length < 70368744177664 then (R15Signs.l0 kj24 a0 (x4_1 ++ [(⟨(wrap64 ((wrap64 (16 * t450)) + t451)) % 256, false⟩ : S67)]) (wrap64 ((wrap64 (x5_1 + 2)) + 1))) else (none))) else (none)) else (none))) else (none)) else (none)) = some (r1, r2) := by first | (rw [hji39] at H; exact H) | (simp only [hji39] at H ⊢; exact H)
            have hji39w : (IntKind.i64.wrap (x5_1 + 1)) = ji39 := (i64_w _).trans hji39
            by_cases c40 : 0 ≤ (ji39)
            ·
             rw [if_pos c40] at H
             have c40b0 := decide_eq_true c40
             clear c40
             by_cases c41 : (ji39) < (a0.size : Int)
             ·
              rw [if_pos c41] at H
              have c41b0 := decide_eq_true c41
              clear c41
              replace H := Option.bind_eq_some_iff.mp H
              obtain ⟨t450, A430, H⟩ := H
              replace H : (if 0 ≤ (wrap64 (x5_1 + 2)) then (if (wrap64 (x5_1 + 2)) < (a0.size : Int) then ((R14Value.f kj24 (bt a0 (wrap64 (x5_1 + 2)))).bind fun t451 => (if x4_1.length < 70368744177664 then (R15Signs.l0 kj24 a0 (x4_1 ++ [(⟨(wrap64 ((wrap64 (16 * t450)) + t451)) % 256, false⟩ : S67)]) (wrap64 ((wrap64 (x5_1 + 2)) + 1))) else (none))) else (none)) else (none)) = some (r1, r2) := H
              have A43 := Aside0.mk A430
              clear A430
              obtain ⟨ji44, hji44⟩ : ∃ j_ : Int, (wrap64 (x5_1 + 2)) = j_ := ⟨_, rfl⟩
              replace H : (if 0 ≤ (ji44) then (if (ji44) < (a0.size : Int) then ((R14Value.f kj24 (bt a0 (ji44))).bind fun t451 => (if x4_1.length < 70368744177664 then (R15Signs.l0 kj24 a0 (x4_1 ++ [(⟨(wrap64 ((wrap64 (16 * t450)) + t451)) % 256, false⟩ : S67)]) (wrap64 ((ji44) + 1))) else (none))) else (none)) else (none)) = some (r1, r2) := by first | (rw [hji44] at H; exact H) | (simp only [hji44] at H ⊢; exact H)
              (try rw [hji44] at A43)
              have hji44w : (IntKind.i64.wrap (x5_1 + 2)) = ji44 := (i64_w _).trans hji44
              by_cases c45 : 0 ≤ (ji44)
              ·
               rw [if_pos c45] at H
               have c45b0 := decide_eq_true c45
               clear c45
               by_cases c46 : (ji44) < (a0.size : Int)
               ·
                rw [if_pos c46] at H
                have c46b0 := decide_eq_true c46
                clear c46
                replace H := Option.bind_eq_some_iff.mp H
                obtain ⟨t451, A480, H⟩ := H
                replace H : (if x4_1.length < 70368744177664 then (R15Signs.l0 kj24 a0 (x4_1 ++ [(⟨(wrap64 ((wrap64 (16 * t450)) + t451)) % 256, false⟩ : S67)]) (wrap64 ((ji44) + 1))) else (none)) = some (r1, r2) := H
                have A48 := Aside0.mk A480
                clear A480
                by_cases c49 : x4_1.length < 70368744177664
                ·
                 rw [if_pos c49] at H
                 have LMc49 := Aside0.mk c49
                 clear c49
                 obtain ⟨y452, hy452⟩ : ∃ y_ : List (S67), y_ = (x4_1 ++ [(⟨(wrap64 ((wrap64 (16 * t450)) + t451)) % 256, false⟩ : S67)]) := ⟨_, rfl⟩
                 replace H : (R15Signs.l0 kj24 a0 y452 (wrap64 ((ji44) + 1))) = some (r1, r2) := by first | (rw [hy452]; with_reducible exact H) | (have H2_ := (Option.bind_some _ _).symm.trans H; rw [hy452]; with_reducible exact H2_) | (have H2_ := (Option.bind_some _ _).symm.trans H; with_reducible exact H2_) | with_reducible exact H | (rw [hy452]; exact H) | exact H
                 have Ny452 := Aside0.mk hy452
                 clear hy452
                 have H' := Aside0.mk H
                 clear H
                 try go_wp2
                 have n0_ := Aside0.mk (Kd.R_drew HO_4.out)
                 have n1_ := Aside0.mk (below_drew1 HB.out)
                 clear HO_4
                 clear HB
                 have HO_4 := n0_
                 have HB := n1_
                 clear n0_ n1_
                 have p42 : 0 ≤ ((ji39) : Int) := of_decide_eq_true ap0
                 have q42 : (ji39) < (a0.size : Int) := of_decide_eq_true ap0
                 have hx42 := bt_at a0 (ji39)
                 replace p42 := eq_true p42
                 replace q42 := eq_true q42
                 have p47 : 0 ≤ ((ji44) : Int) := of_decide_eq_true ap0
                 have q47 : (ji44) < (a0.size : Int) := of_decide_eq_true ap0
                 have hx47 := bt_at a0 (ji44)
                 replace p47 := eq_true p47
                 replace q47 := eq_true q47
                 refine start_ (n := 18) (S := fun w' => True) (ds := []) #[false, false, false, false, false, false, false, false, false, false, false, false, false, false, false, false, false, false] (by kernel_rfl) rfl rfl trivial (fun hHeld => ?_); refine with_tabW R15Signs.tab12 R15Signs.bits12 (fun HT_ HW_ => ?_)
                 generalize wc.drew = w50 at HO_4 HB hHeld ⊢
                 refine pure_ (i := 0) (N := some 81) (v := ?_) (a' := ?_) #[true, false, false, false, false, false, false, false, false, false, false, false, false, false, false, false, false, false] rfl rfl (any_of HT_.out (by kernel_rfl)) (fun _ _ _ h => h) (Or.inl ⟨by rfl, ?_⟩) ?_ ?_
                 rotate_left
                 ·
                  intro w'
                  go_simp
                  with_reducible rfl
                 rotate_left
                 ·
                  simp only [Act.put, List.setIfInBounds_toArray, List.set_cons_zero, List.set_cons_succ, i64_w, i32_w]
                  rfl
                 refine pure_ (i := 1) (N := some 82) (v := ?_) (a' := ?_) #[true, true, false, false, false, false, false, false, false, false, false, false, false, false, false, false, false, false] rfl rfl (any_of HT_.out (by kernel_rfl)) (fun _ _ _ h => h) (Or.inl ⟨by rfl, ?_⟩) ?_ ?_
                 rotate_left
                 ·
                  intro w'
                  go_simp
                  with_reducible rfl
                 rotate_left
                 ·
                  simp only [Act.put, List.setIfInBounds_toArray, List.set_cons_zero, List.set_cons_succ, i64_w, i32_w]
                  rfl
                 refine pure_ (i := 2) (N := some 83) (v := ?_) (a' := ?_) #[true, true, true, false, false, false, false, false, false, false, false, false, false, false, false, false, false, false] rfl rfl (any_of HT_.out (by kernel_rfl)) (fun _ _ _ h => h) (Or.inl ⟨by rfl, ?_⟩) ?_ ?_
                 rotate_left
                 ·
                  intro w'
                  go_simp
                  with_reducible rfl
                 rotate_left
                 ·
                  simp only [Act.put, List.setIfInBounds_toArray, List.set_cons_zero, List.set_cons_succ, i64_w, i32_w]
                  rfl
                 refine pure_ (i := 3) (N := some 84) (v := ?_) (a' := ?_) #[true, true, true, true, false, false, false, false, false, false, false, false, false, false, false, false, false, false] rfl rfl (any_of HT_.out (by kernel_rfl)) (fun _ _ _ h => h) (Or.inl ⟨by rfl, ?_⟩) ?_ ?_
                 rotate_left
                 ·
                  intro w'
                  go_simp
                  with_reducible rfl
                 rotate_left
                 ·
                  simp only [Act.put, List.setIfInBounds_toArray, List.set_cons_zero, List.set_cons_succ, i64_w, i32_w]
                  rfl
                 refine pure_ (i := 7) (N := some 88) (v := ?_) (a' := ?_) #[true, true, true, true, false, false, false, true, false, false, false, false, false, false, false, false, false, false] rfl rfl (any_of HT_.out (by kernel_rfl)) (fun _ _ _ h => h) (Or.inl ⟨by rfl, ?_⟩) ?_ ?_
                 rotate_left
                 ·
                  intro w'
                  go_simp
                  with_reducible rfl
                 rotate_left
                 ·
                  simp only [Act.put, List.setIfInBounds_toArray, List.set_cons_zero, List.set_cons_succ, i64_w, i32_w]
                  rfl
                 refine pure_ (i := 8) (N := some 89) (v := ?_) (a' := ?_) #[true, true, true, true, false, false, false, true, true, false, false, false, false, false, false, false, false, false] rfl rfl (any_of HT_.out (by kernel_rfl)) (fun _ _ _ h => h) (Or.inl ⟨by rfl, ?_⟩) ?_ ?_
                 rotate_left
                 ·
                  intro w'
                  go_simp
                  with_reducible rfl
                 rotate_left
                 ·
                  simp only [Act.put, List.setIfInBounds_toArray, List.set_cons_zero, List.set_cons_succ, i64_w, i32_w]
                  rfl
                 refine pure_ (i := 9) (N := some 90) (v := ?_) (a' := ?_) #[true, true, true, true, false, false, false, true, true, true, false, false, false, false, false, false, false, false] rfl rfl (any_of HT_.out (by kernel_rfl)) (fun _ _ _ h => h) (Or.inl ⟨by rfl, ?_⟩) ?_ ?_
                 rotate_left
                 ·
                  intro w'
                  go_simp
                  with_reducible rfl
                 rotate_left
                 ·
                  simp only [Act.put, List.setIfInBounds_toArray, List.set_cons_zero, List.set_cons_succ, i64_w, i32_w]
                  rfl
                 refine take_ (i := 4) (N := some 85) (v := ?_) (a' := ?_) #[true, true, true, true, true, false, false, true, true, true, false, false, false, false, false, false, false, false] rfl rfl (take_ofW HT_.out HW_.out (by kernel_rfl)) (fun _ _ _ h => h) (Or.inl ⟨by rfl, ?_⟩) hHeld ?_ ?_
                 rotate_left
                 ·
                  intro w' _
                  go_simp
                  with_reducible rfl
                 rotate_left
                 ·
                  simp only [Act.put, List.setIfInBounds_toArray, List.set_cons_zero, List.set_cons_succ, i64_w, i32_w]
                  rfl
                 refine take_ (i := 10) (N := some 91) (v := ?_) (a' := ?_) #[true, true, true, true, true, false, false, true, true, true, true, false, false, false, false, false, false, false] rfl rfl (take_ofW HT_.out HW_.out (by kernel_rfl)) (fun _ _ _ h => h) (Or.inl ⟨by rfl, ?_⟩) hHeld ?_ ?_
                 rotate_left
                 ·
                  intro w' _
                  go_simp
                  with_reducible rfl
                 rotate_left
                 ·
                  simp only [Act.put, List.setIfInBounds_toArray, List.set_cons_zero, List.set_cons_succ, i64_w, i32_w]
                  rfl
                 refine one_ (i := 5) (N := some 86) #[true, true, true, true, true, true, false, true, true, true, true, false, false, false, false, false, false, false] rfl rfl (one_of HT_.out (by kernel_rfl)) (by decide) (fun K hK => ?_)
                 refine goes_ Tryd.func63 (by kernel_rfl) rfl #[.int .u8 (bt a0 (ji39))] (by rfl) rfl rfl (by (try simp only [List.map_toArray, List.map_cons, List.map_nil]); first | done | (simp only [hji39]; rfl) | rfl | (simp only [List.length_drop, List.length_take]; rfl)) ?_
                 with_reducible refine (R14Value.calls kj24 (bt a0 (ji39)) t450 _ A43.out).mono ?_
                 rintro e w' ⟨rfl, ⟨nd, rfl⟩⟩
                 refine ⟨_, rfl, ?_⟩
                 refine hK.out _ _ trivial (fun hHeld => ?_)
                 clear hK K
                 refine norm_ (a' := ?_) ?_ ?_
                 rotate_left
                 ·
                  show Act.put _ (some 86) _ = _
                  simp only [Act.put, List.setIfInBounds_toArray, List.set_cons_zero, List.set_cons_succ, i64_w, i32_w]
                  rfl
                 refine pure_ (i := 6) (N := some 87) (v := ?_) (a' := ?_) #[true, true, true, true, true, true, true, true, true, true, true, false, false, false, false, false, false, false] rfl rfl (any_of HT_.out (by kernel_rfl)) (fun _ _ _ h => h) (Or.inl ⟨by rfl, ?_⟩) ?_ ?_
                 rotate_left
                 ·
                  intro w'
                  go_simp
                  with_reducible rfl
                 rotate_left
                 ·
                  simp only [Act.put, List.setIfInBounds_toArray, List.set_cons_zero, List.set_cons_succ, i64_w, i32_w]
                  rfl
                 refine one_ (i := 11) (N := some 92) #[true, true, true, true, true, true, true, true, true, true, true, true, false, false, false, false, false, false] rfl rfl (one_of HT_.out (by kernel_rfl)) (by decide) (fun K hK => ?_)
                 refine goes_ Tryd.func63 (by kernel_rfl) rfl #[.int .u8 (bt a0 (ji44))] (by rfl) rfl rfl (by (try simp only [List.map_toArray, List.map_cons, List.map_nil]); first | done | (simp only [hji44]; rfl) | rfl | (simp only [List.length_drop, List.length_take]; rfl)) ?_
                 with_reducible refine (R14Value.calls kj24 (bt a0 (ji44)) t451 _ A48.out).mono ?_
                 rintro e w' ⟨rfl, ⟨nd, rfl⟩⟩
                 refine ⟨_, rfl, ?_⟩
                 refine hK.out _ _ trivial (fun hHeld => ?_)
                 clear hK K
                 refine norm_ (a' := ?_) ?_ ?_
                 rotate_left
                 ·
                  show Act.put _ (some 92) _ = _
                  simp only [Act.put, List.setIfInBounds_toArray, List.set_cons_zero, List.set_cons_succ, i64_w, i32_w]
                  rfl
                 refine pure_ (i := 12) (N := some 93) (v := ?_) (a' := ?_) #[true, true, true, true, true, true, true, true, true, true, true, true, true, false, false, false, false, false] rfl rfl (any_of HT_.out (by kernel_rfl)) (fun _ _ _ h => h) (Or.inl ⟨by rfl, ?_⟩) ?_ ?_
                 rotate_left
                 ·
                  intro w'
                  go_simp
                  with_reducible rfl
                 rotate_left
                 ·
                  simp only [Act.put, List.setIfInBounds_toArray, List.set_cons_zero, List.set_cons_succ, i64_w, i32_w]
                  rfl
                 refine pure_ (i := 13) (N := some 94) (v := ?_) (a' := ?_) #[true, true, true, true, true, true, true, true, true, true, true, true, true, true, false, false, false, false] rfl rfl (any_of HT_.out (by kernel_rfl)) (fun _ _ _ h => h) (Or.inl ⟨by rfl, ?_⟩) ?_ ?_
                 rotate_left
                 ·
                  intro w'
                  go_simp
                  with_reducible rfl
                 rotate_left
                 ·
                  simp only [Act.put, List.setIfInBounds_toArray, List.set_cons_zero, List.set_cons_succ, i64_w, i32_w]
                  rfl
                 refine pure_ (i := 14) (N := some 95) (v := ?_) (a' := ?_) #[true, true, true, true, true, true, true, true, true, true, true, true, true, true, true, false, false, false] rfl rfl (any_of HT_.out (by kernel_rfl)) (fun _ _ _ h => h) (Or.inl ⟨by rfl, ?_⟩) ?_ ?_
                 rotate_left
                 ·
                  intro w'
                  go_simp
                  with_reducible rfl
                 rotate_left
                 ·
                  simp only [Act.put, List.setIfInBounds_toArray, List.set_cons_zero, List.set_cons_succ, i64_w, i32_w]
                  rfl
                 refine one_ (i := 15) (N := some 96) #[true, true, true, true, true, true, true, true, true, true, true, true, true, true, true, true, false, false] rfl rfl (one_of HT_.out (by kernel_rfl)) (by decide) (fun K hK => ?_)
                 refine value_ (w1 := ?_) (v := ?_) (by rfl) rfl ?_ ?_
                 rotate_left 2
                 ·
                  go_simp
                  constructor
                  ·
                   rfl
                  ·
                   rfl
                 refine hK.out _ _ trivial (fun hHeld => ?_)
                 clear hK K
                 refine norm_ (a' := ?_) ?_ ?_
                 rotate_left
                 ·
                  show Act.put _ (some 96) _ = _
                  simp only [Act.put, List.setIfInBounds_toArray, List.set_cons_zero, List.set_cons_succ, i64_w, i32_w]
                  rfl
                 refine one_ (i := 16) (N := some 97) #[true, true, true, true, true, true, true, true, true, true, true, true, true, true, true, true, true, false] rfl rfl (one_of HT_.out (by kernel_rfl)) (by decide) (fun K hK => ?_)
                 refine Kd.R_append_step k67 (w0 := w) w.heap.size (by rfl) (.tmp 81) (.tmp 96) 62 67 (.agg #[(.int .u8 0), (.bool false)]) 2 rfl Tryd.underlying62 info67 rfl (by decide) (by omega) u4 x4_1 (⟨(wrap64 ((wrap64 (16 * t450)) + t451)) % 256, false⟩ : S67) [.int .u8 ((wrap64 ((wrap64 (16 * t450)) + t451)) % 256), .bool false] (fun _ => True) (fun _ => False) rfl rfl ?aP (fun _ hk => hk.elim) ?aF ?aO ?aB ?aS ?aL ?_
                 (case aP => exact k67_mkM _ _ _ (⟨(wrap64 ((wrap64 (16 * t450)) + t451)) % 256, false⟩ : S67))
                 (case aB => exact ap1)
                 (case aF => exact (fun _ _ => trivial))
                 (case aO => exact (apAR HO_4.out))
                 (case aS => exact (below_size ap1))
                 (case aL => have := LMc49.out; omega)
                 intro v453 w51 ho hb hg hat
                 rw [← Ny452.out] at ho
                 have n0_ := Aside0.mk (hb)
                 have n1_ := Aside0.mk (ho)
                 clear HB
                 clear HO_4
                 have HB := n0_
                 have HO454 := n1_
                 clear n0_ n1_
                 clear ho hb hg hat
                 refine hK.out _ _ trivial (fun hHeld => ?_)
                 clear hK K
                 refine norm_ (a' := ?_) ?_ ?_
                 rotate_left
                 ·
                  show Act.put _ (some 97) _ = _
                  simp only [Act.put, List.setIfInBounds_toArray, List.set_cons_zero, List.set_cons_succ, i64_w, i32_w]
                  rfl
                 refine pure_ (i := 17) (N := some 4) (v := ?_) (a' := ?_) #[true, true, true, true, true, true, true, true, true, true, true, true, true, true, true, true, true, true] rfl rfl (any_of HT_.out (by kernel_rfl)) (fun _ _ _ h => h) (Or.inl ⟨by rfl, ?_⟩) ?_ ?_
                 rotate_left
                 ·
                  intro w'
                  go_simp
                  with_reducible rfl
                 rotate_left
                 ·
                  simp only [Act.put, List.setIfInBounds_toArray, List.set_cons_zero, List.set_cons_succ, i64_w, i32_w]
                  rfl
                 refine done_ (done_of HT_.out (by kernel_rfl)) ?_
                 try go_wp2
                 go_roundg kj24
                 case measure => have := HK1.out; have := HJ7.out; have := HJ24.out; omega
                 case rel => exact ⟨(y452), (wrap64 ((ji44) + 1)), (by first | rfl | (simp; done) | (simp only [← hji44] <;> (first | rfl | simp)) | (simp [*]; done)), H', ⟨by have := HK1.out; have := HJ7.out; have := HJ24.out; omega⟩, ⟨by (with_reducible repeat (first | apply Kd.R_alloc | apply Kd.R_drewN | apply Kd.R_drew)); exact HO454.out⟩, ⟨by repeat (first | (with_reducible first | exact HB.out | apply below_alloc | apply pw_below_drewN | apply below_drew1) | exact HB.out)⟩⟩
                ·
                 rw [if_neg c49] at H
                 exact absurd H (by simp)
               ·
                rw [if_neg c46] at H
                exact absurd H (by simp)
              ·
               rw [if_neg c45] at H
               exact absurd H (by simp)
             ·
              rw [if_neg c41] at H
              exact absurd H (by simp)
            ·
             rw [if_neg c40] at H
             exact absurd H (by simp)
     ·
      rw [if_neg c7] at H
      have c7b0 : ((bt a0 x5_1) == 92) = false := beq_eq_false_iff_ne.mpr c7
      have c7b1 : ((bt a0 x5_1) != 92) = true := bne_iff_ne.mpr c7
      by_cases c53 : x4_1.length < 70368744177664
      ·
       rw [if_pos c53] at H
       have LMc53 := Aside0.mk c53
       clear c53
       obtain ⟨y441, hy441⟩ : ∃ y_ : List (S67), y_ = (x4_1 ++ [(⟨bt a0 x5_1, true⟩ : S67)]) := ⟨_, rfl⟩
       replace H : (R15Signs.l0 k1 a0 y441 (wrap64 (x5_1 + 1))) = some (r1, r2) := by first | (rw [hy441]; with_reducible exact H) | (have H2_ := (Option.bind_some _ _).symm.trans H; rw [hy441]; with_reducible exact H2_) | (have H2_ := (Option.bind_some _ _).symm.trans H; with_reducible exact H2_) | with_reducible exact H | (rw [hy441]; exact H) | exact H
       have Ny441 := Aside0.mk hy441
       clear hy441
       have H' := Aside0.mk H
       clear H
       have p6 : 0 ≤ (x5_1 : Int) := of_decide_eq_true ap0
       have q6 : x5_1 < (a0.size : Int) := of_decide_eq_true ap0
       have hx6 := bt_at a0 x5_1
       replace p6 := eq_true p6
       replace q6 := eq_true q6
       have p52 : 0 ≤ (x5_1 : Int) := of_decide_eq_true ap0
       have q52 : x5_1 < (a0.size : Int) := of_decide_eq_true ap0
       have hx52 := bt_at a0 x5_1
       replace p52 := eq_true p52
       replace q52 := eq_true q52
       go_wp2_with (first | ((with_reducible refine gate_builtin (b := .append) (xs := #[.tmp 17, .tmp 22]) rfl ?_); at_builtin; refine Kd.R_append k67 (w0 := w) w.heap.size rfl (.tmp 17) (.tmp 22) 62 67 (.agg #[(.int .u8 0), (.bool false)]) 2 rfl Tryd.underlying62 info67 rfl (by decide) (by omega) u4 x4_1 (⟨bt a0 x5_1, true⟩ : S67) [.int .u8 (bt a0 x5_1), .bool true] (fun _ => True) (fun _ => False) rfl rfl ?aP (fun _ hk => hk.elim) ?aF ?aO ?aB ?aS ?aL ?_; (case aP => exact k67_mkM _ _ _ (⟨bt a0 x5_1, true⟩ : S67)); (case aB => exact ap1); (case aF => exact (fun _ _ => trivial)); (case aO => exact (apAR HO_4.out)); (case aS => exact (below_size ap1)); (case aL => have := LMc53.out; omega); intro v442 w54 ho hb hg hat; rw [← Ny441.out] at ho; have n0_ := Aside0.mk (hb); have n1_ := Aside0.mk (ho); clear HB; clear HO_4; have HB := n0_; have HO443 := n1_; clear n0_ n1_; clear ho hb hg hat))
       go_roundg k1
       case measure => have := HK1.out; omega
       case rel => exact ⟨(y441), (wrap64 (x5_1 + 1)), ap2, H', ⟨by have := HK1.out; omega⟩, ⟨by (with_reducible repeat (first | apply Kd.R_alloc | apply Kd.R_drewN | apply Kd.R_drew)); exact HO443.out⟩, ⟨by repeat (first | (with_reducible first | exact HB.out | apply below_alloc | apply pw_below_drewN | apply below_drew1) | exact HB.out)⟩⟩
      ·
       rw [if_neg c53] at H
       exact absurd H (by simp)
    ·
     rw [if_neg c5] at H
     exact absurd H (by simp)
   ·
    rw [if_neg c4] at H
    have c4b0 := decide_eq_false c4
    clear c4
    simp only [Option.some.injEq, Prod.mk.injEq] at H
    obtain ⟨rfl, rfl⟩ := H
    go_wp2
    go_ret2
    exact ⟨_, by first | rfl | (simp [errW_none, errW_some, bne_nil8, beq_nil8]; done) | (simp [errW_none, errW_some] <;> rfl) | (simp [*, errW_none, errW_some] <;> rfl), by (with_reducible repeat (first | apply Kd.R_alloc | apply Kd.R_drewN | apply Kd.R_drew)); exact HO_4.out, by repeat (first | (with_reducible first | exact HB.out | apply below_alloc | apply pw_below_drewN | apply below_drew1) | exact HB.out)⟩
end Go.Proofs.YtkklacijhmoopaaDoor.Print
namespace Go.Proofs.YtkklacijhmoopaaDoor.Print
open Go.RowKit Go.Proofs.YtkklacijhmoopaaDoorW.PrintWords Go.Proofs.YtkklacijhmoopaaDoorW.PrintLast Go.Proofs.YtkklacijhmoopaaDoorW.PrintMore Go.Proofs.YtkklacijhmoopaaDoor.Pure
set_option linter.unusedVariables false
set_option linter.unusedSimpArgs false
abbrev SgS := S67
def mkS (x : Sg) : SgS := ⟨(x.1.toNat : Int), x.2⟩
def mkSs (l : List Sg) : List SgS := l.map mkS
theorem mkSs_snoc (l : List Sg) (x : Sg) : mkSs l ++ [mkS x] = mkSs (l ++ [x]) := by simp [mkSs]
theorem mkSs_len (l : List Sg) : (mkSs l).length = l.length := by simp [mkSs]
set_option maxRecDepth 100000 in
theorem special_all : ∀ n : Nat, n < 256 → R15Special.f (n : Int) = some (special (UInt8.ofNat n)) := by decide +kernel
theorem special_is (c : UInt8) : R15Special.f (c.toNat : Int) = some (special c) := by
  have := special_all c.toNat c.toNat_lt
  rwa [ofNat_toNat8] at this
theorem refValue_ev (c : UInt8) : Ev (fun k => R14Value.f k (c.toNat : Int)) (hexI c) := by
  have hc := c.toNat_lt
  have w0 : wrap64 ((c.toNat : Nat) : Int) = (c.toNat : Int) := by unfold wrap64; omega
  unfold R14Value.f hexI hexv
  by_cases h1 : 48 ≤ c.toNat ∧ c.toNat ≤ 57
  · rw [if_pos h1]
    refine Ev.pos (by omega) (Ev.step (fun k => by rw [R14Value.j0]) (Ev.pos (by simp; omega) ?_))
    rw [w0, show wrap64 ((c.toNat : Int) - 48) = ((c.toNat - 48 : Nat) : Int) by unfold wrap64; omega]; exact Ev.rfl'
  · rw [if_neg h1]
    have hj : ∀ {v : Int}, Ev (fun k => if (c.toNat : Int) ≥ 97 then (R14Value.j1 k (c.toNat : Int) (decide ((c.toNat : Int) ≤ 102))) else (R14Value.j1 k (c.toNat : Int) false)) v → Ev (fun k => if (c.toNat : Int) ≥ 48 then (R14Value.j0 k (c.toNat : Int) (decide ((c.toNat : Int) ≤ 57))) else (R14Value.j0 k (c.toNat : Int) false)) v := by
      intro v h
      by_cases h2 : 48 ≤ c.toNat
      · refine Ev.pos (by omega) ?_
        rw [decide_eq_false (by omega)]
        exact Ev.step (fun k => by rw [R14Value.j0]) (Ev.neg (by simp) h)
      · exact Ev.neg (by omega) (Ev.step (fun k => by rw [R14Value.j0]) (Ev.neg (by simp) h))
    apply hj
    by_cases h3 : 97 ≤ c.toNat ∧ c.toNat ≤ 102
    · rw [if_pos h3]
      refine Ev.pos (by omega) (Ev.step (fun k => by rw [R14Value.j1]) (Ev.pos (by simp; omega) ?_))
      rw [w0, show wrap64 ((c.toNat : Int) - 87) = ((c.toNat - 87 : Nat) : Int) by unfold wrap64; omega]; exact Ev.rfl'
    · rw [if_neg h3]
      have hj2 : ∀ {v : Int}, Ev (fun k => if (c.toNat : Int) ≥ 65 then (if (c.toNat : Int) ≤ 70 then (some (wrap64 ((wrap64 (c.toNat : Int)) - 55))) else (some (-1))) else (some (-1))) v → Ev (fun k => if (c.toNat : Int) ≥ 97 then (R14Value.j1 k (c.toNat : Int) (decide ((c.toNat : Int) ≤ 102))) else (R14Value.j1 k (c.toNat : Int) false)) v := by
        intro v h
        by_cases h2 : 97 ≤ c.toNat
        · refine Ev.pos (by omega) ?_
          rw [decide_eq_false (by omega)]
          exact Ev.step (fun k => by rw [R14Value.j1]) (Ev.neg (by simp) h)
        · exact Ev.neg (by omega) (Ev.step (fun k => by rw [R14Value.j1]) (Ev.neg (by simp) h))
      apply hj2
      by_cases h4 : 65 ≤ c.toNat ∧ c.toNat ≤ 70
      · rw [if_pos h4, w0, show wrap64 ((c.toNat : Int) - 55) = ((c.toNat - 55 : Nat) : Int) by unfold wrap64; omega]
        exact Ev.pos (by omega) (Ev.pos (by omega) Ev.rfl')
      · rw [if_neg h4]
        by_cases h5 : 65 ≤ c.toNat
        · exact Ev.pos (by omega) (Ev.neg (by omega) Ev.rfl')
        · exact Ev.neg (by omega) Ev.rfl'
theorem u8_small (n : Nat) (h : n < 256) : n.toUInt8.toNat = n := by
  have e : n.toUInt8.toNat = n % 2 ^ 8 := UInt8.toNat_ofNat'
  rw [e]; exact Nat.mod_eq_of_lt h
theorem hex_byte (x y : Nat) (hx : x < 16) (hy : y < 16) : (wrap64 ((wrap64 (16 * (x : Int))) + (y : Int))) % 256 = ((16 * x + y).toUInt8.toNat : Int) := by
  rw [u8_small _ (by omega)]
  have h1 : wrap64 (16 * (x : Int)) = 16 * (x : Int) := by unfold wrap64; omega
  have h2 : wrap64 (16 * (x : Int) + (y : Int)) = 16 * (x : Int) + (y : Int) := by unfold wrap64; omega
  rw [h1, h2]; omega
theorem wtwo {p : Nat} (h : p ≤ 2000000) : wrap64 ((p : Int) + 2) = ((p + 2 : Nat) : Int) := by unfold wrap64; omega
theorem esc_nil' : esc [] = none := rfl
theorem signs_ev (s : ByteArray) (hs : s.size ≤ 1000000) : ∀ (n p : Nat) (acc : List Sg), p ≤ s.size → s.size - p < n → acc.length ≤ p →
    (signs ((bl s).drop p) = none → Ev (fun k => R15Signs.l0 k s (mkSs acc) (p : Int)) ([], false)) ∧
    (∀ L, signs ((bl s).drop p) = some L → Ev (fun k => R15Signs.l0 k s (mkSs acc) (p : Int)) (mkSs (acc ++ L), true)) := by
  intro n
  induction n with
  | zero => intro p acc hp hn; omega
  | succ n ih =>
    intro p acc hp hn ha
    have hlen : (mkSs acc).length < 70368744177664 := by rw [mkSs_len]; omega
    cases hr : (bl s).drop p with
    | nil =>
      have := drop_nil hr
      refine ⟨fun h => by simp [signs_nil] at h, fun L h => ?_⟩
      rw [signs_nil] at h
      simp only [Option.some.injEq] at h
      subst h
      rw [List.append_nil]
      exact Ev.step (fun k => by rw [R15Signs.l0]) (Ev.neg (by omega) Ev.rfl')
    | cons c r =>
      obtain ⟨g1, g2, g3⟩ := drop_cons hr
      have e92 : ((c.toNat : Int) = 92) ↔ c = 92 := ieq c 92
      by_cases hc : c = 92
      · subst hc
        rw [signs_esc]
        have hst : ∀ {o : List SgS × Bool}, Ev (fun k => if ((p + 1 : Nat) : Int) < (s.size : Int) then (if (0 : Int) ≤ ((p + 1 : Nat) : Int) then ((R15Special.f (bt s ((p + 1 : Nat) : Int))).bind fun t444 => (if t444 = true then (R15Signs.j1 k s (mkSs acc) (p : Int) true) else (if (bt s ((p + 1 : Nat) : Int)) = 35 then (R15Signs.j1 k s (mkSs acc) (p : Int) true) else (R15Signs.j1 k s (mkSs acc) (p : Int) ((bt s ((p + 1 : Nat) : Int)) == 32))))) else (none)) else (R15Signs.j1 k s (mkSs acc) (p : Int) false)) o → Ev (fun k => R15Signs.l0 k s (mkSs acc) (p : Int)) o := by
          intro o h
          refine Ev.step (fun k => by rw [R15Signs.l0]) ?_
          refine Ev.pos (by omega) (Ev.pos (by omega) (Ev.pos (by rw [g2]; rfl) ?_))
          rw [wsucc (by omega)]; exact h
        have hj2t : ∀ {k : Nat}, R15Signs.j2 (k + 1) s (mkSs acc) (p : Int) true = some ([], false) := fun {k} => by rw [R15Signs.j2]; exact if_pos rfl
        have hj2 : Ev (fun k => R15Signs.j2 k s (mkSs acc) (p : Int) true) ([], false) := Ev.step (fun k => by rw [hj2t]) Ev.rfl'
        have hj1f : ∀ {o : List SgS × Bool}, Ev (fun k => if ((p + 2 : Nat) : Int) ≥ (s.size : Int) then (R15Signs.j2 k s (mkSs acc) (p : Int) true) else (if (0 : Int) ≤ ((p + 1 : Nat) : Int) then (if ((p + 1 : Nat) : Int) < (s.size : Int) then ((R14Value.f k (bt s ((p + 1 : Nat) : Int))).bind fun t448 => (if t448 < 0 then (R15Signs.j2 k s (mkSs acc) (p : Int) true) else (if (0 : Int) ≤ ((p + 2 : Nat) : Int) then (if ((p + 2 : Nat) : Int) < (s.size : Int) then ((R14Value.f k (bt s ((p + 2 : Nat) : Int))).bind fun t449 => (R15Signs.j2 k s (mkSs acc) (p : Int) (decide (t449 < 0)))) else (none)) else (none)))) else (none)) else (none))) o → Ev (fun k => R15Signs.j1 k s (mkSs acc) (p : Int) false) o := by
          intro o h
          refine Ev.step (fun k => by rw [R15Signs.j1]) ?_
          refine Ev.neg (by simp) ?_
          rw [wsucc (by omega), wtwo (by omega)]; exact h
        cases r with
        | nil =>
          have := drop_nil (s := s) (p := p + 1) g3
          rw [esc_nil']
          exact ⟨fun _ => hst (Ev.neg (by omega) (hj1f (Ev.pos (by omega) hj2))), fun L h => by simp at h⟩
        | cons a r1 =>
          obtain ⟨f1, f2, f3⟩ := drop_cons g3
          have e35 : ((a.toNat : Int) = 35) ↔ a = 35 := ieq a 35
          have e32 : ((a.toNat : Int) = 32) ↔ a = 32 := ieq a 32
          have hst2 : ∀ {o : List SgS × Bool}, Ev (fun k => R15Signs.j1 k s (mkSs acc) (p : Int) (isEsc a)) o → Ev (fun k => R15Signs.l0 k s (mkSs acc) (p : Int)) o := by
            intro o h
            refine hst ?_
            refine Ev.pos (by omega) (Ev.pos (by omega) ?_)
            rw [f2]
            refine Ev.bindc (special_is a) ?_
            unfold isEsc at h
            cases hsp : special a with
            | true => rw [hsp] at h; exact Ev.pos rfl h
            | false =>
              rw [hsp] at h
              refine Ev.neg (by simp) ?_
              by_cases h35 : a = 35
              · rw [h35] at h ⊢; exact Ev.pos rfl h
              · refine Ev.neg (fun h' => h35 (e35.1 h')) ?_
                have : ((a.toNat : Int) == 32) = (a == 32) := by rw [Bool.eq_iff_iff, beq_iff_eq, beq_iff_eq]; exact e32
                rw [this]
                rw [show (a == 35) = false from beq_eq_false_iff_ne.2 h35] at h
                simpa using h
          simp only [esc]
          cases he : isEsc a with
          | true =>
            rw [he] at hst2
            rw [if_pos rfl]
            simp only [Option.bind_some]
            have hi := ih (p + 2) (acc ++ [(a, false)]) (by omega) (by omega) (by simp; omega)
            rw [f3] at hi
            have hgo : ∀ {o : List SgS × Bool}, Ev (fun k => R15Signs.l0 k s (mkSs (acc ++ [(a, false)])) ((p + 2 : Nat) : Int)) o → Ev (fun k => R15Signs.l0 k s (mkSs acc) (p : Int)) o := by
              intro o h
              refine hst2 (Ev.step (fun k => by rw [R15Signs.j1]) ?_)
              rw [wsucc (by omega), wsucc (p := p + 1) (by omega)]
              refine Ev.pos rfl (Ev.pos (by omega) (Ev.pos (by omega) (Ev.pos hlen ?_)))
              rw [f2, show (⟨(a.toNat : Int), false⟩ : SgS) = mkS (a, false) from rfl, mkSs_snoc]
              exact h
            refine ⟨fun h => hgo (hi.1 (by simpa using h)), fun L h => ?_⟩
            obtain ⟨L', hL', rfl⟩ := Option.map_eq_some_iff.1 h
            have := hgo (hi.2 L' hL')
            rwa [List.append_assoc] at this
          | false =>
            rw [he] at hst2
            rw [if_neg (by simp)]
            cases r1 with
            | nil =>
              have := drop_nil (s := s) (p := p + 1 + 1) f3
              exact ⟨fun _ => hst2 (hj1f (Ev.pos (by omega) hj2)), fun L h => by simp at h⟩
            | cons b r2 =>
              obtain ⟨d1, d2, d3⟩ := drop_cons f3
              have d2' : bt s ((p + 2 : Nat) : Int) = (b.toNat : Int) := d2
              have d3' : (bl s).drop (p + 3) = r2 := d3
              have hva := refValue_ev a
              have hvb := refValue_ev b
              have hj1g : ∀ {o : List SgS × Bool}, Ev (fun k => if hexI a < 0 then (R15Signs.j2 k s (mkSs acc) (p : Int) true) else (R15Signs.j2 k s (mkSs acc) (p : Int) (decide (hexI b < 0)))) o → Ev (fun k => R15Signs.l0 k s (mkSs acc) (p : Int)) o := by
                intro o h
                refine hst2 (hj1f ?_)
                rw [f2, d2']
                refine Ev.neg (by omega) (Ev.pos (by omega) (Ev.pos (by omega) (Ev.bind hva ?_)))
                by_cases h0 : hexI a < 0
                · have h := (show Ev (fun k => R15Signs.j2 k s (mkSs acc) (p : Int) true) o from Ev.congr (fun k => (if_pos h0).symm) h)
                  exact Ev.pos h0 h
                · have h := (show Ev (fun k => R15Signs.j2 k s (mkSs acc) (p : Int) (decide (hexI b < 0))) o from Ev.congr (fun k => (if_neg h0).symm) h)
                  exact Ev.neg h0 (Ev.pos (by omega) (Ev.pos (by omega) (Ev.bind hvb h)))
              dsimp only
              unfold hex2
              cases hx : hexv a with
              | none =>
                have e : hexI a = -1 := by unfold hexI; rw [hx]
                rw [e] at hj1g
                exact ⟨fun _ => hj1g (Ev.pos (by omega) hj2), fun L h => by simp at h⟩
              | some x =>
                have ea : hexI a = (x : Int) := by unfold hexI; rw [hx]
                rw [ea] at hj1g hva
                cases hy : hexv b with
                | none =>
                  have e : hexI b = -1 := by unfold hexI; rw [hy]
                  rw [e] at hj1g
                  exact ⟨fun _ => hj1g (Ev.neg (by omega) hj2), fun L h => by simp at h⟩
                | some y =>
                  have eb : hexI b = (y : Int) := by unfold hexI; rw [hy]
                  rw [eb] at hj1g hvb
                  have hx16 := hexv_lt hx
                  have hy16 := hexv_lt hy
                  simp only [Option.bind_some, Option.map_some]
                  have hi := ih (p + 3) (acc ++ [((16 * x + y).toUInt8, false)]) (by omega) (by omega) (by simp; omega)
                  rw [d3'] at hi
                  have hgo : ∀ {o : List SgS × Bool}, Ev (fun k => R15Signs.l0 k s (mkSs (acc ++ [((16 * x + y).toUInt8, false)])) ((p + 3 : Nat) : Int)) o → Ev (fun k => R15Signs.l0 k s (mkSs acc) (p : Int)) o := by
                    intro o h
                    refine hj1g (Ev.neg (by omega) ?_)
                    rw [decide_eq_false (by omega)]
                    refine Ev.step (fun k => by rw [R15Signs.j2]) ?_
                    rw [wsucc (by omega), wtwo (by omega), wsucc (p := p + 2) (by omega), f2, d2']
                    refine Ev.neg (by simp) (Ev.pos (by omega) (Ev.pos (by omega) (Ev.bind hva (Ev.pos (by omega) (Ev.pos (by omega) (Ev.bind hvb (Ev.pos hlen ?_)))))))
                    have e1 := hex_byte x y hx16 hy16
                    rw [e1, show (⟨((16 * x + y).toUInt8.toNat : Int), false⟩ : SgS) = mkS ((16 * x + y).toUInt8, false) from rfl, mkSs_snoc]
                    exact h
                  refine ⟨fun h => hgo (hi.1 (by simpa using h)), fun L h => ?_⟩
                  obtain ⟨L', hL', rfl⟩ := Option.map_eq_some_iff.1 h
                  have := hgo (hi.2 L' hL')
                  rwa [List.append_assoc] at this
      · rw [signs_bare hc]
        have hi := ih (p + 1) (acc ++ [(c, true)]) (by omega) (by omega) (by simp; omega)
        rw [g3] at hi
        have hgo : ∀ {o : List SgS × Bool}, Ev (fun k => R15Signs.l0 k s (mkSs (acc ++ [(c, true)])) ((p + 1 : Nat) : Int)) o → Ev (fun k => R15Signs.l0 k s (mkSs acc) (p : Int)) o := by
          intro o h
          refine Ev.step (fun k => by rw [R15Signs.l0]) ?_
          rw [g2, wsucc (by omega)]
          refine Ev.pos (by omega) (Ev.pos (by omega) (Ev.neg (fun h' => hc (e92.1 h')) (Ev.pos hlen ?_)))
          rw [show (⟨(c.toNat : Int), true⟩ : SgS) = mkS (c, true) from rfl, mkSs_snoc]
          exact h
        refine ⟨fun h => hgo (hi.1 (by simpa using h)), fun L h => ?_⟩
        obtain ⟨L', hL', rfl⟩ := Option.map_eq_some_iff.1 h
        have := hgo (hi.2 L' hL')
        rwa [List.append_assoc] at this
end Go.Proofs.YtkklacijhmoopaaDoor.Print
namespace Go.Proofs.YtkklacijhmoopaaDoor.Print
open Go.RowKit Go.Proofs.YtkklacijhmoopaaDoorW.PrintWords Go.Proofs.YtkklacijhmoopaaDoorW.PrintLast Go.Proofs.YtkklacijhmoopaaDoorW.PrintMore
attribute [local go_sem] max2_int min2_int max_two min_two max_three min_three max_four min_four
set_option linter.unusedVariables false
set_option linter.unusedSimpArgs false
mutual
def R15Trim.j1 : Nat → List (S67) → Option ((List (S67)))
 | 0, _ => none
 | k + 1, x0 => R15Trim.l1 k x0
def R15Trim.l1 : Nat → List (S67) → Option ((List (S67)))
 | 0, _ => none
 | k + 1, x0 => if (x0.length : Int) > 0 then (if 0 ≤ (wrap64 ((x0.length : Int) - 1)) then (if (wrap64 ((x0.length : Int) - 1)) < (x0.length : Int) then (if (rd_T67 x0 (wrap64 ((x0.length : Int) - 1))).f1 = true then (if ((rd_T67 x0 (wrap64 ((x0.length : Int) - 1))).f0) = 32 then (if (wrap64 ((x0.length : Int) - 1)) ≤ (x0.length : Int) then (R15Trim.l1 k (x0.take ((wrap64 ((x0.length : Int) - 1)) : Int).toNat)) else (none)) else (some x0)) else (some x0)) else (none)) else (none)) else (some x0)
def R15Trim.l0 : Nat → List (S67) → Option ((List (S67)))
 | 0, _ => none
 | k + 1, x0 => if (x0.length : Int) > 0 then (if 0 < (x0.length : Int) then (if (rd_T67 x0 0).f1 = true then (if ((rd_T67 x0 0).f0) = 32 then (if 1 ≤ (x0.length : Int) then (R15Trim.l0 k (x0.drop 1)) else (none)) else (R15Trim.j1 k x0)) else (R15Trim.j1 k x0)) else (none)) else (R15Trim.j1 k x0)
end
def R15Trim.f (k : Nat) (l0 : List (S67)) : Option ((List (S67))) := R15Trim.l0 k l0
set_option maxHeartbeats 8000000 in
set_option maxRecDepth 100000 in
theorem R15Trim.calls (k : Nat) (P0_ : Nat → Prop) (A0 : Option Addr) (c0 : Nat) (l0 : List (S67)) (r : List (S67)) (w : World) (hs0 : Kd.V k67 67 w w.heap.size (fun k_ => P0_ k_) (.slice A0 l0.length c0) l0) (h : R15Trim.f k l0 = some r) :
  Calls Tryd.prog 37 #[.slice A0 l0.length c0] w fun e w' => ∃ v0_ : Value, e = .returned (v0_) ∧ Kd.V k67 67 w' w.heap.size (fun k_ => (P0_ k_ ∨ w.heap.size ≤ k_)) v0_ r ∧ Below w.heap.size w w' := by
 have HO0 := Aside0.mk (show Kd.V k67 67 w w.heap.size (fun k_ => (P0_ k_ ∨ w.heap.size ≤ k_)) (.slice A0 l0.length c0) l0 from Kd.V_mono hs0 (fun k_ hk => .inl hk))
 have HB := Aside0.mk (Below.refl w.heap.size w)
 have H : (R15Trim.l0 k l0) = some r := h
 clear h
 have HC2 := Aside0.mk H
 clear H
 go_enter Tryd.func37, Tryd.ntmps37
 go_upto_block 0 with (fail)
 go_cut [0] (fun v0 wc => ∃ (kq : Nat) (x0_1 : List (S67)), Aside0 (R15Trim.j1 kq x0_1 = some r) ∧ Aside0 (kq ≤ k) ∧ Aside0 (Kd.V k67 67 wc w.heap.size (fun k_ => (P0_ k_ ∨ w.heap.size ≤ k_)) v0 x0_1) ∧ Aside0 (Below w.heap.size w wc))
 case first =>
  have H := HC2.out
  clear HC2
  have H' := Aside0.mk H
  clear H
  go_wp2
  go_loopg [0] k (fun kq v0 w' => ∃ (x0_1 : List (S67)), Aside0 (R15Trim.l0 kq x0_1 = some r) ∧ Aside0 (kq ≤ k) ∧ Aside0 (Kd.V k67 67 w' w.heap.size (fun k_ => (P0_ k_ ∨ w.heap.size ≤ k_)) v0 x0_1) ∧ Aside0 (Below w.heap.size w w'))
  case atStart => exact ⟨(l0), H', ⟨Nat.le_refl _⟩, ⟨by (with_reducible repeat (first | apply Kd.V_alloc | apply Kd.V_drewN | apply Kd.V_drew)); exact HO0.out⟩, ⟨by repeat (first | (with_reducible first | exact HB.out | apply below_alloc | apply pw_below_drewN | apply below_drew1) | exact HB.out)⟩⟩
  case round =>
   clear H'
   try clear p2
   obtain ⟨x0_1, HA, HK1, HO_0, HB⟩ := hrel
   cases gk with
   | zero => exact absurd HA.out (by simp [R15Trim.l0])
   | succ k1 =>
    have H := HA.out
    clear HA
    simp only [R15Trim.l0] at H
    by_cases c3 : (x0_1.length : Int) > 0
    ·
     rw [if_pos c3] at H
     have c3b0 := decide_eq_true c3
     have c3b1 : decide (0 < x0_1.length) = true := decide_eq_true (by omega)
     clear c3
     (first | rw [c3b0] | (simp only [i64_w, i32_w]; rw [c3b0]) | skip)
     by_cases c4 : 0 < (x0_1.length : Int)
     ·
      rw [if_pos c4] at H
      have c4b0 := decide_eq_true c4
      have c4b1 : decide (0 < x0_1.length) = true := decide_eq_true (by omega)
      clear c4
      obtain ⟨bq5, hbq5⟩ : ∃ b_ : Bool, b_ = ((rd_T67 x0_1 0).f1) := ⟨_, rfl⟩
      replace H : (if bq5 = true then (if ((rd_T67 x0_1 0).f0) = 32 then (if 1 ≤ (x0_1.length : Int) then (R15Trim.l0 k1 (x0_1.drop 1)) else (none)) else (R15Trim.j1 k1 x0_1)) else (R15Trim.j1 k1 x0_1)) = some r := by rw [← hbq5] at H; exact H
      have Nbq5 := Aside0.mk hbq5
      clear hbq5
      by_cases c6 : bq5 = true
      ·
       subst c6
       rw [if_pos rfl] at H
       by_cases c7 : ((rd_T67 x0_1 0).f0) = 32
       ·
        rw [if_pos c7] at H
        have c7b0 : (((rd_T67 x0_1 0).f0) == 32) = true := beq_iff_eq.mpr c7
        have c7b1 : (((rd_T67 x0_1 0).f0) != 32) = false := bne_eq_false_iff_eq.mpr c7
        clear c7
        by_cases c8 : 1 ≤ (x0_1.length : Int)
        ·
         rw [if_pos c8] at H
         have c8b0 := eq_true c8
         have c8b1 := decide_eq_true c8
         clear c8
         obtain ⟨y457, hy457⟩ : ∃ y_ : List (S67), y_ = (x0_1.drop 1) := ⟨_, rfl⟩
         replace H : (R15Trim.l0 k1 y457) = some r := by first | (rw [hy457]; with_reducible exact H) | (have H2_ := (Option.bind_some _ _).symm.trans H; rw [hy457]; with_reducible exact H2_) | (have H2_ := (Option.bind_some _ _).symm.trans H; with_reducible exact H2_) | with_reducible exact H | (rw [hy457]; exact H) | exact H
         have Ny457 := Aside0.mk hy457
         clear hy457
         have H' := Aside0.mk H
         clear H
         obtain ⟨Ao9, co9, eo9⟩ := Kd.V_slice HO_0.out
         subst eo9
         have p455 : 0 ≤ (0 : Int) := (by omega)
         have q455 : 0 < (x0_1.length : Int) := of_decide_eq_true ap0
         obtain ⟨ad455, e455, hx455_0, hx455_1⟩ := at_T67 (Kd.V_reads' HO_0.out).2.2 0 p455 q455
         (try rw [← Nbq5.out] at hx455_1)
         cases e455
         have qi455 : (0 < x0_1.length) = True := eq_true (by omega)
         (try rw [show ((0 : Int)).toNat = 0 from rfl] at hx455_0)
         (try rw [show 0 * 2 = 0 from rfl] at hx455_0)
         (try rw [Addr.add_zero'] at hx455_0)
         (try rw [show ((0 : Int)).toNat = 0 from rfl] at hx455_1)
         (try rw [show 0 * 2 = 0 from rfl] at hx455_1)
         (try rw [Addr.add_zero'] at hx455_1)
         replace p455 := eq_true p455
         replace q455 := eq_true q455
         have p456 : 0 ≤ (0 : Int) := (by omega)
         have q456 : 0 < (x0_1.length : Int) := of_decide_eq_true ap0
         obtain ⟨ad456, e456, hx456_0, hx456_1⟩ := at_T67 (Kd.V_reads' HO_0.out).2.2 0 p456 q456
         (try rw [← Nbq5.out] at hx456_1)
         obtain rfl : ad455 = ad456 := (by injection e456)
         have qi456 : (0 < x0_1.length) = True := eq_true (by omega)
         (try rw [show ((0 : Int)).toNat = 0 from rfl] at hx456_0)
         (try rw [show 0 * 2 = 0 from rfl] at hx456_0)
         (try rw [Addr.add_zero'] at hx456_0)
         (try rw [show ((0 : Int)).toNat = 0 from rfl] at hx456_1)
         (try rw [show 0 * 2 = 0 from rfl] at hx456_1)
         (try rw [Addr.add_zero'] at hx456_1)
         replace p456 := eq_true p456
         replace q456 := eq_true q456
         have q10 : (1 : Int) ≤ ((x0_1.length : Int) : Int) := of_decide_eq_true ap0
         obtain ⟨i010, hi010, _, hsz10, _⟩ := info_parts info67
         have hroom10 : x0_1.length ≤ co9 := (Kd.V_reads' HO_0.out).2.1
         have hC10 : Kd.F k67 _ _ (some ad455) x0_1.length x0_1 := (Kd.V_at (base := w.heap.size) HO_0.out).2.2
         have hcut10 := cut_from (P := Tryd.prog) 62 67 .i64 Tryd.underlying62 hi010 2 hsz10 (some ad455) x0_1.length co9 1 (by omega) q10
         have hr10 := Kd.F_cut (m := (1 : Int).toNat) (c := co9) hC10 (by omega) hroom10
         obtain ⟨A10, hA10⟩ : ∃ A1, A1 = (if co9 = (1 : Int).toNat then (some ad455) else ((some ad455) : Option Addr).map (·.add ((1 : Int).toNat * 2))) := ⟨_, rfl⟩
         obtain ⟨c10, hc10⟩ : ∃ c1, c1 = co9 - (1 : Int).toNat := ⟨_, rfl⟩
         have hy10 : y457.length = x0_1.length - (1 : Int).toNat := (by rw [Ny457.out, List.length_drop] <;> omega)
         rw [show (x0_1).drop (1 : Int).toNat = y457 from Ny457.out.symm] at hr10
         replace hr10 : Kd.F k67 _ _ A10 y457.length y457 := (by rw [hA10]; exact hr10)
         rw [← hy10, ← hA10, ← hc10] at hcut10
         have HO461 := Aside0.mk (show Kd.V k67 67 _ w.heap.size _ (.slice A10 y457.length c10) y457 from Kd.V_mk (by rw [hy10, hc10]; exact Nat.sub_le_sub_right hroom10 _) hr10)
         have HC461 := Aside0.mk (show y457.length ≤ c10 from by rw [hy10, hc10]; exact Nat.sub_le_sub_right hroom10 _)
         clear hr10 hC10 hroom10 hi010 hsz10 hc10
         have KY10 := Aside0.mk hy10
         have KA10 := Aside0.mk hA10
         clear hy10 hA10
         replace q10 := eq_true q10
         go_wp2
         go_roundg k1
         case measure => have := HK1.out; omega
         case rel => exact ⟨(y457), H', ⟨by have := HK1.out; omega⟩, ⟨by (with_reducible repeat (first | apply Kd.V_alloc | apply Kd.V_drewN | apply Kd.V_drew)); exact HO461.out⟩, ⟨by repeat (first | (with_reducible first | exact HB.out | apply below_alloc | apply pw_below_drewN | apply below_drew1) | exact HB.out)⟩⟩
        ·
         rw [if_neg c8] at H
         exact absurd H (by simp)
       ·
        rw [if_neg c7] at H
        have c7b0 : (((rd_T67 x0_1 0).f0) == 32) = false := beq_eq_false_iff_ne.mpr c7
        have c7b1 : (((rd_T67 x0_1 0).f0) != 32) = true := bne_iff_ne.mpr c7
        have H' := Aside0.mk H
        clear H
        obtain ⟨Ao11, co11, eo11⟩ := Kd.V_slice HO_0.out
        subst eo11
        have p455 : 0 ≤ (0 : Int) := (by omega)
        have q455 : 0 < (x0_1.length : Int) := of_decide_eq_true ap0
        obtain ⟨ad455, e455, hx455_0, hx455_1⟩ := at_T67 (Kd.V_reads' HO_0.out).2.2 0 p455 q455
        (try rw [← Nbq5.out] at hx455_1)
        cases e455
        have qi455 : (0 < x0_1.length) = True := eq_true (by omega)
        (try rw [show ((0 : Int)).toNat = 0 from rfl] at hx455_0)
        (try rw [show 0 * 2 = 0 from rfl] at hx455_0)
        (try rw [Addr.add_zero'] at hx455_0)
        (try rw [show ((0 : Int)).toNat = 0 from rfl] at hx455_1)
        (try rw [show 0 * 2 = 0 from rfl] at hx455_1)
        (try rw [Addr.add_zero'] at hx455_1)
        replace p455 := eq_true p455
        replace q455 := eq_true q455
        have p456 : 0 ≤ (0 : Int) := (by omega)
        have q456 : 0 < (x0_1.length : Int) := of_decide_eq_true ap0
        obtain ⟨ad456, e456, hx456_0, hx456_1⟩ := at_T67 (Kd.V_reads' HO_0.out).2.2 0 p456 q456
        (try rw [← Nbq5.out] at hx456_1)
        obtain rfl : ad455 = ad456 := (by injection e456)
        have qi456 : (0 < x0_1.length) = True := eq_true (by omega)
        (try rw [show ((0 : Int)).toNat = 0 from rfl] at hx456_0)
        (try rw [show 0 * 2 = 0 from rfl] at hx456_0)
        (try rw [Addr.add_zero'] at hx456_0)
        (try rw [show ((0 : Int)).toNat = 0 from rfl] at hx456_1)
        (try rw [show 0 * 2 = 0 from rfl] at hx456_1)
        (try rw [Addr.add_zero'] at hx456_1)
        replace p456 := eq_true p456
        replace q456 := eq_true q456
        go_wp2
        first | go_meet | (simp only [c7b0] at *; go_meet) | (simp only [c7b0] at *; go_meet)
        case rel => exact ⟨_, (x0_1), H', ⟨by have := HK1.out; first | omega | exact Nat.le_refl _⟩, ⟨by (with_reducible repeat (first | apply Kd.V_alloc | apply Kd.V_drewN | apply Kd.V_drew)); exact HO_0.out⟩, ⟨by repeat (first | (with_reducible first | exact HB.out | apply below_alloc | apply pw_below_drewN | apply below_drew1) | exact HB.out)⟩⟩
      ·
       replace c6 := Bool.eq_false_iff.mpr c6
       subst c6
       rw [if_neg (show ¬ (false = true) by decide)] at H
       have H' := Aside0.mk H
       clear H
       obtain ⟨Ao12, co12, eo12⟩ := Kd.V_slice HO_0.out
       subst eo12
       have p455 : 0 ≤ (0 : Int) := (by omega)
       have q455 : 0 < (x0_1.length : Int) := of_decide_eq_true ap0
       obtain ⟨ad455, e455, hx455_0, hx455_1⟩ := at_T67 (Kd.V_reads' HO_0.out).2.2 0 p455 q455
       (try rw [← Nbq5.out] at hx455_1)
       cases e455
       have qi455 : (0 < x0_1.length) = True := eq_true (by omega)
       (try rw [show ((0 : Int)).toNat = 0 from rfl] at hx455_0)
       (try rw [show 0 * 2 = 0 from rfl] at hx455_0)
       (try rw [Addr.add_zero'] at hx455_0)
       (try rw [show ((0 : Int)).toNat = 0 from rfl] at hx455_1)
       (try rw [show 0 * 2 = 0 from rfl] at hx455_1)
       (try rw [Addr.add_zero'] at hx455_1)
       replace p455 := eq_true p455
       replace q455 := eq_true q455
       go_wp2
       first | go_meet | (simp only [c7b0] at *; go_meet) | (simp only [c7b0] at *; go_meet)
       case rel => exact ⟨_, (x0_1), H', ⟨by have := HK1.out; first | omega | exact Nat.le_refl _⟩, ⟨by (with_reducible repeat (first | apply Kd.V_alloc | apply Kd.V_drewN | apply Kd.V_drew)); exact HO_0.out⟩, ⟨by repeat (first | (with_reducible first | exact HB.out | apply below_alloc | apply pw_below_drewN | apply below_drew1) | exact HB.out)⟩⟩
     ·
      rw [if_neg c4] at H
      exact absurd H (by simp)
    ·
     rw [if_neg c3] at H
     have c3b0 := decide_eq_false c3
     have c3b1 : decide (0 < x0_1.length) = false := decide_eq_false (by omega)
     clear c3
     (first | rw [c3b0] | (simp only [i64_w, i32_w]; rw [c3b0]) | skip)
     have H' := Aside0.mk H
     clear H
     obtain ⟨Ao13, co13, eo13⟩ := Kd.V_slice HO_0.out
     subst eo13
     go_wp2
     first | go_meet | (simp only [c7b0] at *; go_meet) | (simp only [c7b0] at *; go_meet)
     case rel => exact ⟨_, (x0_1), H', ⟨by have := HK1.out; first | omega | exact Nat.le_refl _⟩, ⟨by (with_reducible repeat (first | apply Kd.V_alloc | apply Kd.V_drewN | apply Kd.V_drew)); exact HO_0.out⟩, ⟨by repeat (first | (with_reducible first | exact HB.out | apply below_alloc | apply pw_below_drewN | apply below_drew1) | exact HB.out)⟩⟩
 case rest =>
  clear HC2
  try clear c1
  try clear q1
  try clear p2
  try clear c3
  try clear c3b0
  try clear c3b1
  try clear c4
  try clear c4b0
  try clear c4b1
  try clear p4
  try clear q4
  try clear hx4
  try clear qi4
  try clear q5
  try clear c6
  try clear c7
  try clear c7b0
  try clear c7b1
  try clear c8
  try clear c8b0
  try clear c8b1
  try clear c10
  try clear q10
  try clear hx455_0
  try clear hx455_1
  try clear hx456_0
  try clear hx456_1
  try clear p2
  try clear p455
  try clear p456
  try clear q10
  try clear q455
  try clear q456
  obtain ⟨kq, x0_1, HA, HJ1, HO_0, HB⟩ := hcut
  cases kq with
  | zero => exact absurd HA.out (by simp [R15Trim.j1])
  | succ kj1 =>
   have H := HA.out
   clear HA
   simp only [R15Trim.j1] at H
   have H' := Aside0.mk H
   clear H
   go_wp2
   go_loopg [0] kj1 (fun kq v0 w' => ∃ (x0_2 : List (S67)), Aside0 (R15Trim.l1 kq x0_2 = some r) ∧ Aside0 (kq ≤ kj1) ∧ Aside0 (Kd.V k67 67 w' w.heap.size (fun k_ => (P0_ k_ ∨ w.heap.size ≤ k_)) v0 x0_2) ∧ Aside0 (Below w.heap.size w w'))
   case atStart => exact ⟨(x0_1), H', ⟨Nat.le_refl _⟩, ⟨by (with_reducible repeat (first | apply Kd.V_alloc | apply Kd.V_drewN | apply Kd.V_drew)); exact HO_0.out⟩, ⟨by repeat (first | (with_reducible first | exact HB.out | apply below_alloc | apply pw_below_drewN | apply below_drew1) | exact HB.out)⟩⟩
   case round =>
    clear H'
    try clear c1
    try clear q1
    try clear p2
    try clear c3
    try clear c3b0
    try clear c3b1
    try clear c4
    try clear c4b0
    try clear c4b1
    try clear p4
    try clear q4
    try clear hx4
    try clear qi4
    try clear q5
    try clear c6
    try clear c7
    try clear c7b0
    try clear c7b1
    try clear c8
    try clear c8b0
    try clear c8b1
    try clear c10
    try clear q10
    try clear hx455_0
    try clear hx455_1
    try clear hx456_0
    try clear hx456_1
    try clear p2
    try clear p4
    try clear p455
    try clear p456
    try clear q1
    try clear q10
    try clear q4
    try clear q455
    try clear q456
    try clear q5
    obtain ⟨x0_2, HA, HK2, HO_0, HB⟩ := hrel
    cases gk with
    | zero => exact absurd HA.out (by simp [R15Trim.l1])
    | succ k2 =>
     have H := HA.out
     clear HA
     simp only [R15Trim.l1] at H
     by_cases c14 : (x0_2.length : Int) > 0
     ·
      rw [if_pos c14] at H
      have c14b0 := decide_eq_true c14
      have c14b1 : decide (0 < x0_2.length) = true := decide_eq_true (by omega)
      clear c14
      obtain ⟨ji15, hji15⟩ : ∃ j_ : Int, (wrap64 ((x0_2.length : Int) - 1)) = j_ := ⟨_, rfl⟩
      replace H : (if 0 ≤ (ji15) then (if (ji15) < (x0_2.length : Int) then (if (rd_T67 x0_2 (ji15)).f1 = true then (if ((rd_T67 x0_2 (ji15)).f0) = 32 then (if (ji15) ≤ (x0_2.length : Int) then (R15Trim.l1 k2 (x0_2.take ((ji15) : Int).toNat)) else (none)) else (some x0_2)) else (some x0_2)) else (none)) else (none)) = some r := by first | (rw [hji15] at H; exact H) | (simp only [hji15] at H ⊢; exact H)
      have hji15w : (IntKind.i64.wrap ((x0_2.length : Int) - 1)) = ji15 := (i64_w _).trans hji15
      by_cases c16 : 0 ≤ (ji15)
      ·
       rw [if_pos c16] at H
       have c16b0 := decide_eq_true c16
       clear c16
       by_cases c17 : (ji15) < (x0_2.length : Int)
       ·
        rw [if_pos c17] at H
        have c17b0 := decide_eq_true c17
        clear c17
        obtain ⟨bq18, hbq18⟩ : ∃ b_ : Bool, b_ = ((rd_T67 x0_2 (ji15)).f1) := ⟨_, rfl⟩
        replace H : (if bq18 = true then (if ((rd_T67 x0_2 (ji15)).f0) = 32 then (if (ji15) ≤ (x0_2.length : Int) then (R15Trim.l1 k2 (x0_2.take ((ji15) : Int).toNat)) else (none)) else (some x0_2)) else (some x0_2)) = some r := by rw [← hbq18] at H; exact H
        have Nbq18 := Aside0.mk hbq18
        clear hbq18
        by_cases c19 : bq18 = true
        ·
         subst c19
         rw [if_pos rfl] at H
         by_cases c20 : ((rd_T67 x0_2 (ji15)).f0) = 32
         ·
          rw [if_pos c20] at H
          have c20b0 : (((rd_T67 x0_2 (ji15)).f0) == 32) = true := beq_iff_eq.mpr c20
          have c20b1 : (((rd_T67 x0_2 (ji15)).f0) != 32) = false := bne_eq_false_iff_eq.mpr c20
          clear c20
          have c21b0 := eq_true (of_decide_eq_true ap0 : 0 ≤ (ji15))
          by_cases c22 : (ji15) ≤ (x0_2.length : Int)
          ·
           rw [if_pos c22] at H
           have c22b0 := eq_true c22
           have c22b1 := decide_eq_true c22
           clear c22
           obtain ⟨y464, hy464⟩ : ∃ y_ : List (S67), y_ = (x0_2.take ((ji15) : Int).toNat) := ⟨_, rfl⟩
           replace H : (R15Trim.l1 k2 y464) = some r := by first | (rw [hy464]; with_reducible exact H) | (have H2_ := (Option.bind_some _ _).symm.trans H; rw [hy464]; with_reducible exact H2_) | (have H2_ := (Option.bind_some _ _).symm.trans H; with_reducible exact H2_) | with_reducible exact H | (rw [hy464]; exact H) | exact H
           have Ny464 := Aside0.mk hy464
           clear hy464
           have H' := Aside0.mk H
           clear H
           obtain ⟨Ao23, co23, eo23⟩ := Kd.V_slice HO_0.out
           subst eo23
           have p462 : 0 ≤ ((ji15) : Int) := of_decide_eq_true ap0
           have q462 : (ji15) < (x0_2.length : Int) := of_decide_eq_true ap0
           obtain ⟨ad462, e462, hx462_0, hx462_1⟩ := at_T67 (Kd.V_reads' HO_0.out).2.2 (ji15) p462 q462
           (try rw [← Nbq18.out] at hx462_1)
           cases e462
           replace p462 := eq_true p462
           replace q462 := eq_true q462
           have p463 : 0 ≤ ((ji15) : Int) := of_decide_eq_true ap0
           have q463 : (ji15) < (x0_2.length : Int) := of_decide_eq_true ap0
           obtain ⟨ad463, e463, hx463_0, hx463_1⟩ := at_T67 (Kd.V_reads' HO_0.out).2.2 (ji15) p463 q463
           (try rw [← Nbq18.out] at hx463_1)
           obtain rfl : ad462 = ad463 := (by injection e463)
           replace p463 := eq_true p463
           replace q463 := eq_true q463
           have q24 : ((ji15) : Int) ≤ ((x0_2.length : Int) : Int) := of_decide_eq_true ap0
           obtain ⟨i024, hi024, _, hsz24, _⟩ := info_parts info67
           have hroom24 : x0_2.length ≤ co23 := (Kd.V_reads' HO_0.out).2.1
           have hC24 : Kd.F k67 _ _ (some ad462) x0_2.length x0_2 := (Kd.V_at (base := w.heap.size) HO_0.out).2.2
           have hcut24 := cut_to (P := Tryd.prog) 62 67 .i64 Tryd.underlying62 hi024 (some ad462) x0_2.length co23 (ji15) (of_decide_eq_true ap0) q24 hroom24
           have hr24 := Kd.F_take (m := ((ji15) : Int).toNat) hC24 (by omega)
           have hy24 : y464.length = ((ji15) : Int).toNat := (by rw [Ny464.out, List.length_take]; omega)
           rw [← Ny464.out] at hr24
           rw [← hy24] at hcut24
           have HO468 := Aside0.mk (show Kd.V k67 67 _ w.heap.size _ (.slice (some ad462) y464.length co23) y464 from Kd.V_mk (by omega) hr24)
           have HC468 := Aside0.mk (show y464.length ≤ co23 from by omega)
           clear hr24 hC24 hroom24 hi024 hsz24
           have KY24 := Aside0.mk hy24
           clear hy24
           replace q24 := eq_true q24
           go_wp2
           go_roundg k2
           case measure => have := HJ1.out; have := HK2.out; omega
           case rel => exact ⟨(y464), H', ⟨by have := HJ1.out; have := HK2.out; omega⟩, ⟨by (with_reducible repeat (first | apply Kd.V_alloc | apply Kd.V_drewN | apply Kd.V_drew)); exact HO468.out⟩, ⟨by repeat (first | (with_reducible first | exact HB.out | apply below_alloc | apply pw_below_drewN | apply below_drew1) | exact HB.out)⟩⟩
          ·
           rw [if_neg c22] at H
           exact absurd H (by simp)
         ·
          rw [if_neg c20] at H
          have c20b0 : (((rd_T67 x0_2 (ji15)).f0) == 32) = false := beq_eq_false_iff_ne.mpr c20
          have c20b1 : (((rd_T67 x0_2 (ji15)).f0) != 32) = true := bne_iff_ne.mpr c20
          obtain rfl := Option.some.inj H
          obtain ⟨Ao25, co25, eo25⟩ := Kd.V_slice HO_0.out
          subst eo25
          have p462 : 0 ≤ ((ji15) : Int) := of_decide_eq_true ap0
          have q462 : (ji15) < (x0_2.length : Int) := of_decide_eq_true ap0
          obtain ⟨ad462, e462, hx462_0, hx462_1⟩ := at_T67 (Kd.V_reads' HO_0.out).2.2 (ji15) p462 q462
          (try rw [← Nbq18.out] at hx462_1)
          cases e462
          replace p462 := eq_true p462
          replace q462 := eq_true q462
          have p463 : 0 ≤ ((ji15) : Int) := of_decide_eq_true ap0
          have q463 : (ji15) < (x0_2.length : Int) := of_decide_eq_true ap0
          obtain ⟨ad463, e463, hx463_0, hx463_1⟩ := at_T67 (Kd.V_reads' HO_0.out).2.2 (ji15) p463 q463
          (try rw [← Nbq18.out] at hx463_1)
          obtain rfl : ad462 = ad463 := (by injection e463)
          replace p463 := eq_true p463
          replace q463 := eq_true q463
          go_wp2
          go_ret
          exact ⟨_, by first | rfl | (simp [errW_none, errW_some, bne_nil8, beq_nil8]; done) | (simp [errW_none, errW_some] <;> rfl) | (simp only [← hji15]; first | rfl | (simp [errW_none, errW_some] <;> rfl)) | (simp [*, errW_none, errW_some] <;> rfl), by (with_reducible repeat (first | apply Kd.V_alloc | apply Kd.V_drewN | apply Kd.V_drew)); exact HO_0.out, by repeat (first | (with_reducible first | exact HB.out | apply below_alloc | apply pw_below_drewN | apply below_drew1) | exact HB.out)⟩
        ·
         replace c19 := Bool.eq_false_iff.mpr c19
         subst c19
         rw [if_neg (show ¬ (false = true) by decide)] at H
         obtain rfl := Option.some.inj H
         obtain ⟨Ao26, co26, eo26⟩ := Kd.V_slice HO_0.out
         subst eo26
         have p462 : 0 ≤ ((ji15) : Int) := of_decide_eq_true ap0
         have q462 : (ji15) < (x0_2.length : Int) := of_decide_eq_true ap0
         obtain ⟨ad462, e462, hx462_0, hx462_1⟩ := at_T67 (Kd.V_reads' HO_0.out).2.2 (ji15) p462 q462
         (try rw [← Nbq18.out] at hx462_1)
         cases e462
         replace p462 := eq_true p462
         replace q462 := eq_true q462
         go_wp2
         go_ret
         exact ⟨_, by first | rfl | (simp [errW_none, errW_some, bne_nil8, beq_nil8]; done) | (simp [errW_none, errW_some] <;> rfl) | (simp only [← hji15]; first | rfl | (simp [errW_none, errW_some] <;> rfl)) | (simp [*, errW_none, errW_some] <;> rfl), by (with_reducible repeat (first | apply Kd.V_alloc | apply Kd.V_drewN | apply Kd.V_drew)); exact HO_0.out, by repeat (first | (with_reducible first | exact HB.out | apply below_alloc | apply pw_below_drewN | apply below_drew1) | exact HB.out)⟩
       ·
        rw [if_neg c17] at H
        exact absurd H (by simp)
      ·
       rw [if_neg c16] at H
       exact absurd H (by simp)
     ·
      rw [if_neg c14] at H
      have c14b0 := decide_eq_false c14
      have c14b1 : decide (0 < x0_2.length) = false := decide_eq_false (by omega)
      clear c14
      obtain rfl := Option.some.inj H
      obtain ⟨Ao27, co27, eo27⟩ := Kd.V_slice HO_0.out
      subst eo27
      go_wp2
      go_ret
      exact ⟨_, by first | rfl | (simp [errW_none, errW_some, bne_nil8, beq_nil8]; done) | (simp [errW_none, errW_some] <;> rfl) | (simp [*, errW_none, errW_some] <;> rfl), by (with_reducible repeat (first | apply Kd.V_alloc | apply Kd.V_drewN | apply Kd.V_drew)); exact HO_0.out, by repeat (first | (with_reducible first | exact HB.out | apply below_alloc | apply pw_below_drewN | apply below_drew1) | exact HB.out)⟩
mutual
def R15Type.j0 : Nat → ByteArray → Bool → Option (Bool)
 | 0, _, _ => none
 | k + 1, x0, x21 => if x21 = true then (some false) else (R15Type.l0 k x0 0)
def R15Type.l0 : Nat → ByteArray → Int → Option (Bool)
 | 0, _, _ => none
 | k + 1, x0, x3 => if x3 < (x0.size : Int) then (if 0 ≤ x3 then (if (bt x0 x3) ≥ 97 then (if ((bt x0 x3) ≤ 122) then (R15Type.l0 k x0 (wrap64 (x3 + 1))) else (if (bt x0 x3) ≥ 48 then (if ((bt x0 x3) ≤ 57) then (R15Type.l0 k x0 (wrap64 (x3 + 1))) else (if (bt x0 x3) = 45 then (R15Type.l0 k x0 (wrap64 (x3 + 1))) else (some false))) else (if (bt x0 x3) = 45 then (R15Type.l0 k x0 (wrap64 (x3 + 1))) else (some false)))) else (if (bt x0 x3) ≥ 48 then (if ((bt x0 x3) ≤ 57) then (R15Type.l0 k x0 (wrap64 (x3 + 1))) else (if (bt x0 x3) = 45 then (R15Type.l0 k x0 (wrap64 (x3 + 1))) else (some false))) else (if (bt x0 x3) = 45 then (R15Type.l0 k x0 (wrap64 (x3 + 1))) else (some false)))) else (none)) else (some true)
end
def R15Type.f (k : Nat) (a0 : ByteArray) : Option (Bool) := if (a0.size : Int) < 1 then (R15Type.j0 k a0 true) else (if (a0.size : Int) > 32 then (R15Type.j0 k a0 true) else (if 0 < (a0.size : Int) then (if (bt a0 0) < 97 then (R15Type.j0 k a0 true) else (R15Type.j0 k a0 (decide ((bt a0 0) > 122)))) else (none)))
set_option maxHeartbeats 8000000 in
set_option maxRecDepth 100000 in
theorem R15Type.calls (k : Nat) (a0 : ByteArray) (r : Bool) (w : World) (h : R15Type.f k a0 = some r) :
  Calls Tryd.prog 64 #[.string a0] w fun e w' => e = .returned (.bool r) ∧ Drawn0 w w' := by
 have H : (if (a0.size : Int) < 1 then (R15Type.j0 k a0 true) else (if (a0.size : Int) > 32 then (R15Type.j0 k a0 true) else (if 0 < (a0.size : Int) then (if (bt a0 0) < 97 then (R15Type.j0 k a0 true) else (R15Type.j0 k a0 (decide ((bt a0 0) > 122)))) else (none)))) = some r := h
 clear h
 have HC2 := Aside0.mk H
 clear H
 go_enter Tryd.func64, Tryd.ntmps64
 go_upto_region 1 with (fail)
 go_cut [21] (fun v21 wc => ∃ (kq : Nat) (x21_1 : Bool), v21 = .bool x21_1 ∧ Aside0 (R15Type.j0 kq a0 x21_1 = some r) ∧ Aside0 (kq ≤ k) ∧ Drawn0 w wc)
 case first =>
  have H := HC2.out
  clear HC2
  by_cases c3 : (a0.size : Int) < 1
  ·
   rw [if_pos c3] at H
   have c3b0 := decide_eq_true c3
   have c3b1 : decide (a0.size < 1) = true := decide_eq_true (by omega)
   clear c3
   (first | rw [c3b0] | (simp only [i64_w, i32_w]; rw [c3b0]) | skip)
   have H' := Aside0.mk H
   clear H
   go_wp2
   go_meet
   case rel => exact ⟨_, (true), ap2, H', ⟨by first | omega | exact Nat.le_refl _⟩, by repeat (first | exact Drawn0.refl _ | apply Drawn0.step)⟩
  ·
   rw [if_neg c3] at H
   have c3b0 := decide_eq_false c3
   have c3b1 : decide (a0.size < 1) = false := decide_eq_false (by omega)
   clear c3
   (first | rw [c3b0] | (simp only [i64_w, i32_w]; rw [c3b0]) | skip)
   by_cases c4 : (a0.size : Int) > 32
   ·
    rw [if_pos c4] at H
    have c4b0 := decide_eq_true c4
    have c4b1 : decide (32 < a0.size) = true := decide_eq_true (by omega)
    clear c4
    have H' := Aside0.mk H
    clear H
    go_wp2
    go_meet
    case rel => exact ⟨_, (true), ap2, H', ⟨by first | omega | exact Nat.le_refl _⟩, by repeat (first | exact Drawn0.refl _ | apply Drawn0.step)⟩
   ·
    rw [if_neg c4] at H
    have c4b0 := decide_eq_false c4
    have c4b1 : decide (32 < a0.size) = false := decide_eq_false (by omega)
    clear c4
    by_cases c5 : 0 < (a0.size : Int)
    ·
     rw [if_pos c5] at H
     have c5b0 := decide_eq_true c5
     have c5b1 : decide (0 < a0.size) = true := decide_eq_true (by omega)
     clear c5
     by_cases c7 : (bt a0 0) < 97
     ·
      rw [if_pos c7] at H
      have c7b0 := decide_eq_true c7
      clear c7
      have H' := Aside0.mk H
      clear H
      have p6 : 0 ≤ (0 : Int) := (by omega)
      have q6 : 0 < a0.size := (by have : (0 : Int) < (a0.size : Int) := of_decide_eq_true ap0; omega)
      have hx6 : ∀ h : 0 < a0.size, ((a0[0]'h).toNat : Int) = bt a0 0 := bt_at a0 0
      clear p6
      have qi6 : (0 < (a0.size : Int)) = True := eq_true (of_decide_eq_true ap0)
      replace q6 := eq_true q6
      go_wp2
      go_meet
      case rel => exact ⟨_, (true), ap2, H', ⟨by first | omega | exact Nat.le_refl _⟩, by repeat (first | exact Drawn0.refl _ | apply Drawn0.step)⟩
     ·
      rw [if_neg c7] at H
      have c7b0 := decide_eq_false c7
      clear c7
      have H' := Aside0.mk H
      clear H
      have p6 : 0 ≤ (0 : Int) := (by omega)
      have q6 : 0 < a0.size := (by have : (0 : Int) < (a0.size : Int) := of_decide_eq_true ap0; omega)
      have hx6 : ∀ h : 0 < a0.size, ((a0[0]'h).toNat : Int) = bt a0 0 := bt_at a0 0
      clear p6
      have qi6 : (0 < (a0.size : Int)) = True := eq_true (of_decide_eq_true ap0)
      replace q6 := eq_true q6
      have p8 : 0 ≤ (0 : Int) := (by omega)
      have q8 : 0 < a0.size := (by have : (0 : Int) < (a0.size : Int) := of_decide_eq_true ap0; omega)
      have hx8 : ∀ h : 0 < a0.size, ((a0[0]'h).toNat : Int) = bt a0 0 := bt_at a0 0
      clear p8
      have qi8 : (0 < (a0.size : Int)) = True := eq_true (of_decide_eq_true ap0)
      replace q8 := eq_true q8
      go_wp2
      go_meet
      case rel => exact ⟨_, (decide ((bt a0 0) > 122)), ap2, H', ⟨by first | omega | exact Nat.le_refl _⟩, by repeat (first | exact Drawn0.refl _ | apply Drawn0.step)⟩
    ·
     rw [if_neg c5] at H
     exact absurd H (by simp)
 case rest =>
  clear HC2
  try clear p2
  try clear c3
  try clear c3b0
  try clear c3b1
  try clear c4
  try clear c4b0
  try clear c4b1
  try clear c5
  try clear c5b0
  try clear c5b1
  try clear c6
  try clear p6
  try clear q6
  try clear hx6
  try clear qi6
  try clear c7
  try clear c7b0
  try clear p8
  try clear q8
  try clear hx8
  try clear qi8
  try clear p6
  try clear p8
  try clear q6
  try clear q8
  obtain ⟨kq, x21_1, rfl, HA, HJ1, ⟨mc1, rfl⟩⟩ := hcut
  cases kq with
  | zero => exact absurd HA.out (by simp [R15Type.j0])
  | succ kj1 =>
   have H := HA.out
   clear HA
   simp only [R15Type.j0] at H
   by_cases c9 : x21_1 = true
   ·
    subst c9
    rw [if_pos rfl] at H
    obtain rfl := Option.some.inj H
    go_wp2
    go_ret
    exact ⟨ap2, ap7⟩
   ·
    replace c9 := Bool.eq_false_iff.mpr c9
    subst c9
    rw [if_neg (show ¬ (false = true) by decide)] at H
    have H' := Aside0.mk H
    clear H
    go_wp2
    go_loopg [3] kj1 (fun kq v3 w' => ∃ (x3_2 : Int), v3 = .int .i64 x3_2 ∧ Aside0 (R15Type.l0 kq a0 x3_2 = some r) ∧ Aside0 (kq ≤ kj1) ∧ Drawn0 w w')
    case atStart => exact ⟨(0), ap2, H', ⟨Nat.le_refl _⟩, by repeat (first | exact Drawn0.refl _ | apply Drawn0.step)⟩
    case round =>
     clear H'
     try clear c1
     try clear p2
     try clear c3
     try clear c3b0
     try clear c3b1
     try clear c4
     try clear c4b0
     try clear c4b1
     try clear c5
     try clear c5b0
     try clear c5b1
     try clear c6
     try clear p6
     try clear q6
     try clear hx6
     try clear qi6
     try clear c7
     try clear c7b0
     try clear p8
     try clear q8
     try clear hx8
     try clear qi8
     try clear c9
     try clear p2
     try clear p6
     try clear p8
     try clear q6
     try clear q8
     obtain ⟨x3_2, rfl, HA, HK2, ⟨m2, rfl⟩⟩ := hrel
     cases gk with
     | zero => exact absurd HA.out (by simp [R15Type.l0])
     | succ k2 =>
      have H := HA.out
      clear HA
      simp only [R15Type.l0] at H
      by_cases c10 : x3_2 < (a0.size : Int)
      ·
       rw [if_pos c10] at H
       have c10b0 := decide_eq_true c10
       clear c10
       by_cases c11 : 0 ≤ x3_2
       ·
        rw [if_pos c11] at H
        have c11b0 := decide_eq_true c11
        clear c11
        by_cases c13 : (bt a0 x3_2) ≥ 97
        ·
         rw [if_pos c13] at H
         have c13b0 := decide_eq_true c13
         clear c13
         by_cases c15 : ((bt a0 x3_2) ≤ 122)
         ·
          rw [if_pos c15] at H
          have c15b0 := decide_eq_true c15
          clear c15
          have H' := Aside0.mk H
          clear H
          have p12 : 0 ≤ (x3_2 : Int) := of_decide_eq_true ap0
          have q12 : x3_2 < (a0.size : Int) := of_decide_eq_true ap0
          have hx12 := bt_at a0 x3_2
          replace p12 := eq_true p12
          replace q12 := eq_true q12
          have p14 : 0 ≤ (x3_2 : Int) := of_decide_eq_true ap0
          have q14 : x3_2 < (a0.size : Int) := of_decide_eq_true ap0
          have hx14 := bt_at a0 x3_2
          replace p14 := eq_true p14
          replace q14 := eq_true q14
          go_wp2
          go_roundg k2
          case measure => have := HJ1.out; have := HK2.out; omega
          case rel => exact ⟨(wrap64 (x3_2 + 1)), ap2, H', ⟨by have := HJ1.out; have := HK2.out; omega⟩, by repeat (first | exact Drawn0.refl _ | apply Drawn0.step)⟩
         ·
          rw [if_neg c15] at H
          have c15b0 := decide_eq_false c15
          clear c15
          by_cases c17 : (bt a0 x3_2) ≥ 48
          ·
           rw [if_pos c17] at H
           have c17b0 := decide_eq_true c17
           clear c17
           by_cases c19 : ((bt a0 x3_2) ≤ 57)
           ·
            rw [if_pos c19] at H
            have c19b0 := decide_eq_true c19
            clear c19
            have H' := Aside0.mk H
            clear H
            have p12 : 0 ≤ (x3_2 : Int) := of_decide_eq_true ap0
            have q12 : x3_2 < (a0.size : Int) := of_decide_eq_true ap0
            have hx12 := bt_at a0 x3_2
            replace p12 := eq_true p12
            replace q12 := eq_true q12
            have p14 : 0 ≤ (x3_2 : Int) := of_decide_eq_true ap0
            have q14 : x3_2 < (a0.size : Int) := of_decide_eq_true ap0
            have hx14 := bt_at a0 x3_2
            replace p14 := eq_true p14
            replace q14 := eq_true q14
            have p16 : 0 ≤ (x3_2 : Int) := of_decide_eq_true ap0
            have q16 : x3_2 < (a0.size : Int) := of_decide_eq_true ap0
            have hx16 := bt_at a0 x3_2
            replace p16 := eq_true p16
            replace q16 := eq_true q16
            have p18 : 0 ≤ (x3_2 : Int) := of_decide_eq_true ap0
            have q18 : x3_2 < (a0.size : Int) := of_decide_eq_true ap0
            have hx18 := bt_at a0 x3_2
            replace p18 := eq_true p18
            replace q18 := eq_true q18
            go_wp2
            go_roundg k2
            case measure => have := HJ1.out; have := HK2.out; omega
            case rel => exact ⟨(wrap64 (x3_2 + 1)), ap2, H', ⟨by have := HJ1.out; have := HK2.out; omega⟩, by repeat (first | exact Drawn0.refl _ | apply Drawn0.step)⟩
           ·
            rw [if_neg c19] at H
            have c19b0 := decide_eq_false c19
            clear c19
            by_cases c21 : (bt a0 x3_2) = 45
            ·
             rw [if_pos c21] at H
             have c21b0 : ((bt a0 x3_2) == 45) = true := beq_iff_eq.mpr c21
             have c21b1 : ((bt a0 x3_2) != 45) = false := bne_eq_false_iff_eq.mpr c21
             clear c21
             have H' := Aside0.mk H
             clear H
             have p12 : 0 ≤ (x3_2 : Int) := of_decide_eq_true ap0
             have q12 : x3_2 < (a0.size : Int) := of_decide_eq_true ap0
             have hx12 := bt_at a0 x3_2
             replace p12 := eq_true p12
             replace q12 := eq_true q12
             have p14 : 0 ≤ (x3_2 : Int) := of_decide_eq_true ap0
             have q14 : x3_2 < (a0.size : Int) := of_decide_eq_true ap0
             have hx14 := bt_at a0 x3_2
             replace p14 := eq_true p14
             replace q14 := eq_true q14
             have p16 : 0 ≤ (x3_2 : Int) := of_decide_eq_true ap0
             have q16 : x3_2 < (a0.size : Int) := of_decide_eq_true ap0
             have hx16 := bt_at a0 x3_2
             replace p16 := eq_true p16
             replace q16 := eq_true q16
             have p18 : 0 ≤ (x3_2 : Int) := of_decide_eq_true ap0
             have q18 : x3_2 < (a0.size : Int) := of_decide_eq_true ap0
             have hx18 := bt_at a0 x3_2
             replace p18 := eq_true p18
             replace q18 := eq_true q18
             have p20 : 0 ≤ (x3_2 : Int) := of_decide_eq_true ap0
             have q20 : x3_2 < (a0.size : Int) := of_decide_eq_true ap0
             have hx20 := bt_at a0 x3_2
             replace p20 := eq_true p20
             replace q20 := eq_true q20
             go_wp2
             go_roundg k2
             case measure => have := HJ1.out; have := HK2.out; omega
             case rel => exact ⟨(wrap64 (x3_2 + 1)), ap2, H', ⟨by have := HJ1.out; have := HK2.out; omega⟩, by repeat (first | exact Drawn0.refl _ | apply Drawn0.step)⟩
            ·
             rw [if_neg c21] at H
             have c21b0 : ((bt a0 x3_2) == 45) = false := beq_eq_false_iff_ne.mpr c21
             have c21b1 : ((bt a0 x3_2) != 45) = true := bne_iff_ne.mpr c21
             obtain rfl := Option.some.inj H
             have p12 : 0 ≤ (x3_2 : Int) := of_decide_eq_true ap0
             have q12 : x3_2 < (a0.size : Int) := of_decide_eq_true ap0
             have hx12 := bt_at a0 x3_2
             replace p12 := eq_true p12
             replace q12 := eq_true q12
             have p14 : 0 ≤ (x3_2 : Int) := of_decide_eq_true ap0
             have q14 : x3_2 < (a0.size : Int) := of_decide_eq_true ap0
             have hx14 := bt_at a0 x3_2
             replace p14 := eq_true p14
             replace q14 := eq_true q14
             have p16 : 0 ≤ (x3_2 : Int) := of_decide_eq_true ap0
             have q16 : x3_2 < (a0.size : Int) := of_decide_eq_true ap0
             have hx16 := bt_at a0 x3_2
             replace p16 := eq_true p16
             replace q16 := eq_true q16
             have p18 : 0 ≤ (x3_2 : Int) := of_decide_eq_true ap0
             have q18 : x3_2 < (a0.size : Int) := of_decide_eq_true ap0
             have hx18 := bt_at a0 x3_2
             replace p18 := eq_true p18
             replace q18 := eq_true q18
             have p20 : 0 ≤ (x3_2 : Int) := of_decide_eq_true ap0
             have q20 : x3_2 < (a0.size : Int) := of_decide_eq_true ap0
             have hx20 := bt_at a0 x3_2
             replace p20 := eq_true p20
             replace q20 := eq_true q20
             go_wp2
             go_ret
             exact ⟨ap2, ap7⟩
          ·
           rw [if_neg c17] at H
           have c17b0 := decide_eq_false c17
           clear c17
           by_cases c23 : (bt a0 x3_2) = 45
           ·
            rw [if_pos c23] at H
            have c23b0 : ((bt a0 x3_2) == 45) = true := beq_iff_eq.mpr c23
            have c23b1 : ((bt a0 x3_2) != 45) = false := bne_eq_false_iff_eq.mpr c23
            clear c23
            have H' := Aside0.mk H
            clear H
            have p12 : 0 ≤ (x3_2 : Int) := of_decide_eq_true ap0
            have q12 : x3_2 < (a0.size : Int) := of_decide_eq_true ap0
            have hx12 := bt_at a0 x3_2
            replace p12 := eq_true p12
            replace q12 := eq_true q12
            have p14 : 0 ≤ (x3_2 : Int) := of_decide_eq_true ap0
            have q14 : x3_2 < (a0.size : Int) := of_decide_eq_true ap0
            have hx14 := bt_at a0 x3_2
            replace p14 := eq_true p14
            replace q14 := eq_true q14
            have p16 : 0 ≤ (x3_2 : Int) := of_decide_eq_true ap0
            have q16 : x3_2 < (a0.size : Int) := of_decide_eq_true ap0
            have hx16 := bt_at a0 x3_2
            replace p16 := eq_true p16
            replace q16 := eq_true q16
            have p22 : 0 ≤ (x3_2 : Int) := of_decide_eq_true ap0
            have q22 : x3_2 < (a0.size : Int) := of_decide_eq_true ap0
            have hx22 := bt_at a0 x3_2
            replace p22 := eq_true p22
            replace q22 := eq_true q22
            go_wp2
            go_roundg k2
            case measure => have := HJ1.out; have := HK2.out; omega
            case rel => exact ⟨(wrap64 (x3_2 + 1)), ap2, H', ⟨by have := HJ1.out; have := HK2.out; omega⟩, by repeat (first | exact Drawn0.refl _ | apply Drawn0.step)⟩
           ·
            rw [if_neg c23] at H
            have c23b0 : ((bt a0 x3_2) == 45) = false := beq_eq_false_iff_ne.mpr c23
            have c23b1 : ((bt a0 x3_2) != 45) = true := bne_iff_ne.mpr c23
            obtain rfl := Option.some.inj H
            have p12 : 0 ≤ (x3_2 : Int) := of_decide_eq_true ap0
            have q12 : x3_2 < (a0.size : Int) := of_decide_eq_true ap0
            have hx12 := bt_at a0 x3_2
            replace p12 := eq_true p12
            replace q12 := eq_true q12
            have p14 : 0 ≤ (x3_2 : Int) := of_decide_eq_true ap0
            have q14 : x3_2 < (a0.size : Int) := of_decide_eq_true ap0
            have hx14 := bt_at a0 x3_2
            replace p14 := eq_true p14
            replace q14 := eq_true q14
            have p16 : 0 ≤ (x3_2 : Int) := of_decide_eq_true ap0
            have q16 : x3_2 < (a0.size : Int) := of_decide_eq_true ap0
            have hx16 := bt_at a0 x3_2
            replace p16 := eq_true p16
            replace q16 := eq_true q16
            have p22 : 0 ≤ (x3_2 : Int) := of_decide_eq_true ap0
            have q22 : x3_2 < (a0.size : Int) := of_decide_eq_true ap0
            have hx22 := bt_at a0 x3_2
            replace p22 := eq_true p22
            replace q22 := eq_true q22
            go_wp2
            go_ret
            exact ⟨ap2, ap7⟩
        ·
         rw [if_neg c13] at H
         have c13b0 := decide_eq_false c13
         clear c13
         by_cases c25 : (bt a0 x3_2) ≥ 48
         ·
          rw [if_pos c25] at H
          have c25b0 := decide_eq_true c25
          clear c25
          by_cases c27 : ((bt a0 x3_2) ≤ 57)
          ·
           rw [if_pos c27] at H
           have c27b0 := decide_eq_true c27
           clear c27
           have H' := Aside0.mk H
           clear H
           have p12 : 0 ≤ (x3_2 : Int) := of_decide_eq_true ap0
           have q12 : x3_2 < (a0.size : Int) := of_decide_eq_true ap0
           have hx12 := bt_at a0 x3_2
           replace p12 := eq_true p12
           replace q12 := eq_true q12
           have p24 : 0 ≤ (x3_2 : Int) := of_decide_eq_true ap0
           have q24 : x3_2 < (a0.size : Int) := of_decide_eq_true ap0
           have hx24 := bt_at a0 x3_2
           replace p24 := eq_true p24
           replace q24 := eq_true q24
           have p26 : 0 ≤ (x3_2 : Int) := of_decide_eq_true ap0
           have q26 : x3_2 < (a0.size : Int) := of_decide_eq_true ap0
           have hx26 := bt_at a0 x3_2
           replace p26 := eq_true p26
           replace q26 := eq_true q26
           go_wp2
           go_roundg k2
           case measure => have := HJ1.out; have := HK2.out; omega
           case rel => exact ⟨(wrap64 (x3_2 + 1)), ap2, H', ⟨by have := HJ1.out; have := HK2.out; omega⟩, by repeat (first | exact Drawn0.refl _ | apply Drawn0.step)⟩
          ·
           rw [if_neg c27] at H
           have c27b0 := decide_eq_false c27
           clear c27
           by_cases c29 : (bt a0 x3_2) = 45
           ·
            rw [if_pos c29] at H
            have c29b0 : ((bt a0 x3_2) == 45) = true := beq_iff_eq.mpr c29
            have c29b1 : ((bt a0 x3_2) != 45) = false := bne_eq_false_iff_eq.mpr c29
            clear c29
            have H' := Aside0.mk H
            clear H
            have p12 : 0 ≤ (x3_2 : Int) := of_decide_eq_true ap0
            have q12 : x3_2 < (a0.size : Int) := of_decide_eq_true ap0
            have hx12 := bt_at a0 x3_2
            replace p12 := eq_true p12
            replace q12 := eq_true q12
            have p24 : 0 ≤ (x3_2 : Int) := of_decide_eq_true ap0
            have q24 : x3_2 < (a0.size : Int) := of_decide_eq_true ap0
            have hx24 := bt_at a0 x3_2
            replace p24 := eq_true p24
            replace q24 := eq_true q24
            have p26 : 0 ≤ (x3_2 : Int) := of_decide_eq_true ap0
            have q26 : x3_2 < (a0.size : Int) := of_decide_eq_true ap0
            have hx26 := bt_at a0 x3_2
            replace p26 := eq_true p26
            replace q26 := eq_true q26
            have p28 : 0 ≤ (x3_2 : Int) := of_decide_eq_true ap0
            have q28 : x3_2 < (a0.size : Int) := of_decide_eq_true ap0
            have hx28 := bt_at a0 x3_2
            replace p28 := eq_true p28
            replace q28 := eq_true q28
            go_wp2
            go_roundg k2
            case measure => have := HJ1.out; have := HK2.out; omega
            case rel => exact ⟨(wrap64 (x3_2 + 1)), ap2, H', ⟨by have := HJ1.out; have := HK2.out; omega⟩, by repeat (first | exact Drawn0.refl _ | apply Drawn0.step)⟩
           ·
            rw [if_neg c29] at H
            have c29b0 : ((bt a0 x3_2) == 45) = false := beq_eq_false_iff_ne.mpr c29
            have c29b1 : ((bt a0 x3_2) != 45) = true := bne_iff_ne.mpr c29
            obtain rfl := Option.some.inj H
            have p12 : 0 ≤ (x3_2 : Int) := of_decide_eq_true ap0
            have q12 : x3_2 < (a0.size : Int) := of_decide_eq_true ap0
            have hx12 := bt_at a0 x3_2
            replace p12 := eq_true p12
            replace q12 := eq_true q12
            have p24 : 0 ≤ (x3_2 : Int) := of_decide_eq_true ap0
            have q24 : x3_2 < (a0.size : Int) := of_decide_eq_true ap0
            have hx24 := bt_at a0 x3_2
            replace p24 := eq_true p24
            replace q24 := eq_true q24
            have p26 : 0 ≤ (x3_2 : Int) := of_decide_eq_true ap0
            have q26 : x3_2 < (a0.size : Int) := of_decide_eq_true ap0
            have hx26 := bt_at a0 x3_2
            replace p26 := eq_true p26
            replace q26 := eq_true q26
            have p28 : 0 ≤ (x3_2 : Int) := of_decide_eq_true ap0
            have q28 : x3_2 < (a0.size : Int) := of_decide_eq_true ap0
            have hx28 := bt_at a0 x3_2
            replace p28 := eq_true p28
            replace q28 := eq_true q28
            go_wp2
            go_ret
            exact ⟨ap2, ap7⟩
         ·
          rw [if_neg c25] at H
          have c25b0 := decide_eq_false c25
          clear c25
          by_cases c31 : (bt a0 x3_2) = 45
          ·
           rw [if_pos c31] at H
           have c31b0 : ((bt a0 x3_2) == 45) = true := beq_iff_eq.mpr c31
           have c31b1 : ((bt a0 x3_2) != 45) = false := bne_eq_false_iff_eq.mpr c31
           clear c31
           have H' := Aside0.mk H
           clear H
           have p12 : 0 ≤ (x3_2 : Int) := of_decide_eq_true ap0
           have q12 : x3_2 < (a0.size : Int) := of_decide_eq_true ap0
           have hx12 := bt_at a0 x3_2
           replace p12 := eq_true p12
           replace q12 := eq_true q12
           have p24 : 0 ≤ (x3_2 : Int) := of_decide_eq_true ap0
           have q24 : x3_2 < (a0.size : Int) := of_decide_eq_true ap0
           have hx24 := bt_at a0 x3_2
           replace p24 := eq_true p24
           replace q24 := eq_true q24
           have p30 : 0 ≤ (x3_2 : Int) := of_decide_eq_true ap0
           have q30 : x3_2 < (a0.size : Int) := of_decide_eq_true ap0
           have hx30 := bt_at a0 x3_2
           replace p30 := eq_true p30
           replace q30 := eq_true q30
           go_wp2
           go_roundg k2
           case measure => have := HJ1.out; have := HK2.out; omega
           case rel => exact ⟨(wrap64 (x3_2 + 1)), ap2, H', ⟨by have := HJ1.out; have := HK2.out; omega⟩, by repeat (first | exact Drawn0.refl _ | apply Drawn0.step)⟩
          ·
           rw [if_neg c31] at H
           have c31b0 : ((bt a0 x3_2) == 45) = false := beq_eq_false_iff_ne.mpr c31
           have c31b1 : ((bt a0 x3_2) != 45) = true := bne_iff_ne.mpr c31
           obtain rfl := Option.some.inj H
           have p12 : 0 ≤ (x3_2 : Int) := of_decide_eq_true ap0
           have q12 : x3_2 < (a0.size : Int) := of_decide_eq_true ap0
           have hx12 := bt_at a0 x3_2
           replace p12 := eq_true p12
           replace q12 := eq_true q12
           have p24 : 0 ≤ (x3_2 : Int) := of_decide_eq_true ap0
           have q24 : x3_2 < (a0.size : Int) := of_decide_eq_true ap0
           have hx24 := bt_at a0 x3_2
           replace p24 := eq_true p24
           replace q24 := eq_true q24
           have p30 : 0 ≤ (x3_2 : Int) := of_decide_eq_true ap0
           have q30 : x3_2 < (a0.size : Int) := of_decide_eq_true ap0
           have hx30 := bt_at a0 x3_2
           replace p30 := eq_true p30
           replace q30 := eq_true q30
           go_wp2
           go_ret
           exact ⟨ap2, ap7⟩
       ·
        rw [if_neg c11] at H
        exact absurd H (by simp)
      ·
       rw [if_neg c10] at H
       have c10b0 := decide_eq_false c10
       clear c10
       obtain rfl := Option.some.inj H
       go_wp2
       go_ret
       exact ⟨ap2, ap7⟩
mutual
def R15Pair.j1 : Nat → List (S67) → Int → Option (ByteArray × ByteArray × Bool)
 | 0, _, _ => none
 | k + 1, x0, x4 => if x4 = (x0.length : Int) then (some ((⟨#[]⟩ : ByteArray), (⟨#[]⟩ : ByteArray), false)) else (if 0 ≤ x4 then (if x4 ≤ (x0.length : Int) then ((R15Trim.f k (x0.take (x4 : Int).toNat)).bind fun t476 => (if 0 ≤ (wrap64 (x4 + 1)) then (if (wrap64 (x4 + 1)) ≤ (x0.length : Int) then ((R15Trim.f k (x0.drop ((wrap64 (x4 + 1)) : Int).toNat)).bind fun t483 => (R15Pair.l1 k t476 t483 (([] : List Int)) 0)) else (none)) else (none))) else (none)) else (none))
def R15Pair.l1 : Nat → List (S67) → List (S67) → List Int → Int → Option (ByteArray × ByteArray × Bool)
 | 0, _, _, _, _ => none
 | k + 1, x5, x6, x7, x8 => if x8 < (x5.length : Int) then (if 0 ≤ x8 then (if ((rd_T67 x5 x8).f1 = true) then (if ((rd_T67 x5 x8).f0) ≥ 65 then (if ((rd_T67 x5 x8).f0) ≤ 90 then (if x7.length < 140737488355328 then (R15Pair.l1 k x5 x6 (x7 ++ [(((rd_T67 x5 x8).f0) + 32) % 256]) (wrap64 (x8 + 1))) else (none)) else (if x7.length < 140737488355328 then (R15Pair.l1 k x5 x6 (x7 ++ [(rd_T67 x5 x8).f0]) (wrap64 (x8 + 1))) else (none))) else (if x7.length < 140737488355328 then (R15Pair.l1 k x5 x6 (x7 ++ [(rd_T67 x5 x8).f0]) (wrap64 (x8 + 1))) else (none))) else (some ((⟨#[]⟩ : ByteArray), (⟨#[]⟩ : ByteArray), false))) else (none)) else (R15Pair.l2 k x6 x7 (([] : List Int)) 0)
def R15Pair.l2 : Nat → List (S67) → List Int → List Int → Int → Option (ByteArray × ByteArray × Bool)
 | 0, _, _, _, _ => none
 | k + 1, x6, x7, x10, x11 => if x11 < (x6.length : Int) then (if 0 ≤ x11 then (if (rd_T67 x6 x11).f1 = true then (if ((rd_T67 x6 x11).f0) = 34 then (some ((⟨#[]⟩ : ByteArray), (⟨#[]⟩ : ByteArray), false)) else (if ((rd_T67 x6 x11).f0) = 60 then (some ((⟨#[]⟩ : ByteArray), (⟨#[]⟩ : ByteArray), false)) else (if ((rd_T67 x6 x11).f0) = 62 then (some ((⟨#[]⟩ : ByteArray), (⟨#[]⟩ : ByteArray), false)) else (if ((rd_T67 x6 x11).f0) = 35 then (if x11 = 0 then (some ((⟨#[]⟩ : ByteArray), (⟨#[]⟩ : ByteArray), false)) else (if x10.length < 140737488355328 then (R15Pair.l2 k x6 x7 (x10 ++ [(rd_T67 x6 x11).f0]) (wrap64 (x11 + 1))) else (none))) else (if x10.length < 140737488355328 then (R15Pair.l2 k x6 x7 (x10 ++ [(rd_T67 x6 x11).f0]) (wrap64 (x11 + 1))) else (none)))))) else (if x10.length < 140737488355328 then (R15Pair.l2 k x6 x7 (x10 ++ [(rd_T67 x6 x11).f0]) (wrap64 (x11 + 1))) else (none))) else (none)) else ((R15Type.f k (strOfNums x7)).bind fun t514 => (some (strOfNums x7, strOfNums x10, t514)))
def R15Pair.l0 : Nat → List (S67) → Int → Option (ByteArray × ByteArray × Bool)
 | 0, _, _ => none
 | k + 1, x0, x4 => if x4 < (x0.length : Int) then (if 0 ≤ x4 then (if (rd_T67 x0 x4).f1 = true then (if (((rd_T67 x0 x4).f0) = 61) then (R15Pair.j1 k x0 x4) else (R15Pair.l0 k x0 (wrap64 (x4 + 1)))) else (R15Pair.l0 k x0 (wrap64 (x4 + 1)))) else (none)) else (R15Pair.j1 k x0 x4)
end
def R15Pair.f (k : Nat) (l0 : List (S67)) : Option (ByteArray × ByteArray × Bool) := R15Pair.l0 k l0 0
def R15Pair.T26 : Bool × List (List Nat × List Nat) := (true, [([], []), ([0], [0]), ([], []), ([2], [2]), ([1, 3], [1, 3]), ([], []), ([5], [5]), ([6], [6]), ([4, 7, 0, 1, 2, 3, 4], [4]), ([7, 8, 0, 1, 2, 3, 4, 5, 6, 7, 8], [7])])
def R15Pair.B26 : List Nat := [0, 1, 0, 4, 15, 0, 32, 96, 255, 511]
theorem R15Pair.tab26 : rtab .any (opsOf Tryd.f38 26) = R15Pair.T26 := by kernel_rfl
theorem R15Pair.bits26 : waitsOk R15Pair.T26.2 R15Pair.B26 = true := by kernel_rfl
end Go.Proofs.YtkklacijhmoopaaDoor.Print
