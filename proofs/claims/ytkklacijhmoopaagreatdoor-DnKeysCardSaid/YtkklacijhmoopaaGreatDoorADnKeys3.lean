-- laid together by pack.py (a program of this session)
import Derived.Test.YtkklacijhmoopaaGreatDoorADnKeys2
namespace Go.Proofs.YtkklacijhmoopaaGreatDoor.Print
open Go.RowKit Go.Proofs.YtkklacijhmoopaaGreatDoorW.PrintWords Go.Proofs.YtkklacijhmoopaaGreatDoorW.PrintLast Go.Proofs.YtkklacijhmoopaaGreatDoorW.PrintMore
attribute [local go_sem] max2_int min2_int max_two min_two max_three min_three max_four min_four
set_option linter.unusedVariables false
set_option linter.unusedSimpArgs false
set_option maxHeartbeats 8000000 in
set_option maxRecDepth 100000 in
theorem R13Mapped.calls (k : Nat) (a0 : ByteArray) (a1 : Bool) (r1 : List Int) (r2 : Int) (w : World) (h : R13Mapped.f k a0 a1 = some (r1, r2)) :
  Calls Tryz.prog 40 #[.string a0, .bool a1] w fun e w' => ∃ v0_ : Value, e = .returned (.tuple #[v0_, .int .i64 r2]) ∧ Kd.R (Kd.int .i32) 21 w' w.heap.size (fun _ => True) v0_ r1 ∧ Below w.heap.size w w' := by
 have HB := Aside0.mk (Below.refl w.heap.size w)
 have H : ((R13Runes.f k a0).bind fun bt239 => (R13Mapped.l0 k a1 bt239.1 bt239.2 (([] : List Int)) 0)) = some (r1, r2) := h
 clear h
 replace H := Option.bind_eq_some_iff.mp H
 obtain ⟨⟨t239, t240⟩, A30, H⟩ := H
 replace H : (R13Mapped.l0 k a1 t239 t240 (([] : List Int)) 0) = some (r1, r2) := H
 have A3 := Aside0.mk A30
 clear A30
 obtain ⟨y243, hy243⟩ : ∃ y_ : List Int, y_ = (([] : List Int)) := ⟨_, rfl⟩
 replace H : (R13Mapped.l0 k a1 t239 t240 y243 0) = some (r1, r2) := by first | (rw [hy243]; with_reducible exact H) | (have H2_ := (Option.bind_some _ _).symm.trans H; rw [hy243]; with_reducible exact H2_) | (have H2_ := (Option.bind_some _ _).symm.trans H; with_reducible exact H2_) | with_reducible exact H | (rw [hy243]; exact H) | exact H
 have Ny243 := Aside0.mk hy243
 clear hy243
 have H' := Aside0.mk H
 clear H
 go_enter Tryz.func40, Tryz.ntmps40
 go_wp2_with (first | ((with_reducible refine gate_callee (f := 58) rfl ?_); refine goesL_ (some 13) rfl rfl Tryz.func58 (by kernel_rfl) rfl #[.string a0] rfl ap3 ?_; (with_reducible refine (R13Runes.calls k a0 t239 t240 _ A3.out).mono ?_); rintro e w4 ⟨v241, rfl, ho0, hb⟩; refine ⟨_, rfl, ?_⟩; have n0_ := Aside0.mk (Kd.R_lower ho0 (below_size ap1)); have n1_ := Aside0.mk (below_step ap1 hb); clear HB; have HO242 := n0_; have HB := n1_; clear n0_ n1_; (try clear hb); (try clear hb2); (try clear hk); (try clear hi); (try clear ho0)) | ((with_reducible refine gate_dst (N := 16) rfl ?_); refine Kd.R_lit (Kd.int .i32) _ 21 ?hg (N := 16) ?hd (xs := ([] : List Int)) (inner := []) (ok := fun _ => True) (okp := fun _ => True) ?hr ?hp (fun _ hk => hk) trivial (Below.refl _ _) (Nat.le_refl _) (by simp) ?_; (case hd => rfl); (case hg => rfl); (case hr => first | (go_simp; done) | (go_simp; rfl)); (case hp => exact (Reps.none _ _)); intro v244 w5 ho6 hb hg_ hnew_; clear hg_ hnew_; (first | rw [← Ny243.out] at ho6 | (simp only [Int.reduceToNat] at ho6; rw [← Ny243.out] at ho6)); have n0_ := Aside0.mk (Kd.R_elder' (apAR HO242.out) (Kd.R_base ho6) hb); have n1_ := Aside0.mk (Kd.R_lower (Kd.R_new' ho6 (Kd.R_lt (apAR HO242.out))) (below_size ap1)); have n2_ := Aside0.mk (below_step ap1 hb); clear HO242; clear HB; have HO242 := n0_; have HO245 := n1_; have HB := n2_; clear n0_ n1_ n2_; clear hb ho6))
 go_loopg [8, 9] k (fun kq v8 v9 w' => ∃ (x8_1 : List Int) (x9_1 : Int), v9 = .int .i64 x9_1 ∧ Aside0 (R13Mapped.l0 kq a1 t239 t240 x8_1 x9_1 = some (r1, r2)) ∧ Aside0 (kq ≤ k) ∧ Aside0 (Kd.R (Kd.int .i32) 21 w' w.heap.size (fun k_ => some k_ ≠ (v8 : Value).ownBlock) v241 t239) ∧ Aside0 (Kd.R (Kd.int .i32) 21 w' w.heap.size (fun k_ => some k_ ≠ (v241 : Value).ownBlock) v8 x8_1) ∧ Aside0 (Below w.heap.size w w'))
 case atStart => exact ⟨(y243), (0), ap2, H', ⟨Nat.le_refl _⟩, ⟨by (with_reducible repeat (first | apply Kd.R_alloc | apply Kd.R_drewN | apply Kd.R_drew)); exact Kd.R_mono HO242.out (fun _ hk => hk.2)⟩, ⟨by (with_reducible repeat (first | apply Kd.R_alloc | apply Kd.R_drewN | apply Kd.R_drew)); exact Kd.R_mono HO245.out (fun _ hk => hk.2)⟩, ⟨by repeat (first | (with_reducible first | exact HB.out | apply below_alloc | apply pw_below_drewN | apply below_drew1) | exact HB.out)⟩⟩
 case round =>
  clear H'
  try clear p2
  try clear c4
  try clear c5
  obtain ⟨x8_1, x9_1, rfl, HA, HK1, HO_6, HO_8, HB⟩ := hrel
  cases gk with
  | zero => exact absurd HA.out (by simp [R13Mapped.l0])
  | succ k1 =>
   have H := HA.out
   clear HA
   simp only [R13Mapped.l0] at H
   by_cases c7 : x9_1 < (t239.length : Int)
   ·
    rw [if_pos c7] at H
    have c7b0 := decide_eq_true c7
    clear c7
    by_cases c8 : 0 ≤ x9_1
    ·
     rw [if_pos c8] at H
     have c8b0 := decide_eq_true c8
     clear c8
     replace H := Option.bind_eq_some_iff.mp H
     obtain ⟨t247, A90, H⟩ := H
     replace H : (if t247 = true then (R13Mapped.l0 k1 a1 t239 t240 x8_1 (wrap64 (x9_1 + 1))) else ((R13Blank.f (rd t239 x9_1)).bind fun t248 => (if t248 = true then (if x8_1.length < 35184372088832 then (R13Mapped.l0 k1 a1 t239 t240 (x8_1 ++ [32]) (wrap64 (x9_1 + 1))) else (none)) else (if a1 = true then ((R13Small.f k1 (rd t239 x9_1)).bind fun t252 => (if x8_1.length < 35184372088832 then (R13Mapped.l0 k1 a1 t239 t240 (x8_1 ++ [t252]) (wrap64 (x9_1 + 1))) else (none))) else (if x8_1.length < 35184372088832 then (R13Mapped.l0 k1 a1 t239 t240 (x8_1 ++ [rd t239 x9_1]) (wrap64 (x9_1 + 1))) else (none)))))) = some (r1, r2) := H
     have A9 := Aside0.mk A90
     clear A90
     by_cases c10 : t247 = true
     ·
      subst c10
      rw [if_pos rfl] at H
      have H' := Aside0.mk H
      clear H
      obtain ⟨Ao11, co11, eo11⟩ := Kd.R_slice HO_6.out
      subst eo11
      have p246 : 0 ≤ (x9_1 : Int) := of_decide_eq_true ap0
      have q246 : x9_1 < (t239.length : Int) := of_decide_eq_true ap0
      obtain ⟨ad246, e246, hx246_0⟩ := Kd.at_int (Kd.R_reads' HO_6.out).2.2 x9_1 p246 q246
      cases e246
      replace p246 := eq_true p246
      replace q246 := eq_true q246
      go_wp2_with (first | ((with_reducible refine gate_callee (f := 59) rfl ?_); refine goesL_ (some 28) rfl rfl Tryz.func59 (by kernel_rfl) rfl #[.int .i32 (rd t239 x9_1)] rfl ap3 ?_; (with_reducible refine (R13Dropped.calls (rd t239 x9_1) true _ A9.out).mono ?_); rintro e w' ⟨rfl, ⟨nd, rfl⟩⟩; refine ⟨_, rfl, ?_⟩))
      go_roundg k1
      case measure => have := HK1.out; omega
      case rel => exact ⟨(x8_1), (wrap64 (x9_1 + 1)), ap2, H', ⟨by have := HK1.out; omega⟩, ⟨by (with_reducible repeat (first | apply Kd.R_alloc | apply Kd.R_drewN | apply Kd.R_drew)); exact HO_6.out⟩, ⟨by (with_reducible repeat (first | apply Kd.R_alloc | apply Kd.R_drewN | apply Kd.R_drew)); exact HO_8.out⟩, ⟨by repeat (first | (with_reducible first | exact HB.out | apply below_alloc | apply pw_below_drewN | apply below_drew1) | exact HB.out)⟩⟩
     ·
      replace c10 := Bool.eq_false_iff.mpr c10
      subst c10
      rw [if_neg (show ¬ (false = true) by decide)] at H
      replace H := Option.bind_eq_some_iff.mp H
      obtain ⟨t248, A120, H⟩ := H
      replace H : (if t248 = true then (if x8_1.length < 35184372088832 then (R13Mapped.l0 k1 a1 t239 t240 (x8_1 ++ [32]) (wrap64 (x9_1 + 1))) else (none)) else (if a1 = true then ((R13Small.f k1 (rd t239 x9_1)).bind fun t252 => (if x8_1.length < 35184372088832 then (R13Mapped.l0 k1 a1 t239 t240 (x8_1 ++ [t252]) (wrap64 (x9_1 + 1))) else (none))) else (if x8_1.length < 35184372088832 then (R13Mapped.l0 k1 a1 t239 t240 (x8_1 ++ [rd t239 x9_1]) (wrap64 (x9_1 + 1))) else (none)))) = some (r1, r2) := H
      have A12 := Aside0.mk A120
      clear A120
      by_cases c13 : t248 = true
      ·
       subst c13
       rw [if_pos rfl] at H
       by_cases c14 : x8_1.length < 35184372088832
       ·
        rw [if_pos c14] at H
        have LMc14 := Aside0.mk c14
        clear c14
        obtain ⟨y249, hy249⟩ : ∃ y_ : List Int, y_ = (x8_1 ++ [32]) := ⟨_, rfl⟩
        replace H : (R13Mapped.l0 k1 a1 t239 t240 y249 (wrap64 (x9_1 + 1))) = some (r1, r2) := by first | (rw [hy249]; with_reducible exact H) | (have H2_ := (Option.bind_some _ _).symm.trans H; rw [hy249]; with_reducible exact H2_) | (have H2_ := (Option.bind_some _ _).symm.trans H; with_reducible exact H2_) | with_reducible exact H | (rw [hy249]; exact H) | exact H
        have Ny249 := Aside0.mk hy249
        clear hy249
        have H' := Aside0.mk H
        clear H
        obtain ⟨Ao15, co15, eo15⟩ := Kd.R_slice HO_6.out
        subst eo15
        have p246 : 0 ≤ (x9_1 : Int) := of_decide_eq_true ap0
        have q246 : x9_1 < (t239.length : Int) := of_decide_eq_true ap0
        obtain ⟨ad246, e246, hx246_0⟩ := Kd.at_int (Kd.R_reads' HO_6.out).2.2 x9_1 p246 q246
        cases e246
        replace p246 := eq_true p246
        replace q246 := eq_true q246
        go_wp2_with (first | ((with_reducible refine gate_callee (f := 59) rfl ?_); refine goesL_ (some 28) rfl rfl Tryz.func59 (by kernel_rfl) rfl #[.int .i32 (rd t239 x9_1)] rfl ap3 ?_; (with_reducible refine (R13Dropped.calls (rd t239 x9_1) false _ A9.out).mono ?_); rintro e w' ⟨rfl, ⟨nd, rfl⟩⟩; refine ⟨_, rfl, ?_⟩) | ((with_reducible refine gate_callee (f := 60) rfl ?_); refine goesL_ (some 30) rfl rfl Tryz.func60 (by kernel_rfl) rfl #[.int .i32 (rd t239 x9_1)] rfl ap3 ?_; (with_reducible refine (R13Blank.calls (rd t239 x9_1) true _ A12.out).mono ?_); rintro e w' ⟨rfl, ⟨nd, rfl⟩⟩; refine ⟨_, rfl, ?_⟩) | ((with_reducible refine gate_builtin (b := .append) (xs := #[.tmp 34, .tmp 36]) rfl ?_); at_builtin; refine Kd.R_append (Kd.int .i32) (w0 := w) w.heap.size rfl (.tmp 34) (.tmp 36) 57 21 (.int .i32 0) 4 rfl Tryz.underlying57 info21 rfl (by decide) (by omega) u8 x8_1 32 [.int .i32 32] (fun k_ => some k_ ≠ (.slice (some ad246) t239.length co15 : Value).ownBlock) (fun _ => False) rfl rfl ?aP (fun _ hk => hk.elim) ?aF ?aO ?aB ?aS ?aL ?_; (case aP => exact rfl); (case aB => exact ap1); (case aF => exact (fun k_ hk => Kd.fresh' (Kd.R_lt (apAR HO_6.out)) k_ hk)); (case aO => exact (apAR HO_8.out)); (case aS => exact (below_size ap1)); (case aL => have := LMc14.out; omega); intro v250 w16 ho hb hg hat; rw [← Ny249.out] at ho; have n0_ := Aside0.mk (Kd.R_after (ok := (fun _ => True)) (by (with_reducible repeat (first | apply Kd.R_alloc | apply Kd.R_drewN | apply Kd.R_drew)); exact Kd.R_mono HO_6.out (fun _ hk => ⟨trivial, hk⟩)) hg hat); have n1_ := Aside0.mk (hb); have n2_ := Aside0.mk (ho); clear HO_6; clear HB; clear HO_8; have HO_6 := n0_; have HB := n1_; have HO251 := n2_; clear n0_ n1_ n2_; clear ho hb hg hat))
        go_roundg k1
        case measure => have := HK1.out; omega
        case rel => exact ⟨(y249), (wrap64 (x9_1 + 1)), ap2, H', ⟨by have := HK1.out; omega⟩, ⟨by (with_reducible repeat (first | apply Kd.R_alloc | apply Kd.R_drewN | apply Kd.R_drew)); exact Kd.R_mono HO_6.out (fun _ hk => hk.2)⟩, ⟨by (with_reducible repeat (first | apply Kd.R_alloc | apply Kd.R_drewN | apply Kd.R_drew)); exact HO251.out⟩, ⟨by repeat (first | (with_reducible first | exact HB.out | apply below_alloc | apply pw_below_drewN | apply below_drew1) | exact HB.out)⟩⟩
       ·
        rw [if_neg c14] at H
        exact absurd H (by simp)
      ·
       replace c13 := Bool.eq_false_iff.mpr c13
       subst c13
       rw [if_neg (show ¬ (false = true) by decide)] at H
       by_cases c17 : a1 = true
       ·
        subst c17
        rw [if_pos rfl] at H
        replace H := Option.bind_eq_some_iff.mp H
        obtain ⟨t252, A180, H⟩ := H
        replace H : (if x8_1.length < 35184372088832 then (R13Mapped.l0 k1 true t239 t240 (x8_1 ++ [t252]) (wrap64 (x9_1 + 1))) else (none)) = some (r1, r2) := H
        have A18 := Aside0.mk A180
        clear A180
        by_cases c19 : x8_1.length < 35184372088832
        ·
         rw [if_pos c19] at H
         have LMc19 := Aside0.mk c19
         clear c19
         obtain ⟨y253, hy253⟩ : ∃ y_ : List Int, y_ = (x8_1 ++ [t252]) := ⟨_, rfl⟩
         replace H : (R13Mapped.l0 k1 true t239 t240 y253 (wrap64 (x9_1 + 1))) = some (r1, r2) := by first | (rw [hy253]; with_reducible exact H) | (have H2_ := (Option.bind_some _ _).symm.trans H; rw [hy253]; with_reducible exact H2_) | (have H2_ := (Option.bind_some _ _).symm.trans H; with_reducible exact H2_) | with_reducible exact H | (rw [hy253]; exact H) | exact H
         have Ny253 := Aside0.mk hy253
         clear hy253
         have H' := Aside0.mk H
         clear H
         obtain ⟨Ao20, co20, eo20⟩ := Kd.R_slice HO_6.out
         subst eo20
         have p246 : 0 ≤ (x9_1 : Int) := of_decide_eq_true ap0
         have q246 : x9_1 < (t239.length : Int) := of_decide_eq_true ap0
         obtain ⟨ad246, e246, hx246_0⟩ := Kd.at_int (Kd.R_reads' HO_6.out).2.2 x9_1 p246 q246
         cases e246
         replace p246 := eq_true p246
         replace q246 := eq_true q246
         go_wp2_with (first | ((with_reducible refine gate_callee (f := 59) rfl ?_); refine goesL_ (some 28) rfl rfl Tryz.func59 (by kernel_rfl) rfl #[.int .i32 (rd t239 x9_1)] rfl ap3 ?_; (with_reducible refine (R13Dropped.calls (rd t239 x9_1) false _ A9.out).mono ?_); rintro e w' ⟨rfl, ⟨nd, rfl⟩⟩; refine ⟨_, rfl, ?_⟩) | ((with_reducible refine gate_callee (f := 60) rfl ?_); refine goesL_ (some 30) rfl rfl Tryz.func60 (by kernel_rfl) rfl #[.int .i32 (rd t239 x9_1)] rfl ap3 ?_; (with_reducible refine (R13Blank.calls (rd t239 x9_1) false _ A12.out).mono ?_); rintro e w' ⟨rfl, ⟨nd, rfl⟩⟩; refine ⟨_, rfl, ?_⟩) | ((with_reducible refine gate_callee (f := 61) rfl ?_); refine goesL_ (some 33) rfl rfl Tryz.func61 (by kernel_rfl) rfl #[.int .i32 (rd t239 x9_1)] rfl ap3 ?_; (with_reducible refine (R13Small.calls k1 (rd t239 x9_1) t252 _ A18.out).mono ?_); rintro e w' ⟨rfl, ⟨nd, rfl⟩⟩; refine ⟨_, rfl, ?_⟩) | ((with_reducible refine gate_builtin (b := .append) (xs := #[.tmp 34, .tmp 36]) rfl ?_); at_builtin; refine Kd.R_append (Kd.int .i32) (w0 := w) w.heap.size rfl (.tmp 34) (.tmp 36) 57 21 (.int .i32 0) 4 rfl Tryz.underlying57 info21 rfl (by decide) (by omega) u8 x8_1 t252 [.int .i32 t252] (fun k_ => some k_ ≠ (.slice (some ad246) t239.length co20 : Value).ownBlock) (fun _ => False) rfl rfl ?aP (fun _ hk => hk.elim) ?aF ?aO ?aB ?aS ?aL ?_; (case aP => exact rfl); (case aB => exact ap1); (case aF => exact (fun k_ hk => Kd.fresh' (Kd.R_lt (apAR HO_6.out)) k_ hk)); (case aO => exact (apAR HO_8.out)); (case aS => exact (below_size ap1)); (case aL => have := LMc19.out; omega); intro v254 w21 ho hb hg hat; rw [← Ny253.out] at ho; have n0_ := Aside0.mk (Kd.R_after (ok := (fun _ => True)) (by (with_reducible repeat (first | apply Kd.R_alloc | apply Kd.R_drewN | apply Kd.R_drew)); exact Kd.R_mono HO_6.out (fun _ hk => ⟨trivial, hk⟩)) hg hat); have n1_ := Aside0.mk (hb); have n2_ := Aside0.mk (ho); clear HO_6; clear HB; clear HO_8; have HO_6 := n0_; have HB := n1_; have HO255 := n2_; clear n0_ n1_ n2_; clear ho hb hg hat))
         go_roundg k1
         case measure => have := HK1.out; omega
         case rel => exact ⟨(y253), (wrap64 (x9_1 + 1)), ap2, H', ⟨by have := HK1.out; omega⟩, ⟨by (with_reducible repeat (first | apply Kd.R_alloc | apply Kd.R_drewN | apply Kd.R_drew)); exact Kd.R_mono HO_6.out (fun _ hk => hk.2)⟩, ⟨by (with_reducible repeat (first | apply Kd.R_alloc | apply Kd.R_drewN | apply Kd.R_drew)); exact HO255.out⟩, ⟨by repeat (first | (with_reducible first | exact HB.out | apply below_alloc | apply pw_below_drewN | apply below_drew1) | exact HB.out)⟩⟩
        ·
         rw [if_neg c19] at H
         exact absurd H (by simp)
       ·
        replace c17 := Bool.eq_false_iff.mpr c17
        subst c17
        rw [if_neg (show ¬ (false = true) by decide)] at H
        by_cases c22 : x8_1.length < 35184372088832
        ·
         rw [if_pos c22] at H
         have LMc22 := Aside0.mk c22
         clear c22
         obtain ⟨y256, hy256⟩ : ∃ y_ : List Int, y_ = (x8_1 ++ [rd t239 x9_1]) := ⟨_, rfl⟩
         replace H : (R13Mapped.l0 k1 false t239 t240 y256 (wrap64 (x9_1 + 1))) = some (r1, r2) := by first | (rw [hy256]; with_reducible exact H) | (have H2_ := (Option.bind_some _ _).symm.trans H; rw [hy256]; with_reducible exact H2_) | (have H2_ := (Option.bind_some _ _).symm.trans H; with_reducible exact H2_) | with_reducible exact H | (rw [hy256]; exact H) | exact H
         have Ny256 := Aside0.mk hy256
         clear hy256
         have H' := Aside0.mk H
         clear H
         obtain ⟨Ao23, co23, eo23⟩ := Kd.R_slice HO_6.out
         subst eo23
         have p246 : 0 ≤ (x9_1 : Int) := of_decide_eq_true ap0
         have q246 : x9_1 < (t239.length : Int) := of_decide_eq_true ap0
         obtain ⟨ad246, e246, hx246_0⟩ := Kd.at_int (Kd.R_reads' HO_6.out).2.2 x9_1 p246 q246
         cases e246
         replace p246 := eq_true p246
         replace q246 := eq_true q246
         go_wp2_with (first | ((with_reducible refine gate_callee (f := 59) rfl ?_); refine goesL_ (some 28) rfl rfl Tryz.func59 (by kernel_rfl) rfl #[.int .i32 (rd t239 x9_1)] rfl ap3 ?_; (with_reducible refine (R13Dropped.calls (rd t239 x9_1) false _ A9.out).mono ?_); rintro e w' ⟨rfl, ⟨nd, rfl⟩⟩; refine ⟨_, rfl, ?_⟩) | ((with_reducible refine gate_callee (f := 60) rfl ?_); refine goesL_ (some 30) rfl rfl Tryz.func60 (by kernel_rfl) rfl #[.int .i32 (rd t239 x9_1)] rfl ap3 ?_; (with_reducible refine (R13Blank.calls (rd t239 x9_1) false _ A12.out).mono ?_); rintro e w' ⟨rfl, ⟨nd, rfl⟩⟩; refine ⟨_, rfl, ?_⟩) | ((with_reducible refine gate_builtin (b := .append) (xs := #[.tmp 34, .tmp 36]) rfl ?_); at_builtin; refine Kd.R_append (Kd.int .i32) (w0 := w) w.heap.size rfl (.tmp 34) (.tmp 36) 57 21 (.int .i32 0) 4 rfl Tryz.underlying57 info21 rfl (by decide) (by omega) u8 x8_1 (rd t239 x9_1) [.int .i32 (rd t239 x9_1)] (fun k_ => some k_ ≠ (.slice (some ad246) t239.length co23 : Value).ownBlock) (fun _ => False) rfl rfl ?aP (fun _ hk => hk.elim) ?aF ?aO ?aB ?aS ?aL ?_; (case aP => exact rfl); (case aB => exact ap1); (case aF => exact (fun k_ hk => Kd.fresh' (Kd.R_lt (apAR HO_6.out)) k_ hk)); (case aO => exact (apAR HO_8.out)); (case aS => exact (below_size ap1)); (case aL => have := LMc22.out; omega); intro v257 w24 ho hb hg hat; rw [← Ny256.out] at ho; have n0_ := Aside0.mk (Kd.R_after (ok := (fun _ => True)) (by (with_reducible repeat (first | apply Kd.R_alloc | apply Kd.R_drewN | apply Kd.R_drew)); exact Kd.R_mono HO_6.out (fun _ hk => ⟨trivial, hk⟩)) hg hat); have n1_ := Aside0.mk (hb); have n2_ := Aside0.mk (ho); clear HO_6; clear HB; clear HO_8; have HO_6 := n0_; have HB := n1_; have HO258 := n2_; clear n0_ n1_ n2_; clear ho hb hg hat))
         go_roundg k1
         case measure => have := HK1.out; omega
         case rel => exact ⟨(y256), (wrap64 (x9_1 + 1)), ap2, H', ⟨by have := HK1.out; omega⟩, ⟨by (with_reducible repeat (first | apply Kd.R_alloc | apply Kd.R_drewN | apply Kd.R_drew)); exact Kd.R_mono HO_6.out (fun _ hk => hk.2)⟩, ⟨by (with_reducible repeat (first | apply Kd.R_alloc | apply Kd.R_drewN | apply Kd.R_drew)); exact HO258.out⟩, ⟨by repeat (first | (with_reducible first | exact HB.out | apply below_alloc | apply pw_below_drewN | apply below_drew1) | exact HB.out)⟩⟩
        ·
         rw [if_neg c22] at H
         exact absurd H (by simp)
    ·
     rw [if_neg c8] at H
     exact absurd H (by simp)
   ·
    rw [if_neg c7] at H
    have c7b0 := decide_eq_false c7
    clear c7
    simp only [Option.some.injEq, Prod.mk.injEq] at H
    obtain ⟨rfl, rfl⟩ := H
    obtain ⟨Ao25, co25, eo25⟩ := Kd.R_slice HO_6.out
    subst eo25
    go_wp2
    go_ret2
    exact ⟨_, by first | rfl | (simp [errW_none, errW_some, bne_nil8, beq_nil8]; done) | (simp [errW_none, errW_some] <;> rfl) | (simp [*, errW_none, errW_some] <;> rfl), by (with_reducible repeat (first | apply Kd.R_alloc | apply Kd.R_drewN | apply Kd.R_drew)); exact Kd.R_mono HO_8.out (fun _ hk => trivial), by repeat (first | (with_reducible first | exact HB.out | apply below_alloc | apply pw_below_drewN | apply below_drew1) | exact HB.out)⟩
def R13Bytes.f (a0 : Int) : Option (List Int) := if (wrap64 (a0)) < 128 then (some (([(wrap64 (a0)) % 256] : List Int))) else (if (wrap64 (a0)) < 2048 then (some (([(wrap64 (192 + (wrap64 (Int.tdiv (wrap64 (a0)) 64)))) % 256, (wrap64 (128 + (Int.tmod (wrap64 (a0)) 64))) % 256] : List Int))) else (if (wrap64 (a0)) < 65536 then (some (([(wrap64 (224 + (wrap64 (Int.tdiv (wrap64 (a0)) 4096)))) % 256, (wrap64 (128 + (Int.tmod (wrap64 (Int.tdiv (wrap64 (a0)) 64)) 64))) % 256, (wrap64 (128 + (Int.tmod (wrap64 (a0)) 64))) % 256] : List Int))) else (some (([(wrap64 (240 + (wrap64 (Int.tdiv (wrap64 (a0)) 262144)))) % 256, (wrap64 (128 + (Int.tmod (wrap64 (Int.tdiv (wrap64 (a0)) 4096)) 64))) % 256, (wrap64 (128 + (Int.tmod (wrap64 (Int.tdiv (wrap64 (a0)) 64)) 64))) % 256, (wrap64 (128 + (Int.tmod (wrap64 (a0)) 64))) % 256] : List Int)))))
set_option maxHeartbeats 8000000 in
set_option maxRecDepth 100000 in
theorem R13Bytes.calls (a0 : Int) (r : List Int) (w : World) (h : R13Bytes.f a0 = some r) :
  Calls Tryz.prog 62 #[.int .i32 a0] w fun e w' => ∃ v0_ : Value, e = .returned (v0_) ∧ Kd.R (Kd.int .u8) 5 w' w.heap.size (fun _ => True) v0_ r ∧ Below w.heap.size w w' := by
 have HB := Aside0.mk (Below.refl w.heap.size w)
 have H : (if (wrap64 (a0)) < 128 then (some (([(wrap64 (a0)) % 256] : List Int))) else (if (wrap64 (a0)) < 2048 then (some (([(wrap64 (192 + (wrap64 (Int.tdiv (wrap64 (a0)) 64)))) % 256, (wrap64 (128 + (Int.tmod (wrap64 (a0)) 64))) % 256] : List Int))) else (if (wrap64 (a0)) < 65536 then (some (([(wrap64 (224 + (wrap64 (Int.tdiv (wrap64 (a0)) 4096)))) % 256, (wrap64 (128 + (Int.tmod (wrap64 (Int.tdiv (wrap64 (a0)) 64)) 64))) % 256, (wrap64 (128 + (Int.tmod (wrap64 (a0)) 64))) % 256] : List Int))) else (some (([(wrap64 (240 + (wrap64 (Int.tdiv (wrap64 (a0)) 262144)))) % 256, (wrap64 (128 + (Int.tmod (wrap64 (Int.tdiv (wrap64 (a0)) 4096)) 64))) % 256, (wrap64 (128 + (Int.tmod (wrap64 (Int.tdiv (wrap64 (a0)) 64)) 64))) % 256, (wrap64 (128 + (Int.tmod (wrap64 (a0)) 64))) % 256] : List Int)))))) = some r := h
 clear h
 by_cases c2 : (wrap64 (a0)) < 128
 ·
  rw [if_pos c2] at H
  have c2b0 := decide_eq_true c2
  clear c2
  obtain ⟨y259, hy259⟩ : ∃ y_ : List Int, y_ = (([(wrap64 (a0)) % 256] : List Int)) := ⟨_, rfl⟩
  replace H : (some y259) = some r := by first | (rw [hy259]; with_reducible exact H) | (have H2_ := (Option.bind_some _ _).symm.trans H; rw [hy259]; with_reducible exact H2_) | (have H2_ := (Option.bind_some _ _).symm.trans H; with_reducible exact H2_) | with_reducible exact H | (rw [hy259]; exact H) | exact H
  have Ny259 := Aside0.mk hy259
  clear hy259
  obtain rfl := Option.some.inj H
  go_enter Tryz.func62, Tryz.ntmps62
  go_wp2_with (first | ((with_reducible refine gate_dst (N := 10) rfl ?_); refine Kd.R_lit (Kd.int .u8) _ 5 ?hg (N := 10) ?hd (xs := ([(wrap64 (a0)) % 256] : List Int)) (inner := [.int .u8 ((wrap64 (a0)) % 256)]) (ok := fun _ => True) (okp := fun _ => True) ?hr ?hp (fun _ hk => hk) trivial (Below.refl _ _) (Nat.le_refl _) (by simp) ?_; (case hd => rfl); (case hg => rfl); (case hr => first | (go_simp; done) | (go_simp; rfl)); (case hp => exact (Reps.one (show Kd.M (Kd.int .u8) _ _ _ ((wrap64 (a0)) % 256) [.int .u8 ((wrap64 (a0)) % 256)] from rfl) (Reps.none _ _))); intro v260 w3 ho4 hb hg_ hnew_; clear hg_ hnew_; (first | rw [← Ny259.out] at ho4 | (simp only [Int.reduceToNat] at ho4; rw [← Ny259.out] at ho4)); have n0_ := Aside0.mk (Kd.R_lower ho4 (below_size ap1)); have n1_ := Aside0.mk (below_step ap1 hb); clear HB; have HO261 := n0_; have HB := n1_; clear n0_ n1_; clear hb ho4))
  go_ret
  exact ⟨_, by first | rfl | (simp [errW_none, errW_some, bne_nil8, beq_nil8]; done) | (simp [errW_none, errW_some] <;> rfl) | (simp [*, errW_none, errW_some] <;> rfl), by (with_reducible repeat (first | apply Kd.R_alloc | apply Kd.R_drewN | apply Kd.R_drew)); exact HO261.out, by repeat (first | (with_reducible first | exact HB.out | apply below_alloc | apply pw_below_drewN | apply below_drew1) | exact HB.out)⟩
 ·
  rw [if_neg c2] at H
  have c2b0 := decide_eq_false c2
  clear c2
  by_cases c5 : (wrap64 (a0)) < 2048
  ·
   rw [if_pos c5] at H
   have c5b0 := decide_eq_true c5
   clear c5
   obtain ⟨y262, hy262⟩ : ∃ y_ : List Int, y_ = (([(wrap64 (192 + (wrap64 (Int.tdiv (wrap64 (a0)) 64)))) % 256, (wrap64 (128 + (Int.tmod (wrap64 (a0)) 64))) % 256] : List Int)) := ⟨_, rfl⟩
   replace H : (some y262) = some r := by first | (rw [hy262]; with_reducible exact H) | (have H2_ := (Option.bind_some _ _).symm.trans H; rw [hy262]; with_reducible exact H2_) | (have H2_ := (Option.bind_some _ _).symm.trans H; with_reducible exact H2_) | with_reducible exact H | (rw [hy262]; exact H) | exact H
   have Ny262 := Aside0.mk hy262
   clear hy262
   obtain rfl := Option.some.inj H
   go_enter Tryz.func62, Tryz.ntmps62
   go_wp2_with (first | ((with_reducible refine gate_dst (N := 21) rfl ?_); refine Kd.R_lit (Kd.int .u8) _ 5 ?hg (N := 21) ?hd (xs := ([(wrap64 (192 + (wrap64 (Int.tdiv (wrap64 (a0)) 64)))) % 256, (wrap64 (128 + (Int.tmod (wrap64 (a0)) 64))) % 256] : List Int)) (inner := [.int .u8 ((wrap64 (192 + (wrap64 (Int.tdiv (wrap64 (a0)) 64)))) % 256), .int .u8 ((wrap64 (128 + (Int.tmod (wrap64 (a0)) 64))) % 256)]) (ok := fun _ => True) (okp := fun _ => True) ?hr ?hp (fun _ hk => hk) trivial (Below.refl _ _) (Nat.le_refl _) (by simp) ?_; (case hd => rfl); (case hg => rfl); (case hr => first | (go_simp; done) | (go_simp; rfl)); (case hp => exact (Reps.one (show Kd.M (Kd.int .u8) _ _ _ ((wrap64 (192 + (wrap64 (Int.tdiv (wrap64 (a0)) 64)))) % 256) [.int .u8 ((wrap64 (192 + (wrap64 (Int.tdiv (wrap64 (a0)) 64)))) % 256)] from rfl) (Reps.one (show Kd.M (Kd.int .u8) _ _ _ ((wrap64 (128 + (Int.tmod (wrap64 (a0)) 64))) % 256) [.int .u8 ((wrap64 (128 + (Int.tmod (wrap64 (a0)) 64))) % 256)] from rfl) (Reps.none _ _)))); intro v263 w6 ho7 hb hg_ hnew_; clear hg_ hnew_; (first | rw [← Ny262.out] at ho7 | (simp only [Int.reduceToNat] at ho7; rw [← Ny262.out] at ho7)); have n0_ := Aside0.mk (Kd.R_lower ho7 (below_size ap1)); have n1_ := Aside0.mk (below_step ap1 hb); clear HB; have HO264 := n0_; have HB := n1_; clear n0_ n1_; clear hb ho7))
   go_ret
   exact ⟨_, by first | rfl | (simp [errW_none, errW_some, bne_nil8, beq_nil8]; done) | (simp [errW_none, errW_some] <;> rfl) | (simp [*, errW_none, errW_some] <;> rfl), by (with_reducible repeat (first | apply Kd.R_alloc | apply Kd.R_drewN | apply Kd.R_drew)); exact HO264.out, by repeat (first | (with_reducible first | exact HB.out | apply below_alloc | apply pw_below_drewN | apply below_drew1) | exact HB.out)⟩
  ·
   rw [if_neg c5] at H
   have c5b0 := decide_eq_false c5
   clear c5
   by_cases c8 : (wrap64 (a0)) < 65536
   ·
    rw [if_pos c8] at H
    have c8b0 := decide_eq_true c8
    clear c8
    obtain ⟨y265, hy265⟩ : ∃ y_ : List Int, y_ = (([(wrap64 (224 + (wrap64 (Int.tdiv (wrap64 (a0)) 4096)))) % 256, (wrap64 (128 + (Int.tmod (wrap64 (Int.tdiv (wrap64 (a0)) 64)) 64))) % 256, (wrap64 (128 + (Int.tmod (wrap64 (a0)) 64))) % 256] : List Int)) := ⟨_, rfl⟩
    replace H : (some y265) = some r := by first | (rw [hy265]; with_reducible exact H) | (have H2_ := (Option.bind_some _ _).symm.trans H; rw [hy265]; with_reducible exact H2_) | (have H2_ := (Option.bind_some _ _).symm.trans H; with_reducible exact H2_) | with_reducible exact H | (rw [hy265]; exact H) | exact H
    have Ny265 := Aside0.mk hy265
    clear hy265
    obtain rfl := Option.some.inj H
    go_enter Tryz.func62, Tryz.ntmps62
    go_wp2_with (first | ((with_reducible refine gate_dst (N := 37) rfl ?_); refine Kd.R_lit (Kd.int .u8) _ 5 ?hg (N := 37) ?hd (xs := ([(wrap64 (224 + (wrap64 (Int.tdiv (wrap64 (a0)) 4096)))) % 256, (wrap64 (128 + (Int.tmod (wrap64 (Int.tdiv (wrap64 (a0)) 64)) 64))) % 256, (wrap64 (128 + (Int.tmod (wrap64 (a0)) 64))) % 256] : List Int)) (inner := [.int .u8 ((wrap64 (224 + (wrap64 (Int.tdiv (wrap64 (a0)) 4096)))) % 256), .int .u8 ((wrap64 (128 + (Int.tmod (wrap64 (Int.tdiv (wrap64 (a0)) 64)) 64))) % 256), .int .u8 ((wrap64 (128 + (Int.tmod (wrap64 (a0)) 64))) % 256)]) (ok := fun _ => True) (okp := fun _ => True) ?hr ?hp (fun _ hk => hk) trivial (Below.refl _ _) (Nat.le_refl _) (by simp) ?_; (case hd => rfl); (case hg => rfl); (case hr => first | (go_simp; done) | (go_simp; rfl)); (case hp => exact (Reps.one (show Kd.M (Kd.int .u8) _ _ _ ((wrap64 (224 + (wrap64 (Int.tdiv (wrap64 (a0)) 4096)))) % 256) [.int .u8 ((wrap64 (224 + (wrap64 (Int.tdiv (wrap64 (a0)) 4096)))) % 256)] from rfl) (Reps.one (show Kd.M (Kd.int .u8) _ _ _ ((wrap64 (128 + (Int.tmod (wrap64 (Int.tdiv (wrap64 (a0)) 64)) 64))) % 256) [.int .u8 ((wrap64 (128 + (Int.tmod (wrap64 (Int.tdiv (wrap64 (a0)) 64)) 64))) % 256)] from rfl) (Reps.one (show Kd.M (Kd.int .u8) _ _ _ ((wrap64 (128 + (Int.tmod (wrap64 (a0)) 64))) % 256) [.int .u8 ((wrap64 (128 + (Int.tmod (wrap64 (a0)) 64))) % 256)] from rfl) (Reps.none _ _))))); intro v266 w9 ho10 hb hg_ hnew_; clear hg_ hnew_; (first | rw [← Ny265.out] at ho10 | (simp only [Int.reduceToNat] at ho10; rw [← Ny265.out] at ho10)); have n0_ := Aside0.mk (Kd.R_lower ho10 (below_size ap1)); have n1_ := Aside0.mk (below_step ap1 hb); clear HB; have HO267 := n0_; have HB := n1_; clear n0_ n1_; clear hb ho10))
    go_ret
    exact ⟨_, by first | rfl | (simp [errW_none, errW_some, bne_nil8, beq_nil8]; done) | (simp [errW_none, errW_some] <;> rfl) | (simp [*, errW_none, errW_some] <;> rfl), by (with_reducible repeat (first | apply Kd.R_alloc | apply Kd.R_drewN | apply Kd.R_drew)); exact HO267.out, by repeat (first | (with_reducible first | exact HB.out | apply below_alloc | apply pw_below_drewN | apply below_drew1) | exact HB.out)⟩
   ·
    rw [if_neg c8] at H
    have c8b0 := decide_eq_false c8
    clear c8
    obtain ⟨y268, hy268⟩ : ∃ y_ : List Int, y_ = (([(wrap64 (240 + (wrap64 (Int.tdiv (wrap64 (a0)) 262144)))) % 256, (wrap64 (128 + (Int.tmod (wrap64 (Int.tdiv (wrap64 (a0)) 4096)) 64))) % 256, (wrap64 (128 + (Int.tmod (wrap64 (Int.tdiv (wrap64 (a0)) 64)) 64))) % 256, (wrap64 (128 + (Int.tmod (wrap64 (a0)) 64))) % 256] : List Int)) := ⟨_, rfl⟩
    replace H : (some y268) = some r := by first | (rw [hy268]; with_reducible exact H) | (have H2_ := (Option.bind_some _ _).symm.trans H; rw [hy268]; with_reducible exact H2_) | (have H2_ := (Option.bind_some _ _).symm.trans H; with_reducible exact H2_) | with_reducible exact H | (rw [hy268]; exact H) | exact H
    have Ny268 := Aside0.mk hy268
    clear hy268
    obtain rfl := Option.some.inj H
    go_enter Tryz.func62, Tryz.ntmps62
    go_wp2_with (first | ((with_reducible refine gate_dst (N := 56) rfl ?_); refine Kd.R_lit (Kd.int .u8) _ 5 ?hg (N := 56) ?hd (xs := ([(wrap64 (240 + (wrap64 (Int.tdiv (wrap64 (a0)) 262144)))) % 256, (wrap64 (128 + (Int.tmod (wrap64 (Int.tdiv (wrap64 (a0)) 4096)) 64))) % 256, (wrap64 (128 + (Int.tmod (wrap64 (Int.tdiv (wrap64 (a0)) 64)) 64))) % 256, (wrap64 (128 + (Int.tmod (wrap64 (a0)) 64))) % 256] : List Int)) (inner := [.int .u8 ((wrap64 (240 + (wrap64 (Int.tdiv (wrap64 (a0)) 262144)))) % 256), .int .u8 ((wrap64 (128 + (Int.tmod (wrap64 (Int.tdiv (wrap64 (a0)) 4096)) 64))) % 256), .int .u8 ((wrap64 (128 + (Int.tmod (wrap64 (Int.tdiv (wrap64 (a0)) 64)) 64))) % 256), .int .u8 ((wrap64 (128 + (Int.tmod (wrap64 (a0)) 64))) % 256)]) (ok := fun _ => True) (okp := fun _ => True) ?hr ?hp (fun _ hk => hk) trivial (Below.refl _ _) (Nat.le_refl _) (by simp) ?_; (case hd => rfl); (case hg => rfl); (case hr => first | (go_simp; done) | (go_simp; rfl)); (case hp => exact (Reps.one (show Kd.M (Kd.int .u8) _ _ _ ((wrap64 (240 + (wrap64 (Int.tdiv (wrap64 (a0)) 262144)))) % 256) [.int .u8 ((wrap64 (240 + (wrap64 (Int.tdiv (wrap64 (a0)) 262144)))) % 256)] from rfl) (Reps.one (show Kd.M (Kd.int .u8) _ _ _ ((wrap64 (128 + (Int.tmod (wrap64 (Int.tdiv (wrap64 (a0)) 4096)) 64))) % 256) [.int .u8 ((wrap64 (128 + (Int.tmod (wrap64 (Int.tdiv (wrap64 (a0)) 4096)) 64))) % 256)] from rfl) (Reps.one (show Kd.M (Kd.int .u8) _ _ _ ((wrap64 (128 + (Int.tmod (wrap64 (Int.tdiv (wrap64 (a0)) 64)) 64))) % 256) [.int .u8 ((wrap64 (128 + (Int.tmod (wrap64 (Int.tdiv (wrap64 (a0)) 64)) 64))) % 256)] from rfl) (Reps.one (show Kd.M (Kd.int .u8) _ _ _ ((wrap64 (128 + (Int.tmod (wrap64 (a0)) 64))) % 256) [.int .u8 ((wrap64 (128 + (Int.tmod (wrap64 (a0)) 64))) % 256)] from rfl) (Reps.none _ _)))))); intro v269 w11 ho12 hb hg_ hnew_; clear hg_ hnew_; (first | rw [← Ny268.out] at ho12 | (simp only [Int.reduceToNat] at ho12; rw [← Ny268.out] at ho12)); have n0_ := Aside0.mk (Kd.R_lower ho12 (below_size ap1)); have n1_ := Aside0.mk (below_step ap1 hb); clear HB; have HO270 := n0_; have HB := n1_; clear n0_ n1_; clear hb ho12))
    go_ret
    exact ⟨_, by first | rfl | (simp [errW_none, errW_some, bne_nil8, beq_nil8]; done) | (simp [errW_none, errW_some] <;> rfl) | (simp [*, errW_none, errW_some] <;> rfl), by (with_reducible repeat (first | apply Kd.R_alloc | apply Kd.R_drewN | apply Kd.R_drew)); exact HO270.out, by repeat (first | (with_reducible first | exact HB.out | apply below_alloc | apply pw_below_drewN | apply below_drew1) | exact HB.out)⟩
def R13Text.l0 : Nat → List Int → List Int → Int → Option (ByteArray)
 | 0, _, _, _ => none
 | k + 1, x0, x3, x4 => if x4 < (x0.length : Int) then (if 0 ≤ x4 then ((R13Bytes.f (rd x0 x4)).bind fun t275 => (if x3.length + t275.length < 140737488355328 then (R13Text.l0 k x0 (x3 ++ t275) (wrap64 (x4 + 1))) else (none))) else (none)) else (some (strOfNums x3))
def R13Text.f (k : Nat) (l0 : List Int) : Option (ByteArray) := R13Text.l0 k l0 (([] : List Int)) 0
set_option maxHeartbeats 8000000 in
set_option maxRecDepth 100000 in
theorem R13Text.calls (k : Nat) (A0 : Option Addr) (c0 : Nat) (l0 : List Int) (r : ByteArray) (w : World) (hr0 : Kd.C (Kd.int .i32) w A0 l0.length l0) (hc0 : l0.length ≤ c0) (h : R13Text.f k l0 = some r) :
  Calls Tryz.prog 41 #[.slice A0 l0.length c0] w fun e w' => e = .returned (.string r) ∧ Below w.heap.size w w' := by
 have HR0 := Aside0.mk hr0
 have HC0 := Aside0.mk hc0
 clear hr0 hc0
 have HB := Aside0.mk (Below.refl w.heap.size w)
 have H : (R13Text.l0 k l0 (([] : List Int)) 0) = some r := h
 clear h
 obtain ⟨y271, hy271⟩ : ∃ y_ : List Int, y_ = (([] : List Int)) := ⟨_, rfl⟩
 replace H : (R13Text.l0 k l0 y271 0) = some r := by first | (rw [hy271]; with_reducible exact H) | (have H2_ := (Option.bind_some _ _).symm.trans H; rw [hy271]; with_reducible exact H2_) | (have H2_ := (Option.bind_some _ _).symm.trans H; with_reducible exact H2_) | with_reducible exact H | (rw [hy271]; exact H) | exact H
 have Ny271 := Aside0.mk hy271
 clear hy271
 have H' := Aside0.mk H
 clear H
 go_enter Tryz.func41, Tryz.ntmps41
 go_wp2_with (first | ((with_reducible refine gate_dst (N := 5) rfl ?_); refine Kd.R_lit (Kd.int .u8) _ 5 ?hg (N := 5) ?hd (xs := ([] : List Int)) (inner := []) (ok := fun _ => True) (okp := fun _ => True) ?hr ?hp (fun _ hk => hk) trivial (Below.refl _ _) (Nat.le_refl _) (by simp) ?_; (case hd => rfl); (case hg => rfl); (case hr => first | (go_simp; done) | (go_simp; rfl)); (case hp => exact (Reps.none _ _)); intro v272 w2 ho3 hb hg_ hnew_; clear hg_ hnew_; (first | rw [← Ny271.out] at ho3 | (simp only [Int.reduceToNat] at ho3; rw [← Ny271.out] at ho3)); have n0_ := Aside0.mk (Kd.R_lower ho3 (below_size ap1)); have n1_ := Aside0.mk (below_step ap1 hb); clear HB; have HO273 := n0_; have HB := n1_; clear n0_ n1_; clear hb ho3))
 go_loopg [3, 4] k (fun kq v3 v4 w' => ∃ (x3_1 : List Int) (x4_1 : Int), v4 = .int .i64 x4_1 ∧ Aside0 (R13Text.l0 kq l0 x3_1 x4_1 = some r) ∧ Aside0 (kq ≤ k) ∧ Aside0 (Kd.R (Kd.int .u8) 5 w' w.heap.size (fun _ => True) v3 x3_1) ∧ Aside0 (Below w.heap.size w w'))
 case atStart => exact ⟨(y271), (0), ap2, H', ⟨Nat.le_refl _⟩, ⟨by (with_reducible repeat (first | apply Kd.R_alloc | apply Kd.R_drewN | apply Kd.R_drew)); exact HO273.out⟩, ⟨by repeat (first | (with_reducible first | exact HB.out | apply below_alloc | apply pw_below_drewN | apply below_drew1) | exact HB.out)⟩⟩
 case round =>
  clear H'
  try clear p2
  obtain ⟨x3_1, x4_1, rfl, HA, HK1, HO_3, HB⟩ := hrel
  cases gk with
  | zero => exact absurd HA.out (by simp [R13Text.l0])
  | succ k1 =>
   have H := HA.out
   clear HA
   simp only [R13Text.l0] at H
   by_cases c4 : x4_1 < (l0.length : Int)
   ·
    rw [if_pos c4] at H
    have c4b0 := decide_eq_true c4
    clear c4
    by_cases c5 : 0 ≤ x4_1
    ·
     rw [if_pos c5] at H
     have c5b0 := decide_eq_true c5
     clear c5
     replace H := Option.bind_eq_some_iff.mp H
     obtain ⟨t275, A60, H⟩ := H
     replace H : (if x3_1.length + t275.length < 140737488355328 then (R13Text.l0 k1 l0 (x3_1 ++ t275) (wrap64 (x4_1 + 1))) else (none)) = some r := H
     have A6 := Aside0.mk A60
     clear A60
     by_cases c7 : x3_1.length + t275.length < 140737488355328
     ·
      rw [if_pos c7] at H
      have LMc7 := Aside0.mk c7
      clear c7
      obtain ⟨y278, hy278⟩ : ∃ y_ : List Int, y_ = (x3_1 ++ t275) := ⟨_, rfl⟩
      replace H : (R13Text.l0 k1 l0 y278 (wrap64 (x4_1 + 1))) = some r := by first | (rw [hy278]; with_reducible exact H) | (have H2_ := (Option.bind_some _ _).symm.trans H; rw [hy278]; with_reducible exact H2_) | (have H2_ := (Option.bind_some _ _).symm.trans H; with_reducible exact H2_) | with_reducible exact H | (rw [hy278]; exact H) | exact H
      have Ny278 := Aside0.mk hy278
      clear hy278
      have H' := Aside0.mk H
      clear H
      have p274 : 0 ≤ (x4_1 : Int) := of_decide_eq_true ap0
      have q274 : x4_1 < (l0.length : Int) := of_decide_eq_true ap0
      obtain ⟨ad274, e274, hx274_0⟩ := Kd.at_int HR0.out x4_1 p274 q274
      cases e274
      replace hx274_0 := (HB.out.cell (World.block_lt_of_cell? w _ hx274_0)).trans hx274_0
      replace p274 := eq_true p274
      replace q274 := eq_true q274
      go_wp2_with (first | ((with_reducible refine gate_callee (f := 62) rfl ?_); refine goesL_ (some 17) rfl rfl Tryz.func62 (by kernel_rfl) rfl #[.int .i32 (rd l0 x4_1)] rfl ap3 ?_; (with_reducible refine (R13Bytes.calls (rd l0 x4_1) t275 _ A6.out).mono ?_); rintro e w8 ⟨v276, rfl, ho0, hb⟩; refine ⟨_, rfl, ?_⟩; have n0_ := Aside0.mk (Kd.R_elder' (apAR HO_3.out) (Kd.R_base ho0) hb); have n1_ := Aside0.mk (Kd.R_lower (Kd.R_new' ho0 (Kd.R_lt (apAR HO_3.out))) (below_size ap1)); have n2_ := Aside0.mk (below_step ap1 hb); clear HO_3; clear HB; have HO_3 := n0_; have HO277 := n1_; have HB := n2_; clear n0_ n1_ n2_; (try clear hb); (try clear hb2); (try clear hk); (try clear hi); (try clear ho0); obtain ⟨Ao10, co10, eo10⟩ := Kd.R_slice HO277.out; subst eo10) | ((with_reducible refine gate_builtin (b := .append) (xs := #[.tmp 12, .tmp 17]) rfl ?_); at_builtin; refine Kd.R_append_rows (Kd.int .u8) (w0 := w) w.heap.size rfl (.tmp 12) (.tmp 17) 61 5 (.int .u8 0) 1 rfl Tryz.underlying61 info5 rfl (by decide) (by omega) u3 x3_1 t275 _ _ _ (fun k_ => some k_ ≠ (.slice Ao10 t275.length co10 : Value).ownBlock) (fun _ => False) rfl rfl ?aO ?aR (fun _ _ h => h) (fun _ h => h.elim) ?aF ?aB ?aS ?aL ?_; (case aR => repeat (first | exact (Kd.R_reads' HO277.out).2.2 | (with_reducible refine Kd.C_alloc ?_ _) | (with_reducible refine Kd.C_drewN ?_ _) | (with_reducible refine Kd.C_drew ?_))); (case aB => exact ap1); (case aF => exact (fun k_ hk => Kd.fresh' (Kd.R_lt (apAR HO277.out)) k_ hk)); (case aO => exact (by (with_reducible repeat (first | apply Kd.R_alloc | apply Kd.R_drewN | apply Kd.R_drew)); exact Kd.R_mono HO_3.out (fun _ hk => hk.2))); (case aS => exact (below_size ap1)); (case aL => have := LMc7.out; omega); intro v279 w9 ho hb hg hat; rw [← Ny278.out] at ho; have n0_ := Aside0.mk (Kd.R_after (ok := (fun _ => True)) (apAR HO277.out) hg hat); have n1_ := Aside0.mk (hb); have n2_ := Aside0.mk (ho); clear HO277; clear HB; clear HO_3; have HO277 := n0_; have HB := n1_; have HO280 := n2_; clear n0_ n1_ n2_; clear ho hb hg hat))
      go_roundg k1
      case measure => have := HK1.out; omega
      case rel => exact ⟨(y278), (wrap64 (x4_1 + 1)), ap2, H', ⟨by have := HK1.out; omega⟩, ⟨by (with_reducible repeat (first | apply Kd.R_alloc | apply Kd.R_drewN | apply Kd.R_drew)); exact Kd.R_mono HO280.out (fun _ hk => trivial)⟩, ⟨by repeat (first | (with_reducible first | exact HB.out | apply below_alloc | apply pw_below_drewN | apply below_drew1) | exact HB.out)⟩⟩
     ·
      rw [if_neg c7] at H
      exact absurd H (by simp)
    ·
     rw [if_neg c5] at H
     exact absurd H (by simp)
   ·
    rw [if_neg c4] at H
    have c4b0 := decide_eq_false c4
    clear c4
    obtain rfl := Option.some.inj H
    have hcv11 := own_string (P := Tryz.prog) Tryz.underlying61 Tryz.underlying5 Tryz.underlying9 (Kd.own_of_R HO_3.out)
    go_wp2
    go_ret
    exact ⟨by first | rfl | (simp [errW_none, errW_some, bne_nil8, beq_nil8]; done) | (simp [errW_none, errW_some] <;> rfl) | (simp [*, errW_none, errW_some] <;> rfl), by repeat (first | (with_reducible first | exact HB.out | apply below_alloc | apply pw_below_drewN | apply below_drew1) | exact HB.out)⟩
def R13Ready.l0 : Nat → List Int → List Int → Int → Option (ByteArray × Int)
 | 0, _, _, _ => none
 | k + 1, x6, x8, x9 => if x9 < (x6.length : Int) then (if 0 ≤ x9 then (if (rd x6 x9) = 32 then (if (x8.length : Int) > 0 then (if (wrap64 (x9 + 1)) < (x6.length : Int) then (if 0 ≤ (wrap64 (x9 + 1)) then (if (rd x6 (wrap64 (x9 + 1))) = 32 then (R13Ready.l0 k x6 x8 (wrap64 (x9 + 1))) else (if x8.length < 35184372088832 then (R13Ready.l0 k x6 (x8 ++ [rd x6 x9]) (wrap64 (x9 + 1))) else (none))) else (none)) else (R13Ready.l0 k x6 x8 (wrap64 (x9 + 1)))) else (R13Ready.l0 k x6 x8 (wrap64 (x9 + 1)))) else (if x8.length < 35184372088832 then (R13Ready.l0 k x6 (x8 ++ [rd x6 x9]) (wrap64 (x9 + 1))) else (none))) else (none)) else ((R13Text.f k x8).bind fun t298 => (some (t298, 0)))
def R13Ready.f (k : Nat) (a0 : ByteArray) (a1 : Bool) : Option (ByteArray × Int) := (R13Mapped.f k a0 a1).bind fun bt281 => (if bt281.2 = 0 then (R13Ready.l0 k bt281.1 (([] : List Int)) 0) else (some ((⟨#[]⟩ : ByteArray), bt281.2)))
set_option maxHeartbeats 8000000 in
set_option maxRecDepth 100000 in
theorem R13Ready.calls (k : Nat) (a0 : ByteArray) (a1 : Bool) (r1 : ByteArray) (r2 : Int) (w : World) (h : R13Ready.f k a0 a1 = some (r1, r2)) :
  Calls Tryz.prog 23 #[.string a0, .bool a1] w fun e w' => e = .returned (.tuple #[.string r1, .int .i64 r2]) ∧ Below w.heap.size w w' := by
 have HB := Aside0.mk (Below.refl w.heap.size w)
 have H : ((R13Mapped.f k a0 a1).bind fun bt281 => (if bt281.2 = 0 then (R13Ready.l0 k bt281.1 (([] : List Int)) 0) else (some ((⟨#[]⟩ : ByteArray), bt281.2)))) = some (r1, r2) := h
 clear h
 replace H := Option.bind_eq_some_iff.mp H
 obtain ⟨⟨t281, t282⟩, A30, H⟩ := H
 replace H : (if t282 = 0 then (R13Ready.l0 k t281 (([] : List Int)) 0) else (some ((⟨#[]⟩ : ByteArray), t282))) = some (r1, r2) := H
 have A3 := Aside0.mk A30
 clear A30
 by_cases c4 : t282 = 0
 ·
  rw [if_pos c4] at H
  have c4b0 : (t282 == 0) = true := beq_iff_eq.mpr c4
  have c4b1 : (t282 != 0) = false := bne_eq_false_iff_eq.mpr c4
  clear c4
  obtain ⟨y285, hy285⟩ : ∃ y_ : List Int, y_ = (([] : List Int)) := ⟨_, rfl⟩
  replace H : (R13Ready.l0 k t281 y285 0) = some (r1, r2) := by first | (rw [hy285]; with_reducible exact H) | (have H2_ := (Option.bind_some _ _).symm.trans H; rw [hy285]; with_reducible exact H2_) | (have H2_ := (Option.bind_some _ _).symm.trans H; with_reducible exact H2_) | with_reducible exact H | (rw [hy285]; exact H) | exact H
  have Ny285 := Aside0.mk hy285
  clear hy285
  have H' := Aside0.mk H
  clear H
  go_enter Tryz.func23, Tryz.ntmps23
  go_wp2_with (first | ((with_reducible refine gate_callee (f := 40) rfl ?_); refine goesL_ (some 13) rfl rfl Tryz.func40 (by kernel_rfl) rfl #[.string a0, .bool a1] rfl ap3 ?_; (with_reducible refine (R13Mapped.calls k a0 a1 t281 t282 _ A3.out).mono ?_); rintro e w5 ⟨v283, rfl, ho0, hb⟩; refine ⟨_, rfl, ?_⟩; have n0_ := Aside0.mk (Kd.R_lower ho0 (below_size ap1)); have n1_ := Aside0.mk (below_step ap1 hb); clear HB; have HO284 := n0_; have HB := n1_; clear n0_ n1_; (try clear hb); (try clear hb2); (try clear hk); (try clear hi); (try clear ho0)) | ((with_reducible refine gate_dst (N := 19) rfl ?_); (try (refine gate_guard (by rfl) ?_; dsimp only)); refine Kd.R_lit (Kd.int .i32) _ 21 ?hg (N := 19) ?hd (xs := ([] : List Int)) (inner := []) (ok := fun _ => True) (okp := fun _ => True) ?hr ?hp (fun _ hk => hk) trivial (Below.refl _ _) (Nat.le_refl _) (by simp) ?_; (case hd => rfl); (case hg => rfl); (case hr => first | (go_simp; done) | (go_simp; rfl)); (case hp => exact (Reps.none _ _)); intro v286 w6 ho7 hb hg_ hnew_; clear hg_ hnew_; (first | rw [← Ny285.out] at ho7 | (simp only [Int.reduceToNat] at ho7; rw [← Ny285.out] at ho7)); have n0_ := Aside0.mk (Kd.R_elder' (apAR HO284.out) (Kd.R_base ho7) hb); have n1_ := Aside0.mk (Kd.R_lower (Kd.R_new' ho7 (Kd.R_lt (apAR HO284.out))) (below_size ap1)); have n2_ := Aside0.mk (below_step ap1 hb); clear HO284; clear HB; have HO284 := n0_; have HO287 := n1_; have HB := n2_; clear n0_ n1_ n2_; clear hb ho7))
  go_loopg [8, 9] k (fun kq v8 v9 w' => ∃ (x8_1 : List Int) (x9_1 : Int), v9 = .int .i64 x9_1 ∧ Aside0 (R13Ready.l0 kq t281 x8_1 x9_1 = some (r1, r2)) ∧ Aside0 (kq ≤ k) ∧ Aside0 (Kd.R (Kd.int .i32) 21 w' w.heap.size (fun k_ => some k_ ≠ (v8 : Value).ownBlock) v283 t281) ∧ Aside0 (Kd.R (Kd.int .i32) 21 w' w.heap.size (fun k_ => some k_ ≠ (v283 : Value).ownBlock) v8 x8_1) ∧ Aside0 (Below w.heap.size w w'))
  case atStart => exact ⟨(y285), (0), ap2, H', ⟨Nat.le_refl _⟩, ⟨by (with_reducible repeat (first | apply Kd.R_alloc | apply Kd.R_drewN | apply Kd.R_drew)); exact Kd.R_mono HO284.out (fun _ hk => hk.2)⟩, ⟨by (with_reducible repeat (first | apply Kd.R_alloc | apply Kd.R_drewN | apply Kd.R_drew)); exact Kd.R_mono HO287.out (fun _ hk => hk.2)⟩, ⟨by repeat (first | (with_reducible first | exact HB.out | apply below_alloc | apply pw_below_drewN | apply below_drew1) | exact HB.out)⟩⟩
  case round =>
   clear H'
   try clear c2
   try clear p2
   try clear c4
   try clear c4b0
   try clear c4b1
   obtain ⟨x8_1, x9_1, rfl, HA, HK1, HO_6, HO_8, HB⟩ := hrel
   cases gk with
   | zero => exact absurd HA.out (by simp [R13Ready.l0])
   | succ k1 =>
    have H := HA.out
    clear HA
    simp only [R13Ready.l0] at H
    by_cases c8 : x9_1 < (t281.length : Int)
    ·
     rw [if_pos c8] at H
     have c8b0 := decide_eq_true c8
     clear c8
     by_cases c9 : 0 ≤ x9_1
     ·
      rw [if_pos c9] at H
      have c9b0 := decide_eq_true c9
      clear c9
      by_cases c10 : (rd t281 x9_1) = 32
      ·
       rw [if_pos c10] at H
       have c10b0 : ((rd t281 x9_1) == 32) = true := beq_iff_eq.mpr c10
       have c10b1 : ((rd t281 x9_1) != 32) = false := bne_eq_false_iff_eq.mpr c10
       clear c10
       by_cases c11 : (x8_1.length : Int) > 0
       ·
        rw [if_pos c11] at H
        have c11b0 := decide_eq_true c11
        have c11b1 : decide (0 < x8_1.length) = true := decide_eq_true (by omega)
        clear c11
        by_cases c12 : (wrap64 (x9_1 + 1)) < (t281.length : Int)
        ·
         rw [if_pos c12] at H
         have c12b0 := decide_eq_true c12
         clear c12
         obtain ⟨ji13, hji13⟩ : ∃ j_ : Int, (wrap64 (x9_1 + 1)) = j_ := ⟨_, rfl⟩
         replace H : (if 0 ≤ (ji13) then (if (rd t281 (ji13)) = 32 then (R13Ready.l0 k1 t281 x8_1 ji13) else (if x8_1.length < 35184372088832 then (R13Ready.l0 k1 t281 (x8_1 ++ [rd t281 x9_1]) ji13) else (none))) else (none)) = some (r1, r2) := by first | (rw [hji13] at H; exact H) | (simp only [hji13] at H ⊢; exact H)
         (try rw [hji13] at c12b0)
         have hji13w : (IntKind.i64.wrap (x9_1 + 1)) = ji13 := (i64_w _).trans hji13
         by_cases c14 : 0 ≤ (ji13)
         ·
          rw [if_pos c14] at H
          have c14b0 := decide_eq_true c14
          clear c14
          by_cases c15 : (rd t281 (ji13)) = 32
          ·
           rw [if_pos c15] at H
           have c15b0 : ((rd t281 (ji13)) == 32) = true := beq_iff_eq.mpr c15
           have c15b1 : ((rd t281 (ji13)) != 32) = false := bne_eq_false_iff_eq.mpr c15
           clear c15
           have H' := Aside0.mk H
           clear H
           obtain ⟨Ao16, co16, eo16⟩ := Kd.R_slice HO_6.out
           subst eo16
           have p288 : 0 ≤ (x9_1 : Int) := of_decide_eq_true ap0
           have q288 : x9_1 < (t281.length : Int) := of_decide_eq_true ap0
           obtain ⟨ad288, e288, hx288_0⟩ := Kd.at_int (Kd.R_reads' HO_6.out).2.2 x9_1 p288 q288
           cases e288
           replace p288 := eq_true p288
           replace q288 := eq_true q288
           obtain ⟨Ao17, co17, eo17⟩ := Kd.R_slice HO_8.out
           subst eo17
           have p289 : 0 ≤ ((ji13) : Int) := of_decide_eq_true ap0
           have q289 : (ji13) < (t281.length : Int) := of_decide_eq_true ap0
           obtain ⟨ad289, e289, hx289_0⟩ := Kd.at_int (Kd.R_reads' HO_6.out).2.2 (ji13) p289 q289
           obtain rfl : ad288 = ad289 := (by injection e289)
           replace p289 := eq_true p289
           replace q289 := eq_true q289
           go_wp2
           go_roundg k1
           case measure => have := HK1.out; omega
           case rel => exact ⟨(x8_1), (ji13), (by first | rfl | (simp; done) | (simp only [← hji13] <;> (first | rfl | simp)) | (simp [*]; done)), H', ⟨by have := HK1.out; omega⟩, ⟨by (with_reducible repeat (first | apply Kd.R_alloc | apply Kd.R_drewN | apply Kd.R_drew)); exact HO_6.out⟩, ⟨by (with_reducible repeat (first | apply Kd.R_alloc | apply Kd.R_drewN | apply Kd.R_drew)); exact HO_8.out⟩, ⟨by repeat (first | (with_reducible first | exact HB.out | apply below_alloc | apply pw_below_drewN | apply below_drew1) | exact HB.out)⟩⟩
          ·
           rw [if_neg c15] at H
           have c15b0 : ((rd t281 (ji13)) == 32) = false := beq_eq_false_iff_ne.mpr c15
           have c15b1 : ((rd t281 (ji13)) != 32) = true := bne_iff_ne.mpr c15
           by_cases c18 : x8_1.length < 35184372088832
           ·
            rw [if_pos c18] at H
            have LMc18 := Aside0.mk c18
            clear c18
            obtain ⟨y291, hy291⟩ : ∃ y_ : List Int, y_ = (x8_1 ++ [rd t281 x9_1]) := ⟨_, rfl⟩
            replace H : (R13Ready.l0 k1 t281 y291 ji13) = some (r1, r2) := by first | (rw [hy291]; with_reducible exact H) | (have H2_ := (Option.bind_some _ _).symm.trans H; rw [hy291]; with_reducible exact H2_) | (have H2_ := (Option.bind_some _ _).symm.trans H; with_reducible exact H2_) | with_reducible exact H | (rw [hy291]; exact H) | exact H
            have Ny291 := Aside0.mk hy291
            clear hy291
            have H' := Aside0.mk H
            clear H
            obtain ⟨Ao19, co19, eo19⟩ := Kd.R_slice HO_6.out
            subst eo19
            have p288 : 0 ≤ (x9_1 : Int) := of_decide_eq_true ap0
            have q288 : x9_1 < (t281.length : Int) := of_decide_eq_true ap0
            obtain ⟨ad288, e288, hx288_0⟩ := Kd.at_int (Kd.R_reads' HO_6.out).2.2 x9_1 p288 q288
            cases e288
            replace p288 := eq_true p288
            replace q288 := eq_true q288
            obtain ⟨Ao20, co20, eo20⟩ := Kd.R_slice HO_8.out
            subst eo20
            have p289 : 0 ≤ ((ji13) : Int) := of_decide_eq_true ap0
            have q289 : (ji13) < (t281.length : Int) := of_decide_eq_true ap0
            obtain ⟨ad289, e289, hx289_0⟩ := Kd.at_int (Kd.R_reads' HO_6.out).2.2 (ji13) p289 q289
            obtain rfl : ad288 = ad289 := (by injection e289)
            replace p289 := eq_true p289
            replace q289 := eq_true q289
            have p290 : 0 ≤ (x9_1 : Int) := of_decide_eq_true ap0
            have q290 : x9_1 < (t281.length : Int) := of_decide_eq_true ap0
            obtain ⟨ad290, e290, hx290_0⟩ := Kd.at_int (Kd.R_reads' HO_6.out).2.2 x9_1 p290 q290
            obtain rfl : ad288 = ad290 := (by injection e290)
            replace p290 := eq_true p290
            replace q290 := eq_true q290
            go_wp2_with (first | ((with_reducible refine gate_builtin (b := .append) (xs := #[.tmp 51, .tmp 56]) rfl ?_); (try (refine gate_guard (by rfl) ?_; dsimp only)); at_builtin; refine Kd.R_append (Kd.int .i32) (w0 := w) w.heap.size rfl (.tmp 51) (.tmp 56) 57 21 (.int .i32 0) 4 rfl Tryz.underlying57 info21 rfl (by decide) (by omega) (.slice Ao20 x8_1.length co20) x8_1 (rd t281 x9_1) [.int .i32 (rd t281 x9_1)] (fun k_ => some k_ ≠ (.slice (some ad288) t281.length co19 : Value).ownBlock) (fun _ => False) rfl rfl ?aP (fun _ hk => hk.elim) ?aF ?aO ?aB ?aS ?aL ?_; (case aP => exact rfl); (case aB => exact ap1); (case aF => exact (fun k_ hk => Kd.fresh' (Kd.R_lt (apAR HO_6.out)) k_ hk)); (case aO => exact (apAR HO_8.out)); (case aS => exact (below_size ap1)); (case aL => have := LMc18.out; omega); intro v292 w21 ho hb hg hat; rw [← Ny291.out] at ho; have n0_ := Aside0.mk (Kd.R_after (ok := (fun _ => True)) (by (with_reducible repeat (first | apply Kd.R_alloc | apply Kd.R_drewN | apply Kd.R_drew)); exact Kd.R_mono HO_6.out (fun _ hk => ⟨trivial, hk⟩)) hg hat); have n1_ := Aside0.mk (hb); have n2_ := Aside0.mk (ho); clear HO_6; clear HB; clear HO_8; have HO_6 := n0_; have HB := n1_; have HO293 := n2_; clear n0_ n1_ n2_; clear ho hb hg hat))
            go_roundg k1
            case measure => have := HK1.out; omega
            case rel => exact ⟨(y291), (ji13), (by first | rfl | (simp; done) | (simp only [← hji13] <;> (first | rfl | simp)) | (simp [*]; done)), H', ⟨by have := HK1.out; omega⟩, ⟨by (with_reducible repeat (first | apply Kd.R_alloc | apply Kd.R_drewN | apply Kd.R_drew)); exact Kd.R_mono HO_6.out (fun _ hk => hk.2)⟩, ⟨by (with_reducible repeat (first | apply Kd.R_alloc | apply Kd.R_drewN | apply Kd.R_drew)); exact HO293.out⟩, ⟨by repeat (first | (with_reducible first | exact HB.out | apply below_alloc | apply pw_below_drewN | apply below_drew1) | exact HB.out)⟩⟩
           ·
            rw [if_neg c18] at H
            exact absurd H (by simp)
         ·
          rw [if_neg c14] at H
          exact absurd H (by simp)
        ·
         rw [if_neg c12] at H
         have c12b0 := decide_eq_false c12
         clear c12
         have H' := Aside0.mk H
         clear H
         obtain ⟨Ao22, co22, eo22⟩ := Kd.R_slice HO_6.out
         subst eo22
         have p288 : 0 ≤ (x9_1 : Int) := of_decide_eq_true ap0
         have q288 : x9_1 < (t281.length : Int) := of_decide_eq_true ap0
         obtain ⟨ad288, e288, hx288_0⟩ := Kd.at_int (Kd.R_reads' HO_6.out).2.2 x9_1 p288 q288
         cases e288
         replace p288 := eq_true p288
         replace q288 := eq_true q288
         obtain ⟨Ao23, co23, eo23⟩ := Kd.R_slice HO_8.out
         subst eo23
         go_wp2
         go_roundg k1
         case measure => have := HK1.out; omega
         case rel => exact ⟨(x8_1), (wrap64 (x9_1 + 1)), ap2, H', ⟨by have := HK1.out; omega⟩, ⟨by (with_reducible repeat (first | apply Kd.R_alloc | apply Kd.R_drewN | apply Kd.R_drew)); exact HO_6.out⟩, ⟨by (with_reducible repeat (first | apply Kd.R_alloc | apply Kd.R_drewN | apply Kd.R_drew)); exact HO_8.out⟩, ⟨by repeat (first | (with_reducible first | exact HB.out | apply below_alloc | apply pw_below_drewN | apply below_drew1) | exact HB.out)⟩⟩
       ·
        rw [if_neg c11] at H
        have c11b0 := decide_eq_false c11
        have c11b1 : decide (0 < x8_1.length) = false := decide_eq_false (by omega)
        clear c11
        have H' := Aside0.mk H
        clear H
        obtain ⟨Ao24, co24, eo24⟩ := Kd.R_slice HO_6.out
        subst eo24
        have p288 : 0 ≤ (x9_1 : Int) := of_decide_eq_true ap0
        have q288 : x9_1 < (t281.length : Int) := of_decide_eq_true ap0
        obtain ⟨ad288, e288, hx288_0⟩ := Kd.at_int (Kd.R_reads' HO_6.out).2.2 x9_1 p288 q288
        cases e288
        replace p288 := eq_true p288
        replace q288 := eq_true q288
        obtain ⟨Ao25, co25, eo25⟩ := Kd.R_slice HO_8.out
        subst eo25
        go_wp2
        go_roundg k1
        case measure => have := HK1.out; omega
        case rel => exact ⟨(x8_1), (wrap64 (x9_1 + 1)), ap2, H', ⟨by have := HK1.out; omega⟩, ⟨by (with_reducible repeat (first | apply Kd.R_alloc | apply Kd.R_drewN | apply Kd.R_drew)); exact HO_6.out⟩, ⟨by (with_reducible repeat (first | apply Kd.R_alloc | apply Kd.R_drewN | apply Kd.R_drew)); exact HO_8.out⟩, ⟨by repeat (first | (with_reducible first | exact HB.out | apply below_alloc | apply pw_below_drewN | apply below_drew1) | exact HB.out)⟩⟩
      ·
       rw [if_neg c10] at H
       have c10b0 : ((rd t281 x9_1) == 32) = false := beq_eq_false_iff_ne.mpr c10
       have c10b1 : ((rd t281 x9_1) != 32) = true := bne_iff_ne.mpr c10
       by_cases c26 : x8_1.length < 35184372088832
       ·
        rw [if_pos c26] at H
        have LMc26 := Aside0.mk c26
        clear c26
        obtain ⟨y295, hy295⟩ : ∃ y_ : List Int, y_ = (x8_1 ++ [rd t281 x9_1]) := ⟨_, rfl⟩
        replace H : (R13Ready.l0 k1 t281 y295 (wrap64 (x9_1 + 1))) = some (r1, r2) := by first | (rw [hy295]; with_reducible exact H) | (have H2_ := (Option.bind_some _ _).symm.trans H; rw [hy295]; with_reducible exact H2_) | (have H2_ := (Option.bind_some _ _).symm.trans H; with_reducible exact H2_) | with_reducible exact H | (rw [hy295]; exact H) | exact H
        have Ny295 := Aside0.mk hy295
        clear hy295
        have H' := Aside0.mk H
        clear H
        obtain ⟨Ao27, co27, eo27⟩ := Kd.R_slice HO_6.out
        subst eo27
        have p288 : 0 ≤ (x9_1 : Int) := of_decide_eq_true ap0
        have q288 : x9_1 < (t281.length : Int) := of_decide_eq_true ap0
        obtain ⟨ad288, e288, hx288_0⟩ := Kd.at_int (Kd.R_reads' HO_6.out).2.2 x9_1 p288 q288
        cases e288
        replace p288 := eq_true p288
        replace q288 := eq_true q288
        have p294 : 0 ≤ (x9_1 : Int) := of_decide_eq_true ap0
        have q294 : x9_1 < (t281.length : Int) := of_decide_eq_true ap0
        obtain ⟨ad294, e294, hx294_0⟩ := Kd.at_int (Kd.R_reads' HO_6.out).2.2 x9_1 p294 q294
        obtain rfl : ad288 = ad294 := (by injection e294)
        replace p294 := eq_true p294
        replace q294 := eq_true q294
        go_wp2_with (first | ((with_reducible refine gate_builtin (b := .append) (xs := #[.tmp 51, .tmp 56]) rfl ?_); (try (refine gate_guard (by rfl) ?_; dsimp only)); at_builtin; refine Kd.R_append (Kd.int .i32) (w0 := w) w.heap.size rfl (.tmp 51) (.tmp 56) 57 21 (.int .i32 0) 4 rfl Tryz.underlying57 info21 rfl (by decide) (by omega) u8 x8_1 (rd t281 x9_1) [.int .i32 (rd t281 x9_1)] (fun k_ => some k_ ≠ (.slice (some ad288) t281.length co27 : Value).ownBlock) (fun _ => False) rfl rfl ?aP (fun _ hk => hk.elim) ?aF ?aO ?aB ?aS ?aL ?_; (case aP => exact rfl); (case aB => exact ap1); (case aF => exact (fun k_ hk => Kd.fresh' (Kd.R_lt (apAR HO_6.out)) k_ hk)); (case aO => exact (apAR HO_8.out)); (case aS => exact (below_size ap1)); (case aL => have := LMc26.out; omega); intro v296 w28 ho hb hg hat; rw [← Ny295.out] at ho; have n0_ := Aside0.mk (Kd.R_after (ok := (fun _ => True)) (by (with_reducible repeat (first | apply Kd.R_alloc | apply Kd.R_drewN | apply Kd.R_drew)); exact Kd.R_mono HO_6.out (fun _ hk => ⟨trivial, hk⟩)) hg hat); have n1_ := Aside0.mk (hb); have n2_ := Aside0.mk (ho); clear HO_6; clear HB; clear HO_8; have HO_6 := n0_; have HB := n1_; have HO297 := n2_; clear n0_ n1_ n2_; clear ho hb hg hat))
        go_roundg k1
        case measure => have := HK1.out; omega
        case rel => exact ⟨(y295), (wrap64 (x9_1 + 1)), ap2, H', ⟨by have := HK1.out; omega⟩, ⟨by (with_reducible repeat (first | apply Kd.R_alloc | apply Kd.R_drewN | apply Kd.R_drew)); exact Kd.R_mono HO_6.out (fun _ hk => hk.2)⟩, ⟨by (with_reducible repeat (first | apply Kd.R_alloc | apply Kd.R_drewN | apply Kd.R_drew)); exact HO297.out⟩, ⟨by repeat (first | (with_reducible first | exact HB.out | apply below_alloc | apply pw_below_drewN | apply below_drew1) | exact HB.out)⟩⟩
       ·
        rw [if_neg c26] at H
        exact absurd H (by simp)
     ·
      rw [if_neg c9] at H
      exact absurd H (by simp)
    ·
     rw [if_neg c8] at H
     have c8b0 := decide_eq_false c8
     clear c8
     replace H := Option.bind_eq_some_iff.mp H
     obtain ⟨t298, A290, H⟩ := H
     replace H : (some (t298, 0)) = some (r1, r2) := H
     have A29 := Aside0.mk A290
     clear A290
     simp only [Option.some.injEq, Prod.mk.injEq] at H
     obtain ⟨rfl, rfl⟩ := H
     obtain ⟨Ao30, co30, eo30⟩ := Kd.R_slice HO_6.out
     subst eo30
     obtain ⟨Ao31, co31, eo31⟩ := Kd.R_slice HO_8.out
     subst eo31
     go_wp2_with (first | ((with_reducible refine gate_callee (f := 41) rfl ?_); refine goesL_ (some 59) rfl rfl Tryz.func41 (by kernel_rfl) rfl #[.slice Ao31 x8_1.length co31] rfl ap3 ?_; (with_reducible refine (R13Text.calls k1 _ _ x8_1 t298 _ ?side1 ?side2 A29.out).mono ?_); (case side1 => repeat (first | exact (Kd.R_reads' HO_8.out).2.2 | (with_reducible refine Kd.C_alloc ?_ _) | (with_reducible refine Kd.C_drewN ?_ _) | (with_reducible refine Kd.C_drew ?_))); (case side2 => exact (Kd.R_reads' HO_8.out).2.1); rintro e w32 ⟨rfl, hb⟩; refine ⟨_, rfl, ?_⟩; have n0_ := Aside0.mk (Kd.R_below (apAR HO_6.out) hb); have n1_ := Aside0.mk (Kd.R_below (apAR HO_8.out) hb); have n2_ := Aside0.mk (below_step ap1 hb); clear HO_6; clear HO_8; clear HB; have HO_6 := n0_; have HO_8 := n1_; have HB := n2_; clear n0_ n1_ n2_; (try clear hb); (try clear hb2); (try clear hk); (try clear hi)))
     go_ret2
     exact ⟨by first | rfl | (simp [errW_none, errW_some, bne_nil8, beq_nil8]; done) | (simp [errW_none, errW_some] <;> rfl) | (simp [*, errW_none, errW_some] <;> rfl), by repeat (first | (with_reducible first | exact HB.out | apply below_alloc | apply pw_below_drewN | apply below_drew1) | exact HB.out)⟩
 ·
  rw [if_neg c4] at H
  have c4b0 : (t282 == 0) = false := beq_eq_false_iff_ne.mpr c4
  have c4b1 : (t282 != 0) = true := bne_iff_ne.mpr c4
  simp only [Option.some.injEq, Prod.mk.injEq] at H
  obtain ⟨rfl, rfl⟩ := H
  go_enter Tryz.func23, Tryz.ntmps23
  go_wp2_with (first | ((with_reducible refine gate_callee (f := 40) rfl ?_); refine goesL_ (some 13) rfl rfl Tryz.func40 (by kernel_rfl) rfl #[.string a0, .bool a1] rfl ap3 ?_; (with_reducible refine (R13Mapped.calls k a0 a1 t281 t282 _ A3.out).mono ?_); rintro e w33 ⟨v283, rfl, ho0, hb⟩; refine ⟨_, rfl, ?_⟩; have n0_ := Aside0.mk (Kd.R_lower ho0 (below_size ap1)); have n1_ := Aside0.mk (below_step ap1 hb); clear HB; have HO284 := n0_; have HB := n1_; clear n0_ n1_; (try clear hb); (try clear hb2); (try clear hk); (try clear hi); (try clear ho0)))
  go_ret2
  exact ⟨by first | rfl | (simp [errW_none, errW_some, bne_nil8, beq_nil8]; done) | (simp [errW_none, errW_some] <;> rfl) | (simp [*, errW_none, errW_some] <;> rfl), by repeat (first | (with_reducible first | exact HB.out | apply below_alloc | apply pw_below_drewN | apply below_drew1) | exact HB.out)⟩
end Go.Proofs.YtkklacijhmoopaaGreatDoor.Print
namespace Go.Proofs.YtkklacijhmoopaaGreatDoor.Print
open Go.RowKit Go.Proofs.YtkklacijhmoopaaGreatDoorW.PrintWords Go.Proofs.YtkklacijhmoopaaGreatDoorW.PrintLast Go.Proofs.YtkklacijhmoopaaGreatDoorW.PrintMore Go.Proofs.YtkklacijhmoopaaGreatDoor.Pure
set_option linter.unusedVariables false
set_option linter.unusedSimpArgs false
theorem sdT {p : Prop} [Decidable p] (h : p) : some true = some (decide p) := congrArg some (decide_eq_true h).symm
theorem sdF {p : Prop} [Decidable p] (h : ¬ p) : some false = some (decide p) := congrArg some (decide_eq_false h).symm
theorem sdB {p : Prop} [Decidable p] {a b : Int} (h : a = b ↔ p) : some (a == b) = some (decide p) := by
  congr 1; rw [Bool.eq_iff_iff, beq_iff_eq, decide_eq_true_iff]; exact h
theorem u8s (n : Nat) (h : n < 256) : n.toUInt8.toNat = n := by
  have e : n.toUInt8.toNat = n % 2 ^ 8 := UInt8.toNat_ofNat'
  rw [e]; exact Nat.mod_eq_of_lt h
set_option maxHeartbeats 4000000 in
theorem rdropped_is (r : Int) : R13Dropped.f r = some (dropB r) := by
  unfold R13Dropped.f dropB
  by_cases h9 : r < 9
  · simp (disch := omega) only [if_pos, if_neg]; first | exact sdT (by omega) | exact sdF (by omega) | exact sdB (by omega)
  by_cases h14 : r < 14
  · simp (disch := omega) only [if_pos, if_neg]; first | exact sdT (by omega) | exact sdF (by omega) | exact sdB (by omega)
  by_cases h32 : r < 32
  · simp (disch := omega) only [if_pos, if_neg]; first | exact sdT (by omega) | exact sdF (by omega) | exact sdB (by omega)
  by_cases h127 : r < 127
  · simp (disch := omega) only [if_pos, if_neg]; first | exact sdT (by omega) | exact sdF (by omega) | exact sdB (by omega)
  by_cases h133 : r < 133
  · simp (disch := omega) only [if_pos, if_neg]; first | exact sdT (by omega) | exact sdF (by omega) | exact sdB (by omega)
  by_cases h134 : r < 134
  · simp (disch := omega) only [if_pos, if_neg]; first | exact sdT (by omega) | exact sdF (by omega) | exact sdB (by omega)
  by_cases h160 : r < 160
  · simp (disch := omega) only [if_pos, if_neg]; first | exact sdT (by omega) | exact sdF (by omega) | exact sdB (by omega)
  by_cases h173 : r < 173
  · simp (disch := omega) only [if_pos, if_neg]; first | exact sdT (by omega) | exact sdF (by omega) | exact sdB (by omega)
  by_cases h174 : r < 174
  · simp (disch := omega) only [if_pos, if_neg]; first | exact sdT (by omega) | exact sdF (by omega) | exact sdB (by omega)
  by_cases h8203 : r < 8203
  · simp (disch := omega) only [if_pos, if_neg]; first | exact sdT (by omega) | exact sdF (by omega) | exact sdB (by omega)
  by_cases h8208 : r < 8208
  · simp (disch := omega) only [if_pos, if_neg]; first | exact sdT (by omega) | exact sdF (by omega) | exact sdB (by omega)
  by_cases h65279 : r < 65279
  · simp (disch := omega) only [if_pos, if_neg]; first | exact sdT (by omega) | exact sdF (by omega) | exact sdB (by omega)
  by_cases h65280 : r < 65280
  · simp (disch := omega) only [if_pos, if_neg]; first | exact sdT (by omega) | exact sdF (by omega) | exact sdB (by omega)
  simp (disch := omega) only [if_pos, if_neg]; first | exact sdT (by omega) | exact sdF (by omega) | exact sdB (by omega)
set_option maxHeartbeats 4000000 in
theorem rblank_is (r : Int) : R13Blank.f r = some (blankB r) := by
  unfold R13Blank.f blankB
  by_cases h9 : r < 9
  · simp (disch := omega) only [if_pos, if_neg]; first | exact sdT (by omega) | exact sdF (by omega) | exact sdB (by omega)
  by_cases h14 : r < 14
  · simp (disch := omega) only [if_pos, if_neg]; first | exact sdT (by omega) | exact sdF (by omega) | exact sdB (by omega)
  by_cases h32 : r < 32
  · simp (disch := omega) only [if_pos, if_neg]; first | exact sdT (by omega) | exact sdF (by omega) | exact sdB (by omega)
  by_cases h33 : r < 33
  · simp (disch := omega) only [if_pos, if_neg]; first | exact sdT (by omega) | exact sdF (by omega) | exact sdB (by omega)
  by_cases h133 : r < 133
  · simp (disch := omega) only [if_pos, if_neg]; first | exact sdT (by omega) | exact sdF (by omega) | exact sdB (by omega)
  by_cases h134 : r < 134
  · simp (disch := omega) only [if_pos, if_neg]; first | exact sdT (by omega) | exact sdF (by omega) | exact sdB (by omega)
  by_cases h160 : r < 160
  · simp (disch := omega) only [if_pos, if_neg]; first | exact sdT (by omega) | exact sdF (by omega) | exact sdB (by omega)
  by_cases h161 : r < 161
  · simp (disch := omega) only [if_pos, if_neg]; first | exact sdT (by omega) | exact sdF (by omega) | exact sdB (by omega)
  by_cases h5760 : r < 5760
  · simp (disch := omega) only [if_pos, if_neg]; first | exact sdT (by omega) | exact sdF (by omega) | exact sdB (by omega)
  by_cases h5761 : r < 5761
  · simp (disch := omega) only [if_pos, if_neg]; first | exact sdT (by omega) | exact sdF (by omega) | exact sdB (by omega)
  by_cases h8192 : r < 8192
  · simp (disch := omega) only [if_pos, if_neg]; first | exact sdT (by omega) | exact sdF (by omega) | exact sdB (by omega)
  by_cases h8203 : r < 8203
  · simp (disch := omega) only [if_pos, if_neg]; first | exact sdT (by omega) | exact sdF (by omega) | exact sdB (by omega)
  by_cases h8232 : r < 8232
  · simp (disch := omega) only [if_pos, if_neg]; first | exact sdT (by omega) | exact sdF (by omega) | exact sdB (by omega)
  by_cases h8233 : r < 8233
  · simp (disch := omega) only [if_pos, if_neg]; first | exact sdT (by omega) | exact sdF (by omega) | exact sdB (by omega)
  by_cases h8234 : r < 8234
  · simp (disch := omega) only [if_pos, if_neg]; first | exact sdT (by omega) | exact sdF (by omega) | exact sdB (by omega)
  by_cases h8239 : r < 8239
  · simp (disch := omega) only [if_pos, if_neg]; first | exact sdT (by omega) | exact sdF (by omega) | exact sdB (by omega)
  by_cases h8240 : r < 8240
  · simp (disch := omega) only [if_pos, if_neg]; first | exact sdT (by omega) | exact sdF (by omega) | exact sdB (by omega)
  by_cases h8287 : r < 8287
  · simp (disch := omega) only [if_pos, if_neg]; first | exact sdT (by omega) | exact sdF (by omega) | exact sdB (by omega)
  by_cases h8288 : r < 8288
  · simp (disch := omega) only [if_pos, if_neg]; first | exact sdT (by omega) | exact sdF (by omega) | exact sdB (by omega)
  by_cases h12288 : r < 12288
  · simp (disch := omega) only [if_pos, if_neg]; first | exact sdT (by omega) | exact sdF (by omega) | exact sdB (by omega)
  by_cases h12289 : r < 12289
  · simp (disch := omega) only [if_pos, if_neg]; first | exact sdT (by omega) | exact sdF (by omega) | exact sdB (by omega)
  simp (disch := omega) only [if_pos, if_neg]; first | exact sdT (by omega) | exact sdF (by omega) | exact sdB (by omega)
set_option maxHeartbeats 4000000 in
theorem rsmall_is (k : Nat) (r : Int) (h0 : 0 ≤ r) (h1 : r ≤ 1114111) : R13Small.f (k + 1) r = some (smallI r) := by
  have w1 : wrap32 (r + 32) = r + 32 := by unfold wrap32; omega
  have w2 : wrap32 (r + 80) = r + 80 := by unfold wrap32; omega
  unfold R13Small.f smallI
  simp only [R13Small.j0, w1, w2, decide_eq_true_eq, if_true, Bool.false_eq_true, if_false]
  by_cases h65 : r < 65
  · simp (disch := omega) only [if_pos, if_neg]
  by_cases h91 : r < 91
  · simp (disch := omega) only [if_pos, if_neg]
  by_cases h192 : r < 192
  · simp (disch := omega) only [if_pos, if_neg]
  by_cases h215 : r < 215
  · simp (disch := omega) only [if_pos, if_neg]
  by_cases h216 : r < 216
  · simp (disch := omega) only [if_pos, if_neg]
  by_cases h223 : r < 223
  · simp (disch := omega) only [if_pos, if_neg]
  by_cases h913 : r < 913
  · simp (disch := omega) only [if_pos, if_neg]
  by_cases h930 : r < 930
  · simp (disch := omega) only [if_pos, if_neg]
  by_cases h931 : r < 931
  · simp (disch := omega) only [if_pos, if_neg]
  by_cases h938 : r < 938
  · simp (disch := omega) only [if_pos, if_neg]
  by_cases h1024 : r < 1024
  · simp (disch := omega) only [if_pos, if_neg]
  by_cases h1040 : r < 1040
  · simp (disch := omega) only [if_pos, if_neg]
  by_cases h1072 : r < 1072
  · simp (disch := omega) only [if_pos, if_neg]
  simp (disch := omega) only [if_pos, if_neg]
theorem rsmall_ev (r : Int) (h0 : 0 ≤ r) (h1 : r ≤ 1114111) : Ev (fun k => R13Small.f k r) (smallI r) := Ev.step (fun k => by rw [rsmall_is k r h0 h1]) Ev.rfl'
def okRune (r : Int) : Prop := 0 ≤ r ∧ r ≤ 1114111 ∧ ¬ (55296 ≤ r ∧ r ≤ 57343)
theorem bytes_is (r : Int) (h : okRune r) : R13Bytes.f r = some (ints (Lib.encodeRune r)) := by
  obtain ⟨h0, h1, h2⟩ := h
  have w0 : wrap64 r = r := by unfold wrap64; omega
  have d1 : Int.tdiv r 64 = r / 64 := Int.tdiv_eq_ediv_of_nonneg h0
  have d2 : Int.tdiv r 4096 = r / 4096 := Int.tdiv_eq_ediv_of_nonneg h0
  have d3 : Int.tdiv r 262144 = r / 262144 := Int.tdiv_eq_ediv_of_nonneg h0
  have w1 : wrap64 (r / 64) = r / 64 := by unfold wrap64; omega
  have w2 : wrap64 (r / 4096) = r / 4096 := by unfold wrap64; omega
  have w3 : wrap64 (r / 262144) = r / 262144 := by unfold wrap64; omega
  have m1 : Int.tmod r 64 = r % 64 := Int.tmod_eq_emod_of_nonneg h0
  have m2 : Int.tmod (r / 64) 64 = r / 64 % 64 := Int.tmod_eq_emod_of_nonneg (by omega)
  have m3 : Int.tmod (r / 4096) 64 = r / 4096 % 64 := Int.tmod_eq_emod_of_nonneg (by omega)
  have e : ∀ z : List Int, (∀ x ∈ z, 0 ≤ x ∧ x < 256) → ints (z.map fun x => x.toNat.toUInt8) = z := by
    intro z hz
    unfold ints
    rw [List.map_map]
    conv => rhs; rw [← List.map_id z]
    refine List.map_congr_left fun x hx => ?_
    have := hz x hx
    show ((x.toNat.toUInt8.toNat : Nat) : Int) = x
    rw [u8s _ (by omega)]; omega
  unfold R13Bytes.f Lib.encodeRune
  rw [w0, d1, d2, d3, w1, w2, w3, m1, m2, m3]
  by_cases a1 : r < 128
  · rw [if_pos a1, Lib.encodeRuneZ_one h0 (by omega), e _ (by simp; omega)]
    rw [show r % 256 = r by omega]
  by_cases a2 : r < 2048
  · rw [if_neg a1, if_pos a2, Lib.encodeRuneZ_two (by omega) (by omega), e _ (by simp; omega)]
    rw [show wrap64 (192 + r / 64) % 256 = 192 + r / 64 by unfold wrap64; omega, show wrap64 (128 + r % 64) % 256 = 128 + r % 64 by unfold wrap64; omega]
  by_cases a3 : r < 65536
  · rw [if_neg a1, if_neg a2, if_pos a3, Lib.encodeRuneZ_three (by omega), e _ (by simp; omega)]
    rw [show wrap64 (224 + r / 4096) % 256 = 224 + r / 4096 by unfold wrap64; omega, show wrap64 (128 + r / 64 % 64) % 256 = 128 + r / 64 % 64 by unfold wrap64; omega, show wrap64 (128 + r % 64) % 256 = 128 + r % 64 by unfold wrap64; omega]
  · rw [if_neg a1, if_neg a2, if_neg a3, Lib.encodeRuneZ_four (by omega) (by omega), e _ (by simp; omega)]
    rw [show wrap64 (240 + r / 262144) % 256 = 240 + r / 262144 by unfold wrap64; omega, show wrap64 (128 + r / 4096 % 64) % 256 = 128 + r / 4096 % 64 by unfold wrap64; omega, show wrap64 (128 + r / 64 % 64) % 256 = 128 + r / 64 % 64 by unfold wrap64; omega, show wrap64 (128 + r % 64) % 256 = 128 + r % 64 by unfold wrap64; omega]
theorem bt_get! (s : ByteArray) (p : Nat) (h : p < s.size) : bt s (p : Int) = ((s.get! p).toNat : Int) := by
  have e : s.get! p = s[p] := by simp [ByteArray.get!, h]; rfl
  unfold bt
  rw [dif_pos (by simpa using h), e]; rfl
def oneR (x : Nat × Nat) : Int × Int := if x.1 = 65533 ∧ x.2 = 1 then (0, 0) else ((x.1 : Int), (x.2 : Int))
theorem one_end (s : ByteArray) (p n : Nat) (v low : Int) : Ev (fun k => R13One.l0 k s (p : Int) (n : Int) v low (n : Int)) (if v < low then (0, 0) else (if v > 1114111 then (0, 0) else (if v ≥ 55296 then (if v ≤ 57343 then (0, 0) else (v, (n : Int))) else (v, (n : Int))))) := by
  refine Ev.step (fun k => by rw [R13One.l0]) (Ev.neg (by omega) ?_)
  by_cases h1 : v < low
  · simp only [if_pos h1]; exact Ev.rfl'
  by_cases h2 : v > 1114111
  · simp only [if_neg h1, if_pos h2]; exact Ev.rfl'
  by_cases h3 : v ≥ 55296
  · by_cases h4 : v ≤ 57343
    · simp only [if_neg h1, if_neg h2, if_pos h3, if_pos h4]; exact Ev.rfl'
    · simp only [if_neg h1, if_neg h2, if_pos h3, if_neg h4]; exact Ev.rfl'
  · simp only [if_neg h1, if_neg h2, if_neg h3]; exact Ev.rfl'
theorem dec2 (n b0 b1 b2 b3 : Nat) (h0 : 194 ≤ b0 ∧ b0 < 224) (hn : 1 < n) (h1 : 128 ≤ b1 ∧ b1 ≤ 191) : Lib.decodeN n b0 b1 b2 b3 = ((b0 - 192) * 64 + b1 - 128, 2) := by
  unfold Lib.decodeN
  repeat' split
  all_goals first | (exfalso; omega) | with_reducible rfl | (apply Prod.ext <;> simp only <;> omega)
theorem dec2b (n b0 b1 b2 b3 : Nat) (h0 : 194 ≤ b0 ∧ b0 < 224) (h1 : n ≤ 1 ∨ b1 < 128 ∨ 191 < b1) (hb1 : b1 < 256) : Lib.decodeN n b0 b1 b2 b3 = (65533, 1) := by
  unfold Lib.decodeN
  repeat' split
  all_goals first | (exfalso; omega) | with_reducible rfl
theorem dec3 (n b0 b1 b2 b3 : Nat) (h0 : 224 ≤ b0 ∧ b0 < 240) (hn : 2 < n) (h1 : 128 ≤ b1 ∧ b1 ≤ 191) (h2 : 128 ≤ b2 ∧ b2 ≤ 191) :
    Lib.decodeN n b0 b1 b2 b3 = if ((b0 - 224) * 64 + b1 - 128) * 64 + b2 - 128 < 2048 ∨ (55296 ≤ ((b0 - 224) * 64 + b1 - 128) * 64 + b2 - 128 ∧ ((b0 - 224) * 64 + b1 - 128) * 64 + b2 - 128 ≤ 57343) then (65533, 1) else (((b0 - 224) * 64 + b1 - 128) * 64 + b2 - 128, 3) := by
  unfold Lib.decodeN
  repeat' split
  all_goals first | (exfalso; omega) | with_reducible rfl | (apply Prod.ext <;> simp only <;> omega)
theorem dec3b (n b0 b1 b2 b3 : Nat) (h0 : 224 ≤ b0 ∧ b0 < 240) (h1 : n ≤ 2 ∨ b1 < 128 ∨ 191 < b1 ∨ b2 < 128 ∨ 191 < b2) (hb1 : b1 < 256) (hb2 : b2 < 256) : Lib.decodeN n b0 b1 b2 b3 = (65533, 1) := by
  unfold Lib.decodeN
  repeat' split
  all_goals first | (exfalso; omega) | with_reducible rfl
theorem dec4 (n b0 b1 b2 b3 : Nat) (h0 : 240 ≤ b0 ∧ b0 < 245) (hn : 3 < n) (h1 : 128 ≤ b1 ∧ b1 ≤ 191) (h2 : 128 ≤ b2 ∧ b2 ≤ 191) (h3 : 128 ≤ b3 ∧ b3 ≤ 191) :
    Lib.decodeN n b0 b1 b2 b3 = if (((b0 - 240) * 64 + b1 - 128) * 64 + b2 - 128) * 64 + b3 - 128 < 65536 ∨ 1114111 < (((b0 - 240) * 64 + b1 - 128) * 64 + b2 - 128) * 64 + b3 - 128 then (65533, 1) else ((((b0 - 240) * 64 + b1 - 128) * 64 + b2 - 128) * 64 + b3 - 128, 4) := by
  unfold Lib.decodeN
  repeat' split
  all_goals first | (exfalso; omega) | with_reducible rfl | (apply Prod.ext <;> simp only <;> omega)
theorem dec4b (n b0 b1 b2 b3 : Nat) (h0 : 240 ≤ b0 ∧ b0 < 245) (h1 : n ≤ 3 ∨ b1 < 128 ∨ 191 < b1 ∨ b2 < 128 ∨ 191 < b2 ∨ b3 < 128 ∨ 191 < b3) (hb1 : b1 < 256) (hb2 : b2 < 256) (hb3 : b3 < 256) : Lib.decodeN n b0 b1 b2 b3 = (65533, 1) := by
  unfold Lib.decodeN
  repeat' split
  all_goals first | (exfalso; omega) | with_reducible rfl
theorem dec0 (n b0 b1 b2 b3 : Nat) (hb0 : b0 < 256) (hb1 : b1 < 256) (h0 : 128 ≤ b0 ∧ b0 < 194 ∨ 245 ≤ b0) : Lib.decodeN n b0 b1 b2 b3 = (65533, 1) := by
  unfold Lib.decodeN
  repeat' split
  all_goals first | (exfalso; omega) | with_reducible rfl
theorem one_step (s : ByteArray) (hs : s.size ≤ 1000000) (p n j : Nat) (v low : Int) (hj : j < n) (hn : n ≤ 4) (hp : p + n ≤ s.size) (hv : 0 ≤ v) (hv2 : v ≤ 100000000) {o : Int × Int}
    (hbad : ((s.get! (p + j)).toNat < 128 ∨ 191 < (s.get! (p + j)).toNat) → o = (0, 0))
    (h : (128 ≤ (s.get! (p + j)).toNat ∧ (s.get! (p + j)).toNat ≤ 191) → Ev (fun k => R13One.l0 k s (p : Int) (n : Int) (v * 64 + (s.get! (p + j)).toNat - 128) low ((j + 1 : Nat) : Int)) o) :
    Ev (fun k => R13One.l0 k s (p : Int) (n : Int) v low (j : Int)) o := by
  have hlt := (s.get! (p + j)).toNat_lt
  refine Ev.step (fun k => by rw [R13One.l0]) ?_
  rw [show wrap64 ((p : Int) + (j : Int)) = ((p + j : Nat) : Int) by unfold wrap64; omega, bt_get! s (p + j) (by omega)]
  rw [show wrap64 ((s.get! (p + j)).toNat : Int) = ((s.get! (p + j)).toNat : Int) by unfold wrap64; omega]
  rw [show wrap64 (v * 64) = v * 64 by unfold wrap64; omega]
  rw [show wrap64 (v * 64 + ((s.get! (p + j)).toNat : Int)) = v * 64 + ((s.get! (p + j)).toNat : Int) by unfold wrap64; omega]
  rw [show wrap64 (v * 64 + ((s.get! (p + j)).toNat : Int) - 128) = v * 64 + ((s.get! (p + j)).toNat : Int) - 128 by unfold wrap64; omega]
  rw [show wrap64 ((j : Int) + 1) = ((j + 1 : Nat) : Int) by unfold wrap64; omega]
  refine Ev.pos (by omega) (Ev.pos (by omega) (Ev.pos (by omega) ?_))
  by_cases h1 : (s.get! (p + j)).toNat < 128
  · rw [hbad (.inl h1)]; exact Ev.pos (by omega) Ev.rfl'
  by_cases h2 : 191 < (s.get! (p + j)).toNat
  · rw [hbad (.inr h2)]; exact Ev.neg (by omega) (Ev.pos (by omega) Ev.rfl')
  · exact Ev.neg (by omega) (Ev.neg (by omega) (h ⟨by omega, by omega⟩))
theorem one_j5 (s : ByteArray) (hs : s.size ≤ 1000000) (p n : Nat) (v low : Int) (hp : p < s.size) (hn : n ≤ 4) {o : Int × Int}
    (hz : (n = 0 ∨ s.size < p + n) → o = (0, 0)) (h : n ≠ 0 → p + n ≤ s.size → Ev (fun k => R13One.l0 k s (p : Int) (n : Int) v low ((1 : Nat) : Int)) o) :
    Ev (fun k => R13One.j5 k s (p : Int) (n : Int) v low) o := by
  refine Ev.step (fun k => by rw [R13One.j5]) ?_
  have ht : Ev (fun k => R13One.j6 k s (p : Int) (n : Int) v low true) (0, 0) := Ev.step (fun k => by rw [R13One.j6]) (Ev.pos rfl Ev.rfl')
  by_cases h0 : n = 0
  · rw [hz (.inl h0)]; exact Ev.pos (by omega) ht
  · refine Ev.neg (by omega) ?_
    rw [show wrap64 ((p : Int) + (n : Int)) = ((p + n : Nat) : Int) by unfold wrap64; omega]
    by_cases h1 : s.size < p + n
    · rw [hz (.inr h1), decide_eq_true (by omega)]; exact ht
    · rw [decide_eq_false (by omega)]
      refine Ev.step (fun k => by rw [R13One.j6]) ?_
      refine Ev.neg (by simp) ?_
      exact h h0 (by omega)
theorem one_ev (s : ByteArray) (hs : s.size ≤ 1000000) (p : Nat) (hp : p < s.size) : Ev (fun k => R13One.f k s (p : Int)) (oneR (Utf8.decode s p)) := by
  rw [Lib.decode_at]
  have l0 := (s.get! p).toNat_lt
  have l1 := (s.get! (p + 1)).toNat_lt
  have l2 := (s.get! (p + 2)).toNat_lt
  have l3 := (s.get! (p + 3)).toNat_lt
  have hb0 := bt_get! s p hp
  have w0 : wrap64 ((s.get! p).toNat : Int) = ((s.get! p).toNat : Int) := by unfold wrap64; omega
  unfold R13One.f
  rw [hb0, w0]
  refine Ev.pos (by omega) (Ev.pos (by omega) ?_)
  have hend : ∀ {v low : Int} {n : Nat} {o : Int × Int}, o = (if v < low then (0, 0) else (if v > 1114111 then (0, 0) else (if v ≥ 55296 then (if v ≤ 57343 then (0, 0) else (v, (n : Int))) else (v, (n : Int))))) → Ev (fun k => R13One.l0 k s (p : Int) (n : Int) v low (n : Int)) o := by
    intro v low n o h; rw [h]; exact one_end s p n v low
  generalize (s.get! p).toNat = b0 at *
  by_cases c1 : b0 < 128
  · refine Ev.pos (by omega) ?_
    have e : oneR (Lib.decodeN (s.size - p) b0 (s.get! (p + 1)).toNat (s.get! (p + 2)).toNat (s.get! (p + 3)).toNat) = ((b0 : Int), 1) := by
      unfold Lib.decodeN oneR
      rw [if_pos c1, if_neg (by dsimp only; omega)]; rfl
    rw [e]; exact Ev.rfl'
  refine Ev.neg (by omega) ?_
  have hto : ∀ (n : Nat) (v low : Int) {o : Int × Int}, (194 ≤ b0 ∧ b0 < 224 ∧ n = 2 ∧ v = (b0 : Int) - 192 ∧ low = 128) ∨ (224 ≤ b0 ∧ b0 < 240 ∧ n = 3 ∧ v = (b0 : Int) - 224 ∧ low = 2048) ∨ (240 ≤ b0 ∧ b0 < 245 ∧ n = 4 ∧ v = (b0 : Int) - 240 ∧ low = 65536) ∨ ((b0 < 194 ∨ 245 ≤ b0) ∧ n = 0 ∧ v = 0 ∧ low = 0) →
      Ev (fun k => R13One.j5 k s (p : Int) (n : Int) v low) o →
      Ev (fun k => if (b0 : Int) ≥ 194 then (R13One.j0 k s (p : Int) (b0 : Int) 0 0 0 (decide ((b0 : Int) < 224))) else (R13One.j0 k s (p : Int) (b0 : Int) 0 0 0 false)) o := by
    intro n v low o hc h
    have h4 : ∀ {x7 x8 x9 : Int}, (b0 < 245 ∧ 240 ≤ b0 → x7 = x7) → Ev (fun k => R13One.j5 k s (p : Int) (if 240 ≤ b0 ∧ b0 < 245 then 4 else x7) (if 240 ≤ b0 ∧ b0 < 245 then (b0 : Int) - 240 else x8) (if 240 ≤ b0 ∧ b0 < 245 then 65536 else x9)) o → Ev (fun k => R13One.j3 k s (p : Int) (b0 : Int) x7 x8 x9) o := by
      intro x7 x8 x9 _ h
      refine Ev.step (fun k => by rw [R13One.j3]) ?_
      by_cases q : 240 ≤ b0 ∧ b0 < 245
      · simp only [if_pos q] at h
        refine Ev.pos (by omega) ?_
        rw [decide_eq_true (by omega)]
        refine Ev.step (fun k => by rw [R13One.j4]) (Ev.pos rfl ?_)
        rw [show wrap64 ((b0 : Int) - 240) = (b0 : Int) - 240 by unfold wrap64; omega]; exact h
      · simp only [if_neg q] at h
        by_cases q2 : 240 ≤ b0
        · refine Ev.pos (by omega) ?_
          rw [decide_eq_false (by omega)]
          exact Ev.step (fun k => by rw [R13One.j4]) (Ev.neg (by simp) h)
        · refine Ev.neg (by omega) ?_
          exact Ev.step (fun k => by rw [R13One.j4]) (Ev.neg (by simp) h)
    have h3 : ∀ {x7 x8 x9 : Int}, Ev (fun k => R13One.j3 k s (p : Int) (b0 : Int) (if 224 ≤ b0 ∧ b0 < 240 then 3 else x7) (if 224 ≤ b0 ∧ b0 < 240 then (b0 : Int) - 224 else x8) (if 224 ≤ b0 ∧ b0 < 240 then 2048 else x9)) o → Ev (fun k => R13One.j1 k s (p : Int) (b0 : Int) x7 x8 x9) o := by
      intro x7 x8 x9 h
      refine Ev.step (fun k => by rw [R13One.j1]) ?_
      by_cases q : 224 ≤ b0 ∧ b0 < 240
      · simp only [if_pos q] at h
        refine Ev.pos (by omega) ?_
        rw [decide_eq_true (by omega)]
        refine Ev.step (fun k => by rw [R13One.j2]) (Ev.pos rfl ?_)
        rw [show wrap64 ((b0 : Int) - 224) = (b0 : Int) - 224 by unfold wrap64; omega]; exact h
      · simp only [if_neg q] at h
        by_cases q2 : 224 ≤ b0
        · refine Ev.pos (by omega) ?_
          rw [decide_eq_false (by omega)]
          exact Ev.step (fun k => by rw [R13One.j2]) (Ev.neg (by simp) h)
        · refine Ev.neg (by omega) ?_
          exact Ev.step (fun k => by rw [R13One.j2]) (Ev.neg (by simp) h)
    by_cases q : 194 ≤ b0 ∧ b0 < 224
    · refine Ev.pos (by omega) ?_
      rw [decide_eq_true (by omega)]
      refine Ev.step (fun k => by rw [R13One.j0]) (Ev.pos rfl ?_)
      rw [show wrap64 ((b0 : Int) - 192) = (b0 : Int) - 192 by unfold wrap64; omega]
      refine h3 (h4 (fun _ => rfl) ?_)
      simp (disch := omega) only [if_neg]
      obtain ⟨rfl, rfl, rfl⟩ : n = 2 ∧ v = (b0 : Int) - 192 ∧ low = 128 := by omega
      exact h
    · have hj : Ev (fun k => R13One.j1 k s (p : Int) (b0 : Int) 0 0 0) o → Ev (fun k => if (b0 : Int) ≥ 194 then (R13One.j0 k s (p : Int) (b0 : Int) 0 0 0 (decide ((b0 : Int) < 224))) else (R13One.j0 k s (p : Int) (b0 : Int) 0 0 0 false)) o := by
        intro h
        by_cases q2 : 194 ≤ b0
        · refine Ev.pos (by omega) ?_
          rw [decide_eq_false (by omega)]
          exact Ev.step (fun k => by rw [R13One.j0]) (Ev.neg (by simp) h)
        · exact Ev.neg (by omega) (Ev.step (fun k => by rw [R13One.j0]) (Ev.neg (by simp) h))
      refine hj (h3 (h4 (fun _ => rfl) ?_))
      by_cases q3 : 224 ≤ b0 ∧ b0 < 240
      · simp (disch := omega) only [if_pos, if_neg]
        obtain ⟨rfl, rfl, rfl⟩ : n = 3 ∧ v = (b0 : Int) - 224 ∧ low = 2048 := by omega
        exact h
      · by_cases q4 : 240 ≤ b0 ∧ b0 < 245
        · simp (disch := omega) only [if_pos, if_neg]
          obtain ⟨rfl, rfl, rfl⟩ : n = 4 ∧ v = (b0 : Int) - 240 ∧ low = 65536 := by omega
          exact h
        · simp (disch := omega) only [if_pos, if_neg]
          obtain ⟨rfl, rfl, rfl⟩ : n = 0 ∧ v = 0 ∧ low = 0 := by omega
          exact h
  by_cases c2 : 194 ≤ b0 ∧ b0 < 224
  · refine hto 2 _ 128 (.inl ⟨by omega, by omega, rfl, rfl, rfl⟩) (one_j5 s hs p 2 _ _ hp (by omega) ?_ fun _ hsz => ?_)
    · intro h
      rw [dec2b _ _ _ _ _ c2 (.inl (by omega)) l1]; rfl
    · refine one_step s hs p 2 1 _ _ (by omega) (by omega) hsz (by omega) (by omega) ?_ fun hd => hend ?_
      · intro h
        rw [dec2b _ _ _ _ _ c2 (.inr h) l1]; rfl
      · rw [dec2 _ _ _ _ _ c2 (by omega) hd]
        unfold oneR
        dsimp only
        rw [if_neg (by omega), if_neg (by omega), if_neg (by omega), if_neg (by omega)]
        apply Prod.ext <;> dsimp only <;> omega
  by_cases c3 : 224 ≤ b0 ∧ b0 < 240
  · refine hto 3 _ 2048 (.inr (.inl ⟨by omega, by omega, rfl, rfl, rfl⟩)) (one_j5 s hs p 3 _ _ hp (by omega) ?_ fun _ hsz => ?_)
    · intro h
      rw [dec3b _ _ _ _ _ c3 (.inl (by omega)) l1 l2]; rfl
    · refine one_step s hs p 3 1 _ _ (by omega) (by omega) hsz (by omega) (by omega) ?_ fun hd => ?_
      · intro h
        rw [dec3b _ _ _ _ _ c3 (by omega) l1 l2]; rfl
      refine one_step s hs p 3 2 _ _ (by omega) (by omega) hsz (by omega) (by omega) ?_ fun hd2 => hend ?_
      · intro h
        rw [dec3b _ _ _ _ _ c3 (by omega) l1 l2]; rfl
      · rw [dec3 _ _ _ _ _ c3 (by omega) hd hd2]
        unfold oneR
        split
        · simp only [and_self, if_true]
          repeat' split
          all_goals first | (exfalso; omega) | with_reducible rfl
        · dsimp only
          repeat' split
          all_goals first | (exfalso; omega) | with_reducible rfl | (apply Prod.ext <;> dsimp only <;> omega)
  by_cases c4 : 240 ≤ b0 ∧ b0 < 245
  · refine hto 4 _ 65536 (.inr (.inr (.inl ⟨by omega, by omega, rfl, rfl, rfl⟩))) (one_j5 s hs p 4 _ _ hp (by omega) ?_ fun _ hsz => ?_)
    · intro h
      rw [dec4b _ _ _ _ _ c4 (.inl (by omega)) l1 l2 l3]; rfl
    · refine one_step s hs p 4 1 _ _ (by omega) (by omega) hsz (by omega) (by omega) ?_ fun hd => ?_
      · intro h
        rw [dec4b _ _ _ _ _ c4 (by omega) l1 l2 l3]; rfl
      refine one_step s hs p 4 2 _ _ (by omega) (by omega) hsz (by omega) (by omega) ?_ fun hd2 => ?_
      · intro h
        rw [dec4b _ _ _ _ _ c4 (by omega) l1 l2 l3]; rfl
      refine one_step s hs p 4 3 _ _ (by omega) (by omega) hsz (by omega) (by omega) ?_ fun hd3 => hend ?_
      · intro h
        rw [dec4b _ _ _ _ _ c4 (by omega) l1 l2 l3]; rfl
      · rw [dec4 _ _ _ _ _ c4 (by omega) hd hd2 hd3]
        unfold oneR
        split
        · simp only [and_self, if_true]
          repeat' split
          all_goals first | (exfalso; omega) | with_reducible rfl
        · dsimp only
          repeat' split
          all_goals first | (exfalso; omega) | with_reducible rfl | (apply Prod.ext <;> dsimp only <;> omega)
  · refine hto 0 0 0 (.inr (.inr (.inr ⟨by omega, rfl, rfl, rfl⟩))) (one_j5 s hs p 0 _ _ hp (by omega) ?_ fun h _ => absurd rfl h)
    intro _
    rw [dec0 _ _ _ _ _ l0 l1 (by omega)]; rfl
def cutAt {α : Type} [DecidableEq α] (b : α) : List α → List (List α)
  | [] => [[]]
  | c :: r => if c = b then [] :: cutAt b r else match cutAt b r with
    | [] => [[c]]
    | w :: ws => (c :: w) :: ws
theorem cutAt_ne {α : Type} [DecidableEq α] (b : α) (l : List α) : cutAt b l ≠ [] := by
  cases l with
  | nil => simp [cutAt]
  | cons c r =>
    unfold cutAt
    split
    · simp
    · split <;> simp
theorem cutAt_cons {α : Type} [DecidableEq α] {b c : α} {l : List α} {w : List α} {ws : List (List α)} (hc : c ≠ b) (h : cutAt b l = w :: ws) : cutAt b (c :: l) = (c :: w) :: ws := by
  unfold cutAt; rw [if_neg hc, h]
theorem cutAt_blank {α : Type} [DecidableEq α] (b : α) (l : List α) : cutAt b (b :: l) = [] :: cutAt b l := by rw [cutAt, if_pos rfl]
theorem cutAt_app {α : Type} [DecidableEq α] {b : α} : ∀ (a l : List α), (∀ x ∈ a, x ≠ b) → ∀ {w : List α} {ws : List (List α)}, cutAt b l = w :: ws → cutAt b (a ++ l) = (a ++ w) :: ws
  | [], l, _, w, ws, h => h
  | x :: a, l, ha, w, ws, h => cutAt_cons (ha x (by simp)) (cutAt_app a l (fun y hy => ha y (by simp [hy])) h)
theorem cutAt_none {α : Type} [DecidableEq α] {b : α} (a : List α) (h : ∀ x ∈ a, x ≠ b) : cutAt b a = [a] := by
  have := cutAt_app a [] h (w := []) (ws := []) rfl
  simpa using this
def words {α : Type} [DecidableEq α] (b : α) (l : List α) : List (List α) := (cutAt b l).filter (fun w => !w.isEmpty)
def nb (r : List Int) : Bool := match r with
  | [] => false
  | y :: _ => y != 32
def sq : List Int → Bool → List Int
  | [], _ => []
  | x :: r, ne => if x ≠ 32 ∨ (ne = true ∧ nb r = true) then x :: sq r true else sq r ne
theorem inter_cons {α : Type} (s w : List α) : ∀ (ws : List (List α)), s.intercalate (w :: ws) = w ++ ws.flatMap (s ++ ·)
  | [] => by simp [List.intercalate]
  | v :: ws => by
    have ih := inter_cons s v ws
    have : s.intercalate (w :: v :: ws) = w ++ (s ++ s.intercalate (v :: ws)) := by simp [List.intercalate, List.intersperse]
    rw [this, ih]; simp
theorem sq_true : ∀ (l w : List Int) (ws : List (List Int)), cutAt 32 l = w :: ws → sq l true = w ++ (ws.filter (fun w => !w.isEmpty)).flatMap ([32] ++ ·)
  | [], w, ws, h => by
    simp only [cutAt, List.cons.injEq] at h
    obtain ⟨rfl, rfl⟩ := h; rfl
  | x :: r, w, ws, h => by
    by_cases hx : x = 32
    · subst hx
      have h' : cutAt (32 : Int) (32 :: r) = [] :: cutAt 32 r := cutAt_blank 32 r
      rw [h'] at h
      simp only [List.cons.injEq] at h
      obtain ⟨rfl, rfl⟩ := h
      cases r with
      | nil => rfl
      | cons y r2 =>
        obtain ⟨w2, ws2, h2⟩ := List.exists_cons_of_ne_nil (cutAt_ne (32 : Int) (y :: r2))
        have ih := sq_true (y :: r2) w2 ws2 h2
        rw [h2]
        by_cases hy : y = 32
        · subst hy
          have e : sq (32 :: 32 :: r2) true = sq (32 :: r2) true := by
            conv => lhs; rw [sq]
            rw [if_neg (by simp [nb])]
          have hw : w2 = [] := by
            have h'' : cutAt (32 : Int) (32 :: r2) = [] :: cutAt 32 r2 := cutAt_blank 32 r2
            rw [h''] at h2; simp at h2; exact h2.1
          subst hw
          rw [e, ih]; simp
        · have e : sq (32 :: y :: r2) true = 32 :: sq (y :: r2) true := by
            conv => lhs; rw [sq]
            rw [if_pos (by simp [hy, nb])]
          have hw : w2 ≠ [] := by
            obtain ⟨w3, ws3, h3⟩ := List.exists_cons_of_ne_nil (cutAt_ne (32 : Int) r2)
            rw [cutAt_cons hy h3] at h2; simp at h2; rw [← h2.1]; simp
          rw [e, ih]
          rw [List.filter_cons_of_pos (by simp [hw])]; simp
    · obtain ⟨w2, ws2, h2⟩ := List.exists_cons_of_ne_nil (cutAt_ne (32 : Int) r)
      rw [cutAt_cons hx h2] at h
      simp only [List.cons.injEq] at h
      obtain ⟨rfl, rfl⟩ := h
      have ih := sq_true r w2 ws2 h2
      have e : sq (x :: r) true = x :: sq r true := by
        conv => lhs; rw [sq]
        rw [if_pos (Or.inl hx)]
      rw [e, ih]; rfl
theorem sq_words : ∀ (l : List Int), sq l false = [32].intercalate (words 32 l)
  | [] => rfl
  | x :: r => by
    by_cases hx : x = 32
    · subst hx
      have h' : words (32 : Int) (32 :: r) = words 32 r := by unfold words; rw [cutAt_blank, List.filter_cons_of_neg (by simp)]
      have e : sq (32 :: r) false = sq r false := by
        conv => lhs; rw [sq]
        rw [if_neg (by simp)]
      rw [e, h', sq_words r]
    · obtain ⟨w2, ws2, h2⟩ := List.exists_cons_of_ne_nil (cutAt_ne (32 : Int) r)
      have e : sq (x :: r) false = x :: sq r true := by
        conv => lhs; rw [sq]
        rw [if_pos (Or.inl hx)]
      rw [e, sq_true r w2 ws2 h2]
      unfold words
      rw [cutAt_cons hx h2, List.filter_cons_of_pos (by simp), inter_cons]; rfl
theorem enc_blank : Lib.encodeRune 32 = [32] := by decide
theorem enc_other (r : Int) (h : r ≠ 32) : Lib.encodeRune r ≠ [] ∧ ∀ c ∈ Lib.encodeRune r, c ≠ 32 := by
  by_cases h1 : 0 ≤ r ∧ r ≤ 127
  · unfold Lib.encodeRune
    rw [Lib.encodeRuneZ_one h1.1 h1.2]
    refine ⟨by simp, ?_⟩
    intro c hc
    simp only [List.map_cons, List.map_nil, List.mem_singleton] at hc
    subst hc
    intro h2
    have := congrArg UInt8.toNat h2
    rw [u8s _ (by omega)] at this
    have h32 : (32 : UInt8).toNat = 32 := rfl
    omega
  · have hall : ∀ z : List Int, (∀ x ∈ z, 128 ≤ x ∧ x < 256) → ∀ c ∈ z.map (fun x => x.toNat.toUInt8), c ≠ 32 := by
      intro z hz c hc h2
      obtain ⟨x, hx, rfl⟩ := List.mem_map.1 hc
      have := hz x hx
      have h3 := congrArg UInt8.toNat h2
      rw [u8s _ (by omega)] at h3
      have h32 : (32 : UInt8).toNat = 32 := rfl
      omega
    unfold Lib.encodeRune
    by_cases h2 : 128 ≤ r ∧ r ≤ 2047
    · rw [Lib.encodeRuneZ_two h2.1 h2.2]
      exact ⟨by simp, hall _ (by simp; omega)⟩
    by_cases h3 : (2048 ≤ r ∧ r < 55296) ∨ (57343 < r ∧ r ≤ 65535)
    · rw [Lib.encodeRuneZ_three h3]
      exact ⟨by simp, hall _ (by simp; omega)⟩
    by_cases h4 : 65536 ≤ r ∧ r ≤ 1114111
    · rw [Lib.encodeRuneZ_four h4.1 h4.2]
      exact ⟨by simp, hall _ (by simp; omega)⟩
    · rw [Lib.encodeRuneZ_bad (by omega)]
      exact ⟨by simp, hall _ (by simp)⟩
theorem encAll_cons (r : Int) (l : List Int) : encAll (r :: l) = Lib.encodeRune r ++ encAll l := rfl
theorem encAll_app (a b : List Int) : encAll (a ++ b) = encAll a ++ encAll b := by simp [encAll]
theorem encAll_nil' {l : List Int} : encAll l = [] ↔ l = [] := by
  cases l with
  | nil => simp [encAll]
  | cons r l =>
    rw [encAll_cons]
    by_cases h : r = 32
    · subst h; rw [enc_blank]; simp
    · simp [(enc_other r h).1]
theorem cut_enc : ∀ (l : List Int), cutAt 32 (encAll l) = (cutAt 32 l).map encAll
  | [] => rfl
  | r :: l => by
    have ih := cut_enc l
    rw [encAll_cons]
    by_cases h : r = 32
    · subst h
      rw [enc_blank]
      show cutAt 32 (32 :: encAll l) = _
      have h1 := cutAt_blank (32 : UInt8) (encAll l)
      have h2 := cutAt_blank (32 : Int) l
      rw [h1, h2, ih]; rfl
    · obtain ⟨w2, ws2, h2⟩ := List.exists_cons_of_ne_nil (cutAt_ne (32 : Int) l)
      rw [h2] at ih
      rw [cutAt_app _ _ (enc_other r h).2 ih, cutAt_cons h h2]; rfl
theorem words_enc (l : List Int) : words 32 (encAll l) = (words 32 l).map encAll := by
  unfold words
  rw [cut_enc, List.filter_map]
  congr 1
  refine List.filter_congr fun w _ => ?_
  have := @encAll_nil' w
  cases w with
  | nil => rfl
  | cons x w =>
    have : encAll (x :: w) ≠ [] := fun h => by simp [encAll_nil'] at h
    simp [this]
theorem encAll_inter (ws : List (List Int)) : encAll ([32].intercalate ws) = [32].intercalate (ws.map encAll) := by
  cases ws with
  | nil => rfl
  | cons w ws =>
    rw [inter_cons, List.map_cons, inter_cons, encAll_app]
    congr 1
    induction ws with
    | nil => rfl
    | cons v ws ih => rw [List.flatMap_cons, List.map_cons, List.flatMap_cons, encAll_app, encAll_app, ih, show encAll [32] = [32] from by decide]
def readyOf (fold : Bool) (s : ByteArray) : Option (List UInt8) := (runesN s s.size 0).map fun l => encAll (sq (l.filterMap (mapRune fold)) false)
theorem ready_words (l : List Int) : [32].intercalate (words 32 (encAll l)) = encAll (sq l false) := by rw [words_enc, sq_words, encAll_inter]
theorem index_blank (a b : List UInt8) (h : ∀ c ∈ a, c ≠ 32) : Lib.index (a ++ 32 :: b) [32] = (a.length : Int) := by
  rw [Lib.index_one]
  induction a with
  | nil => rfl
  | cons c a ih =>
    have hc := h c (by simp)
    have ih := ih fun x hx => h x (by simp [hx])
    rw [List.cons_append, Lib.indexByte, if_neg (by simpa using hc), ih, if_neg (by simp <;> omega)]
    simp
theorem index_noblank (a : List UInt8) (h : ∀ c ∈ a, c ≠ 32) : Lib.index a [32] = -1 := by
  rw [Lib.index_one]
  induction a with
  | nil => rfl
  | cons c a ih =>
    have hc := h c (by simp)
    have ih := ih fun x hx => h x (by simp [hx])
    rw [Lib.indexByte, if_neg (by simpa using hc), ih]; rfl
theorem first_blank (l : List UInt8) : (∀ c ∈ l, c ≠ 32) ∨ ∃ a b, l = a ++ 32 :: b ∧ ∀ c ∈ a, c ≠ 32 := by
  induction l with
  | nil => exact .inl (by simp)
  | cons c l ih =>
    by_cases hc : c = 32
    · exact .inr ⟨[], l, by rw [hc]; rfl, by simp⟩
    · rcases ih with h | ⟨a, b, rfl, h⟩
      · exact .inl fun x hx => by rcases List.mem_cons.1 hx with rfl | hx; exact hc; exact h x hx
      · exact .inr ⟨c :: a, b, rfl, fun x hx => by rcases List.mem_cons.1 hx with rfl | hx; exact hc; exact h x hx⟩
theorem splitK_blank : ∀ (k : Nat) (l : List UInt8), l.count 32 ≤ k → Lib.splitK [32] 0 k l = cutAt 32 l
  | 0, l, h => by
    have hn : ∀ c ∈ l, c ≠ 32 := by
      intro c hc h2; subst h2
      have := List.count_pos_iff.2 hc; omega
    rw [cutAt_none l hn]; rfl
  | k + 1, l, h => by
    rcases first_blank l with hn | ⟨a, b, rfl, hn⟩
    · rw [Lib.splitK, index_noblank l hn, if_pos (show ((-1 : Int) == -1) = true from rfl), cutAt_none l hn]
    · rw [Lib.splitK, index_blank a b hn, if_neg (by simp <;> omega)]
      have hc : b.count 32 ≤ k := by
        rw [List.count_append, List.count_cons] at h; simp at h; omega
      obtain ⟨w2, ws2, h2⟩ := List.exists_cons_of_ne_nil (cutAt_ne (32 : UInt8) (32 :: b))
      have h3 := cutAt_blank (32 : UInt8) b
      rw [cutAt_app a _ hn h3, List.append_nil]
      congr 1
      · simp
      · have e : (a ++ 32 :: b).drop ((a.length : Int).toNat + ([32] : List UInt8).length) = b := by simp
        rw [e]
        exact splitK_blank k b hc
theorem split_f (t : List UInt8) (ht : t.length ≤ 1000000) : ∃ ps : List ByteArray, strings_Split.f ⟨t.toArray⟩ (⟨#[32]⟩ : ByteArray) = some ps ∧ ps.map (·.data.toList) = cutAt 32 t := by
  unfold strings_Split.f
  refine ⟨_, by rw [if_pos (by rw [← bl_length]; exact ht), if_pos (show 1 ≤ (⟨#[32]⟩ : ByteArray).size from Nat.le_refl _)], ?_⟩
  rw [Lib.splitB_data]
  show Lib.splitK [32] 0 (Lib.count t [32]) t = _
  exact splitK_blank _ _ (by rw [Lib.count_one]; exact Nat.le_refl _)
theorem rdOf_at {L : List ByteArray} {i : Nat} {x : ByteArray} {r : List ByteArray} (h : L.drop i = x :: r) : i < L.length ∧ rdOf ByteArray.empty L (i : Int) = x ∧ L.drop (i + 1) = r := by
  have h1 : i < L.length := by
    rcases Nat.lt_or_ge i L.length with h' | h'
    · exact h'
    · rw [List.drop_eq_nil_of_le h'] at h; cases h
  refine ⟨h1, ?_, ?_⟩
  · have h0 : L[i]? = some x := by
      have := congrArg List.head? h
      rw [List.head?_drop] at this; simpa using this
    unfold rdOf
    rw [List.getD_eq_getElem?_getD, Int.toNat_natCast, h0]; rfl
  · have := congrArg List.tail h
    rw [List.tail_drop] at this; simpa using this
theorem ready_loop (ps : List ByteArray) (hps : ps.length ≤ 1000000) {t : ByteArray} : ∀ (n i : Nat) (acc : List ByteArray), ps.length - i = n → i ≤ ps.length → acc.length ≤ i →
    strings_Join.f (acc ++ (ps.drop i).filter (fun w => !w.data.toList.isEmpty)) (⟨#[32]⟩ : ByteArray) = some t →
    Ev (fun k => prep_Ready.l0 k acc ps (ps.length : Int) (i : Int)) (t, 0) := by
  intro n
  induction n with
  | zero =>
    intro i acc hn hi ha hj
    rw [List.drop_eq_nil_of_le (by omega)] at hj
    simp only [List.filter_nil, List.append_nil] at hj
    refine Ev.step (fun k => by rw [prep_Ready.l0]) ?_
    exact Ev.neg (by omega) (Ev.bindc hj Ev.rfl')
  | succ n ih =>
    intro i acc hn hi ha hj
    cases hr : ps.drop i with
    | nil => have := List.drop_eq_nil_iff.1 hr; omega
    | cons x r =>
      obtain ⟨g1, g2, g3⟩ := rdOf_at hr
      rw [hr] at hj
      refine Ev.step (fun k => by rw [prep_Ready.l0]) ?_
      rw [g2, wsucc (by omega), Lib.toList_data]
      refine Ev.pos (by omega) (Ev.pos (by omega) (Ev.pos (by omega) ?_))
      by_cases hx : x.data.toList = []
      · refine Ev.pos hx (ih (i + 1) acc (by omega) (by omega) (by omega) ?_)
        rw [g3]
        rw [List.filter_cons_of_neg (by simp [hx])] at hj; exact hj
      · refine Ev.neg hx (Ev.pos (by omega) (ih (i + 1) (acc ++ [x]) (by omega) (by omega) (by simp; omega) ?_))
        rw [g3]
        rw [List.filter_cons_of_pos (by simpa using hx)] at hj
        rw [List.append_assoc]; exact hj
theorem cutAt_len {α : Type} [DecidableEq α] (b : α) : ∀ l : List α, (cutAt b l).length ≤ l.length + 1
  | [] => by simp [cutAt]
  | c :: r => by
    have ih := cutAt_len b r
    by_cases hc : c = b
    · subst hc; rw [cutAt_blank]; simp; omega
    · obtain ⟨w2, ws2, h2⟩ := List.exists_cons_of_ne_nil (cutAt_ne b r)
      rw [h2] at ih
      rw [cutAt_cons hc h2]; simp at ih ⊢; omega
theorem sq_len : ∀ (l : List Int) (b : Bool), (sq l b).length ≤ l.length
  | [], _ => Nat.le_refl _
  | x :: r, b => by
    rw [sq]
    split
    · have := sq_len r true; simp; omega
    · have := sq_len r b; simp; omega
theorem ready_ev (s : ByteArray) (hs : s.size ≤ 100000) (fold : Bool) : Ev (fun k => prep_Ready.f k s fold) (match readyOf fold s with | some t => (⟨t.toArray⟩, 0) | none => (⟨#[]⟩, 19)) := by
  unfold prep_Ready.f
  have hm : prep_Map.f s fold = some (prep_Map.of fold (runesN s s.size 0)) := by unfold prep_Map.f; rw [if_pos (by omega)]
  refine Ev.bindc hm ?_
  unfold readyOf
  cases hr : runesN s s.size 0 with
  | none => exact Ev.neg (show ¬ ((19 : Int) = 0) by decide) Ev.rfl'
  | some l =>
    obtain ⟨_, hll⟩ := runesN_le s _ _ l hr
    have hfl : (l.filterMap (mapRune fold)).length ≤ s.size := Nat.le_trans (List.length_filterMap_le _ _) hll
    have hel := encAll_length (l.filterMap (mapRune fold))
    obtain ⟨ps, h1, h2⟩ := split_f (encAll (l.filterMap (mapRune fold))) (by omega)
    have hpl : ps.length ≤ 1000000 := by
      have := cutAt_len (32 : UInt8) (encAll (l.filterMap (mapRune fold)))
      rw [← h2, List.length_map] at this; omega
    refine Ev.pos (show (0 : Int) = 0 from rfl) (Ev.bindc h1 ?_)
    refine ready_loop ps hpl _ 0 [] rfl (Nat.zero_le _) (Nat.le_refl _) ?_
    rw [List.drop_zero, List.nil_append]
    unfold strings_Join.f
    have hj : joinB (ps.filter fun w => !w.data.toList.isEmpty) (⟨#[32]⟩ : ByteArray) = encAll (sq (l.filterMap (mapRune fold)) false) := by
      unfold joinB
      rw [← ready_words]
      unfold words
      rw [← h2, List.filter_map]; rfl
    have hfl2 : (ps.filter fun w => !w.data.toList.isEmpty).length ≤ ps.length := List.length_filter_le _ _
    have hsq := sq_len (l.filterMap (mapRune fold)) false
    have hel2 := encAll_length (sq (l.filterMap (mapRune fold)) false)
    rw [if_pos (by omega), hj, if_pos (by omega)]
theorem rd_at {L : List Int} {i : Nat} {x : Int} {r : List Int} (h : L.drop i = x :: r) : i < L.length ∧ rd L (i : Int) = x ∧ L.drop (i + 1) = r := by
  have h1 : i < L.length := by
    rcases Nat.lt_or_ge i L.length with h' | h'
    · exact h'
    · rw [List.drop_eq_nil_of_le h'] at h; cases h
  refine ⟨h1, ?_, ?_⟩
  · have h0 : L[i]? = some x := by
      have := congrArg List.head? h
      rw [List.head?_drop] at this; simpa using this
    unfold rd
    rw [List.getD_eq_getElem?_getD, Int.toNat_natCast, h0]; rfl
  · have := congrArg List.tail h
    rw [List.tail_drop] at this; simpa using this
theorem decode_len (s : ByteArray) (p : Nat) (hp : p < s.size) : 1 ≤ (Utf8.decode s p).2 ∧ (p + (Utf8.decode s p).2 ≤ s.size) ∧ (Utf8.decode s p).1 ≤ 1114111 ∧ ¬ (55296 ≤ (Utf8.decode s p).1 ∧ (Utf8.decode s p).1 ≤ 57343) := by
  rw [Lib.decode_at]
  have l0 := (s.get! p).toNat_lt
  rcases Lib.decodeN_shape (s.size - p) (s.get! p).toNat (s.get! (p + 1)).toNat (s.get! (p + 2)).toNat (s.get! (p + 3)).toNat with ⟨a, e⟩ | ⟨b1, b2, b3, a, e⟩ | ⟨b1, b2, b3, b4, a, b5, e⟩ | ⟨b1, b2, b3, b4, b5, a, b6, e⟩ | e
  all_goals (rw [e]; dsimp only; omega)
theorem runes_ev (s : ByteArray) (hs : s.size ≤ 1000000) : ∀ (n p : Nat) (acc : List Int), p ≤ s.size → s.size - p ≤ n → acc.length ≤ p →
    (runesN s n p = none → Ev (fun k => R13Runes.l0 k s acc (p : Int)) ([], 19)) ∧
    (∀ l, runesN s n p = some l → Ev (fun k => R13Runes.l0 k s acc (p : Int)) (acc ++ l, 0)) := by
  intro n
  induction n with
  | zero =>
    intro p acc hp hn ha
    refine ⟨fun h => by simp [runesN] at h, fun l h => ?_⟩
    simp only [runesN, Option.some.injEq] at h
    subst h
    rw [List.append_nil]
    exact Ev.step (fun k => by rw [R13Runes.l0]) (Ev.neg (by omega) Ev.rfl')
  | succ n ih =>
    intro p acc hp hn ha
    rw [runesN]
    by_cases hlt : p < s.size
    · rw [if_pos hlt]
      have ho := one_ev s hs p hlt
      obtain ⟨w1, w2, w3, w4⟩ := decode_len s p hlt
      have hst : ∀ {o : List Int × Int}, Ev (fun k => if (oneR (Utf8.decode s p)).2 = 0 then (some (([] : List Int), (19 : Int))) else (if acc.length < 35184372088832 then (R13Runes.l0 k s (acc ++ [wrap32 ((oneR (Utf8.decode s p)).1)]) (wrap64 ((p : Int) + (oneR (Utf8.decode s p)).2))) else (none))) o → Ev (fun k => R13Runes.l0 k s acc (p : Int)) o := by
        intro o h
        refine Ev.step (fun k => by rw [R13Runes.l0]) ?_
        exact Ev.pos (by omega) (Ev.bind ho h)
      by_cases he : (Utf8.decode s p).1 = 65533 ∧ (Utf8.decode s p).2 = 1
      · rw [if_pos he]
        have e : oneR (Utf8.decode s p) = (0, 0) := by unfold oneR; rw [if_pos he]
        rw [e] at hst
        exact ⟨fun _ => hst (Ev.pos rfl Ev.rfl'), fun l h => by simp at h⟩
      · rw [if_neg he]
        have e : oneR (Utf8.decode s p) = (((Utf8.decode s p).1 : Int), ((Utf8.decode s p).2 : Int)) := by unfold oneR; rw [if_neg he]
        rw [e] at hst
        dsimp only at hst
        generalize (Utf8.decode s p).1 = v at *
        generalize (Utf8.decode s p).2 = w at *
        have hi := ih (p + w) (acc ++ [(v : Int)]) (by omega) (by omega) (by simp; omega)
        have hgo : ∀ {o : List Int × Int}, Ev (fun k => R13Runes.l0 k s (acc ++ [(v : Int)]) ((p + w : Nat) : Int)) o → Ev (fun k => R13Runes.l0 k s acc (p : Int)) o := by
          intro o h
          refine hst (Ev.neg (by omega) (Ev.pos (by omega) ?_))
          rw [show wrap32 (v : Int) = (v : Int) by unfold wrap32; omega, show wrap64 ((p : Int) + (w : Int)) = ((p + w : Nat) : Int) by unfold wrap64; omega]
          exact h
        refine ⟨fun h => hgo (hi.1 (by simpa using h)), fun l h => ?_⟩
        obtain ⟨l', hl', rfl⟩ := Option.map_eq_some_iff.1 h
        have := hgo (hi.2 l' hl')
        rwa [List.append_assoc] at this
    · rw [if_neg hlt]
      refine ⟨fun h => by simp at h, fun l h => ?_⟩
      simp only [Option.some.injEq] at h
      subst h
      rw [List.append_nil]
      exact Ev.step (fun k => by rw [R13Runes.l0]) (Ev.neg (by omega) Ev.rfl')
theorem runesN_ok (s : ByteArray) : ∀ (n p : Nat) (l : List Int), runesN s n p = some l → ∀ r ∈ l, okRune r
  | 0, p, l, h => by simp [runesN] at h; subst h; simp
  | n + 1, p, l, h => by
    rw [runesN] at h
    split at h
    · rename_i hlt
      split at h
      · cases h
      · obtain ⟨l', hl', rfl⟩ := Option.map_eq_some_iff.1 h
        intro r hr
        rcases List.mem_cons.1 hr with rfl | hr
        · obtain ⟨_, _, w3, w4⟩ := decode_len s p hlt
          exact ⟨by omega, by omega, by omega⟩
        · exact runesN_ok s n _ l' hl' r hr
    · simp at h; subst h; simp
theorem smallI_ok {r : Int} (h : okRune r) : okRune (smallI r) := by
  obtain ⟨h0, h1, h2⟩ := h
  unfold okRune smallI
  split
  · omega
  · split <;> omega
theorem mapRune_ok {fold : Bool} {r x : Int} (h : okRune r) (hx : mapRune fold r = some x) : okRune x := by
  unfold mapRune at hx
  split at hx
  · cases hx
  · split at hx
    · simp at hx; subst hx; exact ⟨by omega, by omega, by omega⟩
    · simp at hx; subst hx
      split
      · exact smallI_ok h
      · exact h
theorem mapped_loop (fold : Bool) (l : List Int) (hl : l.length ≤ 1000000) (hok : ∀ r ∈ l, okRune r) (e : Int) : ∀ (n i : Nat) (acc : List Int), l.length - i = n → i ≤ l.length → acc.length ≤ i →
    Ev (fun k => R13Mapped.l0 k fold l e acc (i : Int)) (acc ++ (l.drop i).filterMap (mapRune fold), e) := by
  intro n
  induction n with
  | zero =>
    intro i acc hn hi ha
    rw [List.drop_eq_nil_of_le (by omega)]
    simp only [List.filterMap_nil, List.append_nil]
    exact Ev.step (fun k => by rw [R13Mapped.l0]) (Ev.neg (by omega) Ev.rfl')
  | succ n ih =>
    intro i acc hn hi ha
    cases hr : l.drop i with
    | nil => have := List.drop_eq_nil_iff.1 hr; omega
    | cons x r =>
      obtain ⟨g1, g2, g3⟩ := rd_at hr
      have hx : okRune x := hok x (by
        have : x ∈ l.drop i := by rw [hr]; simp
        exact List.mem_of_mem_drop this)
      refine Ev.step (fun k => by rw [R13Mapped.l0]) ?_
      rw [g2, wsucc (by omega)]
      refine Ev.pos (by omega) (Ev.pos (by omega) (Ev.bindc (rdropped_is x) ?_))
      rw [List.filterMap_cons]
      have hlen : acc.length < 35184372088832 := by omega
      have hgo : ∀ y, Ev (fun k => R13Mapped.l0 k fold l e (acc ++ [y]) ((i + 1 : Nat) : Int)) (acc ++ (y :: r.filterMap (mapRune fold)), e) := by
        intro y
        have := ih (i + 1) (acc ++ [y]) (by omega) (by omega) (by simp; omega)
        rw [g3, List.append_assoc] at this; exact this
      rw [show mapRune fold x = (if dropB x = true then none else if blankB x = true then some 32 else some (if fold = true then smallI x else x)) from rfl]
      cases hd : dropB x with
      | true =>
        refine Ev.pos rfl ?_
        have := ih (i + 1) acc (by omega) (by omega) (by omega)
        rw [g3] at this
        simpa using this
      | false =>
        refine Ev.neg (by simp) (Ev.bindc (rblank_is x) ?_)
        cases hb : blankB x with
        | true => exact Ev.pos rfl (Ev.pos hlen (by simpa using hgo 32))
        | false =>
          refine Ev.neg (by simp) ?_
          cases fold with
          | true => exact Ev.pos rfl (Ev.bind (rsmall_ev x hx.1 hx.2.1) (Ev.pos hlen (by simpa using hgo (smallI x))))
          | false => exact Ev.neg (by simp) (Ev.pos hlen (by simpa using hgo x))
theorem ints_app (a b : List UInt8) : ints a ++ ints b = ints (a ++ b) := by simp [ints]
theorem text_loop (l : List Int) (hl : l.length ≤ 1000000) (hok : ∀ r ∈ l, okRune r) : ∀ (n i : Nat) (acc : List UInt8), l.length - i = n → i ≤ l.length → acc.length ≤ 4 * i →
    Ev (fun k => R13Text.l0 k l (ints acc) (i : Int)) ⟨(acc ++ encAll (l.drop i)).toArray⟩ := by
  intro n
  induction n with
  | zero =>
    intro i acc hn hi ha
    rw [List.drop_eq_nil_of_le (by omega), show encAll [] = [] from rfl, List.append_nil]
    refine Ev.step (fun k => by rw [R13Text.l0]) (Ev.neg (by omega) ?_)
    rw [strOfNums_ints]; exact Ev.rfl'
  | succ n ih =>
    intro i acc hn hi ha
    cases hr : l.drop i with
    | nil => have := List.drop_eq_nil_iff.1 hr; omega
    | cons x r =>
      obtain ⟨g1, g2, g3⟩ := rd_at hr
      have hx : okRune x := hok x (by
        have : x ∈ l.drop i := by rw [hr]; simp
        exact List.mem_of_mem_drop this)
      have h4 : (Lib.encodeRune x).length ≤ 4 := by
        have := Lib.runeCells_le x
        rw [Lib.runeCells_length] at this; exact this.2
      refine Ev.step (fun k => by rw [R13Text.l0]) ?_
      rw [g2, wsucc (by omega)]
      refine Ev.pos (by omega) (Ev.pos (by omega) (Ev.bindc (bytes_is x hx) (Ev.pos (by rw [ints_length, ints_length]; omega) ?_)))
      rw [ints_app, encAll_cons, ← List.append_assoc, ← g3]
      exact ih (i + 1) (acc ++ Lib.encodeRune x) (by omega) (by omega) (by simp; omega)
theorem refready_loop (l : List Int) (hl : l.length ≤ 1000000) {t : ByteArray} : ∀ (n i : Nat) (acc : List Int), l.length - i = n → i ≤ l.length → acc.length ≤ i →
    Ev (fun k => R13Text.f k (acc ++ sq (l.drop i) (decide (0 < acc.length)))) t →
    Ev (fun k => R13Ready.l0 k l acc (i : Int)) (t, 0) := by
  intro n
  induction n with
  | zero =>
    intro i acc hn hi ha ht
    rw [List.drop_eq_nil_of_le (by omega), show ∀ b, sq [] b = [] from fun _ => rfl, List.append_nil] at ht
    refine Ev.step (fun k => by rw [R13Ready.l0]) ?_
    exact Ev.neg (by omega) (Ev.bind ht Ev.rfl')
  | succ n ih =>
    intro i acc hn hi ha ht
    cases hr : l.drop i with
    | nil => have := List.drop_eq_nil_iff.1 hr; omega
    | cons x r =>
      obtain ⟨g1, g2, g3⟩ := rd_at hr
      rw [hr, sq] at ht
      refine Ev.step (fun k => by rw [R13Ready.l0]) ?_
      rw [g2, wsucc (by omega)]
      have hlen : acc.length < 35184372088832 := by omega
      have hput : (x ≠ 32 ∨ (decide (0 < acc.length) = true ∧ nb r = true)) → Ev (fun k => R13Ready.l0 k l (acc ++ [x]) ((i + 1 : Nat) : Int)) (t, 0) := by
        intro hc
        rw [if_pos hc] at ht
        refine ih (i + 1) (acc ++ [x]) (by omega) (by omega) (by simp; omega) ?_
        rw [g3, List.append_assoc, show decide (0 < (acc ++ [x]).length) = true by simp]
        exact ht
      have hskip : ¬ (x ≠ 32 ∨ (decide (0 < acc.length) = true ∧ nb r = true)) → Ev (fun k => R13Ready.l0 k l acc ((i + 1 : Nat) : Int)) (t, 0) := by
        intro hc
        rw [if_neg hc] at ht
        refine ih (i + 1) acc (by omega) (by omega) (by omega) ?_
        rw [g3]; exact ht
      refine Ev.pos (by omega) (Ev.pos (by omega) ?_)
      by_cases hx : x = 32
      · refine Ev.pos hx ?_
        by_cases h0 : 0 < acc.length
        · refine Ev.pos (by omega) ?_
          cases hr2 : r with
          | nil =>
            rw [hr2] at g3 hskip
            have := List.drop_eq_nil_iff.1 g3
            exact Ev.neg (by omega) (hskip (by simp [hx, nb]))
          | cons y r2 =>
            rw [hr2] at g3 hskip hput
            obtain ⟨f1, f2, f3⟩ := rd_at g3
            refine Ev.pos (by omega) (Ev.pos (by omega) ?_)
            rw [f2]
            by_cases hy : y = 32
            · exact Ev.pos hy (hskip (by simp [hx, hy, nb]))
            · exact Ev.neg hy (Ev.pos hlen (hput (.inr ⟨by simp [h0], by simp [nb, hy]⟩)))
        · exact Ev.neg (by omega) (hskip (by simp [hx]; omega))
      · exact Ev.neg hx (Ev.pos hlen (hput (.inl hx)))
theorem mapped_ev (s : ByteArray) (hs : s.size ≤ 100000) (fold : Bool) : Ev (fun k => R13Mapped.f k s fold) (match runesN s s.size 0 with | some l => (l.filterMap (mapRune fold), 0) | none => ([], 19)) := by
  unfold R13Mapped.f R13Runes.f
  obtain ⟨r1, r2⟩ := runes_ev s (by omega) s.size 0 [] (Nat.zero_le _) (by omega) (Nat.le_refl _)
  cases hr : runesN s s.size 0 with
  | none =>
    refine Ev.bind (r1 hr) ?_
    have := mapped_loop fold [] (by simp) (by simp) 19 0 0 [] rfl (Nat.le_refl _) (Nat.le_refl _)
    exact this
  | some l =>
    obtain ⟨_, hll⟩ := runesN_le s _ _ l hr
    refine Ev.bind (r2 l hr) ?_
    have := mapped_loop fold l (by omega) (runesN_ok s _ _ l hr) 0 _ 0 [] rfl (Nat.zero_le _) (Nat.le_refl _)
    rw [List.drop_zero, List.nil_append] at this
    rw [List.nil_append]; exact this
theorem sq_mem : ∀ (l : List Int) (b : Bool), ∀ x ∈ sq l b, x ∈ l
  | [], _, x, h => by simp [sq] at h
  | y :: r, b, x, h => by
    rw [sq] at h
    split at h
    · rcases List.mem_cons.1 h with rfl | h
      · simp
      · exact List.mem_cons_of_mem _ (sq_mem r true x h)
    · exact List.mem_cons_of_mem _ (sq_mem r b x h)
theorem refready_ev (s : ByteArray) (hs : s.size ≤ 100000) (fold : Bool) : Ev (fun k => R13Ready.f k s fold) (match readyOf fold s with | some t => (⟨t.toArray⟩, 0) | none => (⟨#[]⟩, 19)) := by
  unfold R13Ready.f
  have hm := mapped_ev s hs fold
  unfold readyOf
  cases hr : runesN s s.size 0 with
  | none =>
    rw [hr] at hm
    exact Ev.bind hm (Ev.neg (show ¬ ((19 : Int) = 0) by decide) Ev.rfl')
  | some l =>
    rw [hr] at hm
    obtain ⟨_, hll⟩ := runesN_le s _ _ l hr
    have hfl : (l.filterMap (mapRune fold)).length ≤ s.size := Nat.le_trans (List.length_filterMap_le _ _) hll
    have hok : ∀ r ∈ l.filterMap (mapRune fold), okRune r := by
      intro r hr'
      obtain ⟨x, hx, hx2⟩ := List.mem_filterMap.1 hr'
      exact mapRune_ok (runesN_ok s _ _ l hr x hx) hx2
    refine Ev.bind hm (Ev.pos (show (0 : Int) = 0 from rfl) ?_)
    refine refready_loop (l.filterMap (mapRune fold)) (by omega) _ 0 [] rfl (Nat.zero_le _) (Nat.le_refl _) ?_
    have hsl := sq_len (l.filterMap (mapRune fold)) false
    have := text_loop (sq (l.filterMap (mapRune fold)) false) (by omega) (fun r h => hok r (sq_mem _ _ r h)) _ 0 [] rfl (Nat.zero_le _) (Nat.zero_le _)
    rw [List.drop_zero, List.nil_append] at this
    exact this
end Go.Proofs.YtkklacijhmoopaaGreatDoor.Print
namespace Go.Proofs.YtkklacijhmoopaaGreatDoor.Print
open Go.RowKit Go.Proofs.YtkklacijhmoopaaGreatDoorW.PrintWords Go.Proofs.YtkklacijhmoopaaGreatDoorW.PrintLast Go.Proofs.YtkklacijhmoopaaGreatDoorW.PrintMore
attribute [local go_sem] max2_int min2_int max_two min_two max_three min_three max_four min_four
set_option linter.unusedVariables false
set_option linter.unusedSimpArgs false
mutual
def R15Type.j0 : Nat → ByteArray → Bool → Option (Bool)
 | 0, _, _ => none
 | k + 1, x0, x21 => if x21 = true then (some false) else (R15Type.l0 k x0 0)
def R15Type.l0 : Nat → ByteArray → Int → Option (Bool)
 | 0, _, _ => none
 | k + 1, x0, x3 => if x3 < (x0.size : Int) then (if 0 ≤ x3 then (if (bt x0 x3) ≥ 97 then (if ((bt x0 x3) ≤ 122) then (R15Type.l0 k x0 (wrap64 (x3 + 1))) else (if (bt x0 x3) ≥ 48 then (if ((bt x0 x3) ≤ 57) then (R15Type.l0 k x0 (wrap64 (x3 + 1))) else (if (bt x0 x3) = 45 then (R15Type.l0 k x0 (wrap64 (x3 + 1))) else (some false))) else (if (bt x0 x3) = 45 then (R15Type.l0 k x0 (wrap64 (x3 + 1))) else (some false)))) else (if (bt x0 x3) ≥ 48 then (if ((bt x0 x3) ≤ 57) then (R15Type.l0 k x0 (wrap64 (x3 + 1))) else (if (bt x0 x3) = 45 then (R15Type.l0 k x0 (wrap64 (x3 + 1))) else (some false))) else (if (bt x0 x3) = 45 then (R15Type.l0 k x0 (wrap64 (x3 + 1))) else (some false)))) else (none)) else (some true)
end
def R15Type.f (k : Nat) (a0 : ByteArray) : Option (Bool) := if (a0.size : Int) < 1 then (R15Type.j0 k a0 true) else (if (a0.size : Int) > 32 then (R15Type.j0 k a0 true) else (if 0 < (a0.size : Int) then (if (bt a0 0) < 97 then (R15Type.j0 k a0 true) else (R15Type.j0 k a0 (decide ((bt a0 0) > 122)))) else (none)))
set_option maxHeartbeats 8000000 in
set_option maxRecDepth 100000 in
theorem R15Type.calls (k : Nat) (a0 : ByteArray) (r : Bool) (w : World) (h : R15Type.f k a0 = some r) :
  Calls Tryz.prog 31 #[.string a0] w fun e w' => e = .returned (.bool r) ∧ Drawn0 w w' := by
 have H : (if (a0.size : Int) < 1 then (R15Type.j0 k a0 true) else (if (a0.size : Int) > 32 then (R15Type.j0 k a0 true) else (if 0 < (a0.size : Int) then (if (bt a0 0) < 97 then (R15Type.j0 k a0 true) else (R15Type.j0 k a0 (decide ((bt a0 0) > 122)))) else (none)))) = some r := h
 clear h
 have HC2 := Aside0.mk H
 clear H
 go_enter Tryz.func31, Tryz.ntmps31
 go_upto_region 1 with (fail)
 go_cut [21] (fun v21 wc => ∃ (kq : Nat) (x21_1 : Bool), v21 = .bool x21_1 ∧ Aside0 (R15Type.j0 kq a0 x21_1 = some r) ∧ Aside0 (kq ≤ k) ∧ Drawn0 w wc)
 case first =>
  have H := HC2.out
  clear HC2
  by_cases c3 : (a0.size : Int) < 1
  ·
   rw [if_pos c3] at H
   have c3b0 := decide_eq_true c3
   have c3b1 : decide (a0.size < 1) = true := decide_eq_true (by omega)
   clear c3
   (first | rw [c3b0] | (simp only [i64_w, i32_w]; rw [c3b0]) | skip)
   have H' := Aside0.mk H
   clear H
   go_wp2
   go_meet
   case rel => exact ⟨_, (true), ap2, H', ⟨by first | omega | exact Nat.le_refl _⟩, by repeat (first | exact Drawn0.refl _ | apply Drawn0.step)⟩
  ·
   rw [if_neg c3] at H
   have c3b0 := decide_eq_false c3
   have c3b1 : decide (a0.size < 1) = false := decide_eq_false (by omega)
   clear c3
   (first | rw [c3b0] | (simp only [i64_w, i32_w]; rw [c3b0]) | skip)
   by_cases c4 : (a0.size : Int) > 32
   ·
    rw [if_pos c4] at H
    have c4b0 := decide_eq_true c4
    have c4b1 : decide (32 < a0.size) = true := decide_eq_true (by omega)
    clear c4
    have H' := Aside0.mk H
    clear H
    go_wp2
    go_meet
    case rel => exact ⟨_, (true), ap2, H', ⟨by first | omega | exact Nat.le_refl _⟩, by repeat (first | exact Drawn0.refl _ | apply Drawn0.step)⟩
   ·
    rw [if_neg c4] at H
    have c4b0 := decide_eq_false c4
    have c4b1 : decide (32 < a0.size) = false := decide_eq_false (by omega)
    clear c4
    by_cases c5 : 0 < (a0.size : Int)
    ·
     rw [if_pos c5] at H
     have c5b0 := decide_eq_true c5
     have c5b1 : decide (0 < a0.size) = true := decide_eq_true (by omega)
     clear c5
     by_cases c7 : (bt a0 0) < 97
     ·
      rw [if_pos c7] at H
      have c7b0 := decide_eq_true c7
      clear c7
      have H' := Aside0.mk H
      clear H
      have p6 : 0 ≤ (0 : Int) := (by omega)
      have q6 : 0 < a0.size := (by have : (0 : Int) < (a0.size : Int) := of_decide_eq_true ap0; omega)
      have hx6 : ∀ h : 0 < a0.size, ((a0[0]'h).toNat : Int) = bt a0 0 := bt_at a0 0
      clear p6
      have qi6 : (0 < (a0.size : Int)) = True := eq_true (of_decide_eq_true ap0)
      replace q6 := eq_true q6
      go_wp2
      go_meet
      case rel => exact ⟨_, (true), ap2, H', ⟨by first | omega | exact Nat.le_refl _⟩, by repeat (first | exact Drawn0.refl _ | apply Drawn0.step)⟩
     ·
      rw [if_neg c7] at H
      have c7b0 := decide_eq_false c7
      clear c7
      have H' := Aside0.mk H
      clear H
      have p6 : 0 ≤ (0 : Int) := (by omega)
      have q6 : 0 < a0.size := (by have : (0 : Int) < (a0.size : Int) := of_decide_eq_true ap0; omega)
      have hx6 : ∀ h : 0 < a0.size, ((a0[0]'h).toNat : Int) = bt a0 0 := bt_at a0 0
      clear p6
      have qi6 : (0 < (a0.size : Int)) = True := eq_true (of_decide_eq_true ap0)
      replace q6 := eq_true q6
      have p8 : 0 ≤ (0 : Int) := (by omega)
      have q8 : 0 < a0.size := (by have : (0 : Int) < (a0.size : Int) := of_decide_eq_true ap0; omega)
      have hx8 : ∀ h : 0 < a0.size, ((a0[0]'h).toNat : Int) = bt a0 0 := bt_at a0 0
      clear p8
      have qi8 : (0 < (a0.size : Int)) = True := eq_true (of_decide_eq_true ap0)
      replace q8 := eq_true q8
      go_wp2
      go_meet
      case rel => exact ⟨_, (decide ((bt a0 0) > 122)), ap2, H', ⟨by first | omega | exact Nat.le_refl _⟩, by repeat (first | exact Drawn0.refl _ | apply Drawn0.step)⟩
    ·
     rw [if_neg c5] at H
     exact absurd H (by simp)
 case rest =>
  clear HC2
  try clear p2
  try clear c3
  try clear c3b0
  try clear c3b1
  try clear c4
  try clear c4b0
  try clear c4b1
  try clear c5
  try clear c5b0
  try clear c5b1
  try clear p6
  try clear q6
  try clear hx6
  try clear qi6
  try clear c7
  try clear c7b0
  try clear p8
  try clear q8
  try clear hx8
  try clear qi8
  try clear p6
  try clear p8
  try clear q6
  try clear q8
  obtain ⟨kq, x21_1, rfl, HA, HJ1, ⟨mc1, rfl⟩⟩ := hcut
  cases kq with
  | zero => exact absurd HA.out (by simp [R15Type.j0])
  | succ kj1 =>
   have H := HA.out
   clear HA
   simp only [R15Type.j0] at H
   by_cases c9 : x21_1 = true
   ·
    subst c9
    rw [if_pos rfl] at H
    obtain rfl := Option.some.inj H
    go_wp2
    go_ret
    exact ⟨ap2, ap7⟩
   ·
    replace c9 := Bool.eq_false_iff.mpr c9
    subst c9
    rw [if_neg (show ¬ (false = true) by decide)] at H
    have H' := Aside0.mk H
    clear H
    go_wp2
    go_loopg [3] kj1 (fun kq v3 w' => ∃ (x3_2 : Int), v3 = .int .i64 x3_2 ∧ Aside0 (R15Type.l0 kq a0 x3_2 = some r) ∧ Aside0 (kq ≤ kj1) ∧ Drawn0 w w')
    case atStart => exact ⟨(0), ap2, H', ⟨Nat.le_refl _⟩, by repeat (first | exact Drawn0.refl _ | apply Drawn0.step)⟩
    case round =>
     clear H'
     try clear c1
     try clear p2
     try clear c3
     try clear c3b0
     try clear c3b1
     try clear c4
     try clear c4b0
     try clear c4b1
     try clear c5
     try clear c5b0
     try clear c5b1
     try clear p6
     try clear q6
     try clear hx6
     try clear qi6
     try clear c7
     try clear c7b0
     try clear p8
     try clear q8
     try clear hx8
     try clear qi8
     try clear c9
     try clear p2
     try clear p6
     try clear p8
     try clear q6
     try clear q8
     obtain ⟨x3_2, rfl, HA, HK2, ⟨m2, rfl⟩⟩ := hrel
     cases gk with
     | zero => exact absurd HA.out (by simp [R15Type.l0])
     | succ k2 =>
      have H := HA.out
      clear HA
      simp only [R15Type.l0] at H
      by_cases c10 : x3_2 < (a0.size : Int)
      ·
       rw [if_pos c10] at H
       have c10b0 := decide_eq_true c10
       clear c10
       by_cases c11 : 0 ≤ x3_2
       ·
        rw [if_pos c11] at H
        have c11b0 := decide_eq_true c11
        clear c11
        by_cases c13 : (bt a0 x3_2) ≥ 97
        ·
         rw [if_pos c13] at H
         have c13b0 := decide_eq_true c13
         clear c13
         by_cases c15 : ((bt a0 x3_2) ≤ 122)
         ·
          rw [if_pos c15] at H
          have c15b0 := decide_eq_true c15
          clear c15
          have H' := Aside0.mk H
          clear H
          have p12 : 0 ≤ (x3_2 : Int) := of_decide_eq_true ap0
          have q12 : x3_2 < (a0.size : Int) := of_decide_eq_true ap0
          have hx12 := bt_at a0 x3_2
          replace p12 := eq_true p12
          replace q12 := eq_true q12
          have p14 : 0 ≤ (x3_2 : Int) := of_decide_eq_true ap0
          have q14 : x3_2 < (a0.size : Int) := of_decide_eq_true ap0
          have hx14 := bt_at a0 x3_2
          replace p14 := eq_true p14
          replace q14 := eq_true q14
          go_wp2
          go_roundg k2
          case measure => have := HJ1.out; have := HK2.out; omega
          case rel => exact ⟨(wrap64 (x3_2 + 1)), ap2, H', ⟨by have := HJ1.out; have := HK2.out; omega⟩, by repeat (first | exact Drawn0.refl _ | apply Drawn0.step)⟩
         ·
          rw [if_neg c15] at H
          have c15b0 := decide_eq_false c15
          clear c15
          by_cases c17 : (bt a0 x3_2) ≥ 48
          ·
           rw [if_pos c17] at H
           have c17b0 := decide_eq_true c17
           clear c17
           by_cases c19 : ((bt a0 x3_2) ≤ 57)
           ·
            rw [if_pos c19] at H
            have c19b0 := decide_eq_true c19
            clear c19
            have H' := Aside0.mk H
            clear H
            have p12 : 0 ≤ (x3_2 : Int) := of_decide_eq_true ap0
            have q12 : x3_2 < (a0.size : Int) := of_decide_eq_true ap0
            have hx12 := bt_at a0 x3_2
            replace p12 := eq_true p12
            replace q12 := eq_true q12
            have p14 : 0 ≤ (x3_2 : Int) := of_decide_eq_true ap0
            have q14 : x3_2 < (a0.size : Int) := of_decide_eq_true ap0
            have hx14 := bt_at a0 x3_2
            replace p14 := eq_true p14
            replace q14 := eq_true q14
            have p16 : 0 ≤ (x3_2 : Int) := of_decide_eq_true ap0
            have q16 : x3_2 < (a0.size : Int) := of_decide_eq_true ap0
            have hx16 := bt_at a0 x3_2
            replace p16 := eq_true p16
            replace q16 := eq_true q16
            have p18 : 0 ≤ (x3_2 : Int) := of_decide_eq_true ap0
            have q18 : x3_2 < (a0.size : Int) := of_decide_eq_true ap0
            have hx18 := bt_at a0 x3_2
            replace p18 := eq_true p18
            replace q18 := eq_true q18
            go_wp2
            go_roundg k2
            case measure => have := HJ1.out; have := HK2.out; omega
            case rel => exact ⟨(wrap64 (x3_2 + 1)), ap2, H', ⟨by have := HJ1.out; have := HK2.out; omega⟩, by repeat (first | exact Drawn0.refl _ | apply Drawn0.step)⟩
           ·
            rw [if_neg c19] at H
            have c19b0 := decide_eq_false c19
            clear c19
            by_cases c21 : (bt a0 x3_2) = 45
            ·
             rw [if_pos c21] at H
             have c21b0 : ((bt a0 x3_2) == 45) = true := beq_iff_eq.mpr c21
             have c21b1 : ((bt a0 x3_2) != 45) = false := bne_eq_false_iff_eq.mpr c21
             clear c21
             have H' := Aside0.mk H
             clear H
             have p12 : 0 ≤ (x3_2 : Int) := of_decide_eq_true ap0
             have q12 : x3_2 < (a0.size : Int) := of_decide_eq_true ap0
             have hx12 := bt_at a0 x3_2
             replace p12 := eq_true p12
             replace q12 := eq_true q12
             have p14 : 0 ≤ (x3_2 : Int) := of_decide_eq_true ap0
             have q14 : x3_2 < (a0.size : Int) := of_decide_eq_true ap0
             have hx14 := bt_at a0 x3_2
             replace p14 := eq_true p14
             replace q14 := eq_true q14
             have p16 : 0 ≤ (x3_2 : Int) := of_decide_eq_true ap0
             have q16 : x3_2 < (a0.size : Int) := of_decide_eq_true ap0
             have hx16 := bt_at a0 x3_2
             replace p16 := eq_true p16
             replace q16 := eq_true q16
             have p18 : 0 ≤ (x3_2 : Int) := of_decide_eq_true ap0
             have q18 : x3_2 < (a0.size : Int) := of_decide_eq_true ap0
             have hx18 := bt_at a0 x3_2
             replace p18 := eq_true p18
             replace q18 := eq_true q18
             have p20 : 0 ≤ (x3_2 : Int) := of_decide_eq_true ap0
             have q20 : x3_2 < (a0.size : Int) := of_decide_eq_true ap0
             have hx20 := bt_at a0 x3_2
             replace p20 := eq_true p20
             replace q20 := eq_true q20
             go_wp2
             go_roundg k2
             case measure => have := HJ1.out; have := HK2.out; omega
             case rel => exact ⟨(wrap64 (x3_2 + 1)), ap2, H', ⟨by have := HJ1.out; have := HK2.out; omega⟩, by repeat (first | exact Drawn0.refl _ | apply Drawn0.step)⟩
            ·
             rw [if_neg c21] at H
             have c21b0 : ((bt a0 x3_2) == 45) = false := beq_eq_false_iff_ne.mpr c21
             have c21b1 : ((bt a0 x3_2) != 45) = true := bne_iff_ne.mpr c21
             obtain rfl := Option.some.inj H
             have p12 : 0 ≤ (x3_2 : Int) := of_decide_eq_true ap0
             have q12 : x3_2 < (a0.size : Int) := of_decide_eq_true ap0
             have hx12 := bt_at a0 x3_2
             replace p12 := eq_true p12
             replace q12 := eq_true q12
             have p14 : 0 ≤ (x3_2 : Int) := of_decide_eq_true ap0
             have q14 : x3_2 < (a0.size : Int) := of_decide_eq_true ap0
             have hx14 := bt_at a0 x3_2
             replace p14 := eq_true p14
             replace q14 := eq_true q14
             have p16 : 0 ≤ (x3_2 : Int) := of_decide_eq_true ap0
             have q16 : x3_2 < (a0.size : Int) := of_decide_eq_true ap0
             have hx16 := bt_at a0 x3_2
             replace p16 := eq_true p16
             replace q16 := eq_true q16
             have p18 : 0 ≤ (x3_2 : Int) := of_decide_eq_true ap0
             have q18 : x3_2 < (a0.size : Int) := of_decide_eq_true ap0
             have hx18 := bt_at a0 x3_2
             replace p18 := eq_true p18
             replace q18 := eq_true q18
             have p20 : 0 ≤ (x3_2 : Int) := of_decide_eq_true ap0
             have q20 : x3_2 < (a0.size : Int) := of_decide_eq_true ap0
             have hx20 := bt_at a0 x3_2
             replace p20 := eq_true p20
             replace q20 := eq_true q20
             go_wp2
             go_ret
             exact ⟨ap2, ap7⟩
          ·
           rw [if_neg c17] at H
           have c17b0 := decide_eq_false c17
           clear c17
           by_cases c23 : (bt a0 x3_2) = 45
           ·
            rw [if_pos c23] at H
            have c23b0 : ((bt a0 x3_2) == 45) = true := beq_iff_eq.mpr c23
            have c23b1 : ((bt a0 x3_2) != 45) = false := bne_eq_false_iff_eq.mpr c23
            clear c23
            have H' := Aside0.mk H
            clear H
            have p12 : 0 ≤ (x3_2 : Int) := of_decide_eq_true ap0
            have q12 : x3_2 < (a0.size : Int) := of_decide_eq_true ap0
            have hx12 := bt_at a0 x3_2
            replace p12 := eq_true p12
            replace q12 := eq_true q12
            have p14 : 0 ≤ (x3_2 : Int) := of_decide_eq_true ap0
            have q14 : x3_2 < (a0.size : Int) := of_decide_eq_true ap0
            have hx14 := bt_at a0 x3_2
            replace p14 := eq_true p14
            replace q14 := eq_true q14
            have p16 : 0 ≤ (x3_2 : Int) := of_decide_eq_true ap0
            have q16 : x3_2 < (a0.size : Int) := of_decide_eq_true ap0
            have hx16 := bt_at a0 x3_2
            replace p16 := eq_true p16
            replace q16 := eq_true q16
            have p22 : 0 ≤ (x3_2 : Int) := of_decide_eq_true ap0
            have q22 : x3_2 < (a0.size : Int) := of_decide_eq_true ap0
            have hx22 := bt_at a0 x3_2
            replace p22 := eq_true p22
            replace q22 := eq_true q22
            go_wp2
            go_roundg k2
            case measure => have := HJ1.out; have := HK2.out; omega
            case rel => exact ⟨(wrap64 (x3_2 + 1)), ap2, H', ⟨by have := HJ1.out; have := HK2.out; omega⟩, by repeat (first | exact Drawn0.refl _ | apply Drawn0.step)⟩
           ·
            rw [if_neg c23] at H
            have c23b0 : ((bt a0 x3_2) == 45) = false := beq_eq_false_iff_ne.mpr c23
            have c23b1 : ((bt a0 x3_2) != 45) = true := bne_iff_ne.mpr c23
            obtain rfl := Option.some.inj H
            have p12 : 0 ≤ (x3_2 : Int) := of_decide_eq_true ap0
            have q12 : x3_2 < (a0.size : Int) := of_decide_eq_true ap0
            have hx12 := bt_at a0 x3_2
            replace p12 := eq_true p12
            replace q12 := eq_true q12
            have p14 : 0 ≤ (x3_2 : Int) := of_decide_eq_true ap0
            have q14 : x3_2 < (a0.size : Int) := of_decide_eq_true ap0
            have hx14 := bt_at a0 x3_2
            replace p14 := eq_true p14
            replace q14 := eq_true q14
            have p16 : 0 ≤ (x3_2 : Int) := of_decide_eq_true ap0
            have q16 : x3_2 < (a0.size : Int) := of_decide_eq_true ap0
            have hx16 := bt_at a0 x3_2
            replace p16 := eq_true p16
            replace q16 := eq_true q16
            have p22 : 0 ≤ (x3_2 : Int) := of_decide_eq_true ap0
            have q22 : x3_2 < (a0.size : Int) := of_decide_eq_true ap0
            have hx22 := bt_at a0 x3_2
            replace p22 := eq_true p22
            replace q22 := eq_true q22
            go_wp2
            go_ret
            exact ⟨ap2, ap7⟩
        ·
         rw [if_neg c13] at H
         have c13b0 := decide_eq_false c13
         clear c13
         by_cases c25 : (bt a0 x3_2) ≥ 48
         ·
          rw [if_pos c25] at H
          have c25b0 := decide_eq_true c25
          clear c25
          by_cases c27 : ((bt a0 x3_2) ≤ 57)
          ·
           rw [if_pos c27] at H
           have c27b0 := decide_eq_true c27
           clear c27
           have H' := Aside0.mk H
           clear H
           have p12 : 0 ≤ (x3_2 : Int) := of_decide_eq_true ap0
           have q12 : x3_2 < (a0.size : Int) := of_decide_eq_true ap0
           have hx12 := bt_at a0 x3_2
           replace p12 := eq_true p12
           replace q12 := eq_true q12
           have p24 : 0 ≤ (x3_2 : Int) := of_decide_eq_true ap0
           have q24 : x3_2 < (a0.size : Int) := of_decide_eq_true ap0
           have hx24 := bt_at a0 x3_2
           replace p24 := eq_true p24
           replace q24 := eq_true q24
           have p26 : 0 ≤ (x3_2 : Int) := of_decide_eq_true ap0
           have q26 : x3_2 < (a0.size : Int) := of_decide_eq_true ap0
           have hx26 := bt_at a0 x3_2
           replace p26 := eq_true p26
           replace q26 := eq_true q26
           go_wp2
           go_roundg k2
           case measure => have := HJ1.out; have := HK2.out; omega
           case rel => exact ⟨(wrap64 (x3_2 + 1)), ap2, H', ⟨by have := HJ1.out; have := HK2.out; omega⟩, by repeat (first | exact Drawn0.refl _ | apply Drawn0.step)⟩
          ·
           rw [if_neg c27] at H
           have c27b0 := decide_eq_false c27
           clear c27
           by_cases c29 : (bt a0 x3_2) = 45
           ·
            rw [if_pos c29] at H
            have c29b0 : ((bt a0 x3_2) == 45) = true := beq_iff_eq.mpr c29
            have c29b1 : ((bt a0 x3_2) != 45) = false := bne_eq_false_iff_eq.mpr c29
            clear c29
            have H' := Aside0.mk H
            clear H
            have p12 : 0 ≤ (x3_2 : Int) := of_decide_eq_true ap0
            have q12 : x3_2 < (a0.size : Int) := of_decide_eq_true ap0
            have hx12 := bt_at a0 x3_2
            replace p12 := eq_true p12
            replace q12 := eq_true q12
            have p24 : 0 ≤ (x3_2 : Int) := of_decide_eq_true ap0
            have q24 : x3_2 < (a0.size : Int) := of_decide_eq_true ap0
            have hx24 := bt_at a0 x3_2
            replace p24 := eq_true p24
            replace q24 := eq_true q24
            have p26 : 0 ≤ (x3_2 : Int) := of_decide_eq_true ap0
            have q26 : x3_2 < (a0.size : Int) := of_decide_eq_true ap0
            have hx26 := bt_at a0 x3_2
            replace p26 := eq_true p26
            replace q26 := eq_true q26
            have p28 : 0 ≤ (x3_2 : Int) := of_decide_eq_true ap0
            have q28 : x3_2 < (a0.size : Int) := of_decide_eq_true ap0
            have hx28 := bt_at a0 x3_2
            replace p28 := eq_true p28
            replace q28 := eq_true q28
            go_wp2
            go_roundg k2
            case measure => have := HJ1.out; have := HK2.out; omega
            case rel => exact ⟨(wrap64 (x3_2 + 1)), ap2, H', ⟨by have := HJ1.out; have := HK2.out; omega⟩, by repeat (first | exact Drawn0.refl _ | apply Drawn0.step)⟩
           ·
            rw [if_neg c29] at H
            have c29b0 : ((bt a0 x3_2) == 45) = false := beq_eq_false_iff_ne.mpr c29
            have c29b1 : ((bt a0 x3_2) != 45) = true := bne_iff_ne.mpr c29
            obtain rfl := Option.some.inj H
            have p12 : 0 ≤ (x3_2 : Int) := of_decide_eq_true ap0
            have q12 : x3_2 < (a0.size : Int) := of_decide_eq_true ap0
            have hx12 := bt_at a0 x3_2
            replace p12 := eq_true p12
            replace q12 := eq_true q12
            have p24 : 0 ≤ (x3_2 : Int) := of_decide_eq_true ap0
            have q24 : x3_2 < (a0.size : Int) := of_decide_eq_true ap0
            have hx24 := bt_at a0 x3_2
            replace p24 := eq_true p24
            replace q24 := eq_true q24
            have p26 : 0 ≤ (x3_2 : Int) := of_decide_eq_true ap0
            have q26 : x3_2 < (a0.size : Int) := of_decide_eq_true ap0
            have hx26 := bt_at a0 x3_2
            replace p26 := eq_true p26
            replace q26 := eq_true q26
            have p28 : 0 ≤ (x3_2 : Int) := of_decide_eq_true ap0
            have q28 : x3_2 < (a0.size : Int) := of_decide_eq_true ap0
            have hx28 := bt_at a0 x3_2
            replace p28 := eq_true p28
            replace q28 := eq_true q28
            go_wp2
            go_ret
            exact ⟨ap2, ap7⟩
         ·
          rw [if_neg c25] at H
          have c25b0 := decide_eq_false c25
          clear c25
          by_cases c31 : (bt a0 x3_2) = 45
          ·
           rw [if_pos c31] at H
           have c31b0 : ((bt a0 x3_2) == 45) = true := beq_iff_eq.mpr c31
           have c31b1 : ((bt a0 x3_2) != 45) = false := bne_eq_false_iff_eq.mpr c31
           clear c31
           have H' := Aside0.mk H
           clear H
           have p12 : 0 ≤ (x3_2 : Int) := of_decide_eq_true ap0
           have q12 : x3_2 < (a0.size : Int) := of_decide_eq_true ap0
           have hx12 := bt_at a0 x3_2
           replace p12 := eq_true p12
           replace q12 := eq_true q12
           have p24 : 0 ≤ (x3_2 : Int) := of_decide_eq_true ap0
           have q24 : x3_2 < (a0.size : Int) := of_decide_eq_true ap0
           have hx24 := bt_at a0 x3_2
           replace p24 := eq_true p24
           replace q24 := eq_true q24
           have p30 : 0 ≤ (x3_2 : Int) := of_decide_eq_true ap0
           have q30 : x3_2 < (a0.size : Int) := of_decide_eq_true ap0
           have hx30 := bt_at a0 x3_2
           replace p30 := eq_true p30
           replace q30 := eq_true q30
           go_wp2
           go_roundg k2
           case measure => have := HJ1.out; have := HK2.out; omega
           case rel => exact ⟨(wrap64 (x3_2 + 1)), ap2, H', ⟨by have := HJ1.out; have := HK2.out; omega⟩, by repeat (first | exact Drawn0.refl _ | apply Drawn0.step)⟩
          ·
           rw [if_neg c31] at H
           have c31b0 : ((bt a0 x3_2) == 45) = false := beq_eq_false_iff_ne.mpr c31
           have c31b1 : ((bt a0 x3_2) != 45) = true := bne_iff_ne.mpr c31
           obtain rfl := Option.some.inj H
           have p12 : 0 ≤ (x3_2 : Int) := of_decide_eq_true ap0
           have q12 : x3_2 < (a0.size : Int) := of_decide_eq_true ap0
           have hx12 := bt_at a0 x3_2
           replace p12 := eq_true p12
           replace q12 := eq_true q12
           have p24 : 0 ≤ (x3_2 : Int) := of_decide_eq_true ap0
           have q24 : x3_2 < (a0.size : Int) := of_decide_eq_true ap0
           have hx24 := bt_at a0 x3_2
           replace p24 := eq_true p24
           replace q24 := eq_true q24
           have p30 : 0 ≤ (x3_2 : Int) := of_decide_eq_true ap0
           have q30 : x3_2 < (a0.size : Int) := of_decide_eq_true ap0
           have hx30 := bt_at a0 x3_2
           replace p30 := eq_true p30
           replace q30 := eq_true q30
           go_wp2
           go_ret
           exact ⟨ap2, ap7⟩
       ·
        rw [if_neg c11] at H
        exact absurd H (by simp)
      ·
       rw [if_neg c10] at H
       have c10b0 := decide_eq_false c10
       clear c10
       obtain rfl := Option.some.inj H
       go_wp2
       go_ret
       exact ⟨ap2, ap7⟩
end Go.Proofs.YtkklacijhmoopaaGreatDoor.Print
namespace Go.Proofs.YtkklacijhmoopaaGreatDoor.Print
open Go.RowKit Go.Proofs.YtkklacijhmoopaaGreatDoorW.PrintWords Go.Proofs.YtkklacijhmoopaaGreatDoorW.PrintLast Go.Proofs.YtkklacijhmoopaaGreatDoorW.PrintMore Go.Proofs.YtkklacijhmoopaaGreatDoor.Pure
set_option linter.unusedVariables false
set_option linter.unusedSimpArgs false
theorem refType_ev (s : ByteArray) (hs : s.size ≤ 1000000) : Ev (fun k => R15Type.f k s) (typeOk (bl s)) := by
  have hl : ∀ (n p : Nat), s.size - p = n → p ≤ s.size → Ev (fun k => R15Type.l0 k s (p : Int)) (((bl s).drop p).all typeB) := by
    intro n
    induction n with
    | zero =>
      intro p hn hp
      rw [drop_end (by omega)]
      show Ev _ true
      exact Ev.step (fun k => by rw [R15Type.l0]) (Ev.neg (by omega) Ev.rfl')
    | succ n ih =>
      intro p hn hp
      cases hr : (bl s).drop p with
      | nil => have := drop_nil hr; omega
      | cons c r =>
        obtain ⟨g1, g2, g3⟩ := drop_cons hr
        have hi := ih (p + 1) (by omega) (by omega)
        rw [g3] at hi
        have h45 : ((c.toNat : Int) = 45) ↔ c = 45 := ieq c 45
        refine Ev.step (fun k => by rw [R15Type.l0]) ?_
        rw [g2, wsucc (by omega), List.all_cons]
        by_cases q1 : 97 ≤ c.toNat ∧ c.toNat ≤ 122
        · rw [show typeB c = true by simp [typeB, q1]]
          simp (disch := omega) only [if_pos, if_neg]
          simpa using hi
        by_cases q4 : 48 ≤ c.toNat ∧ c.toNat ≤ 57
        · rw [show typeB c = true by simp [typeB, q4]]
          simp (disch := omega) only [if_pos, if_neg]
          simpa using hi
        by_cases q2 : c = 45
        · rw [show typeB c = true by subst q2; rfl]
          have := h45.2 q2
          simp (disch := omega) only [if_pos, if_neg]
          simpa using hi
        have q3 : (c.toNat : Int) ≠ 45 := fun h => q2 (h45.1 h)
        rw [show typeB c = false by simp [typeB, q2]; omega]
        have e : Ev (fun (_ : Nat) => some false) (false && r.all typeB) := Ev.rfl'
        by_cases a1 : 97 ≤ c.toNat
        · simp (disch := omega) only [if_pos, if_neg]; exact e
        · by_cases a2 : c.toNat < 48
          · simp (disch := omega) only [if_pos, if_neg]; exact e
          · simp (disch := omega) only [if_pos, if_neg]; exact e
  have hjt : Ev (fun k => R15Type.j0 k s true) false := Ev.step (fun k => by rw [R15Type.j0]) (Ev.pos rfl Ev.rfl')
  have hjf : Ev (fun k => R15Type.j0 k s false) ((bl s).all typeB) := Ev.step (fun k => by rw [R15Type.j0]) (Ev.neg (by simp) (by simpa using hl _ 0 rfl (Nat.zero_le _)))
  unfold R15Type.f
  cases hr : bl s with
  | nil =>
    have : s.size = 0 := by rw [← bl_length, hr]; rfl
    exact Ev.pos (by omega) hjt
  | cons c r =>
    have hlen : s.size = (c :: r).length := by rw [← bl_length, hr]
    obtain ⟨_, g2⟩ := bt_get (s := s) (p := 0) (c := c) (by rw [hr]; rfl)
    have g2' : bt s 0 = (c.toNat : Int) := g2
    rw [hr] at hjf
    have hl1 : 1 ≤ (c :: r).length := by simp
    refine Ev.neg (by omega) ?_
    unfold typeOk
    dsimp only
    rw [← hlen, g2']
    by_cases h32 : s.size ≤ 32
    · refine Ev.neg (by omega) (Ev.pos (by omega) ?_)
      rw [decide_eq_true h32, Bool.and_true]
      by_cases q1 : 97 ≤ c.toNat ∧ c.toNat ≤ 122
      · rw [decide_eq_true q1, Bool.true_and]
        refine Ev.neg (by omega) ?_
        rw [decide_eq_false (by omega)]; exact hjf
      · rw [decide_eq_false q1, Bool.false_and]
        by_cases a1 : c.toNat < 97
        · exact Ev.pos (by omega) hjt
        · refine Ev.neg (by omega) ?_
          rw [decide_eq_true (by omega)]; exact hjt
    · rw [decide_eq_false h32, Bool.and_false]
      exact Ev.pos (by omega) hjt
end Go.Proofs.YtkklacijhmoopaaGreatDoor.Print
namespace Go.Proofs.YtkklacijhmoopaaGreatDoor.Print
open Go.RowKit Go.Proofs.YtkklacijhmoopaaGreatDoorW.PrintWords Go.Proofs.YtkklacijhmoopaaGreatDoorW.PrintLast Go.Proofs.YtkklacijhmoopaaGreatDoorW.PrintMore
attribute [local go_sem] max2_int min2_int max_two min_two max_three min_three max_four min_four
set_option linter.unusedVariables false
set_option linter.unusedSimpArgs false
def R15Value.f (k : Nat) (a0 : ByteArray) : Option (Bool) := (R13Ready.f k a0 true).bind fun bt299 => (if (a0.size : Int) ≤ 255 then (if bt299.2 = 0 then (some (decide ((bt299.1.size : Int) > 0))) else (some false)) else (some false))
set_option maxHeartbeats 8000000 in
set_option maxRecDepth 100000 in
theorem R15Value.calls (k : Nat) (a0 : ByteArray) (r : Bool) (w : World) (h : R15Value.f k a0 = some r) :
  Calls Tryz.prog 32 #[.string a0] w fun e w' => e = .returned (.bool r) ∧ Below w.heap.size w w' := by
 have HB := Aside0.mk (Below.refl w.heap.size w)
 have H : ((R13Ready.f k a0 true).bind fun bt299 => (if (a0.size : Int) ≤ 255 then (if bt299.2 = 0 then (some (decide ((bt299.1.size : Int) > 0))) else (some false)) else (some false))) = some r := h
 clear h
 replace H := Option.bind_eq_some_iff.mp H
 obtain ⟨⟨t299, t300⟩, A20, H⟩ := H
 replace H : (if (a0.size : Int) ≤ 255 then (if t300 = 0 then (some (decide ((t299.size : Int) > 0))) else (some false)) else (some false)) = some r := H
 have A2 := Aside0.mk A20
 clear A20
 by_cases c3 : (a0.size : Int) ≤ 255
 ·
  rw [if_pos c3] at H
  have c3b0 := decide_eq_true c3
  have c3b1 : decide (a0.size ≤ 255) = true := decide_eq_true (by omega)
  clear c3
  by_cases c4 : t300 = 0
  ·
   rw [if_pos c4] at H
   have c4b0 : (t300 == 0) = true := beq_iff_eq.mpr c4
   have c4b1 : (t300 != 0) = false := bne_eq_false_iff_eq.mpr c4
   clear c4
   obtain rfl := Option.some.inj H
   go_enter Tryz.func32, Tryz.ntmps32
   go_wp2_with (first | ((with_reducible refine gate_callee (f := 23) rfl ?_); refine goesL_ (some 7) rfl rfl Tryz.func23 (by kernel_rfl) rfl #[.string a0, .bool true] rfl ap3 ?_; (with_reducible refine (R13Ready.calls k a0 true t299 t300 _ A2.out).mono ?_); rintro e w5 ⟨rfl, hb⟩; refine ⟨_, rfl, ?_⟩; have n0_ := Aside0.mk (below_step ap1 hb); clear HB; have HB := n0_; clear n0_; (try clear hb); (try clear hb2); (try clear hk); (try clear hi)))
   go_ret
   exact ⟨by first | rfl | (simp [errW_none, errW_some, bne_nil8, beq_nil8]; done) | (simp [errW_none, errW_some] <;> rfl) | (simp [*, errW_none, errW_some] <;> rfl), by repeat (first | (with_reducible first | exact HB.out | apply below_alloc | apply pw_below_drewN | apply below_drew1) | exact HB.out)⟩
  ·
   rw [if_neg c4] at H
   have c4b0 : (t300 == 0) = false := beq_eq_false_iff_ne.mpr c4
   have c4b1 : (t300 != 0) = true := bne_iff_ne.mpr c4
   obtain rfl := Option.some.inj H
   go_enter Tryz.func32, Tryz.ntmps32
   go_wp2_with (first | ((with_reducible refine gate_callee (f := 23) rfl ?_); refine goesL_ (some 7) rfl rfl Tryz.func23 (by kernel_rfl) rfl #[.string a0, .bool true] rfl ap3 ?_; (with_reducible refine (R13Ready.calls k a0 true t299 t300 _ A2.out).mono ?_); rintro e w6 ⟨rfl, hb⟩; refine ⟨_, rfl, ?_⟩; have n0_ := Aside0.mk (below_step ap1 hb); clear HB; have HB := n0_; clear n0_; (try clear hb); (try clear hb2); (try clear hk); (try clear hi)))
   go_ret
   exact ⟨by first | rfl | (simp [errW_none, errW_some, bne_nil8, beq_nil8]; done) | (simp [errW_none, errW_some] <;> rfl) | (simp [*, errW_none, errW_some] <;> rfl), by repeat (first | (with_reducible first | exact HB.out | apply below_alloc | apply pw_below_drewN | apply below_drew1) | exact HB.out)⟩
 ·
  rw [if_neg c3] at H
  have c3b0 := decide_eq_false c3
  have c3b1 : decide (a0.size ≤ 255) = false := decide_eq_false (by omega)
  clear c3
  obtain rfl := Option.some.inj H
  go_enter Tryz.func32, Tryz.ntmps32
  go_wp2_with (first | ((with_reducible refine gate_callee (f := 23) rfl ?_); refine goesL_ (some 7) rfl rfl Tryz.func23 (by kernel_rfl) rfl #[.string a0, .bool true] rfl ap3 ?_; (with_reducible refine (R13Ready.calls k a0 true t299 t300 _ A2.out).mono ?_); rintro e w7 ⟨rfl, hb⟩; refine ⟨_, rfl, ?_⟩; have n0_ := Aside0.mk (below_step ap1 hb); clear HB; have HB := n0_; clear n0_; (try clear hb); (try clear hb2); (try clear hk); (try clear hi)))
  go_ret
  exact ⟨by first | rfl | (simp [errW_none, errW_some, bne_nil8, beq_nil8]; done) | (simp [errW_none, errW_some] <;> rfl) | (simp [*, errW_none, errW_some] <;> rfl), by repeat (first | (with_reducible first | exact HB.out | apply below_alloc | apply pw_below_drewN | apply below_drew1) | exact HB.out)⟩
mutual
def R15Rdn.j0 : Nat → List (S40) → Bool → Option (Bool)
 | 0, _, _ => none
 | k + 1, x0, x12 => if x12 = true then (some false) else (R15Rdn.l0 k x0 0)
def R15Rdn.l0 : Nat → List (S40) → Int → Option (Bool)
 | 0, _, _ => none
 | k + 1, x0, x3 => if x3 < (x0.length : Int) then (if 0 ≤ x3 then ((R15Type.f k ((rd_T40 x0 x3).f0)).bind fun t302 => (if t302 = true then ((R15Value.f k ((rd_T40 x0 x3).f1)).bind fun t304 => (R15Rdn.j2 k x0 x3 (!t304))) else (R15Rdn.j2 k x0 x3 true))) else (none)) else (some true)
def R15Rdn.j2 : Nat → List (S40) → Int → Bool → Option (Bool)
 | 0, _, _, _ => none
 | k + 1, x0, x3, x34 => if x34 = true then (some false) else (R15Rdn.l1 k x0 x3 0)
def R15Rdn.l1 : Nat → List (S40) → Int → Int → Option (Bool)
 | 0, _, _, _ => none
 | k + 1, x0, x3, x4 => if x4 < x3 then (if 0 ≤ x4 then (if x4 < (x0.length : Int) then (if 0 ≤ x3 then (if x3 < (x0.length : Int) then (if ((rd_T40 x0 x4).f0).toList = ((rd_T40 x0 x3).f0).toList then (some false) else (R15Rdn.l1 k x0 x3 (wrap64 (x4 + 1)))) else (none)) else (none)) else (none)) else (none)) else (R15Rdn.l0 k x0 (wrap64 (x3 + 1)))
end
def R15Rdn.f (k : Nat) (l0 : List (S40)) : Option (Bool) := if (l0.length : Int) = 0 then (R15Rdn.j0 k l0 true) else (R15Rdn.j0 k l0 (decide ((l0.length : Int) > 4)))
set_option maxHeartbeats 8000000 in
set_option maxRecDepth 100000 in
theorem R15Rdn.calls (k : Nat) (A0 : Option Addr) (c0 : Nat) (l0 : List (S40)) (r : Bool) (w : World) (hr0 : Kd.C k40 w A0 l0.length l0) (hc0 : l0.length ≤ c0) (h : R15Rdn.f k l0 = some r) :
  Calls Tryz.prog 18 #[.slice A0 l0.length c0] w fun e w' => e = .returned (.bool r) ∧ Below w.heap.size w w' := by
 have HR0 := Aside0.mk hr0
 have HC0 := Aside0.mk hc0
 clear hr0 hc0
 have HB := Aside0.mk (Below.refl w.heap.size w)
 have H : (if (l0.length : Int) = 0 then (R15Rdn.j0 k l0 true) else (R15Rdn.j0 k l0 (decide ((l0.length : Int) > 4)))) = some r := h
 clear h
 have HC2 := Aside0.mk H
 clear H
 go_enter Tryz.func18, Tryz.ntmps18
 go_upto_region 1 with (fail)
 repeat (go_quiet (fail); go_upto_region 1 with (fail))
 go_cut [12] (fun v12 wc => ∃ (kq : Nat) (x12_1 : Bool), v12 = .bool x12_1 ∧ Aside0 (R15Rdn.j0 kq l0 x12_1 = some r) ∧ Aside0 (kq ≤ k) ∧ Aside0 (Below w.heap.size w wc))
 case first =>
  have H := HC2.out
  clear HC2
  by_cases c3 : (l0.length : Int) = 0
  ·
   rw [if_pos c3] at H
   have c3b0 : ((l0.length : Int) == 0) = true := beq_iff_eq.mpr c3
   have c3b1 : ((l0.length : Int) != 0) = false := bne_eq_false_iff_eq.mpr c3
   clear c3
   (first | rw [c3b0] | (simp only [i64_w, i32_w]; rw [c3b0]) | skip)
   have H' := Aside0.mk H
   clear H
   go_wp2
   repeat (go_quiet (fail); try go_wp2)
   first | go_meet | (simp only [c3b0] at *; go_meet)
   case rel => exact ⟨_, (true), ap2, H', ⟨by first | omega | exact Nat.le_refl _⟩, ⟨by repeat (first | (with_reducible first | exact HB.out | apply below_alloc | apply pw_below_drewN | apply below_drew1) | exact HB.out)⟩⟩
  ·
   rw [if_neg c3] at H
   have c3b0 : ((l0.length : Int) == 0) = false := beq_eq_false_iff_ne.mpr c3
   have c3b1 : ((l0.length : Int) != 0) = true := bne_iff_ne.mpr c3
   have c3b2 : ¬ (l0 = []) := fun h_ => c3 (by rw [h_]; rfl)
   (first | rw [c3b0] | (simp only [i64_w, i32_w]; rw [c3b0]) | skip)
   have H' := Aside0.mk H
   clear H
   go_wp2
   repeat (go_quiet (fail); try go_wp2)
   first | go_meet | (simp only [c3b0] at *; go_meet) | (simp only [c3b0] at *; go_meet)
   case rel => exact ⟨_, (decide ((l0.length : Int) > 4)), ap2, H', ⟨by first | omega | exact Nat.le_refl _⟩, ⟨by repeat (first | (with_reducible first | exact HB.out | apply below_alloc | apply pw_below_drewN | apply below_drew1) | exact HB.out)⟩⟩
 case rest =>
  clear HC2
  try clear c1
  try clear p2
  try clear c3
  try clear c3b0
  try clear c3b1
  try clear c3b2
  obtain ⟨kq, x12_1, rfl, HA, HJ1, HB⟩ := hcut
  cases kq with
  | zero => exact absurd HA.out (by simp [R15Rdn.j0])
  | succ kj1 =>
   have H := HA.out
   clear HA
   simp only [R15Rdn.j0] at H
   by_cases c4 : x12_1 = true
   ·
    subst c4
    rw [if_pos rfl] at H
    obtain rfl := Option.some.inj H
    go_wp2
    repeat (go_quiet (fail); try go_wp2)
    go_ret
    exact ⟨by first | rfl | (simp [errW_none, errW_some, bne_nil8, beq_nil8]; done) | (simp [errW_none, errW_some] <;> rfl) | (simp [*, errW_none, errW_some] <;> rfl), by repeat (first | (with_reducible first | exact HB.out | apply below_alloc | apply pw_below_drewN | apply below_drew1) | exact HB.out)⟩
   ·
    replace c4 := Bool.eq_false_iff.mpr c4
    subst c4
    rw [if_neg (show ¬ (false = true) by decide)] at H
    have H' := Aside0.mk H
    clear H
    go_wp2
    repeat (go_quiet (fail); try go_wp2)
    go_loopg [3] kj1 (fun kq v3 w' => ∃ (x3_2 : Int), v3 = .int .i64 x3_2 ∧ Aside0 (R15Rdn.l0 kq l0 x3_2 = some r) ∧ Aside0 (kq ≤ kj1) ∧ Aside0 (Below w.heap.size w w'))
    case atStart => exact ⟨(0), ap2, H', ⟨Nat.le_refl _⟩, ⟨by repeat (first | (with_reducible first | exact HB.out | apply below_alloc | apply pw_below_drewN | apply below_drew1) | exact HB.out)⟩⟩
    case round =>
     clear H'
     try clear c1
     try clear p2
     try clear c3
     try clear c3b0
     try clear c3b1
     try clear c3b2
     try clear c4
     try clear p2
     obtain ⟨x3_2, rfl, HA, HK2, HB⟩ := hrel
     cases gk with
     | zero => exact absurd HA.out (by simp [R15Rdn.l0])
     | succ k2 =>
      have H := HA.out
      clear HA
      simp only [R15Rdn.l0] at H
      by_cases c5 : x3_2 < (l0.length : Int)
      ·
       rw [if_pos c5] at H
       have c5b0 := decide_eq_true c5
       clear c5
       have HC6 := Aside0.mk H
       clear H
       go_upto_region 6 with (fail)
       repeat (go_quiet (fail); go_upto_region 6 with (fail))
       go_cut [34] (fun v34 wc => ∃ (kq : Nat) (x34_5 : Bool), v34 = .bool x34_5 ∧ Aside0 (R15Rdn.j2 kq l0 x3_2 x34_5 = some r) ∧ Aside0 (kq ≤ k2) ∧ Aside0 (Below w.heap.size w wc))
       case first =>
        have H := HC6.out
        clear HC6
        by_cases c7 : 0 ≤ x3_2
        ·
         rw [if_pos c7] at H
         have c7b0 := decide_eq_true c7
         clear c7
         (first | rw [c7b0] | (simp only [i64_w, i32_w]; rw [c7b0]) | skip)
         replace H := Option.bind_eq_some_iff.mp H
         obtain ⟨t302, A80, H⟩ := H
         replace H : (if t302 = true then ((R15Value.f k2 ((rd_T40 l0 x3_2).f1)).bind fun t304 => (R15Rdn.j2 k2 l0 x3_2 (!t304))) else (R15Rdn.j2 k2 l0 x3_2 true)) = some r := H
         have A8 := Aside0.mk A80
         clear A80
         by_cases c9 : t302 = true
         ·
          subst c9
          rw [if_pos rfl] at H
          replace H := Option.bind_eq_some_iff.mp H
          obtain ⟨t304, A100, H⟩ := H
          replace H : (R15Rdn.j2 k2 l0 x3_2 (!t304)) = some r := H
          have A10 := Aside0.mk A100
          clear A100
          have H' := Aside0.mk H
          clear H
          have p301 : 0 ≤ (x3_2 : Int) := of_decide_eq_true ap0
          have q301 : x3_2 < (l0.length : Int) := of_decide_eq_true ap0
          obtain ⟨ad301, e301, hx301_0, hx301_1⟩ := at_T40 HR0.out x3_2 p301 q301
          cases e301
          replace hx301_0 := (HB.out.cell (World.block_lt_of_cell? w _ hx301_0)).trans hx301_0
          replace hx301_1 := (HB.out.cell (World.block_lt_of_cell? w _ hx301_1)).trans hx301_1
          replace p301 := eq_true p301
          replace q301 := eq_true q301
          go_wp2_with (first | (go_at_call 31; (with_reducible refine (R15Type.calls k2 ((rd_T40 l0 x3_2).f0) true _ A8.out).mono ?_); rintro e w' ⟨rfl, ⟨nd, rfl⟩⟩; (try exact ap4); have p303 : 0 ≤ (x3_2 : Int) := of_decide_eq_true ap0; have q303 : x3_2 < (l0.length : Int) := of_decide_eq_true ap0; obtain ⟨ad303, e303, hx303_0, hx303_1⟩ := at_T40 HR0.out x3_2 p303 q303; obtain rfl : ad301 = ad303 := (by injection e303); replace hx303_0 := (HB.out.cell (World.block_lt_of_cell? w _ hx303_0)).trans hx303_0; replace hx303_1 := (HB.out.cell (World.block_lt_of_cell? w _ hx303_1)).trans hx303_1; replace p303 := eq_true p303; replace q303 := eq_true q303) | (go_at_call 32; (with_reducible refine (R15Value.calls k2 ((rd_T40 l0 x3_2).f1) t304 _ A10.out).mono ?_); rintro e w11 ⟨rfl, hb⟩; have n0_ := Aside0.mk (below_step ap1 hb); clear HB; have HB := n0_; clear n0_; (try clear hb); (try clear hb2); (try clear hk); (try clear hi)))
          repeat (go_quiet (first | (go_at_call 31; (with_reducible refine (R15Type.calls k2 ((rd_T40 l0 x3_2).f0) true _ A8.out).mono ?_); rintro e w' ⟨rfl, ⟨nd, rfl⟩⟩; (try exact ap4); have p303 : 0 ≤ (x3_2 : Int) := of_decide_eq_true ap0; have q303 : x3_2 < (l0.length : Int) := of_decide_eq_true ap0; obtain ⟨ad303, e303, hx303_0, hx303_1⟩ := at_T40 HR0.out x3_2 p303 q303; obtain rfl : ad301 = ad303 := (by injection e303); replace hx303_0 := (HB.out.cell (World.block_lt_of_cell? w _ hx303_0)).trans hx303_0; replace hx303_1 := (HB.out.cell (World.block_lt_of_cell? w _ hx303_1)).trans hx303_1; replace p303 := eq_true p303; replace q303 := eq_true q303) | (go_at_call 32; (with_reducible refine (R15Value.calls k2 ((rd_T40 l0 x3_2).f1) t304 _ A10.out).mono ?_); rintro e w11 ⟨rfl, hb⟩; have n0_ := Aside0.mk (below_step ap1 hb); clear HB; have HB := n0_; clear n0_; (try clear hb); (try clear hb2); (try clear hk); (try clear hi))); try go_wp2_with (first | (go_at_call 31; (with_reducible refine (R15Type.calls k2 ((rd_T40 l0 x3_2).f0) true _ A8.out).mono ?_); rintro e w' ⟨rfl, ⟨nd, rfl⟩⟩; (try exact ap4); have p303 : 0 ≤ (x3_2 : Int) := of_decide_eq_true ap0; have q303 : x3_2 < (l0.length : Int) := of_decide_eq_true ap0; obtain ⟨ad303, e303, hx303_0, hx303_1⟩ := at_T40 HR0.out x3_2 p303 q303; obtain rfl : ad301 = ad303 := (by injection e303); replace hx303_0 := (HB.out.cell (World.block_lt_of_cell? w _ hx303_0)).trans hx303_0; replace hx303_1 := (HB.out.cell (World.block_lt_of_cell? w _ hx303_1)).trans hx303_1; replace p303 := eq_true p303; replace q303 := eq_true q303) | (go_at_call 32; (with_reducible refine (R15Value.calls k2 ((rd_T40 l0 x3_2).f1) t304 _ A10.out).mono ?_); rintro e w11 ⟨rfl, hb⟩; have n0_ := Aside0.mk (below_step ap1 hb); clear HB; have HB := n0_; clear n0_; (try clear hb); (try clear hb2); (try clear hk); (try clear hi))))
          first | go_meet | (simp only [c3b0] at *; go_meet) | (simp only [c3b0] at *; go_meet)
          case rel => exact ⟨_, (!t304), ap2, H', ⟨by have := HJ1.out; have := HK2.out; first | omega | exact Nat.le_refl _⟩, ⟨by repeat (first | (with_reducible first | exact HB.out | apply below_alloc | apply pw_below_drewN | apply below_drew1) | exact HB.out)⟩⟩
         ·
          replace c9 := Bool.eq_false_iff.mpr c9
          subst c9
          rw [if_neg (show ¬ (false = true) by decide)] at H
          have H' := Aside0.mk H
          clear H
          have p301 : 0 ≤ (x3_2 : Int) := of_decide_eq_true ap0
          have q301 : x3_2 < (l0.length : Int) := of_decide_eq_true ap0
          obtain ⟨ad301, e301, hx301_0, hx301_1⟩ := at_T40 HR0.out x3_2 p301 q301
          cases e301
          replace hx301_0 := (HB.out.cell (World.block_lt_of_cell? w _ hx301_0)).trans hx301_0
          replace hx301_1 := (HB.out.cell (World.block_lt_of_cell? w _ hx301_1)).trans hx301_1
          replace p301 := eq_true p301
          replace q301 := eq_true q301
          go_wp2_with (first | (go_at_call 31; (with_reducible refine (R15Type.calls k2 ((rd_T40 l0 x3_2).f0) false _ A8.out).mono ?_); rintro e w' ⟨rfl, ⟨nd, rfl⟩⟩; (try exact ap4)))
          repeat (go_quiet (first | (go_at_call 31; (with_reducible refine (R15Type.calls k2 ((rd_T40 l0 x3_2).f0) false _ A8.out).mono ?_); rintro e w' ⟨rfl, ⟨nd, rfl⟩⟩; (try exact ap4))); try go_wp2_with (first | (go_at_call 31; (with_reducible refine (R15Type.calls k2 ((rd_T40 l0 x3_2).f0) false _ A8.out).mono ?_); rintro e w' ⟨rfl, ⟨nd, rfl⟩⟩; (try exact ap4))))
          first | go_meet | (simp only [c3b0] at *; go_meet) | (simp only [c3b0] at *; go_meet)
          case rel => exact ⟨_, (true), ap2, H', ⟨by have := HJ1.out; have := HK2.out; first | omega | exact Nat.le_refl _⟩, ⟨by repeat (first | (with_reducible first | exact HB.out | apply below_alloc | apply pw_below_drewN | apply below_drew1) | exact HB.out)⟩⟩
        ·
         rw [if_neg c7] at H
         exact absurd H (by simp)
       case rest =>
        clear HC6
        try clear c1
        try clear p2
        try clear c3
        try clear c3b0
        try clear c3b1
        try clear c3b2
        try clear p3
        try clear q3
        try clear hx3
        try clear c4
        try clear c5
        try clear c5b0
        try clear c7
        try clear c7b0
        try clear c9
        try clear hx301_0
        try clear hx301_1
        try clear hx303_0
        try clear hx303_1
        try clear p2
        try clear p301
        try clear p303
        try clear q301
        try clear q303
        obtain ⟨kq, x34_5, rfl, HA, HJ5, HB⟩ := hcut
        cases kq with
        | zero => exact absurd HA.out (by simp [R15Rdn.j2])
        | succ kj5 =>
         have H := HA.out
         clear HA
         simp only [R15Rdn.j2] at H
         by_cases c12 : x34_5 = true
         ·
          subst c12
          rw [if_pos rfl] at H
          obtain rfl := Option.some.inj H
          go_wp2
          repeat (go_quiet (fail); try go_wp2)
          go_ret
          exact ⟨by first | rfl | (simp [errW_none, errW_some, bne_nil8, beq_nil8]; done) | (simp [errW_none, errW_some] <;> rfl) | (simp [*, errW_none, errW_some] <;> rfl), by repeat (first | (with_reducible first | exact HB.out | apply below_alloc | apply pw_below_drewN | apply below_drew1) | exact HB.out)⟩
         ·
          replace c12 := Bool.eq_false_iff.mpr c12
          subst c12
          rw [if_neg (show ¬ (false = true) by decide)] at H
          have H' := Aside0.mk H
          clear H
          go_wp2
          repeat (go_quiet (fail); try go_wp2)
          go_loopg [4] kj5 (fun kq v4 w' => ∃ (x4_4 : Int), v4 = .int .i64 x4_4 ∧ Aside0 (R15Rdn.l1 kq l0 x3_2 x4_4 = some r) ∧ Aside0 (kq ≤ kj5) ∧ Aside0 (Below w.heap.size w w'))
          case atStart => exact ⟨(0), ap2, H', ⟨Nat.le_refl _⟩, ⟨by repeat (first | (with_reducible first | exact HB.out | apply below_alloc | apply pw_below_drewN | apply below_drew1) | exact HB.out)⟩⟩
          case round =>
           clear H'
           try clear c1
           try clear p2
           try clear c3
           try clear c3b0
           try clear c3b1
           try clear c3b2
           try clear p3
           try clear q3
           try clear hx3
           try clear c4
           try clear c5
           try clear c5b0
           try clear c7
           try clear c7b0
           try clear c9
           try clear c12
           try clear hx301_0
           try clear hx301_1
           try clear hx303_0
           try clear hx303_1
           try clear p2
           try clear p3
           try clear p301
           try clear p303
           try clear q3
           try clear q301
           try clear q303
           obtain ⟨x4_4, rfl, HA, HK4, HB⟩ := hrel
           cases gk with
           | zero => exact absurd HA.out (by simp [R15Rdn.l1])
           | succ k4 =>
            have H := HA.out
            clear HA
            simp only [R15Rdn.l1] at H
            by_cases c13 : x4_4 < x3_2
            ·
             rw [if_pos c13] at H
             have c13b0 := decide_eq_true c13
             clear c13
             by_cases c14 : 0 ≤ x4_4
             ·
              rw [if_pos c14] at H
              have c14b0 := decide_eq_true c14
              clear c14
              by_cases c15 : x4_4 < (l0.length : Int)
              ·
               rw [if_pos c15] at H
               have c15b0 := decide_eq_true c15
               clear c15
               by_cases c16 : 0 ≤ x3_2
               ·
                rw [if_pos c16] at H
                have c16b0 := decide_eq_true c16
                clear c16
                by_cases c17 : x3_2 < (l0.length : Int)
                ·
                 rw [if_pos c17] at H
                 have c17b0 := decide_eq_true c17
                 clear c17
                 by_cases c18 : ((rd_T40 l0 x4_4).f0).toList = ((rd_T40 l0 x3_2).f0).toList
                 ·
                  rw [if_pos c18] at H
                  have c18b0 : (((rd_T40 l0 x4_4).f0).toList == ((rd_T40 l0 x3_2).f0).toList) = true := beq_iff_eq.mpr c18
                  have c18b1 : (((rd_T40 l0 x4_4).f0).toList != ((rd_T40 l0 x3_2).f0).toList) = false := bne_eq_false_iff_eq.mpr c18
                  clear c18
                  obtain rfl := Option.some.inj H
                  have p305 : 0 ≤ (x4_4 : Int) := of_decide_eq_true ap0
                  have q305 : x4_4 < (l0.length : Int) := of_decide_eq_true ap0
                  obtain ⟨ad305, e305, hx305_0, hx305_1⟩ := at_T40 HR0.out x4_4 p305 q305
                  cases e305
                  replace hx305_0 := (HB.out.cell (World.block_lt_of_cell? w _ hx305_0)).trans hx305_0
                  replace hx305_1 := (HB.out.cell (World.block_lt_of_cell? w _ hx305_1)).trans hx305_1
                  replace p305 := eq_true p305
                  replace q305 := eq_true q305
                  have p306 : 0 ≤ (x3_2 : Int) := of_decide_eq_true ap0
                  have q306 : x3_2 < (l0.length : Int) := of_decide_eq_true ap0
                  obtain ⟨ad306, e306, hx306_0, hx306_1⟩ := at_T40 HR0.out x3_2 p306 q306
                  obtain rfl : ad305 = ad306 := (by injection e306)
                  replace hx306_0 := (HB.out.cell (World.block_lt_of_cell? w _ hx306_0)).trans hx306_0
                  replace hx306_1 := (HB.out.cell (World.block_lt_of_cell? w _ hx306_1)).trans hx306_1
                  replace p306 := eq_true p306
                  replace q306 := eq_true q306
                  go_wp2
                  repeat (go_quiet (fail); try go_wp2)
                  go_ret
                  exact ⟨by first | rfl | (simp [errW_none, errW_some, bne_nil8, beq_nil8]; done) | (simp [errW_none, errW_some] <;> rfl) | (simp [*, errW_none, errW_some] <;> rfl), by repeat (first | (with_reducible first | exact HB.out | apply below_alloc | apply pw_below_drewN | apply below_drew1) | exact HB.out)⟩
                 ·
                  rw [if_neg c18] at H
                  have c18b0 : (((rd_T40 l0 x4_4).f0).toList == ((rd_T40 l0 x3_2).f0).toList) = false := beq_eq_false_iff_ne.mpr c18
                  have c18b1 : (((rd_T40 l0 x4_4).f0).toList != ((rd_T40 l0 x3_2).f0).toList) = true := bne_iff_ne.mpr c18
                  have H' := Aside0.mk H
                  clear H
                  have p305 : 0 ≤ (x4_4 : Int) := of_decide_eq_true ap0
                  have q305 : x4_4 < (l0.length : Int) := of_decide_eq_true ap0
                  obtain ⟨ad305, e305, hx305_0, hx305_1⟩ := at_T40 HR0.out x4_4 p305 q305
                  cases e305
                  replace hx305_0 := (HB.out.cell (World.block_lt_of_cell? w _ hx305_0)).trans hx305_0
                  replace hx305_1 := (HB.out.cell (World.block_lt_of_cell? w _ hx305_1)).trans hx305_1
                  replace p305 := eq_true p305
                  replace q305 := eq_true q305
                  have p306 : 0 ≤ (x3_2 : Int) := of_decide_eq_true ap0
                  have q306 : x3_2 < (l0.length : Int) := of_decide_eq_true ap0
                  obtain ⟨ad306, e306, hx306_0, hx306_1⟩ := at_T40 HR0.out x3_2 p306 q306
                  obtain rfl : ad305 = ad306 := (by injection e306)
                  replace hx306_0 := (HB.out.cell (World.block_lt_of_cell? w _ hx306_0)).trans hx306_0
                  replace hx306_1 := (HB.out.cell (World.block_lt_of_cell? w _ hx306_1)).trans hx306_1
                  replace p306 := eq_true p306
                  replace q306 := eq_true q306
                  go_wp2
                  repeat (go_quiet (fail); try go_wp2)
                  go_roundg k4
                  case measure => have := HJ1.out; have := HK2.out; have := HJ5.out; have := HK4.out; omega
                  case rel => exact ⟨(wrap64 (x4_4 + 1)), ap2, H', ⟨by have := HJ1.out; have := HK2.out; have := HJ5.out; have := HK4.out; omega⟩, ⟨by repeat (first | (with_reducible first | exact HB.out | apply below_alloc | apply pw_below_drewN | apply below_drew1) | exact HB.out)⟩⟩
                ·
                 rw [if_neg c17] at H
                 exact absurd H (by simp)
               ·
                rw [if_neg c16] at H
                exact absurd H (by simp)
              ·
               rw [if_neg c15] at H
               exact absurd H (by simp)
             ·
              rw [if_neg c14] at H
              exact absurd H (by simp)
            ·
             rw [if_neg c13] at H
             have c13b0 := decide_eq_false c13
             clear c13
             have H' := Aside0.mk H
             clear H
             go_wp2
             repeat (go_quiet (fail); try go_wp2)
             go_roundg k4
             case measure => have := HJ1.out; have := HK2.out; have := HJ5.out; have := HK4.out; omega
             case rel => exact ⟨(wrap64 (x3_2 + 1)), ap2, H', ⟨by have := HJ1.out; have := HK2.out; have := HJ5.out; have := HK4.out; omega⟩, ⟨by repeat (first | (with_reducible first | exact HB.out | apply below_alloc | apply pw_below_drewN | apply below_drew1) | exact HB.out)⟩⟩
      ·
       rw [if_neg c5] at H
       have c5b0 := decide_eq_false c5
       clear c5
       obtain rfl := Option.some.inj H
       go_wp2
       repeat (go_quiet (fail); try go_wp2)
       go_ret
       exact ⟨by first | rfl | (simp [errW_none, errW_some, bne_nil8, beq_nil8]; done) | (simp [errW_none, errW_some] <;> rfl) | (simp [*, errW_none, errW_some] <;> rfl), by repeat (first | (with_reducible first | exact HB.out | apply below_alloc | apply pw_below_drewN | apply below_drew1) | exact HB.out)⟩
def R15Right.l0 : Nat → List (List (S40)) → Int → Option (Bool)
 | 0, _, _ => none
 | k + 1, x0, x3 => if x3 < (x0.length : Int) then (if 0 ≤ x3 then ((R15Rdn.f k (rd_L8 x0 x3)).bind fun t308 => (if t308 = true then (R15Right.l0 k x0 (wrap64 (x3 + 1))) else (some false))) else (none)) else (some (decide ((x0.length : Int) ≤ 12)))
def R15Right.f (k : Nat) (l0 : List (List (S40))) : Option (Bool) := R15Right.l0 k l0 0
set_option maxHeartbeats 8000000 in
set_option maxRecDepth 100000 in
theorem R15Right.calls (k : Nat) (A0 : Option Addr) (c0 : Nat) (l0 : List (List (S40))) (r : Bool) (w : World) (hr0 : Kd.C (Kd.slice 40 k40) w A0 l0.length l0) (hc0 : l0.length ≤ c0) (h : R15Right.f k l0 = some r) :
  Calls Tryz.prog 7 #[.slice A0 l0.length c0] w fun e w' => e = .returned (.bool r) ∧ Below w.heap.size w w' := by
 have HR0 := Aside0.mk hr0
 have HC0 := Aside0.mk hc0
 clear hr0 hc0
 have HB := Aside0.mk (Below.refl w.heap.size w)
 have H : (R15Right.l0 k l0 0) = some r := h
 clear h
 have H' := Aside0.mk H
 clear H
 go_enter Tryz.func7, Tryz.ntmps7
 go_wp2
 go_loopg [3] k (fun kq v3 w' => ∃ (x3_1 : Int), v3 = .int .i64 x3_1 ∧ Aside0 (R15Right.l0 kq l0 x3_1 = some r) ∧ Aside0 (kq ≤ k) ∧ Aside0 (Below w.heap.size w w'))
 case atStart => exact ⟨(0), ap2, H', ⟨Nat.le_refl _⟩, ⟨by repeat (first | (with_reducible first | exact HB.out | apply below_alloc | apply pw_below_drewN | apply below_drew1) | exact HB.out)⟩⟩
 case round =>
  clear H'
  obtain ⟨x3_1, rfl, HA, HK1, HB⟩ := hrel
  cases gk with
  | zero => exact absurd HA.out (by simp [R15Right.l0])
  | succ k1 =>
   have H := HA.out
   clear HA
   simp only [R15Right.l0] at H
   by_cases c2 : x3_1 < (l0.length : Int)
   ·
    rw [if_pos c2] at H
    have c2b0 := decide_eq_true c2
    clear c2
    by_cases c3 : 0 ≤ x3_1
    ·
     rw [if_pos c3] at H
     have c3b0 := decide_eq_true c3
     clear c3
     replace H := Option.bind_eq_some_iff.mp H
     obtain ⟨t308, A40, H⟩ := H
     replace H : (if t308 = true then (R15Right.l0 k1 l0 (wrap64 (x3_1 + 1))) else (some false)) = some r := H
     have A4 := Aside0.mk A40
     clear A40
     by_cases c5 : t308 = true
     ·
      subst c5
      rw [if_pos rfl] at H
      have H' := Aside0.mk H
      clear H
      have p307 : 0 ≤ (x3_1 : Int) := of_decide_eq_true ap0
      have q307 : x3_1 < (l0.length : Int) := of_decide_eq_true ap0
      obtain ⟨ad307, A307_0, c307_0, e307, hx307_0, hl307_0, hi307_0⟩ := at_L8 HR0.out x3_1 p307 q307
      cases e307
      replace hx307_0 := (HB.out.cell (World.block_lt_of_cell? w _ hx307_0)).trans hx307_0
      have HR307_0 := Aside0.mk hi307_0
      have HC307_0 := Aside0.mk hl307_0
      clear hi307_0 hl307_0
      replace p307 := eq_true p307
      replace q307 := eq_true q307
      go_wp2_with (first | ((with_reducible refine gate_callee (f := 18) rfl ?_); refine goesL_ (some 14) rfl rfl Tryz.func18 (by kernel_rfl) rfl #[.slice A307_0 (rd_L8 l0 x3_1).length c307_0] rfl ap3 ?_; (with_reducible refine (R15Rdn.calls k1 _ _ (rd_L8 l0 x3_1) true _ ?side1 ?side2 A4.out).mono ?_); (case side1 => repeat (first | exact (Kd.C_below HR307_0.out HB.out) | (with_reducible refine Kd.C_alloc ?_ _) | (with_reducible refine Kd.C_drewN ?_ _) | (with_reducible refine Kd.C_drew ?_))); (case side2 => exact HC307_0.out); rintro e w6 ⟨rfl, hb⟩; refine ⟨_, rfl, ?_⟩; have n0_ := Aside0.mk (below_step ap1 hb); clear HB; have HB := n0_; clear n0_; (try clear hb); (try clear hb2); (try clear hk); (try clear hi)))
      go_roundg k1
      case measure => have := HK1.out; omega
      case rel => exact ⟨(wrap64 (x3_1 + 1)), ap2, H', ⟨by have := HK1.out; omega⟩, ⟨by repeat (first | (with_reducible first | exact HB.out | apply below_alloc | apply pw_below_drewN | apply below_drew1) | exact HB.out)⟩⟩
     ·
      replace c5 := Bool.eq_false_iff.mpr c5
      subst c5
      rw [if_neg (show ¬ (false = true) by decide)] at H
      obtain rfl := Option.some.inj H
      have p307 : 0 ≤ (x3_1 : Int) := of_decide_eq_true ap0
      have q307 : x3_1 < (l0.length : Int) := of_decide_eq_true ap0
      obtain ⟨ad307, A307_0, c307_0, e307, hx307_0, hl307_0, hi307_0⟩ := at_L8 HR0.out x3_1 p307 q307
      cases e307
      replace hx307_0 := (HB.out.cell (World.block_lt_of_cell? w _ hx307_0)).trans hx307_0
      have HR307_0 := Aside0.mk hi307_0
      have HC307_0 := Aside0.mk hl307_0
      clear hi307_0 hl307_0
      replace p307 := eq_true p307
      replace q307 := eq_true q307
      go_wp2_with (first | ((with_reducible refine gate_callee (f := 18) rfl ?_); refine goesL_ (some 14) rfl rfl Tryz.func18 (by kernel_rfl) rfl #[.slice A307_0 (rd_L8 l0 x3_1).length c307_0] rfl ap3 ?_; (with_reducible refine (R15Rdn.calls k1 _ _ (rd_L8 l0 x3_1) false _ ?side1 ?side2 A4.out).mono ?_); (case side1 => repeat (first | exact (Kd.C_below HR307_0.out HB.out) | (with_reducible refine Kd.C_alloc ?_ _) | (with_reducible refine Kd.C_drewN ?_ _) | (with_reducible refine Kd.C_drew ?_))); (case side2 => exact HC307_0.out); rintro e w7 ⟨rfl, hb⟩; refine ⟨_, rfl, ?_⟩; have n0_ := Aside0.mk (below_step ap1 hb); clear HB; have HB := n0_; clear n0_; (try clear hb); (try clear hb2); (try clear hk); (try clear hi)))
      go_ret
      exact ⟨by first | rfl | (simp [errW_none, errW_some, bne_nil8, beq_nil8]; done) | (simp [errW_none, errW_some] <;> rfl) | (simp [*, errW_none, errW_some] <;> rfl), by repeat (first | (with_reducible first | exact HB.out | apply below_alloc | apply pw_below_drewN | apply below_drew1) | exact HB.out)⟩
    ·
     rw [if_neg c3] at H
     exact absurd H (by simp)
   ·
    rw [if_neg c2] at H
    have c2b0 := decide_eq_false c2
    clear c2
    obtain rfl := Option.some.inj H
    go_wp2
    go_ret
    exact ⟨by first | rfl | (simp [errW_none, errW_some, bne_nil8, beq_nil8]; done) | (simp [errW_none, errW_some] <;> rfl) | (simp [*, errW_none, errW_some] <;> rfl), by repeat (first | (with_reducible first | exact HB.out | apply below_alloc | apply pw_below_drewN | apply below_drew1) | exact HB.out)⟩
end Go.Proofs.YtkklacijhmoopaaGreatDoor.Print
namespace Go.Proofs.YtkklacijhmoopaaGreatDoor.Print
open Go.RowKit Go.Proofs.YtkklacijhmoopaaGreatDoorW.PrintWords Go.Proofs.YtkklacijhmoopaaGreatDoorW.PrintLast Go.Proofs.YtkklacijhmoopaaGreatDoorW.PrintMore Go.Proofs.YtkklacijhmoopaaGreatDoor.Pure
set_option linter.unusedVariables false
set_option linter.unusedSimpArgs false
theorem getD_at {α : Type} {L : List α} {i : Nat} {x d : α} {r : List α} (h : L.drop i = x :: r) : i < L.length ∧ L.getD ((i : Int).toNat) d = x ∧ L.drop (i + 1) = r := by
  have h1 : i < L.length := by
    rcases Nat.lt_or_ge i L.length with h' | h'
    · exact h'
    · rw [List.drop_eq_nil_of_le h'] at h; cases h
  refine ⟨h1, ?_, ?_⟩
  · have h0 : L[i]? = some x := by
      have := congrArg List.head? h
      rw [List.head?_drop] at this; simpa using this
    rw [List.getD_eq_getElem?_getD, Int.toNat_natCast, h0]; rfl
  · have := congrArg List.tail h
    rw [List.tail_drop] at this; simpa using this
abbrev rdR := rd_L8
theorem rdA_at {L : List AvaS} {i : Nat} {x : AvaS} {r : List AvaS} (h : L.drop i = x :: r) : rd_T40 L (i : Int) = x := (getD_at h).2.1
theorem rdR_at {L : List (List AvaS)} {i : Nat} {x : List AvaS} {r : List (List AvaS)} (h : L.drop i = x :: r) : rd_L8 L (i : Int) = x := (getD_at h).2.1
def valueOk (s : ByteArray) : Bool := match readyOf true s with
  | some t => decide (s.size ≤ 255) && !t.isEmpty
  | none => false
theorem rightValue_ev (s : ByteArray) (hs : s.size ≤ 100000) : Ev (fun k => dn_rightValue.f k s) (valueOk s) := by
  unfold dn_rightValue.f valueOk
  have h := ready_ev s hs true
  cases hr : readyOf true s with
  | none =>
    rw [hr] at h
    refine Ev.bind h ?_
    by_cases hz : s.size ≤ 255
    · exact Ev.pos (by omega) (Ev.neg (show ¬ ((19 : Int) = 0) by decide) Ev.rfl')
    · exact Ev.neg (by omega) Ev.rfl'
  | some t =>
    rw [hr] at h
    refine Ev.bind h ?_
    dsimp only
    by_cases hz : s.size ≤ 255
    · refine Ev.pos (by omega) (Ev.pos rfl ?_)
      rw [Lib.toList_data, decide_eq_true hz]
      have : (t != ([] : List UInt8)) = (true && !t.isEmpty) := by cases t <;> rfl
      rw [← this]; exact Ev.rfl'
    · rw [decide_eq_false hz]
      exact Ev.neg (by omega) Ev.rfl'
theorem refValueOk_ev (s : ByteArray) (hs : s.size ≤ 100000) : Ev (fun k => R15Value.f k s) (valueOk s) := by
  unfold R15Value.f valueOk
  have h := refready_ev s hs true
  cases hr : readyOf true s with
  | none =>
    rw [hr] at h
    refine Ev.bind h ?_
    by_cases hz : s.size ≤ 255
    · exact Ev.pos (by omega) (Ev.neg (show ¬ ((19 : Int) = 0) by decide) Ev.rfl')
    · exact Ev.neg (by omega) Ev.rfl'
  | some t =>
    rw [hr] at h
    refine Ev.bind h ?_
    dsimp only
    by_cases hz : s.size ≤ 255
    · refine Ev.pos (by omega) (Ev.pos rfl ?_)
      rw [decide_eq_true hz]
      have : decide (((⟨t.toArray⟩ : ByteArray).size : Int) > 0) = (true && !t.isEmpty) := by
        rw [← bl_length]; cases t <;> simp [bl]
      rw [← this]; exact Ev.rfl'
    · rw [decide_eq_false hz]
      exact Ev.neg (by omega) Ev.rfl'
def szA (a : AvaS) : Prop := a.f0.size ≤ 100000 ∧ a.f1.size ≤ 100000
def rdnIn : List AvaS → List AvaS → Bool
  | _, [] => true
  | pre, a :: rest => typeOk (bl a.f0) && valueOk a.f1 && !(pre.any (sameType a)) && rdnIn (pre ++ [a]) rest
def rdnOk (l : List AvaS) : Bool := decide (1 ≤ l.length ∧ l.length ≤ 4) && rdnIn [] l
theorem rdnGo_ev : ∀ (l pre : List AvaS), (∀ a ∈ l, szA a) → Ev (fun k => rdnGo k pre l) (rdnIn pre l)
  | [], pre, _ => show Ev _ true from Ev.congr (fun k => by rw [rdnGo]) Ev.rfl'
  | a :: rest, pre, h => by
    have ha := h a (by simp)
    have ih := rdnGo_ev rest (pre ++ [a]) fun b hb => h b (by simp [hb])
    refine Ev.congr (fun k => by rw [rdnGo]) ?_
    rw [rdnIn]
    cases hp : pre.any (sameType a) with
    | true => exact Ev.pos rfl (by simpa using Ev.rfl')
    | false =>
      refine Ev.neg (by simp) (Ev.bind (rightType_ev a.f0 (by have := ha.1; omega)) ?_)
      cases ht : typeOk (bl a.f0) with
      | false => exact Ev.neg (by simp) (by simpa using Ev.rfl')
      | true =>
        refine Ev.pos rfl (Ev.bind (rightValue_ev a.f1 ha.2) ?_)
        cases hv : valueOk a.f1 with
        | false => exact Ev.neg (by simp) (by simpa using Ev.rfl')
        | true => exact Ev.pos rfl (by simpa using ih)
theorem rightRdn_ev (l : List AvaS) (h : ∀ a ∈ l, szA a) : Ev (fun k => dn_rightRdn.f k l) (rdnOk l) := by
  unfold dn_rightRdn.f rdnOk
  by_cases h1 : l.length < 1
  · rw [decide_eq_false (by omega)]; exact Ev.pos h1 Ev.rfl'
  by_cases h2 : l.length > 4
  · rw [decide_eq_false (by omega)]; exact Ev.neg h1 (Ev.pos h2 Ev.rfl')
  · rw [decide_eq_true (by omega), Bool.true_and]; exact Ev.neg h1 (Ev.neg h2 (rdnGo_ev l [] h))
theorem refRdn_loop (l : List AvaS) (hl : l.length ≤ 1000000) (h : ∀ a ∈ l, szA a) : ∀ (n i : Nat), l.length - i = n → i ≤ l.length → Ev (fun k => R15Rdn.l0 k l (i : Int)) (rdnIn (l.take i) (l.drop i)) := by
  intro n
  induction n with
  | zero =>
    intro i hn hi
    rw [List.drop_eq_nil_of_le (by omega), rdnIn]
    exact Ev.step (fun k => by rw [R15Rdn.l0]) (Ev.neg (by omega) Ev.rfl')
  | succ n ih =>
    intro i hn hi
    cases hr : l.drop i with
    | nil => have := List.drop_eq_nil_iff.1 hr; omega
    | cons a r =>
      obtain ⟨g1, _, g3⟩ := getD_at (d := z40) hr
      have g2 := rdA_at hr
      have ha : szA a := h a (by
        have : a ∈ l.drop i := by rw [hr]; simp
        exact List.mem_of_mem_drop this)
      have hnext := ih (i + 1) (by omega) (by omega)
      have htk : l.take (i + 1) = l.take i ++ [a] := by
        have := List.take_succ_eq_append_getElem g1
        rw [this]
        congr 2
        have h0 : l[i]? = some a := by
          have := congrArg List.head? hr
          rw [List.head?_drop] at this; simpa using this
        rw [List.getElem?_eq_getElem g1] at h0; simpa using h0
      rw [htk, g3] at hnext
      have hj2t : Ev (fun k => R15Rdn.j2 k l (i : Int) true) false := Ev.step (fun k => by rw [R15Rdn.j2]) (Ev.pos rfl Ev.rfl')
      have hin : ∀ (m j : Nat), i - j = m → j ≤ i → Ev (fun k => R15Rdn.l1 k l (i : Int) (j : Int)) (!(((l.take i).drop j).any (sameType a)) && rdnIn (l.take i ++ [a]) r) := by
        intro m
        induction m with
        | zero =>
          intro j hm hj
          have hd : (l.take i).drop j = [] := List.drop_eq_nil_of_le (by rw [List.length_take]; omega)
          rw [hd]
          refine Ev.step (fun k => by rw [R15Rdn.l1]) ?_
          rw [wsucc (p := i) (by omega)]
          refine Ev.neg (by omega) ?_
          simpa using hnext
        | succ m ihm =>
          intro j hm hj
          cases hd : (l.take i).drop j with
          | nil => have := List.drop_eq_nil_iff.1 hd; rw [List.length_take] at this; omega
          | cons b r2 =>
            obtain ⟨f1, _, f3⟩ := getD_at (d := z40) hd
            have hb : l.drop j = b :: l.drop (j + 1) := by
              have hjl : j < l.length := by rw [List.length_take] at f1; omega
              rw [List.drop_eq_getElem_cons hjl]
              congr 1
              have h0 : (l.take i)[j]? = some b := by
                have := congrArg List.head? hd
                rw [List.head?_drop] at this; simpa using this
              rw [List.getElem?_take_of_lt (by omega), List.getElem?_eq_getElem hjl] at h0
              simpa using h0
            have g4 := rdA_at hb
            have hi2 := ihm (j + 1) (by omega) (by omega)
            rw [f3] at hi2
            refine Ev.step (fun k => by rw [R15Rdn.l1]) ?_
            rw [g4, g2, wsucc (by omega)]
            refine Ev.pos (by omega) (Ev.pos (by omega) (Ev.pos (by omega) (Ev.pos (by omega) (Ev.pos (by omega) ?_))))
            rw [List.any_cons]
            by_cases he : b.f0.toList = a.f0.toList
            · rw [show sameType a b = true from beq_iff_eq.2 he]
              exact Ev.pos he (by simpa using Ev.rfl')
            · rw [show sameType a b = false from beq_eq_false_iff_ne.2 he]
              exact Ev.neg he (by simpa using hi2)
      have hj2f : Ev (fun k => R15Rdn.j2 k l (i : Int) false) (!((l.take i).any (sameType a)) && rdnIn (l.take i ++ [a]) r) := by
        refine Ev.step (fun k => by rw [R15Rdn.j2]) ?_
        refine Ev.neg (by simp) ?_
        have := hin i 0 rfl (Nat.zero_le _)
        rw [List.drop_zero] at this; exact this
      refine Ev.step (fun k => by rw [R15Rdn.l0]) ?_
      rw [g2, rdnIn]
      refine Ev.pos (by omega) (Ev.pos (by omega) (Ev.bind (refType_ev a.f0 (by have := ha.1; omega)) ?_))
      cases ht : typeOk (bl a.f0) with
      | false => exact Ev.neg (by simp) (by simpa using hj2t)
      | true =>
        refine Ev.pos rfl (Ev.bind (refValueOk_ev a.f1 ha.2) ?_)
        cases hv : valueOk a.f1 with
        | false => simpa using hj2t
        | true => simpa using hj2f
theorem refRdn_ev (l : List AvaS) (hl : l.length ≤ 1000000) (h : ∀ a ∈ l, szA a) : Ev (fun k => R15Rdn.f k l) (rdnOk l) := by
  have ht : Ev (fun k => R15Rdn.j0 k l true) false := Ev.step (fun k => by rw [R15Rdn.j0]) (Ev.pos rfl Ev.rfl')
  have hf : Ev (fun k => R15Rdn.j0 k l false) (rdnIn [] l) := by
    refine Ev.step (fun k => by rw [R15Rdn.j0]) ?_
    refine Ev.neg (by simp) ?_
    have := refRdn_loop l hl h _ 0 rfl (Nat.zero_le _)
    rw [List.take_zero, List.drop_zero] at this; exact this
  unfold R15Rdn.f rdnOk
  by_cases h1 : l.length < 1
  · rw [show decide (1 ≤ l.length ∧ l.length ≤ 4) = false from decide_eq_false (by omega)]; exact Ev.pos (by omega) ht
  refine Ev.neg (by omega) ?_
  by_cases h2 : l.length > 4
  · rw [show decide (1 ≤ l.length ∧ l.length ≤ 4) = false from decide_eq_false (by omega), show decide ((l.length : Int) > 4) = true from decide_eq_true (by omega)]; exact ht
  · rw [show decide (1 ≤ l.length ∧ l.length ≤ 4) = true from decide_eq_true (by omega), show decide ((l.length : Int) > 4) = false from decide_eq_false (by omega), Bool.true_and]; exact hf
def nameOk (n : List (List AvaS)) : Bool := decide (n.length ≤ 12) && n.all rdnOk
def szN (n : List (List AvaS)) : Prop := ∀ l ∈ n, l.length ≤ 1000000 ∧ ∀ a ∈ l, szA a
theorem right_loop (n : List (List AvaS)) (hl : n.length ≤ 1000000) (h : szN n) : ∀ (m i : Nat), n.length - i = m → i ≤ n.length → Ev (fun k => dn_Right.l0 k n (n.length : Int) (i : Int)) ((n.drop i).all rdnOk) := by
  intro m
  induction m with
  | zero =>
    intro i hm hi
    rw [List.drop_eq_nil_of_le (by omega)]
    show Ev _ true
    exact Ev.step (fun k => by rw [dn_Right.l0]) (Ev.neg (by omega) Ev.rfl')
  | succ m ih =>
    intro i hm hi
    cases hr : n.drop i with
    | nil => have := List.drop_eq_nil_iff.1 hr; omega
    | cons l r =>
      obtain ⟨g1, _, g3⟩ := getD_at (d := []) hr
      have g2 := rdR_at hr
      have hsz := h l (by
        have : l ∈ n.drop i := by rw [hr]; simp
        exact List.mem_of_mem_drop this)
      have hi2 := ih (i + 1) (by omega) (by omega)
      rw [g3] at hi2
      refine Ev.step (fun k => by rw [dn_Right.l0]) ?_
      rw [g2, wsucc (by omega), List.all_cons]
      refine Ev.pos (by omega) (Ev.pos (by omega) (Ev.pos (by omega) (Ev.bind (rightRdn_ev l hsz.2) ?_)))
      cases rdnOk l with
      | true => exact Ev.pos rfl (by simpa using hi2)
      | false => exact Ev.neg (by simp) (by simpa using Ev.rfl')
theorem right_ev (n : List (List AvaS)) (hl : n.length ≤ 1000000) (h : szN n) : Ev (fun k => dn_Right.f k n) (nameOk n) := by
  unfold dn_Right.f nameOk
  by_cases h1 : n.length ≤ 12
  · rw [decide_eq_true h1, Bool.true_and]
    refine Ev.neg (by omega) ?_
    have := right_loop n hl h _ 0 rfl (Nat.zero_le _)
    rw [List.drop_zero] at this; exact this
  · rw [decide_eq_false h1]; exact Ev.pos (by omega) Ev.rfl'
theorem refRight_ev (n : List (List AvaS)) (hl : n.length ≤ 1000000) (h : szN n) : Ev (fun k => R15Right.f k n) (nameOk n) := by
  have hloop : ∀ (m i : Nat), n.length - i = m → i ≤ n.length → Ev (fun k => R15Right.l0 k n (i : Int)) ((n.drop i).all rdnOk && decide (n.length ≤ 12)) := by
    intro m
    induction m with
    | zero =>
      intro i hm hi
      rw [List.drop_eq_nil_of_le (by omega)]
      rw [List.all_nil, Bool.true_and, show decide (n.length ≤ 12) = decide ((n.length : Int) ≤ 12) from decide_eq_decide.2 (by omega)]
      exact Ev.step (fun k => by rw [R15Right.l0]) (Ev.neg (by omega) Ev.rfl')
    | succ m ih =>
      intro i hm hi
      cases hr : n.drop i with
      | nil => have := List.drop_eq_nil_iff.1 hr; omega
      | cons l r =>
        obtain ⟨g1, _, g3⟩ := getD_at (d := []) hr
        have g2 := rdR_at hr
        have hsz := h l (by
          have : l ∈ n.drop i := by rw [hr]; simp
          exact List.mem_of_mem_drop this)
        have hi2 := ih (i + 1) (by omega) (by omega)
        rw [g3] at hi2
        refine Ev.step (fun k => by rw [R15Right.l0]) ?_
        rw [g2, wsucc (by omega), List.all_cons]
        refine Ev.pos (by omega) (Ev.pos (by omega) (Ev.bind (refRdn_ev l hsz.1 hsz.2) ?_))
        cases rdnOk l with
        | true => exact Ev.pos rfl (by simpa using hi2)
        | false => exact Ev.neg (by simp) (by simpa using Ev.rfl')
  have := hloop _ 0 rfl (Nat.zero_le _)
  rw [List.drop_zero, Bool.and_comm] at this
  exact this
end Go.Proofs.YtkklacijhmoopaaGreatDoor.Print
namespace Go.Proofs.YtkklacijhmoopaaGreatDoor.Print
open Go.RowKit Go.Proofs.YtkklacijhmoopaaGreatDoorW.PrintWords Go.Proofs.YtkklacijhmoopaaGreatDoorW.PrintLast Go.Proofs.YtkklacijhmoopaaGreatDoorW.PrintMore
set_option linter.unusedVariables false
set_option linter.unusedSimpArgs false
def hexTab : Array UInt8 := #[48, 49, 50, 51, 52, 53, 54, 55, 56, 57, 97, 98, 99, 100, 101, 102]
def hexDig (n : Nat) : UInt8 := hexTab.getD n 0
theorem byte_getD (a : Array UInt8) (n : Nat) (h : n < (ByteArray.mk a).size) : (ByteArray.mk a)[n] = a.getD n 0 := by
  have h' : n < a.size := h
  show a[n] = _
  simp [Array.getD, h']
theorem hexDig_at (n : Nat) (h : n < (ByteArray.mk #[48, 49, 50, 51, 52, 53, 54, 55, 56, 57, 97, 98, 99, 100, 101, 102]).size) : (ByteArray.mk #[48, 49, 50, 51, 52, 53, 54, 55, 56, 57, 97, 98, 99, 100, 101, 102])[n] = hexDig n := byte_getD _ n h
theorem take_succ_by (a0 : ByteArray) (k : Nat) (h : k < a0.size) : a0.data.toList.take (k + 1) = a0.data.toList.take k ++ [a0[k]] := by
  have h' : k < a0.data.toList.length := by simpa using h
  rw [List.take_succ_eq_append_getElem h']
  rfl
def hexOf (l : List UInt8) : List UInt8 := l.flatMap fun c => [hexDig (c.toNat / 16), hexDig (c.toNat % 16)]
def b64_Hex.f (a0 : ByteArray) : Option ByteArray := if a0.size ≤ 1000000 then some ⟨(hexOf a0.data.toList).toArray⟩ else none
set_option maxHeartbeats 4000000 in
set_option maxRecDepth 1000000 in
theorem b64_Hex.calls (a0 : ByteArray) (r1 : ByteArray) (w : World) (h : b64_Hex.f a0 = some r1) :
    Calls Tryz.prog 46 #[.string a0] w fun e w' => e = .returned (.string r1) ∧ Below w.heap.size w w' := by
  have hsz : a0.size ≤ 1000000 := by unfold b64_Hex.f at h; by_cases c : a0.size ≤ 1000000 <;> simp_all
  have hof : (⟨(hexOf a0.data.toList).toArray⟩ : ByteArray) = r1 := by
    unfold b64_Hex.f at h; rw [if_pos hsz] at h; simpa using h
  subst hof
  clear h
  go_enter Tryz.func46, Tryz.ntmps46
  go_wp2
  go_loopw [7] (fun i wr => ∃ (k : Nat) (acc : List UInt8), k ≤ a0.size ∧ i = .int .i64 k ∧ Aside0 (Bld w.heap.size w.heap.size (Lib.byteCells acc) wr) ∧ Aside0 (Below w.heap.size w wr) ∧ Aside0 (acc = hexOf (a0.data.toList.take k)) ∧ Aside0 (acc.length = 2 * k)) (fun i _ => (a0.size - intOf i).toNat)
  case atStart =>
    exact ⟨0, [], Nat.zero_le _, rfl, ⟨Lib.IsBuilderF.of (Lib.fresh_isBuilder 67 5 w)⟩, ⟨(Below.refl _ w).alloc (Nat.le_refl _) _⟩, ⟨rfl⟩, ⟨by simp⟩⟩
  case round =>
    obtain ⟨k, acc, hk, rfl, HB, hbw, hacc, hacl⟩ := hrel
    by_cases hlt : k < a0.size
    · have hby : (a0[k].toNat : Int) < 256 := by have := a0[k].toNat_lt; omega
      go_wp2_with (go_at_call 48; first
        | ((with_reducible refine (bld_WriteByte w.heap.size w.heap.size _ _ _ g1.out (by have := hacl.out; simp only [List.length_append, Lib.byteCells_length, List.length_cons, List.length_nil]; omega) (by have := g2.out.size; have := hbw.out.size; omega)).mono ?_); rintro e w2 ⟨rfl, f1, f2, _⟩; replace f1 := Aside0.mk f1; replace f2 := Aside0.mk f2)
        | ((with_reducible refine (bld_WriteByte w.heap.size w.heap.size _ _ _ HB.out (by have := hacl.out; rw [Lib.byteCells_length]; omega) (by have := hbw.out.size; omega)).mono ?_); rintro e w1 ⟨rfl, g1, g2, _⟩; replace g1 := Aside0.mk g1; replace g2 := Aside0.mk g2))
      go_roundw
      case rel =>
        refine ⟨k + 1, acc ++ [hexDig (a0[k].toNat / 16), hexDig (a0[k].toNat % 16)], by omega, by go_num, ⟨?_⟩, ⟨hbw.out.trans (g2.out.trans f2.out)⟩, ⟨?_⟩, ⟨?_⟩⟩
        · have := f1.out
          rw [hexDig_at, hexDig_at] at this
          rw [Lib.byteCells_append]
          simpa [Lib.byteCells, List.append_assoc] using this
        · rw [hacc.out, take_succ_by a0 k hlt, hexOf, hexOf, List.flatMap_append]
          rfl
        · have := hacl.out; simp only [List.length_append, List.length_cons, List.length_nil]; omega
      case measure => simp [intOf]; omega
    · obtain rfl : k = a0.size := by omega
      obtain rfl : acc = hexOf a0.data.toList := by rw [hacc.out, List.take_of_length_le (by simp)]
      go_wp2_with (go_at_call 49; (with_reducible refine (bld_String w.heap.size w.heap.size _ _ HB.out ?h1).mono ?_); (case h1 => have := hbw.out.size; omega); rintro e w2 ⟨rfl, h2⟩; replace h2 := Aside0.mk h2)
      go_ret
      exact ⟨rfl, hbw.out.trans h2.out⟩
theorem conv_one (W : World) (c : Int) : (convert 61 9 (.slice (some ⟨W.heap.size, 0, none⟩) 1 1)).run Tryz.prog (W.alloc (.cells #[.int .u8 c] 5)) = .ok (.string (strOfNums [c])) (W.alloc (.cells #[.int .u8 c] 5)) := by
  refine string_of_reads (e := 5) Tryz.underlying61 Tryz.underlying5 Tryz.underlying9 ⟨rfl, by decide, fun _ => ⟨_, rfl, ?_⟩⟩
  intro j hj
  obtain rfl : j = 0 := by omega
  have hb : (W.alloc (.cells #[.int .u8 c] 5)).heap[W.heap.size]? = some (.cells #[.int .u8 c] 5 (0, 0)) := by simp only [World.alloc, Array.getElem?_push_size]
  show (W.alloc (.cells #[.int .u8 c] 5)).cell? ⟨W.heap.size, 0, none⟩ = _
  rw [Lib.cell_of_heap hb]
  rfl
theorem hex_one (c : UInt8) : b64_Hex.f (strOfNums [(c.toNat : Int)]) = some ⟨(hexOf [c]).toArray⟩ := by
  have e : strOfNums [(c.toNat : Int)] = ⟨#[c]⟩ := by simp [strOfNums]
  have hs : (ByteArray.mk #[c]).size ≤ 1000000 := by show 1 ≤ 1000000; omega
  rw [e]
  simp only [b64_Hex.f, if_pos hs]
def dnSigns : List UInt8 := [34, 43, 44, 59, 60, 61, 62, 92]
def dnPiece (n i : Nat) (c : UInt8) : List UInt8 :=
  if c.toNat < 32 ∨ c.toNat = 127 then 92 :: hexOf [c]
  else if (c.toNat = 32 ∧ (i = 0 ∨ i + 1 = n)) ∨ (c.toNat = 35 ∧ i = 0) ∨ 0 ≤ Lib.indexByte dnSigns c then [92, c] else [c]
theorem hexsz (c : UInt8) : (ByteArray.mk #[92] ++ ByteArray.mk (hexOf [c]).toArray).size = 3 := by
  simp [hexOf, ByteArray.size_append]; rfl
theorem strCells_cons (c : UInt8) (l : List UInt8) : Lib.strCells (⟨#[c]⟩ ++ ⟨l.toArray⟩) = Lib.byteCells (c :: l) := by
  simp [Lib.strCells_eq]
theorem dnPiece_hex (n i : Nat) (c : UInt8) (h : c.toNat < 32 ∨ c.toNat = 127) : dnPiece n i c = 92 :: hexOf [c] := by unfold dnPiece; rw [if_pos h]
theorem dnPiece_esc (n i : Nat) (c : UInt8) (h : ¬(c.toNat < 32 ∨ c.toNat = 127)) (h2 : (c.toNat = 32 ∧ (i = 0 ∨ i + 1 = n)) ∨ (c.toNat = 35 ∧ i = 0) ∨ 0 ≤ Lib.indexByte dnSigns c) : dnPiece n i c = [92, c] := by unfold dnPiece; rw [if_neg h, if_pos h2]
theorem dnPiece_bare (n i : Nat) (c : UInt8) (h : ¬(c.toNat < 32 ∨ c.toNat = 127)) (h2 : ¬((c.toNat = 32 ∧ (i = 0 ∨ i + 1 = n)) ∨ (c.toNat = 35 ∧ i = 0) ∨ 0 ≤ Lib.indexByte dnSigns c)) : dnPiece n i c = [c] := by unfold dnPiece; rw [if_neg h, if_neg h2]
theorem getD_by (a0 : ByteArray) (k : Nat) (h : k < a0.size) : a0.data.toList.getD k 0 = a0[k] := by
  have h' : k < a0.data.toList.length := by simpa using h
  rw [List.getD_eq_getElem?_getD, List.getElem?_eq_getElem h']
  rfl
theorem dnPiece_le (n i : Nat) (c : UInt8) : (dnPiece n i c).length ≤ 3 := by
  unfold dnPiece; split
  · simp [hexOf]
  · split <;> simp
theorem dnIdx32 : Lib.indexByte dnSigns 32 = -1 := by decide
theorem dnIdx35 : Lib.indexByte dnSigns 35 = -1 := by decide
theorem dnIdxF (c : UInt8) : strings_IndexByte.f ⟨#[34, 43, 44, 59, 60, 61, 62, 92]⟩ (c.toNat : Int) = some (Lib.indexByte dnSigns c) := by
  simp [strings_IndexByte.f, dnSigns]
theorem dnIdxF32 : strings_IndexByte.f ⟨#[34, 43, 44, 59, 60, 61, 62, 92]⟩ 32 = some (-1) := congrArg some dnIdx32
theorem dnIdxF35 : strings_IndexByte.f ⟨#[34, 43, 44, 59, 60, 61, 62, 92]⟩ 35 = some (-1) := congrArg some dnIdx35
def dnText (l : List UInt8) : List UInt8 := (List.range l.length).flatMap fun i => dnPiece l.length i (l.getD i 0)
def dn_value.f (a0 : ByteArray) : Option ByteArray := if a0.size ≤ 1000000 then some ⟨(dnText a0.data.toList).toArray⟩ else none
set_option maxHeartbeats 4000000 in
set_option maxRecDepth 1000000 in
theorem dn_value.calls (a0 : ByteArray) (r1 : ByteArray) (w : World) (h : dn_value.f a0 = some r1) :
    Calls Tryz.prog 29 #[.string a0] w fun e w' => e = .returned (.string r1) ∧ Below w.heap.size w w' := by
  have hsz : a0.size ≤ 1000000 := by unfold dn_value.f at h; by_cases c : a0.size ≤ 1000000 <;> simp_all
  have hof : (⟨(dnText a0.data.toList).toArray⟩ : ByteArray) = r1 := by
    unfold dn_value.f at h; rw [if_pos hsz] at h; simpa using h
  subst hof
  clear h
  have hL : a0.data.toList.length = a0.size := by simp
  have HL := Aside0.mk hL
  clear hL
  go_enter Tryz.func29, Tryz.ntmps29
  go_wp2
  go_loopw [9] (fun i wr => ∃ (k : Nat) (acc : List UInt8), k ≤ a0.size ∧ i = .int .i64 k ∧ Aside0 (Bld w.heap.size w.heap.size (Lib.byteCells acc) wr) ∧ Aside0 (Below w.heap.size w wr) ∧ Aside0 (acc = (List.range k).flatMap fun i => dnPiece a0.size i (a0.data.toList.getD i 0)) ∧ Aside0 (acc.length ≤ 3 * k)) (fun i _ => (a0.size - intOf i).toNat)
  case atStart =>
    exact ⟨0, [], Nat.zero_le _, rfl, ⟨Lib.IsBuilderF.of (Lib.fresh_isBuilder 67 5 w)⟩, ⟨(Below.refl _ w).alloc (Nat.le_refl _) _⟩, ⟨rfl⟩, ⟨by simp⟩⟩
  case round =>
    obtain ⟨k, acc, hk, rfl, HB, hbw, hacc, hacl⟩ := hrel
    by_cases hlt : k < a0.size
    · have hby : (a0[k].toNat : Int) < 256 := by have := a0[k].toNat_lt; omega
      have hcv := conv_one wr (a0[k].toNat : Int)
      have hca : Bld w.heap.size w.heap.size (Lib.byteCells acc) (wr.alloc (.cells #[.int .u8 (a0[k].toNat : Int)] 5)) := Lib.IsBuilderF.alloc HB.out _
      have hcb : Below w.heap.size w (wr.alloc (.cells #[.int .u8 (a0[k].toNat : Int)] 5)) := hbw.out.alloc (by have := hbw.out.size; omega) _
      replace hca := Aside0.mk hca
      replace hcb := Aside0.mk hcb
      have HH := hex_one a0[k]
      replace HH := Aside0.mk HH
      obtain ⟨z, hz⟩ : ∃ z, z = Lib.indexByte dnSigns a0[k] := ⟨_, rfl⟩
      have HI := hz ▸ dnIdxF a0[k]
      have HI1 := dnIdxF32
      have HI2 := dnIdxF35
      have hz1 : a0[k].toNat = 32 → z = -1 := by
        intro e; rw [hz, show a0[k] = 32 from UInt8.toNat_inj.1 e]; exact dnIdx32
      have hz2 : a0[k].toNat = 35 → z = -1 := by
        intro e; rw [hz, show a0[k] = 35 from UInt8.toNat_inj.1 e]; exact dnIdx35
      replace HI := Aside0.mk HI
      replace HI1 := Aside0.mk HI1
      replace HI2 := Aside0.mk HI2
      replace hz1 := Aside0.mk hz1
      replace hz2 := Aside0.mk hz2
      replace hz := Aside0.mk hz
      have HBn : Aside0 (∀ n, Bld w.heap.size w.heap.size (Lib.byteCells acc) (wr.drewN n)) := ⟨fun n => bld_drewN HB.out n⟩
      have hbn : Aside0 (∀ n, Below w.heap.size w (wr.drewN n)) := ⟨fun n => by apply pw_below_drewN; exact hbw.out⟩
      go_wp2_with (first
        | (go_at_call 47; first
            | ((with_reducible refine (strings_IndexByte.calls _ _ _ _ HI.out).mono ?_); rintro e w2 ⟨rfl, ⟨nd, rfl⟩⟩)
            | ((with_reducible refine (strings_IndexByte.calls _ _ _ _ HI1.out).mono ?_); rintro e w2 ⟨rfl, ⟨nd, rfl⟩⟩)
            | ((with_reducible refine (strings_IndexByte.calls _ _ _ _ HI2.out).mono ?_); rintro e w2 ⟨rfl, ⟨nd, rfl⟩⟩))
        | (go_at_call 46; (with_reducible refine (b64_Hex.calls _ _ _ HH.out).mono ?_); rintro e w2 ⟨rfl, h2⟩; have hcc := Aside0.mk (Lib.IsBuilderF.below hca.out h2); replace h2 := Aside0.mk (hcb.out.trans (h2.mono hcb.out.size)))
        | (go_at_call 45; (with_reducible refine (bld_WriteString w.heap.size w.heap.size _ _ _ hcc.out (by have := hacl.out; rw [Lib.byteCells_length, hexsz]; omega) (by exact h2.out.size)).mono ?_); rintro e w1 ⟨rfl, f1, f2, _⟩; replace f1 := Aside0.mk f1; replace f2 := Aside0.mk (h2.out.trans f2))
        | (go_at_call 48; first
          | ((with_reducible refine (bld_WriteByte w.heap.size w.heap.size _ _ _ g1.out (by have := hacl.out; simp only [List.length_append, Lib.byteCells_length, List.length_cons, List.length_nil]; omega) (by have := g2.out.size; omega)).mono ?_); rintro e w2 ⟨rfl, f1, f2, _⟩; replace f1 := Aside0.mk f1; replace f2 := Aside0.mk (g2.out.trans f2))
          | ((with_reducible refine (bld_WriteByte w.heap.size w.heap.size _ _ _ HB.out (by have := hacl.out; rw [Lib.byteCells_length]; omega) (by exact hbw.out.size)).mono ?_); rintro e w1 ⟨rfl, g1, g2, _⟩; replace g1 := Aside0.mk g1; replace g2 := Aside0.mk (hbw.out.trans g2))
          | ((with_reducible refine (bld_WriteByte w.heap.size w.heap.size _ _ _ (HBn.out nd) (by have := hacl.out; rw [Lib.byteCells_length]; omega) ((hbn.out nd).size)).mono ?_); rintro e w1 ⟨rfl, g1, g2, _⟩; replace g1 := Aside0.mk g1; replace g2 := Aside0.mk ((hbn.out nd).trans g2))))
      all_goals go_roundw
      all_goals (try (case measure => simp [intOf]; omega))
      all_goals (clear HI HI1 HI2 HH hcv hca hcb; try simp only [beq_iff_eq, beq_eq_false_iff_ne, ne_eq] at *)
      all_goals
        refine ⟨k + 1, acc ++ dnPiece a0.size k a0[k], by omega, by go_num, ⟨?_⟩, ⟨by first | exact f2.out | exact g2.out⟩, ⟨?_⟩, ⟨?_⟩⟩
        · rw [Lib.byteCells_append]
          first
          | (rw [dnPiece_esc a0.size k a0[k] (by omega) (by have := hz.out; have := hz1.out; have := hz2.out; omega)]; have := f1.out; simp only [List.append_assoc, List.cons_append, List.nil_append] at this; simp only [Lib.byteCells, List.map_cons, List.map_nil]; first | exact this | (rw [show (a0[k].toNat : Int) = 32 from by omega]; exact this) | (rw [show (a0[k].toNat : Int) = 35 from by omega]; exact this))
          | (rw [dnPiece_bare a0.size k a0[k] (by omega) (by have := hz.out; have := hz1.out; have := hz2.out; omega)]; have := g1.out; simp only [Lib.byteCells, List.map_cons, List.map_nil]; first | exact this | (rw [show (a0[k].toNat : Int) = 32 from by omega]; exact this) | (rw [show (a0[k].toNat : Int) = 35 from by omega]; exact this))
          | (rw [dnPiece_hex a0.size k a0[k] (by omega)]; have := f1.out; rw [strCells_cons] at this; exact this)
          | (exfalso; omega)
        · rw [hacc.out, List.range_succ, List.flatMap_append]
          simp only [List.flatMap_cons, List.flatMap_nil, List.append_nil]
          rw [getD_by a0 k hlt]
        · have := dnPiece_le a0.size k a0[k]; have := hacl.out; simp only [List.length_append]; omega
    · obtain rfl : k = a0.size := by omega
      obtain rfl : acc = dnText a0.data.toList := by rw [hacc.out, dnText, HL.out]
      go_wp2_with (go_at_call 49; (with_reducible refine (bld_String w.heap.size w.heap.size _ _ HB.out ?h1).mono ?_); (case h1 => have := hbw.out.size; omega); rintro e w2 ⟨rfl, h2⟩; replace h2 := Aside0.mk h2)
      go_ret
      exact ⟨rfl, hbw.out.trans h2.out⟩
end Go.Proofs.YtkklacijhmoopaaGreatDoor.Print
namespace Go.Proofs.YtkklacijhmoopaaGreatDoor.Print
open Go.RowKit Go.Proofs.YtkklacijhmoopaaGreatDoorW.PrintWords Go.Proofs.YtkklacijhmoopaaGreatDoorW.PrintLast Go.Proofs.YtkklacijhmoopaaGreatDoorW.PrintMore
attribute [local go_sem] max2_int min2_int max_two min_two max_three min_three max_four min_four
set_option linter.unusedVariables false
set_option linter.unusedSimpArgs false
mutual
def dn_Print.l0 : Nat → List ByteArray → List (List (S40)) → Int → Int → Option (ByteArray × Int)
 | 0, _, _, _, _ => none
 | k + 1, x4, x14, x15, x16 => if x16 < x15 then (if 0 ≤ x16 then (if x16 < (x14.length : Int) then (dn_Print.l1 k x4 ([] : List ByteArray) x14 x15 x16 (rd_L8 x14 x16) ((rd_L8 x14 x16).length : Int) 0) else (none)) else (none)) else ((strings_Join.f x4 (⟨#[44]⟩ : ByteArray)).bind fun t206 => (if (t206.size : Int) > 1000 then (some ((⟨#[]⟩ : ByteArray), 5)) else (some (t206, 0))))
def dn_Print.l1 : Nat → List ByteArray → List ByteArray → List (List (S40)) → Int → Int → List (S40) → Int → Int → Option (ByteArray × Int)
 | 0, _, _, _, _, _, _, _, _ => none
 | k + 1, x4, x7, x14, x15, x16, x20, x21, x22 => if x22 < x21 then (if 0 ≤ x22 then (if x22 < (x20.length : Int) then (if ((rd_T40 x20 x22).f0).size + 1 ≤ 9223372036854775807 then ((dn_value.f ((rd_T40 x20 x22).f1)).bind fun t210 => (if (((rd_T40 x20 x22).f0) ++ (⟨#[61]⟩ : ByteArray)).size + t210.size ≤ 9223372036854775807 then (if x7.length < 8796093022208 then (dn_Print.l1 k x4 (x7 ++ [(((rd_T40 x20 x22).f0) ++ (⟨#[61]⟩ : ByteArray)) ++ t210]) x14 x15 x16 x20 x21 (wrap64 (x22 + 1))) else (none)) else (none))) else (none)) else (none)) else (none)) else ((strings_Join.f x7 (⟨#[43]⟩ : ByteArray)).bind fun t214 => (if x4.length < 8796093022208 then (dn_Print.l0 k (x4 ++ [t214]) x14 x15 (wrap64 (x16 + 1))) else (none)))
end
def dn_Print.f (k : Nat) (l0 : List (List (S40))) : Option (ByteArray × Int) := (dn_Right.f k l0).bind fun t205 => (if t205 = true then (dn_Print.l0 k ([] : List ByteArray) l0 (l0.length : Int) 0) else (some ((⟨#[]⟩ : ByteArray), 4)))
def dn_Print.T11 : Bool × List (List Nat × List Nat) := (true, [([], []), ([], []), ([1], [1]), ([2], [2]), ([], []), ([4], [4]), ([5], [5]), ([3, 6], [3, 6]), ([7], [7]), ([0, 8, 6], [0, 8]), ([9, 9, 0, 1, 2, 3, 4, 5, 6, 7, 8, 9], [0, 9])])
def dn_Print.B11 : List Nat := [0, 0, 2, 6, 0, 16, 48, 126, 254, 511, 1023]
theorem dn_Print.tab11 : rtab .any (opsOf Tryz.f17 11) = dn_Print.T11 := by kernel_rfl
theorem dn_Print.bits11 : waitsOk dn_Print.T11.2 dn_Print.B11 = true := by kernel_rfl
set_option maxHeartbeats 8000000 in
set_option maxRecDepth 100000 in
theorem dn_Print.calls (k : Nat) (A0 : Option Addr) (c0 : Nat) (l0 : List (List (S40))) (r1 : ByteArray) (r2 : Int) (w : World) (hr0 : Kd.C (Kd.slice 40 k40) w A0 l0.length l0) (hc0 : l0.length ≤ c0) (hG : Gw w) (h : dn_Print.f k l0 = some (r1, r2)) :
  Calls Tryz.prog 17 #[.slice A0 l0.length c0] w fun e w' => e = .returned (.tuple #[.string r1, .int .i64 r2]) ∧ Below w.heap.size w w' := by
 have hu40 := Tryz.underlying40
 have HR0 := Aside0.mk hr0
 have HC0 := Aside0.mk hc0
 clear hr0 hc0
 have HB := Aside0.mk (Below.refl w.heap.size w)
 have HG := Aside0.mk hG
 clear hG
 have H : ((dn_Right.f k l0).bind fun t205 => (if t205 = true then (dn_Print.l0 k ([] : List ByteArray) l0 (l0.length : Int) 0) else (some ((⟨#[]⟩ : ByteArray), 4)))) = some (r1, r2) := h
 clear h
 replace H := Option.bind_eq_some_iff.mp H
 obtain ⟨t205, A20, H⟩ := H
 replace H : (if t205 = true then (dn_Print.l0 k ([] : List ByteArray) l0 (l0.length : Int) 0) else (some ((⟨#[]⟩ : ByteArray), 4))) = some (r1, r2) := H
 have A2 := Aside0.mk A20
 clear A20
 by_cases c3 : t205 = true
 ·
  subst c3
  rw [if_pos rfl] at H
  have H' := Aside0.mk H
  clear H
  go_enter Tryz.func17, Tryz.ntmps17
  go_wp2_with (first | ((with_reducible refine gate_callee (f := 20) rfl ?_); refine goesL_ (some 12) rfl rfl Tryz.func20 (by kernel_rfl) rfl #[.slice A0 l0.length c0] rfl ap3 ?_; (with_reducible refine (dn_Right.calls k _ _ l0 true _ ?side1 ?side2 ?side3 A2.out).mono ?_); (case side1 => repeat (first | exact HR0.out | (with_reducible refine Kd.C_alloc ?_ _) | (with_reducible refine Kd.C_drewN ?_ _) | (with_reducible refine Kd.C_drew ?_))); (case side2 => exact HC0.out); (case side3 => exact ap6); rintro e w4 ⟨rfl, hb⟩; refine ⟨_, rfl, ?_⟩; have n0_ := Aside0.mk (below_step ap1 hb); clear HB; have HB := n0_; clear n0_; (try clear hb); (try clear hb2); (try clear hk); (try clear hi)))
  go_loopg [4, 16] k (fun kq v4 v16 w' => ∃ (x4_1 : List ByteArray) (x16_1 : Int), v16 = .int .i64 x16_1 ∧ Aside0 (dn_Print.l0 kq x4_1 l0 (l0.length : Int) x16_1 = some (r1, r2)) ∧ Aside0 (kq ≤ k) ∧ Aside0 (Kd.R Kd.string 9 w' w.heap.size (fun _ => True) v4 x4_1) ∧ Aside0 (Below w.heap.size w w'))
  case atStart => exact ⟨(([] : List ByteArray)), (0), ap2, H', ⟨Nat.le_refl _⟩, ⟨by first | exact Kd.R_nil _ _ _ _ _ | exact Kd.N_nil _ _ _ _ _ | exact Kd.V_nil _ _ _ _ _ | exact Kd.Q_nil _ _ _ _ _ | exact Kd.S_nil _ _ _ _ _⟩, ⟨by repeat (first | (with_reducible first | exact HB.out | apply below_alloc | apply pw_below_drewN | apply below_drew1) | exact HB.out)⟩⟩
  case round =>
   clear H'
   try clear c1
   try clear c2
   try clear p2
   try clear c3
   obtain ⟨x4_1, x16_1, rfl, HA, HK1, HO_4, HB⟩ := hrel
   cases gk with
   | zero => exact absurd HA.out (by simp [dn_Print.l0])
   | succ k1 =>
    have H := HA.out
    clear HA
    simp only [dn_Print.l0] at H
    by_cases c5 : x16_1 < (l0.length : Int)
    ·
     rw [if_pos c5] at H
     have c5b0 := decide_eq_true c5
     clear c5
     by_cases c6 : 0 ≤ x16_1
     ·
      rw [if_pos c6] at H
      have c6b0 := decide_eq_true c6
      clear c6
      by_cases c7 : x16_1 < (l0.length : Int)
      ·
       rw [if_pos c7] at H
       have c7b0 := decide_eq_true c7
       clear c7
       have H' := Aside0.mk H
       clear H
       have p207 : 0 ≤ (x16_1 : Int) := of_decide_eq_true ap0
       have q207 : x16_1 < (l0.length : Int) := of_decide_eq_true ap0
       obtain ⟨ad207, A207_0, c207_0, e207, hx207_0, hl207_0, hi207_0⟩ := at_L8 HR0.out x16_1 p207 q207
       cases e207
       replace hx207_0 := (HB.out.cell (World.block_lt_of_cell? w _ hx207_0)).trans hx207_0
       have HR207_0 := Aside0.mk hi207_0
       have HC207_0 := Aside0.mk hl207_0
       clear hi207_0 hl207_0
       replace p207 := eq_true p207
       replace q207 := eq_true q207
       go_wp2
       go_loopg [7, 22] k1 (fun kq v7 v22 w' => ∃ (x7_2 : List ByteArray) (x22_2 : Int), v22 = .int .i64 x22_2 ∧ Aside0 (dn_Print.l1 kq x4_1 x7_2 l0 (l0.length : Int) x16_1 (rd_L8 l0 x16_1) ((rd_L8 l0 x16_1).length : Int) x22_2 = some (r1, r2)) ∧ Aside0 (kq ≤ k1) ∧ Aside0 (Kd.R Kd.string 9 w' w.heap.size (fun k_ => some k_ ≠ (v7 : Value).ownBlock) u4 x4_1) ∧ Aside0 (Kd.R Kd.string 9 w' w.heap.size (fun k_ => some k_ ≠ (u4 : Value).ownBlock) v7 x7_2) ∧ Aside0 (Below w.heap.size w w'))
       case atStart => exact ⟨(([] : List ByteArray)), (0), ap2, H', ⟨Nat.le_refl _⟩, ⟨by (with_reducible repeat (first | apply Kd.R_alloc | apply Kd.R_drewN | apply Kd.R_drew)); exact Kd.R_mono HO_4.out (fun _ hk => (by simp [Value.ownBlock]))⟩, ⟨by first | exact Kd.R_nil _ _ _ _ _ | exact Kd.N_nil _ _ _ _ _ | exact Kd.V_nil _ _ _ _ _ | exact Kd.Q_nil _ _ _ _ _ | exact Kd.S_nil _ _ _ _ _⟩, ⟨by repeat (first | (with_reducible first | exact HB.out | apply below_alloc | apply pw_below_drewN | apply below_drew1) | exact HB.out)⟩⟩
       case round =>
        clear H'
        try clear c1
        try clear c2
        try clear p2
        try clear q2
        try clear hx2
        try clear c3
        try clear c5
        try clear c5b0
        try clear c6
        try clear c6b0
        try clear c7
        try clear c7b0
        try clear hx207_0
        try clear p2
        try clear p207
        try clear q207
        obtain ⟨x7_2, x22_2, rfl, HA, HK2, HO_4, HO_7, HB⟩ := hrel
        cases gk with
        | zero => exact absurd HA.out (by simp [dn_Print.l1])
        | succ k2 =>
         have H := HA.out
         clear HA
         simp only [dn_Print.l1] at H
         by_cases c8 : x22_2 < ((rd_L8 l0 x16_1).length : Int)
         ·
          rw [if_pos c8] at H
          have c8b0 := decide_eq_true c8
          clear c8
          by_cases c9 : 0 ≤ x22_2
          ·
           rw [if_pos c9] at H
           have c9b0 := decide_eq_true c9
           clear c9
           by_cases c10 : x22_2 < ((rd_L8 l0 x16_1).length : Int)
           ·
            rw [if_pos c10] at H
            have c10b0 := decide_eq_true c10
            clear c10
            by_cases c11 : ((rd_T40 (rd_L8 l0 x16_1) x22_2).f0).size + 1 ≤ 9223372036854775807
            ·
             rw [if_pos c11] at H
             have c11b0 := eq_true c11
             have c11b1 := decide_eq_true c11
             try have c11b2 : (9223372036854775807 < ((rd_T40 (rd_L8 l0 x16_1) x22_2).f0).size + 1) = False := eq_false (Nat.not_lt.2 c11)
             replace H := Option.bind_eq_some_iff.mp H
             obtain ⟨t210, A120, H⟩ := H
             replace H : (if (((rd_T40 (rd_L8 l0 x16_1) x22_2).f0) ++ (⟨#[61]⟩ : ByteArray)).size + t210.size ≤ 9223372036854775807 then (if x7_2.length < 8796093022208 then (dn_Print.l1 k2 x4_1 (x7_2 ++ [(((rd_T40 (rd_L8 l0 x16_1) x22_2).f0) ++ (⟨#[61]⟩ : ByteArray)) ++ t210]) l0 (l0.length : Int) x16_1 (rd_L8 l0 x16_1) ((rd_L8 l0 x16_1).length : Int) (wrap64 (x22_2 + 1))) else (none)) else (none)) = some (r1, r2) := H
             have A12 := Aside0.mk A120
             clear A120
             by_cases c13 : (((rd_T40 (rd_L8 l0 x16_1) x22_2).f0) ++ (⟨#[61]⟩ : ByteArray)).size + t210.size ≤ 9223372036854775807
             ·
              rw [if_pos c13] at H
              have c13b0 := eq_true c13
              have c13b1 := decide_eq_true c13
              try have c13b2 : (9223372036854775807 < (((rd_T40 (rd_L8 l0 x16_1) x22_2).f0) ++ (⟨#[61]⟩ : ByteArray)).size + t210.size) = False := eq_false (Nat.not_lt.2 c13)
              try (have c13f := eq_false (Nat.not_lt.2 c13); simp only [ByteArray.size_append, sz_lit1, sz_lit2, sz_lit3] at c13f)
              by_cases c14 : x7_2.length < 8796093022208
              ·
               rw [if_pos c14] at H
               have LMc14 := Aside0.mk c14
               clear c14
               obtain ⟨y211, hy211⟩ : ∃ y_ : List ByteArray, y_ = (x7_2 ++ [(((rd_T40 (rd_L8 l0 x16_1) x22_2).f0) ++ (⟨#[61]⟩ : ByteArray)) ++ t210]) := ⟨_, rfl⟩
               replace H : (dn_Print.l1 k2 x4_1 y211 l0 (l0.length : Int) x16_1 (rd_L8 l0 x16_1) ((rd_L8 l0 x16_1).length : Int) (wrap64 (x22_2 + 1))) = some (r1, r2) := by first | (rw [hy211]; with_reducible exact H) | (have H2_ := (Option.bind_some _ _).symm.trans H; rw [hy211]; with_reducible exact H2_) | (have H2_ := (Option.bind_some _ _).symm.trans H; with_reducible exact H2_) | with_reducible exact H | (rw [hy211]; exact H) | exact H
               have Ny211 := Aside0.mk hy211
               clear hy211
               have H' := Aside0.mk H
               clear H
               have p208 : 0 ≤ (x22_2 : Int) := of_decide_eq_true ap0
               have q208 : x22_2 < ((rd_L8 l0 x16_1).length : Int) := of_decide_eq_true ap0
               obtain ⟨ad208, e208, hx208_0, hx208_1⟩ := at_T40 HR207_0.out x22_2 p208 q208
               cases e208
               replace hx208_0 := (HB.out.cell (World.block_lt_of_cell? w _ hx208_0)).trans hx208_0
               replace hx208_1 := (HB.out.cell (World.block_lt_of_cell? w _ hx208_1)).trans hx208_1
               replace p208 := eq_true p208
               replace q208 := eq_true q208
               try go_wp2_with (first | ((with_reducible refine gate_dst (N := 9) rfl ?_); refine box_event ?hg (N := 9) ?hd (cs := #[.string (⟨#[]⟩ : ByteArray), .string (⟨#[]⟩ : ByteArray)]) (t := 40) ?hr ?_; (case hd => rfl); (case hg => rfl); (case hr => first | (go_simp; done) | (go_simp; rfl)); intro gb209 hg w15 hbox hb; have n0_ := Aside0.mk (Kd.R_below (apAR HO_4.out) hb); have n1_ := Aside0.mk (Kd.R_below (apAR HO_7.out) hb); have n2_ := Aside0.mk (below_step ap1 hb); have n3_ := Aside0.mk (hbox); have n4_ := Aside0.mk ((by rw [hg]; exact (below_size ap1) : w.heap.size ≤ gb209)); have n5_ := Aside0.mk ((by rw [hg]; exact (below_size ap1) : w.heap.size ≤ gb209)); clear HO_4; clear HO_7; clear HB; have HO_4 := n0_; have HO_7 := n1_; have HB := n2_; have BK209 := n3_; have GW209 := n4_; have GE209 := n5_; clear n0_ n1_ n2_ n3_ n4_ n5_; clear hb hbox hg; have hcz16_0 : w15.cell? ⟨gb209, 0, none⟩ = some (.string (⟨#[]⟩ : ByteArray)) := (blk_cell BK209.out 0).trans rfl; have hcz16_1 : w15.cell? ⟨gb209, 1, none⟩ = some (.string (⟨#[]⟩ : ByteArray)) := (blk_cell BK209.out 1).trans rfl; have hfz16_0 := blk_frozen BK209.out 0; have hfz16_1 := blk_frozen BK209.out 1))
               have n0_ : Aside0 (Kd.R Kd.string 9 ((w15.setCell ⟨gb209, 0, none⟩ (.string ((rd_T40 (rd_L8 l0 x16_1) x22_2).f0))).setCell ⟨gb209, 1, none⟩ (.string ((rd_T40 (rd_L8 l0 x16_1) x22_2).f1))) w.heap.size (fun k_ => some k_ ≠ (u7 : Value).ownBlock) u4 x4_1) := ⟨by (with_reducible repeat (first | apply Kd.R_alloc | apply Kd.R_drewN | apply Kd.R_drew)); exact Kd.R_mono (Kd.R_far (p := ⟨gb209, 1, none⟩) (Kd.R_far (p := ⟨gb209, 0, none⟩) (Kd.R_types HO_4.out BK209.out (by decide)) (fun _ hk => hk.2) (.string ((rd_T40 (rd_L8 l0 x16_1) x22_2).f0))) (fun _ hk => hk.2) (.string ((rd_T40 (rd_L8 l0 x16_1) x22_2).f1))) (fun _ hk => hk.1)⟩
               have n1_ : Aside0 (Kd.R Kd.string 9 ((w15.setCell ⟨gb209, 0, none⟩ (.string ((rd_T40 (rd_L8 l0 x16_1) x22_2).f0))).setCell ⟨gb209, 1, none⟩ (.string ((rd_T40 (rd_L8 l0 x16_1) x22_2).f1))) w.heap.size (fun k_ => some k_ ≠ (u4 : Value).ownBlock) u7 x7_2) := ⟨by (with_reducible repeat (first | apply Kd.R_alloc | apply Kd.R_drewN | apply Kd.R_drew)); exact Kd.R_mono (Kd.R_far (p := ⟨gb209, 1, none⟩) (Kd.R_far (p := ⟨gb209, 0, none⟩) (Kd.R_types HO_7.out BK209.out (by decide)) (fun _ hk => hk.2) (.string ((rd_T40 (rd_L8 l0 x16_1) x22_2).f0))) (fun _ hk => hk.2) (.string ((rd_T40 (rd_L8 l0 x16_1) x22_2).f1))) (fun _ hk => hk.1)⟩
               have n2_ : Aside0 (((w15.setCell ⟨gb209, 0, none⟩ (.string ((rd_T40 (rd_L8 l0 x16_1) x22_2).f0))).setCell ⟨gb209, 1, none⟩ (.string ((rd_T40 (rd_L8 l0 x16_1) x22_2).f1))).heap[gb209]? = some (.cells #[.string ((rd_T40 (rd_L8 l0 x16_1) x22_2).f0), .string ((rd_T40 (rd_L8 l0 x16_1) x22_2).f1)] 40 (0, 0))) := ⟨by (with_reducible repeat (first | refine blk_drewN ?_ _ | refine blk_drew ?_ | refine blk_alloc ?_ _)); refine blk_put (cs := #[.string ((rd_T40 (rd_L8 l0 x16_1) x22_2).f0), .string (⟨#[]⟩ : ByteArray)]) ?_ 1 _ rfl; (with_reducible repeat (first | refine blk_drewN ?_ _ | refine blk_drew ?_ | refine blk_alloc ?_ _)); refine blk_put (cs := #[.string (⟨#[]⟩ : ByteArray), .string (⟨#[]⟩ : ByteArray)]) ?_ 0 _ rfl; (with_reducible repeat (first | refine blk_drewN ?_ _ | refine blk_drew ?_ | refine blk_alloc ?_ _)); exact BK209.out⟩
               have n3_ : Aside0 (Below w.heap.size w ((w15.setCell ⟨gb209, 0, none⟩ (.string ((rd_T40 (rd_L8 l0 x16_1) x22_2).f0))).setCell ⟨gb209, 1, none⟩ (.string ((rd_T40 (rd_L8 l0 x16_1) x22_2).f1)))) := ⟨by repeat (first | (with_reducible first | exact HB.out | apply below_alloc | apply pw_below_drewN | apply below_drew1 | refine below_set ?_ GE209.out) | exact HB.out)⟩
               (try clear HO_4)
               (try clear HO_7)
               (try clear BK209)
               (try clear HB)
               generalize ((w15.setCell ⟨gb209, 0, none⟩ (.string ((rd_T40 (rd_L8 l0 x16_1) x22_2).f0))).setCell ⟨gb209, 1, none⟩ (.string ((rd_T40 (rd_L8 l0 x16_1) x22_2).f1))) = w17 at n0_ n1_ n2_ n3_ ⊢
               have HO_4 := n0_
               have HO_7 := n1_
               have BK209 := n2_
               have HB := n3_
               clear n0_ n1_ n2_ n3_
               have n0_ := Aside0.mk (Kd.R_drew HO_4.out)
               have n1_ := Aside0.mk (Kd.R_drew HO_7.out)
               have n2_ := Aside0.mk (blk_drew BK209.out)
               have n3_ := Aside0.mk (below_drew1 HB.out)
               clear HO_4
               clear HO_7
               clear BK209
               clear HB
               have HO_4 := n0_
               have HO_7 := n1_
               have BK209 := n2_
               have HB := n3_
               clear n0_ n1_ n2_ n3_
               refine start_ (n := 11) (S := fun w' => w'.cell? ⟨gb209, 0, none⟩ = some (.string ((rd_T40 (rd_L8 l0 x16_1) x22_2).f0)) ∧ w'.cell? ⟨gb209, 1, none⟩ = some (.string ((rd_T40 (rd_L8 l0 x16_1) x22_2).f1))) (ds := []) #[false, false, false, false, false, false, false, false, false, false, false] (by kernel_rfl) rfl rfl ⟨(blk_cell BK209.out 0).trans rfl, (blk_cell BK209.out 1).trans rfl⟩ (fun hHeld => ?_); refine with_tabW dn_Print.tab11 dn_Print.bits11 (fun HT_ HW_ => ?_)
               generalize w17.drew = w18 at HO_4 HO_7 BK209 HB hHeld ⊢
               refine pure_ (i := 0) (N := some 26) (v := ?_) (a' := ?_) #[true, false, false, false, false, false, false, false, false, false, false] rfl rfl (any_of HT_.out (by kernel_rfl)) (fun _ _ _ h => h) (Or.inl ⟨by rfl, ?_⟩) ?_ ?_
               rotate_left
               ·
                intro w'
                go_simp
                with_reducible rfl
               rotate_left
               ·
                simp only [Act.put, List.setIfInBounds_toArray, List.set_cons_zero, List.set_cons_succ, i64_w, i32_w]
                rfl
               refine pure_ (i := 1) (N := some 27) (v := ?_) (a' := ?_) #[true, true, false, false, false, false, false, false, false, false, false] rfl rfl (any_of HT_.out (by kernel_rfl)) (fun _ _ _ h => h) (Or.inl ⟨by rfl, ?_⟩) ?_ ?_
               rotate_left
               ·
                intro w'
                go_simp
                with_reducible rfl
               rotate_left
               ·
                simp only [Act.put, List.setIfInBounds_toArray, List.set_cons_zero, List.set_cons_succ, i64_w, i32_w]
                rfl
               refine pure_ (i := 4) (N := some 30) (v := ?_) (a' := ?_) #[true, true, false, false, true, false, false, false, false, false, false] rfl rfl (any_of HT_.out (by kernel_rfl)) (fun _ _ _ h => h) (Or.inl ⟨by rfl, ?_⟩) ?_ ?_
               rotate_left
               ·
                intro w'
                go_simp
                with_reducible rfl
               rotate_left
               ·
                simp only [Act.put, List.setIfInBounds_toArray, List.set_cons_zero, List.set_cons_succ, i64_w, i32_w]
                rfl
               refine take_ (i := 2) (N := some 28) (v := ?_) (a' := ?_) #[true, true, true, false, true, false, false, false, false, false, false] rfl rfl (take_ofW HT_.out HW_.out (by kernel_rfl)) (fun _ _ _ h => h) (Or.inl ⟨by rfl, ?_⟩) hHeld ?_ ?_
               rotate_left
               ·
                rintro w' ⟨s0, s1⟩
                go_simp
                with_reducible rfl
               rotate_left
               ·
                simp only [Act.put, List.setIfInBounds_toArray, List.set_cons_zero, List.set_cons_succ, i64_w, i32_w]
                rfl
               refine pure_ (i := 3) (N := some 29) (v := ?_) (a' := ?_) #[true, true, true, true, true, false, false, false, false, false, false] rfl rfl (any_of HT_.out (by kernel_rfl)) (fun _ _ _ h => h) (Or.inl ⟨by rfl, ?_⟩) ?_ ?_
               rotate_left
               ·
                intro w'
                go_simp
                with_reducible rfl
               rotate_left
               ·
                simp only [Act.put, List.setIfInBounds_toArray, List.set_cons_zero, List.set_cons_succ, i64_w, i32_w]
                rfl
               refine take_ (i := 5) (N := some 31) (v := ?_) (a' := ?_) #[true, true, true, true, true, true, false, false, false, false, false] rfl rfl (take_ofW HT_.out HW_.out (by kernel_rfl)) (fun _ _ _ h => h) (Or.inl ⟨by rfl, ?_⟩) hHeld ?_ ?_
               rotate_left
               ·
                rintro w' ⟨s0, s1⟩
                go_simp
                with_reducible rfl
               rotate_left
               ·
                simp only [Act.put, List.setIfInBounds_toArray, List.set_cons_zero, List.set_cons_succ, i64_w, i32_w]
                rfl
               refine one_ (i := 6) (N := some 32) #[true, true, true, true, true, true, true, false, false, false, false] rfl rfl (one_of HT_.out (by kernel_rfl)) (by decide) (fun K hK => ?_)
               refine goes_ Tryz.func29 (by kernel_rfl) rfl #[.string ((rd_T40 (rd_L8 l0 x16_1) x22_2).f1)] (by rfl) rfl rfl ap3 ?_
               with_reducible refine (dn_value.calls ((rd_T40 (rd_L8 l0 x16_1) x22_2).f1) t210 _ A12.out).mono ?_
               rintro e w19 ⟨rfl, hb⟩
               refine ⟨_, rfl, ?_⟩
               have n0_ := Aside0.mk (Kd.R_below (apAR HO_4.out) hb)
               have n1_ := Aside0.mk (Kd.R_below (apAR HO_7.out) hb)
               have n2_ := Aside0.mk (blk_below (g := gb209) (o := .cells #[.string ((rd_T40 (rd_L8 l0 x16_1) x22_2).f0), .string ((rd_T40 (rd_L8 l0 x16_1) x22_2).f1)] 40 (0, 0)) (apB BK209.out) hb)
               have n3_ := Aside0.mk (below_step (apG GE209.out) hb)
               clear HO_4
               clear HO_7
               clear BK209
               clear HB
               have HO_4 := n0_
               have HO_7 := n1_
               have BK209 := n2_
               have HB := n3_
               clear n0_ n1_ n2_ n3_
               (try clear hb)
               (try clear hb2)
               (try clear hk)
               (try clear hi)
               refine hK.out _ _ ⟨(blk_cell BK209.out 0).trans rfl, (blk_cell BK209.out 1).trans rfl⟩ (fun hHeld => ?_)
               clear hK K
               refine norm_ (a' := ?_) ?_ ?_
               rotate_left
               ·
                show Act.put _ (some 32) _ = _
                simp only [Act.put, List.setIfInBounds_toArray, List.set_cons_zero, List.set_cons_succ, i64_w, i32_w]
                rfl
               refine pure_ (i := 7) (N := some 33) (v := ?_) (a' := ?_) #[true, true, true, true, true, true, true, true, false, false, false] rfl rfl (any_of HT_.out (by kernel_rfl)) (fun _ _ _ h => h) (Or.inl ⟨by rfl, ?_⟩) ?_ ?_
               rotate_left
               ·
                intro w'
                go_simp
                with_reducible rfl
               rotate_left
               ·
                simp only [Act.put, List.setIfInBounds_toArray, List.set_cons_zero, List.set_cons_succ, i64_w, i32_w]
                rfl
               refine one_ (i := 8) (N := some 34) #[true, true, true, true, true, true, true, true, true, false, false] rfl rfl (one_of HT_.out (by kernel_rfl)) (by decide) (fun K hK => ?_)
               refine value_ (w1 := ?_) (v := ?_) (by rfl) rfl ?_ ?_
               rotate_left 2
               ·
                go_simp
                constructor
                ·
                 rfl
                ·
                 rfl
               refine hK.out _ _ ⟨(blk_cell (blk_alloc BK209.out _) 0).trans rfl, (blk_cell (blk_alloc BK209.out _) 1).trans rfl⟩ (fun hHeld => ?_)
               clear hK K
               refine norm_ (a' := ?_) ?_ ?_
               rotate_left
               ·
                show Act.put _ (some 34) _ = _
                simp only [Act.put, List.setIfInBounds_toArray, List.set_cons_zero, List.set_cons_succ, i64_w, i32_w]
                rfl
               refine one_ (i := 9) (N := some 35) #[true, true, true, true, true, true, true, true, true, true, false] rfl rfl (one_of HT_.out (by kernel_rfl)) (by decide) (fun K hK => ?_)
               refine Kd.R_append_step Kd.string (w0 := w) w.heap.size (by rfl) (.tmp 26) (.tmp 34) 28 9 (.string ⟨#[]⟩) 16 rfl Tryz.underlying28 info9 rfl (by decide) (by omega) u7 x7_2 ((((rd_T40 (rd_L8 l0 x16_1) x22_2).f0) ++ (⟨#[61]⟩ : ByteArray)) ++ t210) [.string ((((rd_T40 (rd_L8 l0 x16_1) x22_2).f0) ++ (⟨#[61]⟩ : ByteArray)) ++ t210)] (fun k_ => some k_ ≠ (u4 : Value).ownBlock) (fun _ => False) rfl rfl ?aP (fun _ hk => hk.elim) ?aF ?aO ?aB ?aS ?aL ?_
               (case aP => exact rfl)
               (case aB => exact (apG GE209.out))
               (case aF => exact (fun k_ hk => Kd.fresh' (Kd.R_lt (apAR HO_4.out)) k_ hk))
               (case aO => exact (apAR HO_7.out))
               (case aS => exact (below_size (apG GE209.out)))
               (case aL => have := LMc14.out; omega)
               intro v212 w20 ho hb hg hat
               rw [← Ny211.out] at ho
               have n0_ := Aside0.mk (Kd.R_after (ok := (fun _ => True)) (by (with_reducible repeat (first | apply Kd.R_alloc | apply Kd.R_drewN | apply Kd.R_drew)); exact Kd.R_mono HO_4.out (fun _ hk => ⟨trivial, hk⟩)) hg hat)
               have n1_ := Aside0.mk (blk_grown (g := gb209) (o := .cells #[.string ((rd_T40 (rd_L8 l0 x16_1) x22_2).f0), .string ((rd_T40 (rd_L8 l0 x16_1) x22_2).f1)] 40 (0, 0)) (apB BK209.out) hg (Kd.R_ne HO_7.out BK209.out (by decide)))
               have n2_ := Aside0.mk (hb)
               have n3_ := Aside0.mk (ho)
               clear HO_4
               clear BK209
               clear HB
               clear HO_7
               have HO_4 := n0_
               have BK209 := n1_
               have HB := n2_
               have HO213 := n3_
               clear n0_ n1_ n2_ n3_
               clear ho hb hg hat
               refine hK.out _ _ ⟨(blk_cell BK209.out 0).trans rfl, (blk_cell BK209.out 1).trans rfl⟩ (fun hHeld => ?_)
               clear hK K
               refine norm_ (a' := ?_) ?_ ?_
               rotate_left
               ·
                show Act.put _ (some 35) _ = _
                simp only [Act.put, List.setIfInBounds_toArray, List.set_cons_zero, List.set_cons_succ, i64_w, i32_w]
                rfl
               refine pure_ (i := 10) (N := some 7) (v := ?_) (a' := ?_) #[true, true, true, true, true, true, true, true, true, true, true] rfl rfl (any_of HT_.out (by kernel_rfl)) (fun _ _ _ h => h) (Or.inl ⟨by rfl, ?_⟩) ?_ ?_
               rotate_left
               ·
                intro w'
                go_simp
                with_reducible rfl
               rotate_left
               ·
                simp only [Act.put, List.setIfInBounds_toArray, List.set_cons_zero, List.set_cons_succ, i64_w, i32_w]
                rfl
               refine done_ (done_of HT_.out (by kernel_rfl)) ?_
               try go_wp2
               go_roundg k2
               case measure => have := HK1.out; have := HK2.out; omega
               case rel => exact ⟨(y211), (wrap64 (x22_2 + 1)), ap2, H', ⟨by have := HK1.out; have := HK2.out; omega⟩, ⟨by (with_reducible repeat (first | apply Kd.R_alloc | apply Kd.R_drewN | apply Kd.R_drew)); exact Kd.R_mono HO_4.out (fun _ hk => hk.2)⟩, ⟨by (with_reducible repeat (first | apply Kd.R_alloc | apply Kd.R_drewN | apply Kd.R_drew)); exact HO213.out⟩, ⟨by repeat (first | (with_reducible first | exact HB.out | apply below_alloc | apply pw_below_drewN | apply below_drew1 | refine below_set ?_ GE209.out) | exact HB.out)⟩⟩
              ·
               rw [if_neg c14] at H
               exact absurd H (by simp)
             ·
              rw [if_neg c13] at H
              exact absurd H (by simp)
            ·
             rw [if_neg c11] at H
             exact absurd H (by simp)
           ·
            rw [if_neg c10] at H
            exact absurd H (by simp)
          ·
           rw [if_neg c9] at H
           exact absurd H (by simp)
         ·
          rw [if_neg c8] at H
          have c8b0 := decide_eq_false c8
          clear c8
          replace H := Option.bind_eq_some_iff.mp H
          obtain ⟨t214, A210, H⟩ := H
          replace H : (if x4_1.length < 8796093022208 then (dn_Print.l0 k2 (x4_1 ++ [t214]) l0 (l0.length : Int) (wrap64 (x16_1 + 1))) else (none)) = some (r1, r2) := H
          have A21 := Aside0.mk A210
          clear A210
          by_cases c22 : x4_1.length < 8796093022208
          ·
           rw [if_pos c22] at H
           have LMc22 := Aside0.mk c22
           clear c22
           obtain ⟨y215, hy215⟩ : ∃ y_ : List ByteArray, y_ = (x4_1 ++ [t214]) := ⟨_, rfl⟩
           replace H : (dn_Print.l0 k2 y215 l0 (l0.length : Int) (wrap64 (x16_1 + 1))) = some (r1, r2) := by first | (rw [hy215]; with_reducible exact H) | (have H2_ := (Option.bind_some _ _).symm.trans H; rw [hy215]; with_reducible exact H2_) | (have H2_ := (Option.bind_some _ _).symm.trans H; with_reducible exact H2_) | with_reducible exact H | (rw [hy215]; exact H) | exact H
           have Ny215 := Aside0.mk hy215
           clear hy215
           have H' := Aside0.mk H
           clear H
           obtain ⟨Ao23, co23, eo23⟩ := Kd.R_slice HO_7.out
           subst eo23
           go_wp2_with (first | ((with_reducible refine gate_callee (f := 30) rfl ?_); refine goesL_ (some 39) rfl rfl Tryz.func30 (by kernel_rfl) rfl #[.slice Ao23 x7_2.length co23, .string (⟨#[43]⟩ : ByteArray)] rfl ap3 ?_; (with_reducible refine (strings_Join.calls _ _ x7_2 (⟨#[43]⟩ : ByteArray) t214 _ ?side1 ?side2 A21.out).mono ?_); (case side1 => repeat (first | exact (Kd.R_reads' HO_7.out).2.2 | (with_reducible refine Kd.C_alloc ?_ _) | (with_reducible refine Kd.C_drewN ?_ _) | (with_reducible refine Kd.C_drew ?_))); (case side2 => exact (Kd.R_reads' HO_7.out).2.1); rintro e w24 ⟨rfl, hb⟩; refine ⟨_, rfl, ?_⟩; have n0_ := Aside0.mk (Kd.R_below (apAR HO_4.out) hb); have n1_ := Aside0.mk (Kd.R_below (apAR HO_7.out) hb); have n2_ := Aside0.mk (below_step ap1 hb); clear HO_4; clear HO_7; clear HB; have HO_4 := n0_; have HO_7 := n1_; have HB := n2_; clear n0_ n1_ n2_; (try clear hb); (try clear hb2); (try clear hk); (try clear hi)) | ((with_reducible refine gate_builtin (b := .append) (xs := #[.tmp 37, .tmp 40]) rfl ?_); at_builtin; refine Kd.R_append Kd.string (w0 := w) w.heap.size rfl (.tmp 37) (.tmp 40) 28 9 (.string ⟨#[]⟩) 16 rfl Tryz.underlying28 info9 rfl (by decide) (by omega) u4 x4_1 t214 [.string t214] (fun k_ => some k_ ≠ (.slice Ao23 x7_2.length co23 : Value).ownBlock) (fun _ => False) rfl rfl ?aP (fun _ hk => hk.elim) ?aF ?aO ?aB ?aS ?aL ?_; (case aP => exact rfl); (case aB => exact ap1); (case aF => exact (fun k_ hk => Kd.fresh' (Kd.R_lt (apAR HO_7.out)) k_ hk)); (case aO => exact (apAR HO_4.out)); (case aS => exact (below_size ap1)); (case aL => have := LMc22.out; omega); intro v216 w25 ho hb hg hat; rw [← Ny215.out] at ho; have n0_ := Aside0.mk (Kd.R_after (ok := (fun _ => True)) (by (with_reducible repeat (first | apply Kd.R_alloc | apply Kd.R_drewN | apply Kd.R_drew)); exact Kd.R_mono HO_7.out (fun _ hk => ⟨trivial, hk⟩)) hg hat); have n1_ := Aside0.mk (hb); have n2_ := Aside0.mk (ho); clear HO_7; clear HB; clear HO_4; have HO_7 := n0_; have HB := n1_; have HO217 := n2_; clear n0_ n1_ n2_; clear ho hb hg hat))
           go_roundg k2
           case measure => have := HK1.out; have := HK2.out; omega
           case rel => exact ⟨(y215), (wrap64 (x16_1 + 1)), ap2, H', ⟨by have := HK1.out; have := HK2.out; omega⟩, ⟨by (with_reducible repeat (first | apply Kd.R_alloc | apply Kd.R_drewN | apply Kd.R_drew)); exact Kd.R_mono HO217.out (fun _ hk => trivial)⟩, ⟨by repeat (first | (with_reducible first | exact HB.out | apply below_alloc | apply pw_below_drewN | apply below_drew1) | exact HB.out)⟩⟩
          ·
           rw [if_neg c22] at H
           exact absurd H (by simp)
      ·
       rw [if_neg c7] at H
       exact absurd H (by simp)
     ·
      rw [if_neg c6] at H
      exact absurd H (by simp)
    ·
     rw [if_neg c5] at H
     have c5b0 := decide_eq_false c5
     clear c5
     replace H := Option.bind_eq_some_iff.mp H
     obtain ⟨t206, A260, H⟩ := H
     replace H : (if (t206.size : Int) > 1000 then (some ((⟨#[]⟩ : ByteArray), 5)) else (some (t206, 0))) = some (r1, r2) := H
     have A26 := Aside0.mk A260
     clear A260
     by_cases c27 : (t206.size : Int) > 1000
     ·
      rw [if_pos c27] at H
      have c27b0 := decide_eq_true c27
      have c27b1 : decide (1000 < t206.size) = true := decide_eq_true (by omega)
      clear c27
      simp only [Option.some.injEq, Prod.mk.injEq] at H
      obtain ⟨rfl, rfl⟩ := H
      obtain ⟨Ao28, co28, eo28⟩ := Kd.R_slice HO_4.out
      subst eo28
      go_wp2_with (first | ((with_reducible refine gate_callee (f := 30) rfl ?_); refine goesL_ (some 44) rfl rfl Tryz.func30 (by kernel_rfl) rfl #[.slice Ao28 x4_1.length co28, .string (⟨#[44]⟩ : ByteArray)] rfl ap3 ?_; (with_reducible refine (strings_Join.calls _ _ x4_1 (⟨#[44]⟩ : ByteArray) t206 _ ?side1 ?side2 A26.out).mono ?_); (case side1 => repeat (first | exact (Kd.R_reads' HO_4.out).2.2 | (with_reducible refine Kd.C_alloc ?_ _) | (with_reducible refine Kd.C_drewN ?_ _) | (with_reducible refine Kd.C_drew ?_))); (case side2 => exact (Kd.R_reads' HO_4.out).2.1); rintro e w29 ⟨rfl, hb⟩; refine ⟨_, rfl, ?_⟩; have n0_ := Aside0.mk (Kd.R_below (apAR HO_4.out) hb); have n1_ := Aside0.mk (below_step ap1 hb); clear HO_4; clear HB; have HO_4 := n0_; have HB := n1_; clear n0_ n1_; (try clear hb); (try clear hb2); (try clear hk); (try clear hi)))
      go_ret2
      exact ⟨by first | rfl | (simp [errW_none, errW_some, bne_nil8, beq_nil8]; done) | (simp [errW_none, errW_some] <;> rfl) | (simp [*, errW_none, errW_some] <;> rfl), by repeat (first | (with_reducible first | exact HB.out | apply below_alloc | apply pw_below_drewN | apply below_drew1) | exact HB.out)⟩
     ·
      rw [if_neg c27] at H
      have c27b0 := decide_eq_false c27
      have c27b1 : decide (1000 < t206.size) = false := decide_eq_false (by omega)
      clear c27
      simp only [Option.some.injEq, Prod.mk.injEq] at H
      obtain ⟨rfl, rfl⟩ := H
      obtain ⟨Ao30, co30, eo30⟩ := Kd.R_slice HO_4.out
      subst eo30
      go_wp2_with (first | ((with_reducible refine gate_callee (f := 30) rfl ?_); refine goesL_ (some 44) rfl rfl Tryz.func30 (by kernel_rfl) rfl #[.slice Ao30 x4_1.length co30, .string (⟨#[44]⟩ : ByteArray)] rfl ap3 ?_; (with_reducible refine (strings_Join.calls _ _ x4_1 (⟨#[44]⟩ : ByteArray) t206 _ ?side1 ?side2 A26.out).mono ?_); (case side1 => repeat (first | exact (Kd.R_reads' HO_4.out).2.2 | (with_reducible refine Kd.C_alloc ?_ _) | (with_reducible refine Kd.C_drewN ?_ _) | (with_reducible refine Kd.C_drew ?_))); (case side2 => exact (Kd.R_reads' HO_4.out).2.1); rintro e w31 ⟨rfl, hb⟩; refine ⟨_, rfl, ?_⟩; have n0_ := Aside0.mk (Kd.R_below (apAR HO_4.out) hb); have n1_ := Aside0.mk (below_step ap1 hb); clear HO_4; clear HB; have HO_4 := n0_; have HB := n1_; clear n0_ n1_; (try clear hb); (try clear hb2); (try clear hk); (try clear hi)))
      go_ret2
      exact ⟨by first | rfl | (simp [errW_none, errW_some, bne_nil8, beq_nil8]; done) | (simp [errW_none, errW_some] <;> rfl) | (simp [*, errW_none, errW_some] <;> rfl), by repeat (first | (with_reducible first | exact HB.out | apply below_alloc | apply pw_below_drewN | apply below_drew1) | exact HB.out)⟩
 ·
  replace c3 := Bool.eq_false_iff.mpr c3
  subst c3
  rw [if_neg (show ¬ (false = true) by decide)] at H
  simp only [Option.some.injEq, Prod.mk.injEq] at H
  obtain ⟨rfl, rfl⟩ := H
  go_enter Tryz.func17, Tryz.ntmps17
  go_wp2_with (first | ((with_reducible refine gate_callee (f := 20) rfl ?_); refine goesL_ (some 12) rfl rfl Tryz.func20 (by kernel_rfl) rfl #[.slice A0 l0.length c0] rfl ap3 ?_; (with_reducible refine (dn_Right.calls k _ _ l0 false _ ?side1 ?side2 ?side3 A2.out).mono ?_); (case side1 => repeat (first | exact HR0.out | (with_reducible refine Kd.C_alloc ?_ _) | (with_reducible refine Kd.C_drewN ?_ _) | (with_reducible refine Kd.C_drew ?_))); (case side2 => exact HC0.out); (case side3 => exact ap6); rintro e w32 ⟨rfl, hb⟩; refine ⟨_, rfl, ?_⟩; have n0_ := Aside0.mk (below_step ap1 hb); clear HB; have HB := n0_; clear n0_; (try clear hb); (try clear hb2); (try clear hk); (try clear hi)))
  go_ret2
  exact ⟨by first | rfl | (simp [errW_none, errW_some, bne_nil8, beq_nil8]; done) | (simp [errW_none, errW_some] <;> rfl) | (simp [*, errW_none, errW_some] <;> rfl), by repeat (first | (with_reducible first | exact HB.out | apply below_alloc | apply pw_below_drewN | apply below_drew1) | exact HB.out)⟩
end Go.Proofs.YtkklacijhmoopaaGreatDoor.Print
namespace Go.Proofs.YtkklacijhmoopaaGreatDoor.Print
open Go.RowKit Go.Proofs.YtkklacijhmoopaaGreatDoorW.PrintWords Go.Proofs.YtkklacijhmoopaaGreatDoorW.PrintLast Go.Proofs.YtkklacijhmoopaaGreatDoorW.PrintMore Go.Proofs.YtkklacijhmoopaaGreatDoor.Pure
set_option linter.unusedVariables false
set_option linter.unusedSimpArgs false
theorem idx_all : ∀ n : Nat, n < 256 → decide (0 ≤ Lib.indexByte dnSigns (UInt8.ofNat n)) = special (UInt8.ofNat n) := by decide +kernel
theorem idx_is (c : UInt8) : (0 ≤ Lib.indexByte dnSigns c) ↔ special c = true := by
  have := idx_all c.toNat c.toNat_lt
  rw [ofNat_toNat8] at this
  rw [← this, decide_eq_true_iff]
theorem piece_is (n i : Nat) (c : UInt8) : dnPiece n i c = if c.toNat < 32 ∨ c.toNat = 127 then 92 :: hexOf [c] else if (c = 32 ∧ (i = 0 ∨ i + 1 = n)) ∨ (c = 35 ∧ i = 0) ∨ special c = true then [92, c] else [c] := by
  have h1 : (c.toNat = 32) ↔ c = 32 := ⟨fun h => UInt8.toNat_inj.1 h, fun h => by rw [h]; rfl⟩
  have h2 : (c.toNat = 35) ↔ c = 35 := ⟨fun h => UInt8.toNat_inj.1 h, fun h => by rw [h]; rfl⟩
  unfold dnPiece
  simp only [h1, h2, idx_is]
def textN (n : Nat) : Nat → List UInt8 → List UInt8
  | _, [] => []
  | i, c :: r => dnPiece n i c ++ textN n (i + 1) r
theorem textN_is (l : List UInt8) : ∀ (r : List UInt8) (i : Nat), l.drop i = r → ((List.range' i r.length).flatMap fun i => dnPiece l.length i (l.getD i 0)) = textN l.length i r
  | [], i, h => rfl
  | c :: r, i, h => by
    obtain ⟨h1, h2, h3⟩ := getD_at (d := (0 : UInt8)) h
    rw [Int.toNat_natCast] at h2
    rw [List.length_cons, List.range'_succ, List.flatMap_cons, h2, textN_is l r (i + 1) h3]; rfl
theorem dnText_is (l : List UInt8) : dnText l = textN l.length 0 l := by
  unfold dnText
  rw [List.range_eq_range']
  exact textN_is l l 0 rfl
def pairText (a : Pr) : List UInt8 := a.1 ++ 61 :: dnText a.2
def joinT (c : UInt8) : List (List UInt8) → List UInt8
  | [] => []
  | [x] => x
  | x :: y :: r => x ++ c :: joinT c (y :: r)
def rdnText (l : List Pr) : List UInt8 := joinT 43 (l.map pairText)
def nameText (n : List (List Pr)) : List UInt8 := joinT 44 (n.map rdnText)
def shortN (B : Nat) (n : List (List Pr)) : Prop := n.length ≤ B ∧ ∀ l ∈ n, l.length ≤ B ∧ ∀ a ∈ l, a.1.length ≤ B ∧ a.2.length ≤ B
theorem sz_mk {B : Nat} (hB : B ≤ 100000) {n : List (List Pr)} (h : shortN B n) : (mkN n).length ≤ 1000000 ∧ szN (mkN n) ∧ ∀ l ∈ mkN n, l.length ≤ 1000000 := by
  have hs : szN (mkN n) := by
    intro l hl
    obtain ⟨x, hx, rfl⟩ := List.mem_map.1 hl
    obtain ⟨h1, h2⟩ := h.2 x hx
    refine ⟨by rw [mkR_len]; omega, ?_⟩
    intro a ha
    obtain ⟨p, hp, rfl⟩ := List.mem_map.1 ha
    obtain ⟨k1, k2⟩ := h2 p hp
    have e1 : (mkA p).f0.size = p.1.length := by rw [← bl_length]; rfl
    have e2 : (mkA p).f1.size = p.2.length := by rw [← bl_length]; rfl
    exact ⟨by omega, by omega⟩
  exact ⟨by rw [mkN_len]; have := h.1; omega, hs, fun l hl => (hs l hl).1⟩
end Go.Proofs.YtkklacijhmoopaaGreatDoor.Print
namespace Go.Proofs.YtkklacijhmoopaaGreatDoor.Print
open Go.RowKit Go.Proofs.YtkklacijhmoopaaGreatDoorW.PrintWords Go.Proofs.YtkklacijhmoopaaGreatDoorW.PrintLast Go.Proofs.YtkklacijhmoopaaGreatDoorW.PrintMore
attribute [local go_sem] max2_int min2_int max_two min_two max_three min_three max_four min_four
set_option linter.unusedVariables false
set_option linter.unusedSimpArgs false
mutual
def L15Long.l0 : Nat → List (List (S40)) → Int → Option (Bool)
 | 0, _, _ => none
 | k + 1, x0, x3 => if x3 < (x0.length : Int) then (L15Long.j1 k x0 x3 (decide (x3 < 30))) else (L15Long.j1 k x0 x3 false)
def L15Long.j1 : Nat → List (List (S40)) → Int → Bool → Option (Bool)
 | 0, _, _, _ => none
 | k + 1, x0, x3, x12 => if x12 = true then (L15Long.l1 k x0 x3 0) else (some (decide ((x0.length : Int) > 30)))
def L15Long.l1 : Nat → List (List (S40)) → Int → Int → Option (Bool)
 | 0, _, _, _ => none
 | k + 1, x0, x3, x4 => if 0 ≤ x3 then (if x3 < (x0.length : Int) then (if x4 < ((rd_L8 x0 x3).length : Int) then (L15Long.j3 k x0 x3 x4 (decide (x4 < 30))) else (L15Long.j3 k x0 x3 x4 false)) else (none)) else (none)
def L15Long.j3 : Nat → List (List (S40)) → Int → Int → Bool → Option (Bool)
 | 0, _, _, _, _ => none
 | k + 1, x0, x3, x4, x25 => if x25 = true then (if 0 ≤ x3 then (if x3 < (x0.length : Int) then (if 0 ≤ x4 then (if x4 < ((rd_L8 x0 x3).length : Int) then (if (((rd_T40 (rd_L8 x0 x3) x4).f0).size : Int) > 600 then (some true) else (if (((rd_T40 (rd_L8 x0 x3) x4).f1).size : Int) > 600 then (some true) else (L15Long.l1 k x0 x3 (wrap64 (x4 + 1))))) else (none)) else (none)) else (none)) else (none)) else (if 0 ≤ x3 then (if x3 < (x0.length : Int) then (if ((rd_L8 x0 x3).length : Int) > 30 then (some true) else (L15Long.l0 k x0 (wrap64 (x3 + 1)))) else (none)) else (none))
end
def L15Long.f (k : Nat) (l0 : List (List (S40))) : Option (Bool) := L15Long.l0 k l0 0
set_option maxHeartbeats 8000000 in
set_option maxRecDepth 100000 in
theorem L15Long.calls (k : Nat) (A0 : Option Addr) (c0 : Nat) (l0 : List (List (S40))) (r : Bool) (w : World) (hr0 : Kd.C (Kd.slice 40 k40) w A0 l0.length l0) (hc0 : l0.length ≤ c0) (h : L15Long.f k l0 = some r) :
  Calls Tryz.prog 6 #[.slice A0 l0.length c0] w fun e w' => e = .returned (.bool r) ∧ Drawn0 w w' := by
 have HR0 := Aside0.mk hr0
 have HC0 := Aside0.mk hc0
 clear hr0 hc0
 have H : (L15Long.l0 k l0 0) = some r := h
 clear h
 have H' := Aside0.mk H
 clear H
 go_enter Tryz.func6, Tryz.ntmps6
 go_wp2
 go_loopg [3] k (fun kq v3 w' => ∃ (x3_1 : Int), v3 = .int .i64 x3_1 ∧ Aside0 (L15Long.l0 kq l0 x3_1 = some r) ∧ Aside0 (kq ≤ k) ∧ Drawn0 w w')
 case atStart => exact ⟨(0), ap2, H', ⟨Nat.le_refl _⟩, by repeat (first | exact Drawn0.refl _ | apply Drawn0.step)⟩
 case round =>
  clear H'
  obtain ⟨x3_1, rfl, HA, HK1, ⟨m1, rfl⟩⟩ := hrel
  cases gk with
  | zero => exact absurd HA.out (by simp [L15Long.l0])
  | succ k1 =>
   have H := HA.out
   clear HA
   simp only [L15Long.l0] at H
   have HC2 := Aside0.mk H
   clear H
   go_upto_region 2 with (fail)
   go_cut [12] (fun v12 wc => ∃ (kq : Nat) (x12_1 : Bool), v12 = .bool x12_1 ∧ Aside0 (L15Long.j1 kq l0 x3_1 x12_1 = some r) ∧ Aside0 (kq ≤ k1) ∧ Drawn0 w wc)
   case first =>
    have H := HC2.out
    clear HC2
    by_cases c3 : x3_1 < (l0.length : Int)
    ·
     rw [if_pos c3] at H
     have c3b0 := decide_eq_true c3
     clear c3
     (first | rw [c3b0] | (simp only [i64_w, i32_w]; rw [c3b0]) | skip)
     have H' := Aside0.mk H
     clear H
     go_wp2
     go_meet
     case rel => exact ⟨_, (decide (x3_1 < 30)), ap2, H', ⟨by have := HK1.out; first | omega | exact Nat.le_refl _⟩, by repeat (first | exact Drawn0.refl _ | apply Drawn0.step)⟩
    ·
     rw [if_neg c3] at H
     have c3b0 := decide_eq_false c3
     clear c3
     (first | rw [c3b0] | (simp only [i64_w, i32_w]; rw [c3b0]) | skip)
     have H' := Aside0.mk H
     clear H
     go_wp2
     go_meet
     case rel => exact ⟨_, (false), ap2, H', ⟨by have := HK1.out; first | omega | exact Nat.le_refl _⟩, by repeat (first | exact Drawn0.refl _ | apply Drawn0.step)⟩
   case rest =>
    clear HC2
    try clear p2
    try clear c3
    try clear c3b0
    obtain ⟨kq, x12_1, rfl, HA, HJ1, ⟨mc1, rfl⟩⟩ := hcut
    cases kq with
    | zero => exact absurd HA.out (by simp [L15Long.j1])
    | succ kj1 =>
     have H := HA.out
     clear HA
     simp only [L15Long.j1] at H
     by_cases c4 : x12_1 = true
     ·
      subst c4
      rw [if_pos rfl] at H
      have H' := Aside0.mk H
      clear H
      go_wp2
      go_loopg [4] kj1 (fun kq v4 w' => ∃ (x4_3 : Int), v4 = .int .i64 x4_3 ∧ Aside0 (L15Long.l1 kq l0 x3_1 x4_3 = some r) ∧ Aside0 (kq ≤ kj1) ∧ Drawn0 w w')
      case atStart => exact ⟨(0), ap2, H', ⟨Nat.le_refl _⟩, by repeat (first | exact Drawn0.refl _ | apply Drawn0.step)⟩
      case round =>
       clear H'
       try clear c1
       try clear p2
       try clear c3
       try clear c3b0
       try clear c4
       try clear p2
       obtain ⟨x4_3, rfl, HA, HK3, ⟨m3, rfl⟩⟩ := hrel
       cases gk with
       | zero => exact absurd HA.out (by simp [L15Long.l1])
       | succ k3 =>
        have H := HA.out
        clear HA
        simp only [L15Long.l1] at H
        have HC5 := Aside0.mk H
        clear H
        go_upto_region 5 with (fail)
        go_cut [25] (fun v25 wc => ∃ (kq : Nat) (x25_4 : Bool), v25 = .bool x25_4 ∧ Aside0 (L15Long.j3 kq l0 x3_1 x4_3 x25_4 = some r) ∧ Aside0 (kq ≤ k3) ∧ Drawn0 w wc)
        case first =>
         have H := HC5.out
         clear HC5
         by_cases c6 : 0 ≤ x3_1
         ·
          rw [if_pos c6] at H
          have c6b0 := decide_eq_true c6
          clear c6
          (first | rw [c6b0] | (simp only [i64_w, i32_w]; rw [c6b0]) | skip)
          by_cases c7 : x3_1 < (l0.length : Int)
          ·
           rw [if_pos c7] at H
           have c7b0 := decide_eq_true c7
           clear c7
           by_cases c8 : x4_3 < ((rd_L8 l0 x3_1).length : Int)
           ·
            rw [if_pos c8] at H
            have c8b0 := decide_eq_true c8
            clear c8
            have H' := Aside0.mk H
            clear H
            have p225 : 0 ≤ (x3_1 : Int) := of_decide_eq_true ap0
            have q225 : x3_1 < (l0.length : Int) := of_decide_eq_true ap0
            obtain ⟨ad225, A225_0, c225_0, e225, hx225_0, hl225_0, hi225_0⟩ := at_L8 HR0.out x3_1 p225 q225
            cases e225
            have HR225_0 := Aside0.mk hi225_0
            have HC225_0 := Aside0.mk hl225_0
            clear hi225_0 hl225_0
            replace p225 := eq_true p225
            replace q225 := eq_true q225
            go_wp2
            go_meet
            case rel => exact ⟨_, (decide (x4_3 < 30)), ap2, H', ⟨by have := HK1.out; have := HJ1.out; have := HK3.out; first | omega | exact Nat.le_refl _⟩, by repeat (first | exact Drawn0.refl _ | apply Drawn0.step)⟩
           ·
            rw [if_neg c8] at H
            have c8b0 := decide_eq_false c8
            clear c8
            have H' := Aside0.mk H
            clear H
            have p225 : 0 ≤ (x3_1 : Int) := of_decide_eq_true ap0
            have q225 : x3_1 < (l0.length : Int) := of_decide_eq_true ap0
            obtain ⟨ad225, A225_0, c225_0, e225, hx225_0, hl225_0, hi225_0⟩ := at_L8 HR0.out x3_1 p225 q225
            cases e225
            have HR225_0 := Aside0.mk hi225_0
            have HC225_0 := Aside0.mk hl225_0
            clear hi225_0 hl225_0
            replace p225 := eq_true p225
            replace q225 := eq_true q225
            go_wp2
            go_meet
            case rel => exact ⟨_, (false), ap2, H', ⟨by have := HK1.out; have := HJ1.out; have := HK3.out; first | omega | exact Nat.le_refl _⟩, by repeat (first | exact Drawn0.refl _ | apply Drawn0.step)⟩
          ·
           rw [if_neg c7] at H
           exact absurd H (by simp)
         ·
          rw [if_neg c6] at H
          exact absurd H (by simp)
        case rest =>
         clear HC5
         try clear c1
         try clear c2
         try clear p2
         try clear q2
         try clear hx2
         try clear c3
         try clear c3b0
         try clear c4
         try clear c6
         try clear c6b0
         try clear c7
         try clear c7b0
         try clear c8
         try clear c8b0
         try clear hx225_0
         try clear p2
         try clear p225
         try clear q225
         obtain ⟨kq, x25_4, rfl, HA, HJ4, ⟨mc4, rfl⟩⟩ := hcut
         cases kq with
         | zero => exact absurd HA.out (by simp [L15Long.j3])
         | succ kj4 =>
          have H := HA.out
          clear HA
          simp only [L15Long.j3] at H
          by_cases c9 : x25_4 = true
          ·
           subst c9
           rw [if_pos rfl] at H
           by_cases c10 : 0 ≤ x3_1
           ·
            rw [if_pos c10] at H
            have c10b0 := decide_eq_true c10
            clear c10
            by_cases c11 : x3_1 < (l0.length : Int)
            ·
             rw [if_pos c11] at H
             have c11b0 := decide_eq_true c11
             clear c11
             by_cases c12 : 0 ≤ x4_3
             ·
              rw [if_pos c12] at H
              have c12b0 := decide_eq_true c12
              clear c12
              by_cases c13 : x4_3 < ((rd_L8 l0 x3_1).length : Int)
              ·
               rw [if_pos c13] at H
               have c13b0 := decide_eq_true c13
               clear c13
               by_cases c14 : (((rd_T40 (rd_L8 l0 x3_1) x4_3).f0).size : Int) > 600
               ·
                rw [if_pos c14] at H
                have c14b0 := decide_eq_true c14
                have c14b1 : decide (600 < ((rd_T40 (rd_L8 l0 x3_1) x4_3).f0).size) = true := decide_eq_true (by omega)
                clear c14
                obtain rfl := Option.some.inj H
                have p226 : 0 ≤ (x3_1 : Int) := of_decide_eq_true ap0
                have q226 : x3_1 < (l0.length : Int) := of_decide_eq_true ap0
                obtain ⟨ad226, A226_0, c226_0, e226, hx226_0, hl226_0, hi226_0⟩ := at_L8 HR0.out x3_1 p226 q226
                cases e226
                have HR226_0 := Aside0.mk hi226_0
                have HC226_0 := Aside0.mk hl226_0
                clear hi226_0 hl226_0
                replace p226 := eq_true p226
                replace q226 := eq_true q226
                have p227 : 0 ≤ (x4_3 : Int) := of_decide_eq_true ap0
                have q227 : x4_3 < ((rd_L8 l0 x3_1).length : Int) := of_decide_eq_true ap0
                obtain ⟨ad227, e227, hx227_0, hx227_1⟩ := at_T40 HR226_0.out x4_3 p227 q227
                cases e227
                replace p227 := eq_true p227
                replace q227 := eq_true q227
                go_wp2
                go_ret
                exact ⟨ap2, ap7⟩
               ·
                rw [if_neg c14] at H
                have c14b0 := decide_eq_false c14
                have c14b1 : decide (600 < ((rd_T40 (rd_L8 l0 x3_1) x4_3).f0).size) = false := decide_eq_false (by omega)
                clear c14
                by_cases c15 : (((rd_T40 (rd_L8 l0 x3_1) x4_3).f1).size : Int) > 600
                ·
                 rw [if_pos c15] at H
                 have c15b0 := decide_eq_true c15
                 have c15b1 : decide (600 < ((rd_T40 (rd_L8 l0 x3_1) x4_3).f1).size) = true := decide_eq_true (by omega)
                 clear c15
                 obtain rfl := Option.some.inj H
                 have p226 : 0 ≤ (x3_1 : Int) := of_decide_eq_true ap0
                 have q226 : x3_1 < (l0.length : Int) := of_decide_eq_true ap0
                 obtain ⟨ad226, A226_0, c226_0, e226, hx226_0, hl226_0, hi226_0⟩ := at_L8 HR0.out x3_1 p226 q226
                 cases e226
                 have HR226_0 := Aside0.mk hi226_0
                 have HC226_0 := Aside0.mk hl226_0
                 clear hi226_0 hl226_0
                 replace p226 := eq_true p226
                 replace q226 := eq_true q226
                 have p227 : 0 ≤ (x4_3 : Int) := of_decide_eq_true ap0
                 have q227 : x4_3 < ((rd_L8 l0 x3_1).length : Int) := of_decide_eq_true ap0
                 obtain ⟨ad227, e227, hx227_0, hx227_1⟩ := at_T40 HR226_0.out x4_3 p227 q227
                 cases e227
                 replace p227 := eq_true p227
                 replace q227 := eq_true q227
                 have p228 : 0 ≤ (x3_1 : Int) := of_decide_eq_true ap0
                 have q228 : x3_1 < (l0.length : Int) := of_decide_eq_true ap0
                 obtain ⟨ad228, A228_0, c228_0, e228, hx228_0, hl228_0, hi228_0⟩ := at_L8 HR0.out x3_1 p228 q228
                 obtain rfl : ad226 = ad228 := (by injection e228)
                 have HR228_0 := Aside0.mk hi228_0
                 have HC228_0 := Aside0.mk hl228_0
                 clear hi228_0 hl228_0
                 replace p228 := eq_true p228
                 replace q228 := eq_true q228
                 have ea_ := Option.some.inj (hx226_0.symm.trans hx228_0)
                 injection ea_ with ea_ en_ ec_
                 subst ea_
                 subst ec_
                 clear en_
                 have p229 : 0 ≤ (x4_3 : Int) := of_decide_eq_true ap0
                 have q229 : x4_3 < ((rd_L8 l0 x3_1).length : Int) := of_decide_eq_true ap0
                 obtain ⟨ad229, e229, hx229_0, hx229_1⟩ := at_T40 HR228_0.out x4_3 p229 q229
                 cases e229
                 replace p229 := eq_true p229
                 replace q229 := eq_true q229
                 go_wp2
                 go_ret
                 exact ⟨ap2, ap7⟩
                ·
                 rw [if_neg c15] at H
                 have c15b0 := decide_eq_false c15
                 have c15b1 : decide (600 < ((rd_T40 (rd_L8 l0 x3_1) x4_3).f1).size) = false := decide_eq_false (by omega)
                 clear c15
                 have H' := Aside0.mk H
                 clear H
                 have p226 : 0 ≤ (x3_1 : Int) := of_decide_eq_true ap0
                 have q226 : x3_1 < (l0.length : Int) := of_decide_eq_true ap0
                 obtain ⟨ad226, A226_0, c226_0, e226, hx226_0, hl226_0, hi226_0⟩ := at_L8 HR0.out x3_1 p226 q226
                 cases e226
                 have HR226_0 := Aside0.mk hi226_0
                 have HC226_0 := Aside0.mk hl226_0
                 clear hi226_0 hl226_0
                 replace p226 := eq_true p226
                 replace q226 := eq_true q226
                 have p227 : 0 ≤ (x4_3 : Int) := of_decide_eq_true ap0
                 have q227 : x4_3 < ((rd_L8 l0 x3_1).length : Int) := of_decide_eq_true ap0
                 obtain ⟨ad227, e227, hx227_0, hx227_1⟩ := at_T40 HR226_0.out x4_3 p227 q227
                 cases e227
                 replace p227 := eq_true p227
                 replace q227 := eq_true q227
                 have p228 : 0 ≤ (x3_1 : Int) := of_decide_eq_true ap0
                 have q228 : x3_1 < (l0.length : Int) := of_decide_eq_true ap0
                 obtain ⟨ad228, A228_0, c228_0, e228, hx228_0, hl228_0, hi228_0⟩ := at_L8 HR0.out x3_1 p228 q228
                 obtain rfl : ad226 = ad228 := (by injection e228)
                 have HR228_0 := Aside0.mk hi228_0
                 have HC228_0 := Aside0.mk hl228_0
                 clear hi228_0 hl228_0
                 replace p228 := eq_true p228
                 replace q228 := eq_true q228
                 have ea_ := Option.some.inj (hx226_0.symm.trans hx228_0)
                 injection ea_ with ea_ en_ ec_
                 subst ea_
                 subst ec_
                 clear en_
                 have p229 : 0 ≤ (x4_3 : Int) := of_decide_eq_true ap0
                 have q229 : x4_3 < ((rd_L8 l0 x3_1).length : Int) := of_decide_eq_true ap0
                 obtain ⟨ad227, e229, hx229_0, hx229_1⟩ := at_T40 HR228_0.out x4_3 p229 q229
                 cases e229
                 replace p229 := eq_true p229
                 replace q229 := eq_true q229
                 go_wp2
                 go_roundg kj4
                 case measure => have := HK1.out; have := HJ1.out; have := HK3.out; have := HJ4.out; omega
                 case rel => exact ⟨(wrap64 (x4_3 + 1)), ap2, H', ⟨by have := HK1.out; have := HJ1.out; have := HK3.out; have := HJ4.out; omega⟩, by repeat (first | exact Drawn0.refl _ | apply Drawn0.step)⟩
              ·
               rw [if_neg c13] at H
               exact absurd H (by simp)
             ·
              rw [if_neg c12] at H
              exact absurd H (by simp)
            ·
             rw [if_neg c11] at H
             exact absurd H (by simp)
           ·
            rw [if_neg c10] at H
            exact absurd H (by simp)
          ·
           replace c9 := Bool.eq_false_iff.mpr c9
           subst c9
           rw [if_neg (show ¬ (false = true) by decide)] at H
           by_cases c16 : 0 ≤ x3_1
           ·
            rw [if_pos c16] at H
            have c16b0 := decide_eq_true c16
            clear c16
            by_cases c17 : x3_1 < (l0.length : Int)
            ·
             rw [if_pos c17] at H
             have c17b0 := decide_eq_true c17
             clear c17
             by_cases c18 : ((rd_L8 l0 x3_1).length : Int) > 30
             ·
              rw [if_pos c18] at H
              have c18b0 := decide_eq_true c18
              have c18b1 : decide (30 < (rd_L8 l0 x3_1).length) = true := decide_eq_true (by omega)
              clear c18
              obtain rfl := Option.some.inj H
              have p230 : 0 ≤ (x3_1 : Int) := of_decide_eq_true ap0
              have q230 : x3_1 < (l0.length : Int) := of_decide_eq_true ap0
              obtain ⟨ad230, A230_0, c230_0, e230, hx230_0, hl230_0, hi230_0⟩ := at_L8 HR0.out x3_1 p230 q230
              cases e230
              have HR230_0 := Aside0.mk hi230_0
              have HC230_0 := Aside0.mk hl230_0
              clear hi230_0 hl230_0
              replace p230 := eq_true p230
              replace q230 := eq_true q230
              go_wp2
              go_ret
              exact ⟨ap2, ap7⟩
             ·
              rw [if_neg c18] at H
              have c18b0 := decide_eq_false c18
              have c18b1 : decide (30 < (rd_L8 l0 x3_1).length) = false := decide_eq_false (by omega)
              clear c18
              have H' := Aside0.mk H
              clear H
              have p230 : 0 ≤ (x3_1 : Int) := of_decide_eq_true ap0
              have q230 : x3_1 < (l0.length : Int) := of_decide_eq_true ap0
              obtain ⟨ad230, A230_0, c230_0, e230, hx230_0, hl230_0, hi230_0⟩ := at_L8 HR0.out x3_1 p230 q230
              cases e230
              have HR230_0 := Aside0.mk hi230_0
              have HC230_0 := Aside0.mk hl230_0
              clear hi230_0 hl230_0
              replace p230 := eq_true p230
              replace q230 := eq_true q230
              go_wp2
              go_roundg kj4
              case measure => have := HK1.out; have := HJ1.out; have := HK3.out; have := HJ4.out; omega
              case rel => exact ⟨(wrap64 (x3_1 + 1)), ap2, H', ⟨by have := HK1.out; have := HJ1.out; have := HK3.out; have := HJ4.out; omega⟩, by repeat (first | exact Drawn0.refl _ | apply Drawn0.step)⟩
            ·
             rw [if_neg c17] at H
             exact absurd H (by simp)
           ·
            rw [if_neg c16] at H
            exact absurd H (by simp)
     ·
      replace c4 := Bool.eq_false_iff.mpr c4
      subst c4
      rw [if_neg (show ¬ (false = true) by decide)] at H
      obtain rfl := Option.some.inj H
      go_wp2
      go_ret
      exact ⟨ap2, ap7⟩
end Go.Proofs.YtkklacijhmoopaaGreatDoor.Print
namespace Go.Proofs.YtkklacijhmoopaaGreatDoor.Print
open Go.RowKit Go.Proofs.YtkklacijhmoopaaGreatDoorW.PrintWords Go.Proofs.YtkklacijhmoopaaGreatDoorW.PrintLast Go.Proofs.YtkklacijhmoopaaGreatDoorW.PrintMore Go.Proofs.YtkklacijhmoopaaGreatDoor.Pure
set_option linter.unusedVariables false
set_option linter.unusedSimpArgs false
abbrev mkB (l : List UInt8) : ByteArray := ⟨l.toArray⟩
theorem mkB_bl (s : ByteArray) : mkB (bl s) = s := rfl
theorem mkB_size (l : List UInt8) : (mkB l).size = l.length := by rw [← bl_length]
theorem ba_app (a b : List UInt8) : mkB a ++ mkB b = mkB (a ++ b) := by
  apply ByteArray.ext
  apply Array.toList_inj.1
  rw [ByteArray.data_append]
  simp
theorem ba_app' (s : ByteArray) (a : List UInt8) : mkB a ++ s = mkB (a ++ bl s) := by rw [← ba_app, mkB_bl]
def ofA (a : AvaS) : Pr := (bl a.f0, bl a.f1)
def ofN (n : List (List AvaS)) : List (List Pr) := n.map (·.map ofA)
theorem mk_of (n : List (List AvaS)) : mkN (ofN n) = n := by
  unfold mkN ofN
  rw [List.map_map]
  conv => rhs; rw [← List.map_id n]
  refine List.map_congr_left fun l _ => ?_
  show mkR (l.map ofA) = l
  unfold mkR
  rw [List.map_map]
  conv => rhs; rw [← List.map_id l]
  exact List.map_congr_left fun a _ => rfl
def okL (a : AvaS) : Prop := a.f0.size ≤ 600 ∧ a.f1.size ≤ 600
def okLs (n rest : List (List AvaS)) : Prop := n.length ≤ 30 ∧ ∀ l ∈ rest, l.length ≤ 30 ∧ ∀ a ∈ l, okL a
theorem long_l1 (n : List (List AvaS)) (i : Nat) (hi30 : i < 30) (l : List AvaS) (r : List (List AvaS)) (hr : n.drop i = l :: r)
    (hnext : ∃ b, Ev (fun k => L15Long.l0 k n ((i + 1 : Nat) : Int)) b ∧ (b = false → okLs n r)) : ∀ (m j : Nat), 30 - j = m → j ≤ 30 →
    ∃ b, Ev (fun k => L15Long.l1 k n (i : Int) (j : Int)) b ∧ (b = false → okLs n r ∧ l.length ≤ 30 ∧ ∀ a ∈ l.drop j, okL a) := by
  obtain ⟨g1, _, g3⟩ := getD_at (d := []) hr
  have g2 := rdR_at hr
  intro m
  induction m with
  | zero =>
    intro j hm hj
    have hend : Ev (fun k => L15Long.j3 k n (i : Int) (j : Int) false) true ∨ l.length ≤ 30 := by
      by_cases h : l.length ≤ 30
      · exact .inr h
      · left
        refine Ev.step (fun k => by rw [L15Long.j3]) ?_
        rw [g2]
        exact Ev.neg (by simp) (Ev.pos (by omega) (Ev.pos (by omega) (Ev.pos (by omega) Ev.rfl')))
    have hto : ∀ {b : Bool}, Ev (fun k => L15Long.j3 k n (i : Int) (j : Int) false) b → Ev (fun k => L15Long.l1 k n (i : Int) (j : Int)) b := by
      intro b h
      refine Ev.step (fun k => by rw [L15Long.l1]) ?_
      rw [g2]
      refine Ev.pos (by omega) (Ev.pos (by omega) ?_)
      by_cases hl : (j : Int) < (l.length : Int)
      · refine Ev.pos hl ?_
        rw [decide_eq_false (by omega)]; exact h
      · exact Ev.neg hl h
    rcases hend with h | h
    · exact ⟨true, hto h, fun h => by cases h⟩
    · obtain ⟨b, hb, hb2⟩ := hnext
      refine ⟨b, hto ?_, fun h0 => ⟨hb2 h0, h, by rw [List.drop_eq_nil_of_le (by omega)]; simp⟩⟩
      refine Ev.step (fun k => by rw [L15Long.j3]) ?_
      rw [g2, wsucc (p := i) (by omega)]
      exact Ev.neg (by simp) (Ev.pos (by omega) (Ev.pos (by omega) (Ev.neg (by omega) hb)))
  | succ m ih =>
    intro j hm hj
    cases hd : l.drop j with
    | nil =>
      have hjl := List.drop_eq_nil_iff.1 hd
      have hto : ∀ {b : Bool}, Ev (fun k => L15Long.j3 k n (i : Int) (j : Int) false) b → Ev (fun k => L15Long.l1 k n (i : Int) (j : Int)) b := by
        intro b h
        refine Ev.step (fun k => by rw [L15Long.l1]) ?_
        rw [g2]
        exact Ev.pos (by omega) (Ev.pos (by omega) (Ev.neg (by omega) h))
      obtain ⟨b, hb, hb2⟩ := hnext
      refine ⟨b, hto ?_, fun h0 => ⟨hb2 h0, by omega, by simp⟩⟩
      refine Ev.step (fun k => by rw [L15Long.j3]) ?_
      rw [g2, wsucc (p := i) (by omega)]
      exact Ev.neg (by simp) (Ev.pos (by omega) (Ev.pos (by omega) (Ev.neg (by omega) hb)))
    | cons a r2 =>
      obtain ⟨f1, _, f3⟩ := getD_at (d := z40) hd
      have f2 := rdA_at hd
      have hto : ∀ {b : Bool}, Ev (fun k => if (a.f0.size : Int) > 600 then (some true) else (if (a.f1.size : Int) > 600 then (some true) else (L15Long.l1 k n (i : Int) ((j + 1 : Nat) : Int)))) b → Ev (fun k => L15Long.l1 k n (i : Int) (j : Int)) b := by
        intro b h
        refine Ev.step (fun k => by rw [L15Long.l1]) ?_
        rw [g2]
        refine Ev.pos (by omega) (Ev.pos (by omega) (Ev.pos (by omega) ?_))
        rw [decide_eq_true (by omega)]
        refine Ev.step (fun k => by rw [L15Long.j3]) ?_
        rw [g2, f2, wsucc (p := j) (by omega)]
        exact Ev.pos rfl (Ev.pos (by omega) (Ev.pos (by omega) (Ev.pos (by omega) (Ev.pos (by omega) h))))
      by_cases h0 : a.f0.size > 600
      · exact ⟨true, hto (Ev.pos (by omega) Ev.rfl'), fun h => by cases h⟩
      by_cases h1 : a.f1.size > 600
      · exact ⟨true, hto (Ev.neg (by omega) (Ev.pos (by omega) Ev.rfl')), fun h => by cases h⟩
      obtain ⟨b, hb, hb2⟩ := ih (j + 1) (by omega) (by omega)
      rw [f3] at hb2
      refine ⟨b, hto (Ev.neg (by omega) (Ev.neg (by omega) hb)), fun h => ?_⟩
      obtain ⟨k1, k2, k3⟩ := hb2 h
      refine ⟨k1, k2, fun x hx => ?_⟩
      rcases List.mem_cons.1 hx with rfl | hx
      · exact ⟨by omega, by omega⟩
      · exact k3 x hx
theorem long_ev (n : List (List AvaS)) : ∃ b, Ev (fun k => L15Long.f k n) b ∧ (b = false → okLs n n) := by
  have hloop : ∀ (m i : Nat), 30 - i = m → i ≤ 30 → ∃ b, Ev (fun k => L15Long.l0 k n (i : Int)) b ∧ (b = false → okLs n (n.drop i)) := by
    intro m
    have hout : ∀ i : Nat, (n.length ≤ i ∨ 30 ≤ i) → ∃ b, Ev (fun k => L15Long.l0 k n (i : Int)) b ∧ (b = false → okLs n (n.drop i)) := by
      intro i h
      refine ⟨decide ((n.length : Int) > 30), ?_, fun h' => ?_⟩
      · refine Ev.step (fun k => by rw [L15Long.l0]) ?_
        have hj : Ev (fun k => L15Long.j1 k n (i : Int) false) (decide ((n.length : Int) > 30)) := Ev.step (fun k => by rw [L15Long.j1]) (Ev.neg (by simp) Ev.rfl')
        by_cases hl : (i : Int) < (n.length : Int)
        · refine Ev.pos hl ?_
          rw [show decide ((i : Int) < 30) = false from decide_eq_false (by omega)]; exact hj
        · exact Ev.neg hl hj
      · have := of_decide_eq_false h'
        refine ⟨by omega, ?_⟩
        rw [List.drop_eq_nil_of_le (by omega)]; simp
    induction m with
    | zero => intro i hm hi; exact hout i (.inr (by omega))
    | succ m ih =>
      intro i hm hi
      cases hr : n.drop i with
      | nil =>
        have := hout i (.inl (List.drop_eq_nil_iff.1 hr))
        rw [hr] at this; exact this
      | cons l r =>
        obtain ⟨g1, _, g3⟩ := getD_at (d := []) hr
        have hnext := ih (i + 1) (by omega) (by omega)
        rw [g3] at hnext
        obtain ⟨b, hb, hb2⟩ := long_l1 n i (by omega) l r hr hnext _ 0 rfl (by omega)
        refine ⟨b, ?_, fun h => ?_⟩
        · refine Ev.step (fun k => by rw [L15Long.l0]) ?_
          refine Ev.pos (by omega) ?_
          rw [show decide ((i : Int) < 30) = true from decide_eq_true (by omega)]
          refine Ev.step (fun k => by rw [L15Long.j1]) ?_
          exact Ev.pos rfl hb
        · obtain ⟨k1, k2, k3⟩ := hb2 h
          refine ⟨k1.1, fun x hx => ?_⟩
          rcases List.mem_cons.1 hx with rfl | hx
          · exact ⟨k2, fun a ha => k3 a (by rw [List.drop_zero]; exact ha)⟩
          · exact k1.2 x hx
  obtain ⟨b, hb, hb2⟩ := hloop _ 0 rfl (by omega)
  rw [List.drop_zero] at hb2
  exact ⟨b, hb, hb2⟩
theorem piece_len (n i : Nat) (c : UInt8) : (dnPiece n i c).length ≤ 3 := by
  rw [piece_is]
  split
  · show (92 :: hexOf [c]).length ≤ 3
    simp [hexOf]
  · split <;> simp
theorem textN_len (n : Nat) : ∀ (l : List UInt8) (i : Nat), (textN n i l).length ≤ 3 * l.length
  | [], i => by simp [textN]
  | c :: r, i => by
    have := piece_len n i c
    have := textN_len n r (i + 1)
    rw [textN, List.length_append, List.length_cons]; omega
theorem join_is (c : UInt8) : ∀ (l : List (List UInt8)), Lib.join l [c] = joinT c l
  | [] => rfl
  | [x] => by simp [Lib.join, joinT, List.intercalate]
  | x :: y :: r => by
    have ih := join_is c (y :: r)
    unfold Lib.join at ih ⊢
    rw [inter_cons] at ih ⊢
    rw [joinT, ← ih]; simp
theorem joinB_is (c : UInt8) (l : List (List UInt8)) : joinB (l.map mkB) (⟨#[c]⟩ : ByteArray) = joinT c l := by
  unfold joinB
  rw [List.map_map, ← join_is]
  congr 1
  conv => rhs; rw [← List.map_id l]
  exact List.map_congr_left fun x _ => rfl
theorem joinT_len (c : UInt8) (B : Nat) : ∀ (l : List (List UInt8)), (∀ x ∈ l, x.length ≤ B) → (joinT c l).length ≤ l.length * (B + 1)
  | [], _ => by simp [joinT]
  | [x], h => by have := h x (by simp); simp [joinT]; omega
  | x :: y :: r, h => by
    have ih := joinT_len c B (y :: r) fun z hz => h z (by simp at hz ⊢; exact .inr hz)
    have := h x (by simp)
    rw [joinT, List.length_append, List.length_cons]
    rw [List.length_cons (a := x), Nat.succ_mul]
    omega
theorem join_f (c : UInt8) (l : List (List UInt8)) (h1 : l.length ≤ 1000000) (h2 : (joinT c l).length ≤ 100000000) : strings_Join.f (l.map mkB) (⟨#[c]⟩ : ByteArray) = some (mkB (joinT c l)) := by
  unfold strings_Join.f
  rw [if_pos (by rw [List.length_map]; exact h1), joinB_is, if_pos h2]
def shortP (P : List (List Pr)) : Prop := P.length ≤ 30 ∧ ∀ l ∈ P, l.length ≤ 30 ∧ ∀ a ∈ l, a.1.length ≤ 600 ∧ a.2.length ≤ 600
theorem pairText_len {a : Pr} (h : a.1.length ≤ 600 ∧ a.2.length ≤ 600) : (pairText a).length ≤ 2401 := by
  have := textN_len a.2.length a.2 0
  unfold pairText
  rw [dnText_is, List.length_append, List.length_cons]; omega
theorem rdnText_len {l : List Pr} (h : l.length ≤ 30 ∧ ∀ a ∈ l, a.1.length ≤ 600 ∧ a.2.length ≤ 600) : (rdnText l).length ≤ 72060 := by
  have := joinT_len 43 2401 (l.map pairText) fun x hx => by
    obtain ⟨a, ha, rfl⟩ := List.mem_map.1 hx
    exact pairText_len (h.2 a ha)
  rw [List.length_map] at this
  unfold rdnText
  have h3 : l.length * 2402 ≤ 30 * 2402 := Nat.mul_le_mul_right _ h.1
  omega
theorem nameText_len {P : List (List Pr)} (h : shortP P) : (nameText P).length ≤ 2161830 := by
  have := joinT_len 44 72060 (P.map rdnText) fun x hx => by
    obtain ⟨l, hl, rfl⟩ := List.mem_map.1 hx
    exact rdnText_len (h.2 l hl)
  rw [List.length_map] at this
  unfold nameText
  have h3 : P.length * 72061 ≤ 30 * 72061 := Nat.mul_le_mul_right _ h.1
  omega
def fin (X : List UInt8) : ByteArray × Int := if X.length > 1000 then (⟨#[]⟩, 5) else (mkB X, 0)
theorem value_f (v : List UInt8) (h : v.length ≤ 600) : dn_value.f (mkB v) = some (mkB (dnText v)) := by
  unfold dn_value.f
  rw [if_pos (by rw [mkB_size]; omega)]
theorem drop_map' {α β : Type} (f : α → β) {l : List α} {i : Nat} {x : α} {r : List α} (h : l.drop i = x :: r) : (l.map f).drop i = f x :: r.map f := by
  rw [← List.map_drop, h]; rfl
theorem print_l1 (n : List (List AvaS)) (i : Nat) (l : List Pr) (hl : l.length ≤ 30 ∧ ∀ a ∈ l, a.1.length ≤ 600 ∧ a.2.length ≤ 600) (x4 : List ByteArray) (hx4 : x4.length ≤ 1000) (hi : i ≤ 1000) {o : ByteArray × Int}
    (hnext : Ev (fun k => dn_Print.l0 k (x4 ++ [mkB (rdnText l)]) n (n.length : Int) ((i + 1 : Nat) : Int)) o) : ∀ (m j : Nat), l.length - j = m → j ≤ l.length →
    Ev (fun k => dn_Print.l1 k x4 (((l.take j).map pairText).map mkB) n (n.length : Int) (i : Int) (mkR l) ((mkR l).length : Int) (j : Int)) o := by
  intro m
  induction m with
  | zero =>
    intro j hm hj
    refine Ev.step (fun k => by rw [dn_Print.l1]) ?_
    rw [List.take_of_length_le (by omega), wsucc (p := i) (by omega)]
    have := rdnText_len hl
    refine Ev.neg (by rw [mkR_len]; omega) (Ev.bindc (join_f 43 (l.map pairText) (by rw [List.length_map]; omega) (by unfold rdnText at this; omega)) (Ev.pos (by omega) ?_))
    exact hnext
  | succ m ih =>
    intro j hm hj
    cases hd : l.drop j with
    | nil => have := List.drop_eq_nil_iff.1 hd; omega
    | cons a r2 =>
      obtain ⟨f1, f0, f3⟩ := getD_at (d := (([], []) : Pr)) hd
      have hd' : (mkR l).drop j = mkA a :: mkR r2 := drop_map' mkA hd
      have f2 := rdA_at hd'
      have ha := hl.2 a (by
        have : a ∈ l.drop j := by rw [hd]; simp
        exact List.mem_of_mem_drop this)
      have hi2 := ih (j + 1) (by omega) (by omega)
      have htk : (l.take (j + 1)) = l.take j ++ [a] := by
        rw [List.take_succ_eq_append_getElem f1]
        congr 2
        rw [Int.toNat_natCast, List.getD_eq_getElem?_getD, List.getElem?_eq_getElem f1] at f0
        simpa using f0
      rw [htk, List.map_append, List.map_append] at hi2
      have htl := textN_len a.2.length a.2 0
      refine Ev.step (fun k => by rw [dn_Print.l1]) ?_
      rw [f2, wsucc (p := j) (by omega)]
      have e0 : (mkA a).f0 = mkB a.1 := rfl
      have e1 : (mkA a).f1 = mkB a.2 := rfl
      rw [e0, e1, show (⟨#[61]⟩ : ByteArray) = mkB [61] from rfl, ba_app]
      refine Ev.pos (by rw [mkR_len]; omega) (Ev.pos (by omega) (Ev.pos (by rw [mkR_len]; omega) (Ev.pos (by rw [mkB_size]; omega) (Ev.bindc (value_f a.2 ha.2) (Ev.pos ?_ (Ev.pos ?_ ?_))))))
      · rw [mkB_size, mkB_size, dnText_is, List.length_append]
        simp only [List.length_cons, List.length_nil]; omega
      · rw [List.length_map, List.length_map, List.length_take]; omega
      · rw [ba_app]
        have e : a.1 ++ [61] ++ dnText a.2 = pairText a := by unfold pairText; simp
        rw [e]; exact hi2
theorem print_loop (P : List (List Pr)) (hP : shortP P) : ∀ (m i : Nat), P.length - i = m → i ≤ P.length →
    Ev (fun k => dn_Print.l0 k (((P.take i).map rdnText).map mkB) (mkN P) ((mkN P).length : Int) (i : Int)) (fin (nameText P)) := by
  intro m
  induction m with
  | zero =>
    intro i hm hi
    refine Ev.step (fun k => by rw [dn_Print.l0]) ?_
    have hlen := nameText_len hP
    rw [List.take_of_length_le (by omega)]
    refine Ev.neg (by rw [mkN_len]; omega) (Ev.bindc (join_f 44 (P.map rdnText) (by rw [List.length_map]; have := hP.1; omega) (by unfold nameText at hlen; omega)) ?_)
    unfold fin
    rw [show joinT 44 (P.map rdnText) = nameText P from rfl]
    by_cases h : (nameText P).length > 1000
    · rw [if_pos h]; exact Ev.pos (by rw [mkB_size]; omega) Ev.rfl'
    · rw [if_neg h]; exact Ev.neg (by rw [mkB_size]; omega) Ev.rfl'
  | succ m ih =>
    intro i hm hi
    cases hr : P.drop i with
    | nil => have := List.drop_eq_nil_iff.1 hr; omega
    | cons l r =>
      obtain ⟨g1, g0, g3⟩ := getD_at (d := ([] : List Pr)) hr
      have hr' : (mkN P).drop i = mkR l :: mkN r := drop_map' mkR hr
      have g2 := rdR_at hr'
      have hl := hP.2 l (by
        have : l ∈ P.drop i := by rw [hr]; simp
        exact List.mem_of_mem_drop this)
      have hi2 := ih (i + 1) (by omega) (by omega)
      have htk : (P.take (i + 1)) = P.take i ++ [l] := by
        rw [List.take_succ_eq_append_getElem g1]
        congr 2
        rw [Int.toNat_natCast, List.getD_eq_getElem?_getD, List.getElem?_eq_getElem g1] at g0
        simpa using g0
      rw [htk, List.map_append, List.map_append] at hi2
      have h30 := hP.1
      have := print_l1 (mkN P) i l hl (((P.take i).map rdnText).map mkB) (by rw [List.length_map, List.length_map, List.length_take]; omega) (by omega) hi2 _ 0 rfl (Nat.zero_le _)
      refine Ev.step (fun k => by rw [dn_Print.l0]) ?_
      rw [g2]
      exact Ev.pos (by rw [mkN_len]; omega) (Ev.pos (by omega) (Ev.pos (by rw [mkN_len]; omega) this))
theorem sz_short {P : List (List Pr)} (h : shortP P) : (mkN P).length ≤ 1000000 ∧ szN (mkN P) ∧ ∀ l ∈ mkN P, l.length ≤ 1000000 :=
  sz_mk (B := 600) (by omega) ⟨by have := h.1; omega, fun l hl => ⟨by have := (h.2 l hl).1; omega, (h.2 l hl).2⟩⟩
theorem print_ev (P : List (List Pr)) (hP : shortP P) : Ev (fun k => dn_Print.f k (mkN P)) (if nameOk (mkN P) = true then fin (nameText P) else (⟨#[]⟩, 4)) := by
  obtain ⟨z1, z2, z3⟩ := sz_short hP
  unfold dn_Print.f
  refine Ev.bind (right_ev (mkN P) z1 z2) ?_
  cases nameOk (mkN P) with
  | true =>
    refine Ev.pos rfl ?_
    rw [if_pos rfl]
    exact print_loop P hP _ 0 rfl (Nat.zero_le _)
  | false => exact Ev.neg (by simp) (by simpa using Ev.rfl')
end Go.Proofs.YtkklacijhmoopaaGreatDoor.Print
namespace Go.Proofs.YtkklacijhmoopaaGreatDoor.Print
open Go.RowKit Go.Proofs.YtkklacijhmoopaaGreatDoorW.PrintWords Go.Proofs.YtkklacijhmoopaaGreatDoorW.PrintLast Go.Proofs.YtkklacijhmoopaaGreatDoorW.PrintMore
attribute [local go_sem] max2_int min2_int max_two min_two max_three min_three max_four min_four
set_option linter.unusedVariables false
set_option linter.unusedSimpArgs false
def L15awake.f (k : Nat)  : Option (Bool) := (dn_Parse.f k (⟨#[67, 78, 61, 65, 110, 110, 32, 92, 44, 32, 66, 32, 43, 32, 115, 110, 61, 120, 32, 44, 32, 111, 117, 61, 80, 101, 111, 112, 108, 101]⟩ : ByteArray)).bind fun bt218 => ((dn_Print.f k bt218.1).bind fun bt222 => (if bt218.2 = 0 then (if bt222.2 = 0 then (if bt222.1.toList = ([99, 110, 61, 65, 110, 110, 32, 92, 44, 32, 66, 43, 115, 110, 61, 120, 44, 111, 117, 61, 80, 101, 111, 112, 108, 101] : List UInt8) then (if (bt218.1.length : Int) = 2 then (if 0 < (bt218.1.length : Int) then (some (((rd_L8 bt218.1 0).length : Int) == 2)) else (none)) else (some false)) else (some false)) else (some false)) else (some false)))
end Go.Proofs.YtkklacijhmoopaaGreatDoor.Print
