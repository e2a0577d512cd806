-- laid together by pack.py (a program of this session)
import Derived.Test.YtkklacijhmoopaaDoorADnPrints3
namespace Go.Proofs.YtkklacijhmoopaaDoor.Print
open Go.RowKit Go.Proofs.YtkklacijhmoopaaDoorW.PrintWords Go.Proofs.YtkklacijhmoopaaDoorW.PrintLast Go.Proofs.YtkklacijhmoopaaDoorW.PrintMore
attribute [local go_sem] max2_int min2_int max_two min_two max_three min_three max_four min_four
set_option linter.unusedVariables false
set_option linter.unusedSimpArgs false
set_option maxHeartbeats 8000000 in
set_option maxRecDepth 100000 in
theorem R15Text.calls (k : Nat) (a0 : ByteArray) (r : ByteArray) (w : World) (h : R15Text.f k a0 = some r) :
  Calls Tryd.prog 23 #[.string a0] w fun e w' => e = .returned (.string r) ∧ Below w.heap.size w w' := by
 have HB := Aside0.mk (Below.refl w.heap.size w)
 have H : (R15Text.l0 k a0 (([] : List Int)) 0) = some r := h
 clear h
 obtain ⟨y580, hy580⟩ : ∃ y_ : List Int, y_ = (([] : List Int)) := ⟨_, rfl⟩
 replace H : (R15Text.l0 k a0 y580 0) = some r := by first | (rw [hy580]; with_reducible exact H) | (have H2_ := (Option.bind_some _ _).symm.trans H; rw [hy580]; with_reducible exact H2_) | (have H2_ := (Option.bind_some _ _).symm.trans H; with_reducible exact H2_) | with_reducible exact H | (rw [hy580]; exact H) | exact H
 have Ny580 := Aside0.mk hy580
 clear hy580
 have H' := Aside0.mk H
 clear H
 go_enter Tryd.func23, Tryd.ntmps23
 go_wp2_with (first | ((with_reducible refine gate_dst (N := 6) rfl ?_); (try (refine gate_guard (by rfl) ?_; dsimp only)); refine Kd.R_lit (Kd.int .u8) _ 5 ?hg (N := 6) ?hd (xs := ([] : List Int)) (inner := []) (ok := fun _ => True) (okp := fun _ => True) ?hr ?hp (fun _ hk => hk) trivial (Below.refl _ _) (Nat.le_refl _) (by simp) ?_; (case hd => rfl); (case hg => rfl); (case hr => first | (go_simp; done) | (go_simp; rfl)); (case hp => exact (Reps.none _ _)); intro v581 w2 ho3 hb hg_ hnew_; clear hg_ hnew_; (first | rw [← Ny580.out] at ho3 | (simp only [Int.reduceToNat] at ho3; rw [← Ny580.out] at ho3)); have n0_ := Aside0.mk (Kd.R_lower ho3 (below_size ap1)); have n1_ := Aside0.mk (below_step ap1 hb); clear HB; have HO582 := n0_; have HB := n1_; clear n0_ n1_; clear hb ho3))
 go_loopg [3, 4] k (fun kq v3 v4 w' => ∃ (x3_1 : List Int) (x4_1 : Int), v4 = .int .i64 x4_1 ∧ Aside0 (R15Text.l0 kq a0 x3_1 x4_1 = some r) ∧ Aside0 (kq ≤ k) ∧ Aside0 (Kd.R (Kd.int .u8) 5 w' w.heap.size (fun _ => True) v3 x3_1) ∧ Aside0 (Below w.heap.size w w'))
 case atStart => exact ⟨(y580), (0), ap2, H', ⟨Nat.le_refl _⟩, ⟨by (with_reducible repeat (first | apply Kd.R_alloc | apply Kd.R_drewN | apply Kd.R_drew)); exact HO582.out⟩, ⟨by repeat (first | (with_reducible first | exact HB.out | apply below_alloc | apply pw_below_drewN | apply below_drew1) | exact HB.out)⟩⟩
 case round =>
  clear H'
  try clear c2
  try clear p2
  obtain ⟨x3_1, x4_1, rfl, HA, HK1, HO_3, HB⟩ := hrel
  cases gk with
  | zero => exact absurd HA.out (by simp [R15Text.l0])
  | succ k1 =>
   have H := HA.out
   clear HA
   simp only [R15Text.l0] at H
   by_cases c4 : x4_1 < (a0.size : Int)
   ·
    rw [if_pos c4] at H
    have c4b0 := decide_eq_true c4
    clear c4
    by_cases c5 : 0 ≤ x4_1
    ·
     rw [if_pos c5] at H
     have c5b0 := decide_eq_true c5
     clear c5
     have HC7 := Aside0.mk H
     clear H
     have p6 : 0 ≤ (x4_1 : Int) := of_decide_eq_true ap0
     have q6 : x4_1 < (a0.size : Int) := of_decide_eq_true ap0
     have hx6 := bt_at a0 x4_1
     replace p6 := eq_true p6
     replace q6 := eq_true q6
     go_upto_region 6 with (fail)
     go_cut [21] (fun v21 wc => ∃ (kq : Nat) (x21_6 : Bool), v21 = .bool x21_6 ∧ Aside0 (R15Text.j1 kq a0 x3_1 x4_1 (bt a0 x4_1) x21_6 = some r) ∧ Aside0 (kq ≤ k1) ∧ Aside0 (Kd.R (Kd.int .u8) 5 wc w.heap.size (fun _ => True) u3 x3_1) ∧ Aside0 (Below w.heap.size w wc))
     case first =>
      have H := HC7.out
      clear HC7
      by_cases c8 : (bt a0 x4_1) < 32
      ·
       rw [if_pos c8] at H
       have c8b0 := decide_eq_true c8
       clear c8
       (first | rw [c8b0] | (simp only [i64_w, i32_w]; rw [c8b0]) | skip)
       have H' := Aside0.mk H
       clear H
       go_wp2
       go_meet
       case rel => exact ⟨_, (true), ap2, H', ⟨by have := HK1.out; first | omega | exact Nat.le_refl _⟩, ⟨by (with_reducible repeat (first | apply Kd.R_alloc | apply Kd.R_drewN | apply Kd.R_drew)); exact HO_3.out⟩, ⟨by repeat (first | (with_reducible first | exact HB.out | apply below_alloc | apply pw_below_drewN | apply below_drew1) | exact HB.out)⟩⟩
      ·
       rw [if_neg c8] at H
       have c8b0 := decide_eq_false c8
       clear c8
       (first | rw [c8b0] | (simp only [i64_w, i32_w]; rw [c8b0]) | skip)
       have H' := Aside0.mk H
       clear H
       go_wp2
       go_meet
       case rel => exact ⟨_, (((bt a0 x4_1) == 127)), ap2, H', ⟨by have := HK1.out; first | omega | exact Nat.le_refl _⟩, ⟨by (with_reducible repeat (first | apply Kd.R_alloc | apply Kd.R_drewN | apply Kd.R_drew)); exact HO_3.out⟩, ⟨by repeat (first | (with_reducible first | exact HB.out | apply below_alloc | apply pw_below_drewN | apply below_drew1) | exact HB.out)⟩⟩
     case rest =>
      clear HC7
      try clear c2
      try clear p2
      try clear c4
      try clear c4b0
      try clear c5
      try clear c5b0
      try clear p6
      try clear q6
      try clear hx6
      try clear c8
      try clear c8b0
      try clear p2
      try clear p6
      try clear q6
      obtain ⟨kq, x21_6, rfl, HA, HJ6, HO_3, HB⟩ := hcut
      cases kq with
      | zero => exact absurd HA.out (by simp [R15Text.j1])
      | succ kj6 =>
       have H := HA.out
       clear HA
       simp only [R15Text.j1] at H
       by_cases c9 : x21_6 = true
       ·
        subst c9
        rw [if_pos rfl] at H
        replace H := Option.bind_eq_some_iff.mp H
        obtain ⟨t583, A100, H⟩ := H
        replace H : ((R14Digit.f (Int.tmod (wrap64 ((bt a0 x4_1))) 16)).bind fun t584 => ((some (([92, t583, t584] : List Int) : List Int)).bind fun y585 => (if x3_1.length + y585.length < 140737488355328 then (R15Text.l0 kj6 a0 (x3_1 ++ y585) (wrap64 (x4_1 + 1))) else (none)))) = some r := H
        have A10 := Aside0.mk A100
        clear A100
        replace H := Option.bind_eq_some_iff.mp H
        obtain ⟨t584, A110, H⟩ := H
        replace H : ((some (([92, t583, t584] : List Int) : List Int)).bind fun y585 => (if x3_1.length + y585.length < 140737488355328 then (R15Text.l0 kj6 a0 (x3_1 ++ y585) (wrap64 (x4_1 + 1))) else (none))) = some r := H
        have A11 := Aside0.mk A110
        clear A110
        obtain ⟨y585, hy585⟩ : ∃ y_ : List Int, y_ = (([92, t583, t584] : List Int)) := ⟨_, rfl⟩
        replace H : (if x3_1.length + y585.length < 140737488355328 then (R15Text.l0 kj6 a0 (x3_1 ++ y585) (wrap64 (x4_1 + 1))) else (none)) = some r := by first | (rw [hy585]; with_reducible exact H) | (have H2_ := (Option.bind_some _ _).symm.trans H; rw [hy585]; with_reducible exact H2_) | (have H2_ := (Option.bind_some _ _).symm.trans H; with_reducible exact H2_) | with_reducible exact H | (rw [hy585]; exact H) | exact H
        have Ny585 := Aside0.mk hy585
        clear hy585
        by_cases c12 : x3_1.length + y585.length < 140737488355328
        ·
         rw [if_pos c12] at H
         have LMc12 := Aside0.mk c12
         clear c12
         obtain ⟨y588, hy588⟩ : ∃ y_ : List Int, y_ = (x3_1 ++ y585) := ⟨_, rfl⟩
         replace H : (R15Text.l0 kj6 a0 y588 (wrap64 (x4_1 + 1))) = some r := by first | (rw [hy588]; with_reducible exact H) | (have H2_ := (Option.bind_some _ _).symm.trans H; rw [hy588]; with_reducible exact H2_) | (have H2_ := (Option.bind_some _ _).symm.trans H; with_reducible exact H2_) | with_reducible exact H | (rw [hy588]; exact H) | exact H
         have Ny588 := Aside0.mk hy588
         clear hy588
         have H' := Aside0.mk H
         clear H
         go_wp2_with (first | ((with_reducible refine gate_callee (f := 43) rfl ?_); refine goesL_ (some 26) rfl rfl Tryd.func43 (by kernel_rfl) rfl #[.int .i64 (wrap64 (Int.tdiv (wrap64 ((bt a0 x4_1))) 16))] rfl ap3 ?_; (with_reducible refine (R14Digit.calls (wrap64 (Int.tdiv (wrap64 ((bt a0 x4_1))) 16)) t583 _ A10.out).mono ?_); rintro e w' ⟨rfl, ⟨nd, rfl⟩⟩; refine ⟨_, rfl, ?_⟩) | ((with_reducible refine gate_callee (f := 43) rfl ?_); refine goesL_ (some 30) rfl rfl Tryd.func43 (by kernel_rfl) rfl #[.int .i64 (Int.tmod (wrap64 ((bt a0 x4_1))) 16)] rfl ap3 ?_; (with_reducible refine (R14Digit.calls (Int.tmod (wrap64 ((bt a0 x4_1))) 16) t584 _ A11.out).mono ?_); rintro e w' ⟨rfl, ⟨nd, rfl⟩⟩; refine ⟨_, rfl, ?_⟩) | ((with_reducible refine gate_dst (N := 31) rfl ?_); (try (refine gate_guard (by rfl) ?_; dsimp only)); refine Kd.R_lit (Kd.int .u8) _ 5 ?hg (N := 31) ?hd (xs := ([92, t583, t584] : List Int)) (inner := [.int .u8 92, .int .u8 t583, .int .u8 t584]) (ok := fun _ => True) (okp := fun _ => True) ?hr ?hp (fun _ hk => hk) trivial (Below.refl _ _) (Nat.le_refl _) (by simp) ?_; (case hd => rfl); (case hg => rfl); (case hr => first | (go_simp; done) | (go_simp; rfl)); (case hp => exact (Reps.one (show Kd.M (Kd.int .u8) _ _ _ 92 [.int .u8 92] from rfl) (Reps.one (show Kd.M (Kd.int .u8) _ _ _ t583 [.int .u8 t583] from rfl) (Reps.one (show Kd.M (Kd.int .u8) _ _ _ t584 [.int .u8 t584] from rfl) (Reps.none _ _))))); intro v586 w13 ho14 hb hg_ hnew_; clear hg_ hnew_; (first | rw [← Ny585.out] at ho14 | (simp only [Int.reduceToNat] at ho14; rw [← Ny585.out] at ho14)); have n0_ := Aside0.mk (Kd.R_elder' (apAR HO_3.out) (Kd.R_base ho14) hb); have n1_ := Aside0.mk (Kd.R_lower (Kd.R_new' ho14 (Kd.R_lt (apAR HO_3.out))) (below_size ap1)); have n2_ := Aside0.mk (below_step ap1 hb); clear HO_3; clear HB; have HO_3 := n0_; have HO587 := n1_; have HB := n2_; clear n0_ n1_ n2_; clear hb ho14; obtain ⟨Ao16, co16, eo16⟩ := Kd.R_slice HO587.out; subst eo16) | ((with_reducible refine gate_builtin (b := .append) (xs := #[.tmp 22, .tmp 31]) rfl ?_); (try (refine gate_guard (by rfl) ?_; dsimp only)); at_builtin; refine Kd.R_append_rows (Kd.int .u8) (w0 := w) w.heap.size rfl (.tmp 22) (.tmp 31) 72 5 (.int .u8 0) 1 rfl Tryd.underlying72 info5 rfl (by decide) (by omega) u3 x3_1 y585 _ _ _ (fun k_ => some k_ ≠ (.slice Ao16 y585.length co16 : Value).ownBlock) (fun _ => False) rfl rfl ?aO ?aR (fun _ _ h => h) (fun _ h => h.elim) ?aF ?aB ?aS ?aL ?_; (case aR => repeat (first | exact (Kd.R_reads' HO587.out).2.2 | (with_reducible refine Kd.C_alloc ?_ _) | (with_reducible refine Kd.C_drewN ?_ _) | (with_reducible refine Kd.C_drew ?_))); (case aB => exact ap1); (case aF => exact (fun k_ hk => Kd.fresh' (Kd.R_lt (apAR HO587.out)) k_ hk)); (case aO => exact (by (with_reducible repeat (first | apply Kd.R_alloc | apply Kd.R_drewN | apply Kd.R_drew)); exact Kd.R_mono HO_3.out (fun _ hk => hk.2))); (case aS => exact (below_size ap1)); (case aL => have := LMc12.out; omega); intro v589 w15 ho hb hg hat; rw [← Ny588.out] at ho; have n0_ := Aside0.mk (Kd.R_after (ok := (fun _ => True)) (apAR HO587.out) hg hat); have n1_ := Aside0.mk (hb); have n2_ := Aside0.mk (ho); clear HO587; clear HB; clear HO_3; have HO587 := n0_; have HB := n1_; have HO590 := n2_; clear n0_ n1_ n2_; clear ho hb hg hat))
         go_roundg kj6
         case measure => have := HK1.out; have := HJ6.out; omega
         case rel => exact ⟨(y588), (wrap64 (x4_1 + 1)), ap2, H', ⟨by have := HK1.out; have := HJ6.out; omega⟩, ⟨by (with_reducible repeat (first | apply Kd.R_alloc | apply Kd.R_drewN | apply Kd.R_drew)); exact Kd.R_mono HO590.out (fun _ hk => trivial)⟩, ⟨by repeat (first | (with_reducible first | exact HB.out | apply below_alloc | apply pw_below_drewN | apply below_drew1) | exact HB.out)⟩⟩
        ·
         rw [if_neg c12] at H
         exact absurd H (by simp)
       ·
        replace c9 := Bool.eq_false_iff.mpr c9
        subst c9
        rw [if_neg (show ¬ (false = true) by decide)] at H
        replace H := Option.bind_eq_some_iff.mp H
        obtain ⟨t591, A170, H⟩ := H
        replace H : (if t591 = true then (if x3_1.length < 140737488355328 then ((some (x3_1 ++ [92] : List Int)).bind fun y592 => (if y592.length < 140737488355328 then (R15Text.l0 kj6 a0 (y592 ++ [(bt a0 x4_1)]) (wrap64 (x4_1 + 1))) else (none))) else (none)) else (if (bt a0 x4_1) = 32 then (if x4_1 = 0 then (if x3_1.length < 140737488355328 then ((some (x3_1 ++ [92] : List Int)).bind fun y598 => (if y598.length < 140737488355328 then (R15Text.l0 kj6 a0 (y598 ++ [(bt a0 x4_1)]) (wrap64 (x4_1 + 1))) else (none))) else (none)) else (if (wrap64 (x4_1 + 1)) = (a0.size : Int) then (if x3_1.length < 140737488355328 then ((some (x3_1 ++ [92] : List Int)).bind fun y604 => (if y604.length < 140737488355328 then (R15Text.l0 kj6 a0 (y604 ++ [(bt a0 x4_1)]) (wrap64 (x4_1 + 1))) else (none))) else (none)) else (if (bt a0 x4_1) = 35 then (if x3_1.length < 140737488355328 then (R15Text.l0 kj6 a0 (x3_1 ++ [(bt a0 x4_1)]) (wrap64 (x4_1 + 1))) else (none)) else (if x3_1.length < 140737488355328 then (R15Text.l0 kj6 a0 (x3_1 ++ [(bt a0 x4_1)]) (wrap64 (x4_1 + 1))) else (none))))) else (if (bt a0 x4_1) = 35 then (if x4_1 = 0 then (if x3_1.length < 140737488355328 then ((some (x3_1 ++ [92] : List Int)).bind fun y616 => (if y616.length < 140737488355328 then (R15Text.l0 kj6 a0 (y616 ++ [(bt a0 x4_1)]) (wrap64 (x4_1 + 1))) else (none))) else (none)) else (if x3_1.length < 140737488355328 then (R15Text.l0 kj6 a0 (x3_1 ++ [(bt a0 x4_1)]) (wrap64 (x4_1 + 1))) else (none))) else (if x3_1.length < 140737488355328 then (R15Text.l0 kj6 a0 (x3_1 ++ [(bt a0 x4_1)]) (wrap64 (x4_1 + 1))) else (none))))) = some r := H
        have A17 := Aside0.mk A170
        clear A170
        by_cases c18 : t591 = true
        ·
         subst c18
         rw [if_pos rfl] at H
         by_cases c19 : x3_1.length < 140737488355328
         ·
          rw [if_pos c19] at H
          have LMc19 := Aside0.mk c19
          clear c19
          obtain ⟨y592, hy592⟩ : ∃ y_ : List Int, y_ = (x3_1 ++ [92]) := ⟨_, rfl⟩
          replace H : (if y592.length < 140737488355328 then (R15Text.l0 kj6 a0 (y592 ++ [(bt a0 x4_1)]) (wrap64 (x4_1 + 1))) else (none)) = some r := by first | (rw [hy592]; with_reducible exact H) | (have H2_ := (Option.bind_some _ _).symm.trans H; rw [hy592]; with_reducible exact H2_) | (have H2_ := (Option.bind_some _ _).symm.trans H; with_reducible exact H2_) | with_reducible exact H | (rw [hy592]; exact H) | exact H
          have Ny592 := Aside0.mk hy592
          clear hy592
          by_cases c20 : y592.length < 140737488355328
          ·
           rw [if_pos c20] at H
           have LMc20 := Aside0.mk c20
           clear c20
           obtain ⟨y595, hy595⟩ : ∃ y_ : List Int, y_ = (y592 ++ [(bt a0 x4_1)]) := ⟨_, rfl⟩
           replace H : (R15Text.l0 kj6 a0 y595 (wrap64 (x4_1 + 1))) = some r := by first | (rw [hy595]; with_reducible exact H) | (have H2_ := (Option.bind_some _ _).symm.trans H; rw [hy595]; with_reducible exact H2_) | (have H2_ := (Option.bind_some _ _).symm.trans H; with_reducible exact H2_) | with_reducible exact H | (rw [hy595]; exact H) | exact H
           have Ny595 := Aside0.mk hy595
           clear hy595
           have H' := Aside0.mk H
           clear H
           go_wp2_with (first | ((with_reducible refine gate_callee (f := 44) rfl ?_); refine goesL_ (some 34) rfl rfl Tryd.func44 (by kernel_rfl) rfl #[.int .u8 (bt a0 x4_1)] rfl ap3 ?_; (with_reducible refine (R15Special.calls (bt a0 x4_1) true _ A17.out).mono ?_); rintro e w' ⟨rfl, ⟨nd, rfl⟩⟩; refine ⟨_, rfl, ?_⟩) | ((with_reducible refine gate_builtin (b := .append) (xs := #[.tmp 58, .tmp 59]) rfl ?_); (try (refine gate_guard (by rfl) ?_; dsimp only)); at_builtin; refine Kd.R_append (Kd.int .u8) (w0 := w) w.heap.size rfl (.tmp 58) (.tmp 59) 72 5 (.int .u8 0) 1 rfl Tryd.underlying72 info5 rfl (by decide) (by omega) u3 x3_1 92 [.int .u8 92] (fun _ => True) (fun _ => False) rfl rfl ?aP (fun _ hk => hk.elim) ?aF ?aO ?aB ?aS ?aL ?_; (case aP => exact rfl); (case aB => exact ap1); (case aF => exact (fun _ _ => trivial)); (case aO => exact (apAR HO_3.out)); (case aS => exact (below_size ap1)); (case aL => have := LMc19.out; omega); intro v593 w21 ho hb hg hat; rw [← Ny592.out] at ho; have n0_ := Aside0.mk (hb); have n1_ := Aside0.mk (ho); clear HB; clear HO_3; have HB := n0_; have HO594 := n1_; clear n0_ n1_; clear ho hb hg hat) | ((with_reducible refine gate_builtin (b := .append) (xs := #[.tmp 61, .tmp 63]) rfl ?_); (try (refine gate_guard (by rfl) ?_; dsimp only)); at_builtin; refine Kd.R_append (Kd.int .u8) (w0 := w) w.heap.size rfl (.tmp 61) (.tmp 63) 72 5 (.int .u8 0) 1 rfl Tryd.underlying72 info5 rfl (by decide) (by omega) v593 y592 (bt a0 x4_1) [.int .u8 (bt a0 x4_1)] (fun _ => True) (fun _ => False) rfl rfl ?aP (fun _ hk => hk.elim) ?aF ?aO ?aB ?aS ?aL ?_; (case aP => exact rfl); (case aB => exact ap1); (case aF => exact (fun _ _ => trivial)); (case aO => exact (apAR HO594.out)); (case aS => exact (below_size ap1)); (case aL => have := LMc20.out; omega); intro v596 w22 ho hb hg hat; rw [← Ny595.out] at ho; have n0_ := Aside0.mk (hb); have n1_ := Aside0.mk (ho); clear HB; clear HO594; have HB := n0_; have HO597 := n1_; clear n0_ n1_; clear ho hb hg hat))
           go_roundg kj6
           case measure => have := HK1.out; have := HJ6.out; omega
           case rel => exact ⟨(y595), (wrap64 (x4_1 + 1)), ap2, H', ⟨by have := HK1.out; have := HJ6.out; omega⟩, ⟨by (with_reducible repeat (first | apply Kd.R_alloc | apply Kd.R_drewN | apply Kd.R_drew)); exact HO597.out⟩, ⟨by repeat (first | (with_reducible first | exact HB.out | apply below_alloc | apply pw_below_drewN | apply below_drew1) | exact HB.out)⟩⟩
          ·
           rw [if_neg c20] at H
           exact absurd H (by simp)
         ·
          rw [if_neg c19] at H
          exact absurd H (by simp)
        ·
         replace c18 := Bool.eq_false_iff.mpr c18
         subst c18
         rw [if_neg (show ¬ (false = true) by decide)] at H
         by_cases c23 : (bt a0 x4_1) = 32
         ·
          rw [if_pos c23] at H
          have c23b0 : ((bt a0 x4_1) == 32) = true := beq_iff_eq.mpr c23
          have c23b1 : ((bt a0 x4_1) != 32) = false := bne_eq_false_iff_eq.mpr c23
          clear c23
          by_cases c24 : x4_1 = 0
          ·
           rw [if_pos c24] at H
           have c24b0 : (x4_1 == 0) = true := beq_iff_eq.mpr c24
           have c24b1 : (x4_1 != 0) = false := bne_eq_false_iff_eq.mpr c24
           clear c24
           by_cases c25 : x3_1.length < 140737488355328
           ·
            rw [if_pos c25] at H
            have LMc25 := Aside0.mk c25
            clear c25
            obtain ⟨y598, hy598⟩ : ∃ y_ : List Int, y_ = (x3_1 ++ [92]) := ⟨_, rfl⟩
            replace H : (if y598.length < 140737488355328 then (R15Text.l0 kj6 a0 (y598 ++ [(bt a0 x4_1)]) (wrap64 (x4_1 + 1))) else (none)) = some r := by first | (rw [hy598]; with_reducible exact H) | (have H2_ := (Option.bind_some _ _).symm.trans H; rw [hy598]; with_reducible exact H2_) | (have H2_ := (Option.bind_some _ _).symm.trans H; with_reducible exact H2_) | with_reducible exact H | (rw [hy598]; exact H) | exact H
            have Ny598 := Aside0.mk hy598
            clear hy598
            by_cases c26 : y598.length < 140737488355328
            ·
             rw [if_pos c26] at H
             have LMc26 := Aside0.mk c26
             clear c26
             obtain ⟨y601, hy601⟩ : ∃ y_ : List Int, y_ = (y598 ++ [(bt a0 x4_1)]) := ⟨_, rfl⟩
             replace H : (R15Text.l0 kj6 a0 y601 (wrap64 (x4_1 + 1))) = some r := by first | (rw [hy601]; with_reducible exact H) | (have H2_ := (Option.bind_some _ _).symm.trans H; rw [hy601]; with_reducible exact H2_) | (have H2_ := (Option.bind_some _ _).symm.trans H; with_reducible exact H2_) | with_reducible exact H | (rw [hy601]; exact H) | exact H
             have Ny601 := Aside0.mk hy601
             clear hy601
             have H' := Aside0.mk H
             clear H
             go_wp2_with (first | ((with_reducible refine gate_callee (f := 44) rfl ?_); refine goesL_ (some 34) rfl rfl Tryd.func44 (by kernel_rfl) rfl #[.int .u8 (bt a0 x4_1)] rfl ap3 ?_; (with_reducible refine (R15Special.calls (bt a0 x4_1) false _ A17.out).mono ?_); rintro e w' ⟨rfl, ⟨nd, rfl⟩⟩; refine ⟨_, rfl, ?_⟩) | ((with_reducible refine gate_builtin (b := .append) (xs := #[.tmp 58, .tmp 59]) rfl ?_); (try (refine gate_guard (by rfl) ?_; dsimp only)); at_builtin; refine Kd.R_append (Kd.int .u8) (w0 := w) w.heap.size rfl (.tmp 58) (.tmp 59) 72 5 (.int .u8 0) 1 rfl Tryd.underlying72 info5 rfl (by decide) (by omega) u3 x3_1 92 [.int .u8 92] (fun _ => True) (fun _ => False) rfl rfl ?aP (fun _ hk => hk.elim) ?aF ?aO ?aB ?aS ?aL ?_; (case aP => exact rfl); (case aB => exact ap1); (case aF => exact (fun _ _ => trivial)); (case aO => exact (apAR HO_3.out)); (case aS => exact (below_size ap1)); (case aL => have := LMc25.out; omega); intro v599 w27 ho hb hg hat; rw [← Ny598.out] at ho; have n0_ := Aside0.mk (hb); have n1_ := Aside0.mk (ho); clear HB; clear HO_3; have HB := n0_; have HO600 := n1_; clear n0_ n1_; clear ho hb hg hat) | ((with_reducible refine gate_builtin (b := .append) (xs := #[.tmp 61, .tmp 63]) rfl ?_); (try (refine gate_guard (by rfl) ?_; dsimp only)); at_builtin; refine Kd.R_append (Kd.int .u8) (w0 := w) w.heap.size rfl (.tmp 61) (.tmp 63) 72 5 (.int .u8 0) 1 rfl Tryd.underlying72 info5 rfl (by decide) (by omega) v599 y598 (bt a0 x4_1) [.int .u8 (bt a0 x4_1)] (fun _ => True) (fun _ => False) rfl rfl ?aP (fun _ hk => hk.elim) ?aF ?aO ?aB ?aS ?aL ?_; (case aP => exact rfl); (case aB => exact ap1); (case aF => exact (fun _ _ => trivial)); (case aO => exact (apAR HO600.out)); (case aS => exact (below_size ap1)); (case aL => have := LMc26.out; omega); intro v602 w28 ho hb hg hat; rw [← Ny601.out] at ho; have n0_ := Aside0.mk (hb); have n1_ := Aside0.mk (ho); clear HB; clear HO600; have HB := n0_; have HO603 := n1_; clear n0_ n1_; clear ho hb hg hat))
             go_roundg kj6
             case measure => have := HK1.out; have := HJ6.out; omega
             case rel => exact ⟨(y601), (wrap64 (x4_1 + 1)), ap2, H', ⟨by have := HK1.out; have := HJ6.out; omega⟩, ⟨by (with_reducible repeat (first | apply Kd.R_alloc | apply Kd.R_drewN | apply Kd.R_drew)); exact HO603.out⟩, ⟨by repeat (first | (with_reducible first | exact HB.out | apply below_alloc | apply pw_below_drewN | apply below_drew1) | exact HB.out)⟩⟩
            ·
             rw [if_neg c26] at H
             exact absurd H (by simp)
           ·
            rw [if_neg c25] at H
            exact absurd H (by simp)
          ·
           rw [if_neg c24] at H
           have c24b0 : (x4_1 == 0) = false := beq_eq_false_iff_ne.mpr c24
           have c24b1 : (x4_1 != 0) = true := bne_iff_ne.mpr c24
           by_cases c29 : (wrap64 (x4_1 + 1)) = (a0.size : Int)
           ·
            rw [if_pos c29] at H
            have c29b0 : ((wrap64 (x4_1 + 1)) == (a0.size : Int)) = true := beq_iff_eq.mpr c29
            have c29b1 : ((wrap64 (x4_1 + 1)) != (a0.size : Int)) = false := bne_eq_false_iff_eq.mpr c29
            clear c29
            by_cases c30 : x3_1.length < 140737488355328
            ·
             rw [if_pos c30] at H
             have LMc30 := Aside0.mk c30
             clear c30
             obtain ⟨y604, hy604⟩ : ∃ y_ : List Int, y_ = (x3_1 ++ [92]) := ⟨_, rfl⟩
             replace H : (if y604.length < 140737488355328 then (R15Text.l0 kj6 a0 (y604 ++ [(bt a0 x4_1)]) (wrap64 (x4_1 + 1))) else (none)) = some r := by first | (rw [hy604]; with_reducible exact H) | (have H2_ := (Option.bind_some _ _).symm.trans H; rw [hy604]; with_reducible exact H2_) | (have H2_ := (Option.bind_some _ _).symm.trans H; with_reducible exact H2_) | with_reducible exact H | (rw [hy604]; exact H) | exact H
             have Ny604 := Aside0.mk hy604
             clear hy604
             by_cases c31 : y604.length < 140737488355328
             ·
              rw [if_pos c31] at H
              have LMc31 := Aside0.mk c31
              clear c31
              obtain ⟨y607, hy607⟩ : ∃ y_ : List Int, y_ = (y604 ++ [(bt a0 x4_1)]) := ⟨_, rfl⟩
              replace H : (R15Text.l0 kj6 a0 y607 (wrap64 (x4_1 + 1))) = some r := by first | (rw [hy607]; with_reducible exact H) | (have H2_ := (Option.bind_some _ _).symm.trans H; rw [hy607]; with_reducible exact H2_) | (have H2_ := (Option.bind_some _ _).symm.trans H; with_reducible exact H2_) | with_reducible exact H | (rw [hy607]; exact H) | exact H
              have Ny607 := Aside0.mk hy607
              clear hy607
              have H' := Aside0.mk H
              clear H
              go_wp2_with (first | ((with_reducible refine gate_callee (f := 44) rfl ?_); refine goesL_ (some 34) rfl rfl Tryd.func44 (by kernel_rfl) rfl #[.int .u8 (bt a0 x4_1)] rfl ap3 ?_; (with_reducible refine (R15Special.calls (bt a0 x4_1) false _ A17.out).mono ?_); rintro e w' ⟨rfl, ⟨nd, rfl⟩⟩; refine ⟨_, rfl, ?_⟩) | ((with_reducible refine gate_builtin (b := .append) (xs := #[.tmp 58, .tmp 59]) rfl ?_); (try (refine gate_guard (by rfl) ?_; dsimp only)); at_builtin; refine Kd.R_append (Kd.int .u8) (w0 := w) w.heap.size rfl (.tmp 58) (.tmp 59) 72 5 (.int .u8 0) 1 rfl Tryd.underlying72 info5 rfl (by decide) (by omega) u3 x3_1 92 [.int .u8 92] (fun _ => True) (fun _ => False) rfl rfl ?aP (fun _ hk => hk.elim) ?aF ?aO ?aB ?aS ?aL ?_; (case aP => exact rfl); (case aB => exact ap1); (case aF => exact (fun _ _ => trivial)); (case aO => exact (apAR HO_3.out)); (case aS => exact (below_size ap1)); (case aL => have := LMc30.out; omega); intro v605 w32 ho hb hg hat; rw [← Ny604.out] at ho; have n0_ := Aside0.mk (hb); have n1_ := Aside0.mk (ho); clear HB; clear HO_3; have HB := n0_; have HO606 := n1_; clear n0_ n1_; clear ho hb hg hat) | ((with_reducible refine gate_builtin (b := .append) (xs := #[.tmp 61, .tmp 63]) rfl ?_); (try (refine gate_guard (by rfl) ?_; dsimp only)); at_builtin; refine Kd.R_append (Kd.int .u8) (w0 := w) w.heap.size rfl (.tmp 61) (.tmp 63) 72 5 (.int .u8 0) 1 rfl Tryd.underlying72 info5 rfl (by decide) (by omega) v605 y604 (bt a0 x4_1) [.int .u8 (bt a0 x4_1)] (fun _ => True) (fun _ => False) rfl rfl ?aP (fun _ hk => hk.elim) ?aF ?aO ?aB ?aS ?aL ?_; (case aP => exact rfl); (case aB => exact ap1); (case aF => exact (fun _ _ => trivial)); (case aO => exact (apAR HO606.out)); (case aS => exact (below_size ap1)); (case aL => have := LMc31.out; omega); intro v608 w33 ho hb hg hat; rw [← Ny607.out] at ho; have n0_ := Aside0.mk (hb); have n1_ := Aside0.mk (ho); clear HB; clear HO606; have HB := n0_; have HO609 := n1_; clear n0_ n1_; clear ho hb hg hat))
              go_roundg kj6
              case measure => have := HK1.out; have := HJ6.out; omega
              case rel => exact ⟨(y607), (wrap64 (x4_1 + 1)), ap2, H', ⟨by have := HK1.out; have := HJ6.out; omega⟩, ⟨by (with_reducible repeat (first | apply Kd.R_alloc | apply Kd.R_drewN | apply Kd.R_drew)); exact HO609.out⟩, ⟨by repeat (first | (with_reducible first | exact HB.out | apply below_alloc | apply pw_below_drewN | apply below_drew1) | exact HB.out)⟩⟩
             ·
              rw [if_neg c31] at H
              exact absurd H (by simp)
            ·
             rw [if_neg c30] at H
             exact absurd H (by simp)
           ·
            rw [if_neg c29] at H
            have c29b0 : ((wrap64 (x4_1 + 1)) == (a0.size : Int)) = false := beq_eq_false_iff_ne.mpr c29
            have c29b1 : ((wrap64 (x4_1 + 1)) != (a0.size : Int)) = true := bne_iff_ne.mpr c29
            by_cases c34 : (bt a0 x4_1) = 35
            ·
             rw [if_pos c34] at H
             have c34b0 : ((bt a0 x4_1) == 35) = true := beq_iff_eq.mpr c34
             have c34b1 : ((bt a0 x4_1) != 35) = false := bne_eq_false_iff_eq.mpr c34
             clear c34
             by_cases c35 : x3_1.length < 140737488355328
             ·
              rw [if_pos c35] at H
              have LMc35 := Aside0.mk c35
              clear c35
              obtain ⟨y610, hy610⟩ : ∃ y_ : List Int, y_ = (x3_1 ++ [(bt a0 x4_1)]) := ⟨_, rfl⟩
              replace H : (R15Text.l0 kj6 a0 y610 (wrap64 (x4_1 + 1))) = some r := by first | (rw [hy610]; with_reducible exact H) | (have H2_ := (Option.bind_some _ _).symm.trans H; rw [hy610]; with_reducible exact H2_) | (have H2_ := (Option.bind_some _ _).symm.trans H; with_reducible exact H2_) | with_reducible exact H | (rw [hy610]; exact H) | exact H
              have Ny610 := Aside0.mk hy610
              clear hy610
              have H' := Aside0.mk H
              clear H
              go_wp2_with (first | ((with_reducible refine gate_callee (f := 44) rfl ?_); refine goesL_ (some 34) rfl rfl Tryd.func44 (by kernel_rfl) rfl #[.int .u8 (bt a0 x4_1)] rfl ap3 ?_; (with_reducible refine (R15Special.calls (bt a0 x4_1) false _ A17.out).mono ?_); rintro e w' ⟨rfl, ⟨nd, rfl⟩⟩; refine ⟨_, rfl, ?_⟩) | ((with_reducible refine gate_builtin (b := .append) (xs := #[.tmp 61, .tmp 63]) rfl ?_); (try (refine gate_guard (by rfl) ?_; dsimp only)); at_builtin; refine Kd.R_append (Kd.int .u8) (w0 := w) w.heap.size rfl (.tmp 61) (.tmp 63) 72 5 (.int .u8 0) 1 rfl Tryd.underlying72 info5 rfl (by decide) (by omega) u3 x3_1 (bt a0 x4_1) [.int .u8 (bt a0 x4_1)] (fun _ => True) (fun _ => False) rfl rfl ?aP (fun _ hk => hk.elim) ?aF ?aO ?aB ?aS ?aL ?_; (case aP => exact rfl); (case aB => exact ap1); (case aF => exact (fun _ _ => trivial)); (case aO => exact (apAR HO_3.out)); (case aS => exact (below_size ap1)); (case aL => have := LMc35.out; omega); intro v611 w36 ho hb hg hat; rw [← Ny610.out] at ho; have n0_ := Aside0.mk (hb); have n1_ := Aside0.mk (ho); clear HB; clear HO_3; have HB := n0_; have HO612 := n1_; clear n0_ n1_; clear ho hb hg hat))
              go_roundg kj6
              case measure => have := HK1.out; have := HJ6.out; omega
              case rel => exact ⟨(y610), (wrap64 (x4_1 + 1)), ap2, H', ⟨by have := HK1.out; have := HJ6.out; omega⟩, ⟨by (with_reducible repeat (first | apply Kd.R_alloc | apply Kd.R_drewN | apply Kd.R_drew)); exact HO612.out⟩, ⟨by repeat (first | (with_reducible first | exact HB.out | apply below_alloc | apply pw_below_drewN | apply below_drew1) | exact HB.out)⟩⟩
             ·
              rw [if_neg c35] at H
              exact absurd H (by simp)
            ·
             rw [if_neg c34] at H
             have c34b0 : ((bt a0 x4_1) == 35) = false := beq_eq_false_iff_ne.mpr c34
             have c34b1 : ((bt a0 x4_1) != 35) = true := bne_iff_ne.mpr c34
             by_cases c37 : x3_1.length < 140737488355328
             ·
              rw [if_pos c37] at H
              have LMc37 := Aside0.mk c37
              clear c37
              obtain ⟨y613, hy613⟩ : ∃ y_ : List Int, y_ = (x3_1 ++ [(bt a0 x4_1)]) := ⟨_, rfl⟩
              replace H : (R15Text.l0 kj6 a0 y613 (wrap64 (x4_1 + 1))) = some r := by first | (rw [hy613]; with_reducible exact H) | (have H2_ := (Option.bind_some _ _).symm.trans H; rw [hy613]; with_reducible exact H2_) | (have H2_ := (Option.bind_some _ _).symm.trans H; with_reducible exact H2_) | with_reducible exact H | (rw [hy613]; exact H) | exact H
              have Ny613 := Aside0.mk hy613
              clear hy613
              have H' := Aside0.mk H
              clear H
              go_wp2_with (first | ((with_reducible refine gate_callee (f := 44) rfl ?_); refine goesL_ (some 34) rfl rfl Tryd.func44 (by kernel_rfl) rfl #[.int .u8 (bt a0 x4_1)] rfl ap3 ?_; (with_reducible refine (R15Special.calls (bt a0 x4_1) false _ A17.out).mono ?_); rintro e w' ⟨rfl, ⟨nd, rfl⟩⟩; refine ⟨_, rfl, ?_⟩) | ((with_reducible refine gate_builtin (b := .append) (xs := #[.tmp 61, .tmp 63]) rfl ?_); (try (refine gate_guard (by rfl) ?_; dsimp only)); at_builtin; refine Kd.R_append (Kd.int .u8) (w0 := w) w.heap.size rfl (.tmp 61) (.tmp 63) 72 5 (.int .u8 0) 1 rfl Tryd.underlying72 info5 rfl (by decide) (by omega) u3 x3_1 (bt a0 x4_1) [.int .u8 (bt a0 x4_1)] (fun _ => True) (fun _ => False) rfl rfl ?aP (fun _ hk => hk.elim) ?aF ?aO ?aB ?aS ?aL ?_; (case aP => exact rfl); (case aB => exact ap1); (case aF => exact (fun _ _ => trivial)); (case aO => exact (apAR HO_3.out)); (case aS => exact (below_size ap1)); (case aL => have := LMc37.out; omega); intro v614 w38 ho hb hg hat; rw [← Ny613.out] at ho; have n0_ := Aside0.mk (hb); have n1_ := Aside0.mk (ho); clear HB; clear HO_3; have HB := n0_; have HO615 := n1_; clear n0_ n1_; clear ho hb hg hat))
              go_roundg kj6
              case measure => have := HK1.out; have := HJ6.out; omega
              case rel => exact ⟨(y613), (wrap64 (x4_1 + 1)), ap2, H', ⟨by have := HK1.out; have := HJ6.out; omega⟩, ⟨by (with_reducible repeat (first | apply Kd.R_alloc | apply Kd.R_drewN | apply Kd.R_drew)); exact HO615.out⟩, ⟨by repeat (first | (with_reducible first | exact HB.out | apply below_alloc | apply pw_below_drewN | apply below_drew1) | exact HB.out)⟩⟩
             ·
              rw [if_neg c37] at H
              exact absurd H (by simp)
         ·
          rw [if_neg c23] at H
          have c23b0 : ((bt a0 x4_1) == 32) = false := beq_eq_false_iff_ne.mpr c23
          have c23b1 : ((bt a0 x4_1) != 32) = true := bne_iff_ne.mpr c23
          by_cases c39 : (bt a0 x4_1) = 35
          ·
           rw [if_pos c39] at H
           have c39b0 : ((bt a0 x4_1) == 35) = true := beq_iff_eq.mpr c39
           have c39b1 : ((bt a0 x4_1) != 35) = false := bne_eq_false_iff_eq.mpr c39
           clear c39
           by_cases c40 : x4_1 = 0
           ·
            rw [if_pos c40] at H
            have c40b0 : (x4_1 == 0) = true := beq_iff_eq.mpr c40
            have c40b1 : (x4_1 != 0) = false := bne_eq_false_iff_eq.mpr c40
            clear c40
            by_cases c41 : x3_1.length < 140737488355328
            ·
             rw [if_pos c41] at H
             have LMc41 := Aside0.mk c41
             clear c41
             obtain ⟨y616, hy616⟩ : ∃ y_ : List Int, y_ = (x3_1 ++ [92]) := ⟨_, rfl⟩
             replace H : (if y616.length < 140737488355328 then (R15Text.l0 kj6 a0 (y616 ++ [(bt a0 x4_1)]) (wrap64 (x4_1 + 1))) else (none)) = some r := by first | (rw [hy616]; with_reducible exact H) | (have H2_ := (Option.bind_some _ _).symm.trans H; rw [hy616]; with_reducible exact H2_) | (have H2_ := (Option.bind_some _ _).symm.trans H; with_reducible exact H2_) | with_reducible exact H | (rw [hy616]; exact H) | exact H
             have Ny616 := Aside0.mk hy616
             clear hy616
             by_cases c42 : y616.length < 140737488355328
             ·
              rw [if_pos c42] at H
              have LMc42 := Aside0.mk c42
              clear c42
              obtain ⟨y619, hy619⟩ : ∃ y_ : List Int, y_ = (y616 ++ [(bt a0 x4_1)]) := ⟨_, rfl⟩
              replace H : (R15Text.l0 kj6 a0 y619 (wrap64 (x4_1 + 1))) = some r := by first | (rw [hy619]; with_reducible exact H) | (have H2_ := (Option.bind_some _ _).symm.trans H; rw [hy619]; with_reducible exact H2_) | (have H2_ := (Option.bind_some _ _).symm.trans H; with_reducible exact H2_) | with_reducible exact H | (rw [hy619]; exact H) | exact H
              have Ny619 := Aside0.mk hy619
              clear hy619
              have H' := Aside0.mk H
              clear H
              go_wp2_with (first | ((with_reducible refine gate_callee (f := 44) rfl ?_); refine goesL_ (some 34) rfl rfl Tryd.func44 (by kernel_rfl) rfl #[.int .u8 (bt a0 x4_1)] rfl ap3 ?_; (with_reducible refine (R15Special.calls (bt a0 x4_1) false _ A17.out).mono ?_); rintro e w' ⟨rfl, ⟨nd, rfl⟩⟩; refine ⟨_, rfl, ?_⟩) | ((with_reducible refine gate_builtin (b := .append) (xs := #[.tmp 58, .tmp 59]) rfl ?_); (try (refine gate_guard (by rfl) ?_; dsimp only)); at_builtin; refine Kd.R_append (Kd.int .u8) (w0 := w) w.heap.size rfl (.tmp 58) (.tmp 59) 72 5 (.int .u8 0) 1 rfl Tryd.underlying72 info5 rfl (by decide) (by omega) u3 x3_1 92 [.int .u8 92] (fun _ => True) (fun _ => False) rfl rfl ?aP (fun _ hk => hk.elim) ?aF ?aO ?aB ?aS ?aL ?_; (case aP => exact rfl); (case aB => exact ap1); (case aF => exact (fun _ _ => trivial)); (case aO => exact (apAR HO_3.out)); (case aS => exact (below_size ap1)); (case aL => have := LMc41.out; omega); intro v617 w43 ho hb hg hat; rw [← Ny616.out] at ho; have n0_ := Aside0.mk (hb); have n1_ := Aside0.mk (ho); clear HB; clear HO_3; have HB := n0_; have HO618 := n1_; clear n0_ n1_; clear ho hb hg hat) | ((with_reducible refine gate_builtin (b := .append) (xs := #[.tmp 61, .tmp 63]) rfl ?_); (try (refine gate_guard (by rfl) ?_; dsimp only)); at_builtin; refine Kd.R_append (Kd.int .u8) (w0 := w) w.heap.size rfl (.tmp 61) (.tmp 63) 72 5 (.int .u8 0) 1 rfl Tryd.underlying72 info5 rfl (by decide) (by omega) v617 y616 (bt a0 x4_1) [.int .u8 (bt a0 x4_1)] (fun _ => True) (fun _ => False) rfl rfl ?aP (fun _ hk => hk.elim) ?aF ?aO ?aB ?aS ?aL ?_; (case aP => exact rfl); (case aB => exact ap1); (case aF => exact (fun _ _ => trivial)); (case aO => exact (apAR HO618.out)); (case aS => exact (below_size ap1)); (case aL => have := LMc42.out; omega); intro v620 w44 ho hb hg hat; rw [← Ny619.out] at ho; have n0_ := Aside0.mk (hb); have n1_ := Aside0.mk (ho); clear HB; clear HO618; have HB := n0_; have HO621 := n1_; clear n0_ n1_; clear ho hb hg hat))
              go_roundg kj6
              case measure => have := HK1.out; have := HJ6.out; omega
              case rel => exact ⟨(y619), (wrap64 (x4_1 + 1)), ap2, H', ⟨by have := HK1.out; have := HJ6.out; omega⟩, ⟨by (with_reducible repeat (first | apply Kd.R_alloc | apply Kd.R_drewN | apply Kd.R_drew)); exact HO621.out⟩, ⟨by repeat (first | (with_reducible first | exact HB.out | apply below_alloc | apply pw_below_drewN | apply below_drew1) | exact HB.out)⟩⟩
             ·
              rw [if_neg c42] at H
              exact absurd H (by simp)
            ·
             rw [if_neg c41] at H
             exact absurd H (by simp)
           ·
            rw [if_neg c40] at H
            have c40b0 : (x4_1 == 0) = false := beq_eq_false_iff_ne.mpr c40
            have c40b1 : (x4_1 != 0) = true := bne_iff_ne.mpr c40
            by_cases c45 : x3_1.length < 140737488355328
            ·
             rw [if_pos c45] at H
             have LMc45 := Aside0.mk c45
             clear c45
             obtain ⟨y622, hy622⟩ : ∃ y_ : List Int, y_ = (x3_1 ++ [(bt a0 x4_1)]) := ⟨_, rfl⟩
             replace H : (R15Text.l0 kj6 a0 y622 (wrap64 (x4_1 + 1))) = some r := by first | (rw [hy622]; with_reducible exact H) | (have H2_ := (Option.bind_some _ _).symm.trans H; rw [hy622]; with_reducible exact H2_) | (have H2_ := (Option.bind_some _ _).symm.trans H; with_reducible exact H2_) | with_reducible exact H | (rw [hy622]; exact H) | exact H
             have Ny622 := Aside0.mk hy622
             clear hy622
             have H' := Aside0.mk H
             clear H
             go_wp2_with (first | ((with_reducible refine gate_callee (f := 44) rfl ?_); refine goesL_ (some 34) rfl rfl Tryd.func44 (by kernel_rfl) rfl #[.int .u8 (bt a0 x4_1)] rfl ap3 ?_; (with_reducible refine (R15Special.calls (bt a0 x4_1) false _ A17.out).mono ?_); rintro e w' ⟨rfl, ⟨nd, rfl⟩⟩; refine ⟨_, rfl, ?_⟩) | ((with_reducible refine gate_builtin (b := .append) (xs := #[.tmp 61, .tmp 63]) rfl ?_); (try (refine gate_guard (by rfl) ?_; dsimp only)); at_builtin; refine Kd.R_append (Kd.int .u8) (w0 := w) w.heap.size rfl (.tmp 61) (.tmp 63) 72 5 (.int .u8 0) 1 rfl Tryd.underlying72 info5 rfl (by decide) (by omega) u3 x3_1 (bt a0 x4_1) [.int .u8 (bt a0 x4_1)] (fun _ => True) (fun _ => False) rfl rfl ?aP (fun _ hk => hk.elim) ?aF ?aO ?aB ?aS ?aL ?_; (case aP => exact rfl); (case aB => exact ap1); (case aF => exact (fun _ _ => trivial)); (case aO => exact (apAR HO_3.out)); (case aS => exact (below_size ap1)); (case aL => have := LMc45.out; omega); intro v623 w46 ho hb hg hat; rw [← Ny622.out] at ho; have n0_ := Aside0.mk (hb); have n1_ := Aside0.mk (ho); clear HB; clear HO_3; have HB := n0_; have HO624 := n1_; clear n0_ n1_; clear ho hb hg hat))
             go_roundg kj6
             case measure => have := HK1.out; have := HJ6.out; omega
             case rel => exact ⟨(y622), (wrap64 (x4_1 + 1)), ap2, H', ⟨by have := HK1.out; have := HJ6.out; omega⟩, ⟨by (with_reducible repeat (first | apply Kd.R_alloc | apply Kd.R_drewN | apply Kd.R_drew)); exact HO624.out⟩, ⟨by repeat (first | (with_reducible first | exact HB.out | apply below_alloc | apply pw_below_drewN | apply below_drew1) | exact HB.out)⟩⟩
            ·
             rw [if_neg c45] at H
             exact absurd H (by simp)
          ·
           rw [if_neg c39] at H
           have c39b0 : ((bt a0 x4_1) == 35) = false := beq_eq_false_iff_ne.mpr c39
           have c39b1 : ((bt a0 x4_1) != 35) = true := bne_iff_ne.mpr c39
           by_cases c47 : x3_1.length < 140737488355328
           ·
            rw [if_pos c47] at H
            have LMc47 := Aside0.mk c47
            clear c47
            obtain ⟨y625, hy625⟩ : ∃ y_ : List Int, y_ = (x3_1 ++ [(bt a0 x4_1)]) := ⟨_, rfl⟩
            replace H : (R15Text.l0 kj6 a0 y625 (wrap64 (x4_1 + 1))) = some r := by first | (rw [hy625]; with_reducible exact H) | (have H2_ := (Option.bind_some _ _).symm.trans H; rw [hy625]; with_reducible exact H2_) | (have H2_ := (Option.bind_some _ _).symm.trans H; with_reducible exact H2_) | with_reducible exact H | (rw [hy625]; exact H) | exact H
            have Ny625 := Aside0.mk hy625
            clear hy625
            have H' := Aside0.mk H
            clear H
            go_wp2_with (first | ((with_reducible refine gate_callee (f := 44) rfl ?_); refine goesL_ (some 34) rfl rfl Tryd.func44 (by kernel_rfl) rfl #[.int .u8 (bt a0 x4_1)] rfl ap3 ?_; (with_reducible refine (R15Special.calls (bt a0 x4_1) false _ A17.out).mono ?_); rintro e w' ⟨rfl, ⟨nd, rfl⟩⟩; refine ⟨_, rfl, ?_⟩) | ((with_reducible refine gate_builtin (b := .append) (xs := #[.tmp 61, .tmp 63]) rfl ?_); (try (refine gate_guard (by rfl) ?_; dsimp only)); at_builtin; refine Kd.R_append (Kd.int .u8) (w0 := w) w.heap.size rfl (.tmp 61) (.tmp 63) 72 5 (.int .u8 0) 1 rfl Tryd.underlying72 info5 rfl (by decide) (by omega) u3 x3_1 (bt a0 x4_1) [.int .u8 (bt a0 x4_1)] (fun _ => True) (fun _ => False) rfl rfl ?aP (fun _ hk => hk.elim) ?aF ?aO ?aB ?aS ?aL ?_; (case aP => exact rfl); (case aB => exact ap1); (case aF => exact (fun _ _ => trivial)); (case aO => exact (apAR HO_3.out)); (case aS => exact (below_size ap1)); (case aL => have := LMc47.out; omega); intro v626 w48 ho hb hg hat; rw [← Ny625.out] at ho; have n0_ := Aside0.mk (hb); have n1_ := Aside0.mk (ho); clear HB; clear HO_3; have HB := n0_; have HO627 := n1_; clear n0_ n1_; clear ho hb hg hat))
            go_roundg kj6
            case measure => have := HK1.out; have := HJ6.out; omega
            case rel => exact ⟨(y625), (wrap64 (x4_1 + 1)), ap2, H', ⟨by have := HK1.out; have := HJ6.out; omega⟩, ⟨by (with_reducible repeat (first | apply Kd.R_alloc | apply Kd.R_drewN | apply Kd.R_drew)); exact HO627.out⟩, ⟨by repeat (first | (with_reducible first | exact HB.out | apply below_alloc | apply pw_below_drewN | apply below_drew1) | exact HB.out)⟩⟩
           ·
            rw [if_neg c47] at H
            exact absurd H (by simp)
    ·
     rw [if_neg c5] at H
     exact absurd H (by simp)
   ·
    rw [if_neg c4] at H
    have c4b0 := decide_eq_false c4
    clear c4
    obtain rfl := Option.some.inj H
    have hcv49 := own_string (P := Tryd.prog) Tryd.underlying72 Tryd.underlying5 Tryd.underlying9 (Kd.own_of_R HO_3.out)
    go_wp2
    go_ret
    exact ⟨by first | rfl | (simp [errW_none, errW_some, bne_nil8, beq_nil8]; done) | (simp [errW_none, errW_some] <;> rfl) | (simp [*, errW_none, errW_some] <;> rfl), by repeat (first | (with_reducible first | exact HB.out | apply below_alloc | apply pw_below_drewN | apply below_drew1) | exact HB.out)⟩
mutual
def R15Print.l0 : Nat → List (List (S40)) → ByteArray → Int → Option (ByteArray × Int)
 | 0, _, _, _ => none
 | k + 1, x0, x4, x5 => if x5 < (x0.length : Int) then (R15Print.l1 k x0 x4 x5 0) else (if (x4.size : Int) > 1000 then (some ((⟨#[]⟩ : ByteArray), 5)) else (some (x4, 0)))
def R15Print.l1 : Nat → List (List (S40)) → ByteArray → Int → Int → Option (ByteArray × Int)
 | 0, _, _, _, _ => none
 | k + 1, x0, x4, x5, x6 => if 0 ≤ x5 then (if x5 < (x0.length : Int) then (if x6 < ((rd_L7 x0 x5).length : Int) then (if x6 > 0 then (if x4.size + 1 ≤ 9223372036854775807 then (if 0 ≤ x6 then (if (x4 ++ (⟨#[43]⟩ : ByteArray)).size + ((rd_T40 (rd_L7 x0 x5) x6).f0).size ≤ 9223372036854775807 then (if ((x4 ++ (⟨#[43]⟩ : ByteArray)) ++ ((rd_T40 (rd_L7 x0 x5) x6).f0)).size + 1 ≤ 9223372036854775807 then ((R15Text.f k ((rd_T40 (rd_L7 x0 x5) x6).f1)).bind fun t634 => (if (((x4 ++ (⟨#[43]⟩ : ByteArray)) ++ ((rd_T40 (rd_L7 x0 x5) x6).f0)) ++ (⟨#[61]⟩ : ByteArray)).size + t634.size ≤ 9223372036854775807 then (R15Print.l1 k x0 ((((x4 ++ (⟨#[43]⟩ : ByteArray)) ++ ((rd_T40 (rd_L7 x0 x5) x6).f0)) ++ (⟨#[61]⟩ : ByteArray)) ++ t634) x5 (wrap64 (x6 + 1))) else (none))) else (none)) else (none)) else (none)) else (none)) else (if x5 > 0 then (if x4.size + 1 ≤ 9223372036854775807 then (if 0 ≤ x6 then (if (x4 ++ (⟨#[44]⟩ : ByteArray)).size + ((rd_T40 (rd_L7 x0 x5) x6).f0).size ≤ 9223372036854775807 then (if ((x4 ++ (⟨#[44]⟩ : ByteArray)) ++ ((rd_T40 (rd_L7 x0 x5) x6).f0)).size + 1 ≤ 9223372036854775807 then ((R15Text.f k ((rd_T40 (rd_L7 x0 x5) x6).f1)).bind fun t639 => (if (((x4 ++ (⟨#[44]⟩ : ByteArray)) ++ ((rd_T40 (rd_L7 x0 x5) x6).f0)) ++ (⟨#[61]⟩ : ByteArray)).size + t639.size ≤ 9223372036854775807 then (R15Print.l1 k x0 ((((x4 ++ (⟨#[44]⟩ : ByteArray)) ++ ((rd_T40 (rd_L7 x0 x5) x6).f0)) ++ (⟨#[61]⟩ : ByteArray)) ++ t639) x5 (wrap64 (x6 + 1))) else (none))) else (none)) else (none)) else (none)) else (none)) else (if 0 ≤ x6 then (if x4.size + ((rd_T40 (rd_L7 x0 x5) x6).f0).size ≤ 9223372036854775807 then (if (x4 ++ ((rd_T40 (rd_L7 x0 x5) x6).f0)).size + 1 ≤ 9223372036854775807 then ((R15Text.f k ((rd_T40 (rd_L7 x0 x5) x6).f1)).bind fun t644 => (if ((x4 ++ ((rd_T40 (rd_L7 x0 x5) x6).f0)) ++ (⟨#[61]⟩ : ByteArray)).size + t644.size ≤ 9223372036854775807 then (R15Print.l1 k x0 (((x4 ++ ((rd_T40 (rd_L7 x0 x5) x6).f0)) ++ (⟨#[61]⟩ : ByteArray)) ++ t644) x5 (wrap64 (x6 + 1))) else (none))) else (none)) else (none)) else (none)))) else (R15Print.l0 k x0 x4 (wrap64 (x5 + 1)))) else (none)) else (none)
end
def R15Print.f (k : Nat) (l0 : List (List (S40))) : Option (ByteArray × Int) := (R15Right.f k l0).bind fun t628 => (if t628 = true then (R15Print.l0 k l0 (⟨#[]⟩ : ByteArray) 0) else (some ((⟨#[]⟩ : ByteArray), 4)))
def R15Print.T14 : Bool × List (List Nat × List Nat) := (true, [([], []), ([], []), ([], []), ([1, 2], [1, 2]), ([3], [3]), ([], []), ([4, 5], [4, 5]), ([6], [6]), ([7], [7]), ([0, 8], [0, 8]), ([9], [9]), ([], []), ([], []), ([11, 12], [11, 12]), ([13], [13]), ([], []), ([14, 15], [14, 15]), ([16], [16]), ([17], [17]), ([18], [18]), ([10, 19], [10, 19]), ([20, 19, 0, 1, 2, 3, 4, 5, 6, 7, 8, 9, 10, 11, 12, 13, 14, 15, 16, 17, 18, 19, 20], [0, 20])])
def R15Print.B14 : List Nat := [0, 0, 0, 6, 14, 0, 62, 126, 254, 511, 1023, 0, 0, 6144, 14336, 0, 63488, 129024, 260096, 522240, 1048575, 2097151]
theorem R15Print.tab14 : rtab .any (opsOf Tryd.f17 14) = R15Print.T14 := by kernel_rfl
theorem R15Print.bits14 : waitsOk R15Print.T14.2 R15Print.B14 = true := by kernel_rfl
set_option maxHeartbeats 8000000 in
set_option maxRecDepth 100000 in
theorem R15Print.calls (k : Nat) (A0 : Option Addr) (c0 : Nat) (l0 : List (List (S40))) (r1 : ByteArray) (r2 : Int) (w : World) (hr0 : Kd.C (Kd.slice 40 k40) w A0 l0.length l0) (hc0 : l0.length ≤ c0) (h : R15Print.f k l0 = some (r1, r2)) :
  Calls Tryd.prog 17 #[.slice A0 l0.length c0] w fun e w' => e = .returned (.tuple #[.string r1, .int .i64 r2]) ∧ Below w.heap.size w w' := by
 have HR0 := Aside0.mk hr0
 have HC0 := Aside0.mk hc0
 clear hr0 hc0
 have HB := Aside0.mk (Below.refl w.heap.size w)
 have H : ((R15Right.f k l0).bind fun t628 => (if t628 = true then (R15Print.l0 k l0 (⟨#[]⟩ : ByteArray) 0) else (some ((⟨#[]⟩ : ByteArray), 4)))) = some (r1, r2) := h
 clear h
 replace H := Option.bind_eq_some_iff.mp H
 obtain ⟨t628, A20, H⟩ := H
 replace H : (if t628 = true then (R15Print.l0 k l0 (⟨#[]⟩ : ByteArray) 0) else (some ((⟨#[]⟩ : ByteArray), 4))) = some (r1, r2) := H
 have A2 := Aside0.mk A20
 clear A20
 by_cases c3 : t628 = true
 ·
  subst c3
  rw [if_pos rfl] at H
  have H' := Aside0.mk H
  clear H
  go_enter Tryd.func17, Tryd.ntmps17
  go_wp2_with (first | ((with_reducible refine gate_callee (f := 19) rfl ?_); refine goesL_ (some 8) rfl rfl Tryd.func19 (by kernel_rfl) rfl #[.slice A0 l0.length c0] rfl ap3 ?_; (with_reducible refine (R15Right.calls k _ _ l0 true _ ?side1 ?side2 A2.out).mono ?_); (case side1 => repeat (first | exact HR0.out | (with_reducible refine Kd.C_alloc ?_ _) | (with_reducible refine Kd.C_drewN ?_ _) | (with_reducible refine Kd.C_drew ?_))); (case side2 => exact HC0.out); rintro e w4 ⟨rfl, hb⟩; refine ⟨_, rfl, ?_⟩; have n0_ := Aside0.mk (below_step ap1 hb); clear HB; have HB := n0_; clear n0_; (try clear hb); (try clear hb2); (try clear hk); (try clear hi)))
  go_loopg [4, 5] k (fun kq v4 v5 w' => ∃ (x4_1 : ByteArray) (x5_1 : Int), v4 = .string x4_1 ∧ v5 = .int .i64 x5_1 ∧ Aside0 (R15Print.l0 kq l0 x4_1 x5_1 = some (r1, r2)) ∧ Aside0 (kq ≤ k) ∧ Aside0 (Below w.heap.size w w'))
  case atStart => exact ⟨((⟨#[]⟩ : ByteArray)), (0), ap2, ap2, H', ⟨Nat.le_refl _⟩, ⟨by repeat (first | (with_reducible first | exact HB.out | apply below_alloc | apply pw_below_drewN | apply below_drew1) | exact HB.out)⟩⟩
  case round =>
   clear H'
   try clear c1
   try clear p2
   try clear c3
   obtain ⟨x4_1, x5_1, rfl, rfl, HA, HK1, HB⟩ := hrel
   cases gk with
   | zero => exact absurd HA.out (by simp [R15Print.l0])
   | succ k1 =>
    have H := HA.out
    clear HA
    simp only [R15Print.l0] at H
    by_cases c5 : x5_1 < (l0.length : Int)
    ·
     rw [if_pos c5] at H
     have c5b0 := decide_eq_true c5
     clear c5
     have H' := Aside0.mk H
     clear H
     go_wp2
     go_loopg [4, 6] k1 (fun kq v4 v6 w' => ∃ (x4_2 : ByteArray) (x6_2 : Int), v4 = .string x4_2 ∧ v6 = .int .i64 x6_2 ∧ Aside0 (R15Print.l1 kq l0 x4_2 x5_1 x6_2 = some (r1, r2)) ∧ Aside0 (kq ≤ k1) ∧ Aside0 (Below w.heap.size w w'))
     case atStart => exact ⟨(x4_1), (0), ap2, ap2, H', ⟨Nat.le_refl _⟩, ⟨by repeat (first | (with_reducible first | exact HB.out | apply below_alloc | apply pw_below_drewN | apply below_drew1) | exact HB.out)⟩⟩
     case round =>
      clear H'
      try clear c1
      try clear p2
      try clear c3
      try clear c5
      try clear c5b0
      try clear p2
      obtain ⟨x4_2, x6_2, rfl, rfl, HA, HK2, HB⟩ := hrel
      cases gk with
      | zero => exact absurd HA.out (by simp [R15Print.l1])
      | succ k2 =>
       have H := HA.out
       clear HA
       simp only [R15Print.l1] at H
       by_cases c6 : 0 ≤ x5_1
       ·
        rw [if_pos c6] at H
        have c6b0 := decide_eq_true c6
        clear c6
        by_cases c7 : x5_1 < (l0.length : Int)
        ·
         rw [if_pos c7] at H
         have c7b0 := decide_eq_true c7
         clear c7
         by_cases c8 : x6_2 < ((rd_L7 l0 x5_1).length : Int)
         ·
          rw [if_pos c8] at H
          have c8b0 := decide_eq_true c8
          clear c8
          by_cases c9 : x6_2 > 0
          ·
           rw [if_pos c9] at H
           have c9b0 := decide_eq_true c9
           clear c9
           by_cases c10 : x4_2.size + 1 ≤ 9223372036854775807
           ·
            rw [if_pos c10] at H
            have c10b0 := eq_true c10
            have c10b1 := decide_eq_true c10
            try have c10b2 : (9223372036854775807 < x4_2.size + 1) = False := eq_false (Nat.not_lt.2 c10)
            by_cases c11 : 0 ≤ x6_2
            ·
             rw [if_pos c11] at H
             have c11b0 := decide_eq_true c11
             clear c11
             by_cases c12 : (x4_2 ++ (⟨#[43]⟩ : ByteArray)).size + ((rd_T40 (rd_L7 l0 x5_1) x6_2).f0).size ≤ 9223372036854775807
             ·
              rw [if_pos c12] at H
              have c12b0 := eq_true c12
              have c12b1 := decide_eq_true c12
              try have c12b2 : (9223372036854775807 < (x4_2 ++ (⟨#[43]⟩ : ByteArray)).size + ((rd_T40 (rd_L7 l0 x5_1) x6_2).f0).size) = False := eq_false (Nat.not_lt.2 c12)
              try (have c12f := eq_false (Nat.not_lt.2 c12); simp only [ByteArray.size_append, sz_lit1, sz_lit2, sz_lit3] at c12f)
              by_cases c13 : ((x4_2 ++ (⟨#[43]⟩ : ByteArray)) ++ ((rd_T40 (rd_L7 l0 x5_1) x6_2).f0)).size + 1 ≤ 9223372036854775807
              ·
               rw [if_pos c13] at H
               have c13b0 := eq_true c13
               have c13b1 := decide_eq_true c13
               try have c13b2 : (9223372036854775807 < ((x4_2 ++ (⟨#[43]⟩ : ByteArray)) ++ ((rd_T40 (rd_L7 l0 x5_1) x6_2).f0)).size + 1) = False := eq_false (Nat.not_lt.2 c13)
               try (have c13f := eq_false (Nat.not_lt.2 c13); simp only [ByteArray.size_append, sz_lit1, sz_lit2, sz_lit3] at c13f)
               replace H := Option.bind_eq_some_iff.mp H
               obtain ⟨t634, A140, H⟩ := H
               replace H : (if (((x4_2 ++ (⟨#[43]⟩ : ByteArray)) ++ ((rd_T40 (rd_L7 l0 x5_1) x6_2).f0)) ++ (⟨#[61]⟩ : ByteArray)).size + t634.size ≤ 9223372036854775807 then (R15Print.l1 k2 l0 ((((x4_2 ++ (⟨#[43]⟩ : ByteArray)) ++ ((rd_T40 (rd_L7 l0 x5_1) x6_2).f0)) ++ (⟨#[61]⟩ : ByteArray)) ++ t634) x5_1 (wrap64 (x6_2 + 1))) else (none)) = some (r1, r2) := H
               have A14 := Aside0.mk A140
               clear A140
               by_cases c15 : (((x4_2 ++ (⟨#[43]⟩ : ByteArray)) ++ ((rd_T40 (rd_L7 l0 x5_1) x6_2).f0)) ++ (⟨#[61]⟩ : ByteArray)).size + t634.size ≤ 9223372036854775807
               ·
                rw [if_pos c15] at H
                have c15b0 := eq_true c15
                have c15b1 := decide_eq_true c15
                try have c15b2 : (9223372036854775807 < (((x4_2 ++ (⟨#[43]⟩ : ByteArray)) ++ ((rd_T40 (rd_L7 l0 x5_1) x6_2).f0)) ++ (⟨#[61]⟩ : ByteArray)).size + t634.size) = False := eq_false (Nat.not_lt.2 c15)
                try (have c15f := eq_false (Nat.not_lt.2 c15); simp only [ByteArray.size_append, sz_lit1, sz_lit2, sz_lit3] at c15f)
                have H' := Aside0.mk H
                clear H
                have p629 : 0 ≤ (x5_1 : Int) := of_decide_eq_true ap0
                have q629 : x5_1 < (l0.length : Int) := of_decide_eq_true ap0
                obtain ⟨ad629, A629_0, c629_0, e629, hx629_0, hl629_0, hi629_0⟩ := at_L7 HR0.out x5_1 p629 q629
                cases e629
                replace hx629_0 := (HB.out.cell (World.block_lt_of_cell? w _ hx629_0)).trans hx629_0
                have HR629_0 := Aside0.mk hi629_0
                have HC629_0 := Aside0.mk hl629_0
                clear hi629_0 hl629_0
                replace p629 := eq_true p629
                replace q629 := eq_true q629
                try go_wp2
                have n0_ := Aside0.mk (below_drew1 HB.out)
                clear HB
                have HB := n0_
                clear n0_
                have p630 : 0 ≤ (x5_1 : Int) := of_decide_eq_true ap0
                have q630 : x5_1 < (l0.length : Int) := of_decide_eq_true ap0
                obtain ⟨ad630, A630_0, c630_0, e630, hx630_0, hl630_0, hi630_0⟩ := at_L7 HR0.out x5_1 p630 q630
                have hw630_0 := hx630_0
                obtain rfl : ad629 = ad630 := (by injection e630)
                replace hx630_0 := (HB.out.cell (World.block_lt_of_cell? w _ hx630_0)).trans hx630_0
                have HR630_0 := Aside0.mk hi630_0
                have HC630_0 := Aside0.mk hl630_0
                clear hi630_0 hl630_0
                replace p630 := eq_true p630
                replace q630 := eq_true q630
                have p631 : 0 ≤ (x6_2 : Int) := of_decide_eq_true ap0
                have q631 : x6_2 < ((rd_L7 l0 x5_1).length : Int) := of_decide_eq_true ap0
                obtain ⟨ad631, e631, hx631_0, hx631_1⟩ := at_T40 HR630_0.out x6_2 p631 q631
                have hw631_1 := hx631_1
                have hw631_0 := hx631_0
                cases e631
                replace hx631_0 := (HB.out.cell (World.block_lt_of_cell? w _ hx631_0)).trans hx631_0
                replace hx631_1 := (HB.out.cell (World.block_lt_of_cell? w _ hx631_1)).trans hx631_1
                replace p631 := eq_true p631
                replace q631 := eq_true q631
                have p632 : 0 ≤ (x5_1 : Int) := of_decide_eq_true ap0
                have q632 : x5_1 < (l0.length : Int) := of_decide_eq_true ap0
                obtain ⟨ad632, A632_0, c632_0, e632, hx632_0, hl632_0, hi632_0⟩ := at_L7 HR0.out x5_1 p632 q632
                have hw632_0 := hx632_0
                obtain rfl : ad629 = ad632 := (by injection e632)
                replace hx632_0 := (HB.out.cell (World.block_lt_of_cell? w _ hx632_0)).trans hx632_0
                have HR632_0 := Aside0.mk hi632_0
                have HC632_0 := Aside0.mk hl632_0
                clear hi632_0 hl632_0
                replace p632 := eq_true p632
                replace q632 := eq_true q632
                have ea_ := Option.some.inj (hx630_0.symm.trans hx632_0)
                injection ea_ with ea_ en_ ec_
                subst ea_
                subst ec_
                clear en_
                have p633 : 0 ≤ (x6_2 : Int) := of_decide_eq_true ap0
                have q633 : x6_2 < ((rd_L7 l0 x5_1).length : Int) := of_decide_eq_true ap0
                obtain ⟨ad633, e633, hx633_0, hx633_1⟩ := at_T40 HR632_0.out x6_2 p633 q633
                have hw633_1 := hx633_1
                have hw633_0 := hx633_0
                cases e633
                replace hx633_0 := (HB.out.cell (World.block_lt_of_cell? w _ hx633_0)).trans hx633_0
                replace hx633_1 := (HB.out.cell (World.block_lt_of_cell? w _ hx633_1)).trans hx633_1
                replace p633 := eq_true p633
                replace q633 := eq_true q633
                refine start_ (n := 22) (S := fun w' => w'.cell? (ad629.add (x5_1).toNat) = some (.slice (some ad631) (rd_L7 l0 x5_1).length c630_0) ∧ w'.cell? (ad631.add ((x6_2).toNat * 2)) = some (.string ((rd_T40 (rd_L7 l0 x5_1) x6_2).f0)) ∧ w'.cell? ⟨(ad631.add ((x6_2).toNat * 2)).block, (ad631.add ((x6_2).toNat * 2)).off + 1, none⟩ = some (.string ((rd_T40 (rd_L7 l0 x5_1) x6_2).f1)) ∧ w'.cell? (ad629.add (x5_1).toNat) = some (.slice (some ad631) (rd_L7 l0 x5_1).length c630_0) ∧ w'.cell? (ad631.add ((x6_2).toNat * 2)) = some (.string ((rd_T40 (rd_L7 l0 x5_1) x6_2).f0)) ∧ w'.cell? ⟨(ad631.add ((x6_2).toNat * 2)).block, (ad631.add ((x6_2).toNat * 2)).off + 1, none⟩ = some (.string ((rd_T40 (rd_L7 l0 x5_1) x6_2).f1))) (ds := []) #[false, false, false, false, false, false, false, false, false, false, false, false, false, false, false, false, false, false, false, false, false, false] (by kernel_rfl) rfl rfl ⟨((HB.out.cell (World.block_lt_of_cell? w _ hw630_0)).trans hw630_0), ((HB.out.cell (World.block_lt_of_cell? w _ hw631_0)).trans hw631_0), ((HB.out.cell (World.block_lt_of_cell? w _ hw631_1)).trans hw631_1), ((HB.out.cell (World.block_lt_of_cell? w _ hw632_0)).trans hw632_0), ((HB.out.cell (World.block_lt_of_cell? w _ hw633_0)).trans hw633_0), ((HB.out.cell (World.block_lt_of_cell? w _ hw633_1)).trans hw633_1)⟩ (fun hHeld => ?_); refine with_tabW R15Print.tab14 R15Print.bits14 (fun HT_ HW_ => ?_)
                generalize wr.drew = w16 at HB HR630_0 HR632_0 hx630_0 hx631_0 hx631_1 hx632_0 hx633_0 hx633_1 hHeld ⊢
                refine pure_ (i := 0) (N := some 33) (v := ?_) (a' := ?_) #[true, false, false, false, false, false, false, false, false, false, false, false, false, false, false, false, false, false, false, false, false, false] rfl rfl (any_of HT_.out (by kernel_rfl)) (fun _ _ _ h => h) (Or.inl ⟨by rfl, ?_⟩) ?_ ?_
                rotate_left
                ·
                 intro w'
                 go_simp
                 with_reducible rfl
                rotate_left
                ·
                 simp only [Act.put, List.setIfInBounds_toArray, List.set_cons_zero, List.set_cons_succ, i64_w, i32_w]
                 rfl
                refine pure_ (i := 1) (N := some 34) (v := ?_) (a' := ?_) #[true, true, false, false, false, false, false, false, false, false, false, false, false, false, false, false, false, false, false, false, false, false] rfl rfl (any_of HT_.out (by kernel_rfl)) (fun _ _ _ h => h) (Or.inl ⟨by rfl, ?_⟩) ?_ ?_
                rotate_left
                ·
                 intro w'
                 go_simp
                 with_reducible rfl
                rotate_left
                ·
                 simp only [Act.put, List.setIfInBounds_toArray, List.set_cons_zero, List.set_cons_succ, i64_w, i32_w]
                 rfl
                refine pure_ (i := 2) (N := some 35) (v := ?_) (a' := ?_) #[true, true, true, false, false, false, false, false, false, false, false, false, false, false, false, false, false, false, false, false, false, false] rfl rfl (any_of HT_.out (by kernel_rfl)) (fun _ _ _ h => h) (Or.inl ⟨by rfl, ?_⟩) ?_ ?_
                rotate_left
                ·
                 intro w'
                 go_simp
                 with_reducible rfl
                rotate_left
                ·
                 simp only [Act.put, List.setIfInBounds_toArray, List.set_cons_zero, List.set_cons_succ, i64_w, i32_w]
                 rfl
                refine pure_ (i := 3) (N := some 36) (v := ?_) (a' := ?_) #[true, true, true, true, false, false, false, false, false, false, false, false, false, false, false, false, false, false, false, false, false, false] rfl rfl (any_of HT_.out (by kernel_rfl)) (fun _ _ _ h => h) (Or.inl ⟨by rfl, ?_⟩) ?_ ?_
                rotate_left
                ·
                 intro w'
                 go_simp
                 with_reducible rfl
                rotate_left
                ·
                 simp only [Act.put, List.setIfInBounds_toArray, List.set_cons_zero, List.set_cons_succ, i64_w, i32_w]
                 rfl
                refine pure_ (i := 5) (N := some 38) (v := ?_) (a' := ?_) #[true, true, true, true, false, true, false, false, false, false, false, false, false, false, false, false, false, false, false, false, false, false] rfl rfl (any_of HT_.out (by kernel_rfl)) (fun _ _ _ h => h) (Or.inl ⟨by rfl, ?_⟩) ?_ ?_
                rotate_left
                ·
                 intro w'
                 go_simp
                 with_reducible rfl
                rotate_left
                ·
                 simp only [Act.put, List.setIfInBounds_toArray, List.set_cons_zero, List.set_cons_succ, i64_w, i32_w]
                 rfl
                refine pure_ (i := 11) (N := some 44) (v := ?_) (a' := ?_) #[true, true, true, true, false, true, false, false, false, false, false, true, false, false, false, false, false, false, false, false, false, false] rfl rfl (any_of HT_.out (by kernel_rfl)) (fun _ _ _ h => h) (Or.inl ⟨by rfl, ?_⟩) ?_ ?_
                rotate_left
                ·
                 intro w'
                 go_simp
                 with_reducible rfl
                rotate_left
                ·
                 simp only [Act.put, List.setIfInBounds_toArray, List.set_cons_zero, List.set_cons_succ, i64_w, i32_w]
                 rfl
                refine pure_ (i := 12) (N := some 45) (v := ?_) (a' := ?_) #[true, true, true, true, false, true, false, false, false, false, false, true, true, false, false, false, false, false, false, false, false, false] rfl rfl (any_of HT_.out (by kernel_rfl)) (fun _ _ _ h => h) (Or.inl ⟨by rfl, ?_⟩) ?_ ?_
                rotate_left
                ·
                 intro w'
                 go_simp
                 with_reducible rfl
                rotate_left
                ·
                 simp only [Act.put, List.setIfInBounds_toArray, List.set_cons_zero, List.set_cons_succ, i64_w, i32_w]
                 rfl
                refine pure_ (i := 13) (N := some 46) (v := ?_) (a' := ?_) #[true, true, true, true, false, true, false, false, false, false, false, true, true, true, false, false, false, false, false, false, false, false] rfl rfl (any_of HT_.out (by kernel_rfl)) (fun _ _ _ h => h) (Or.inl ⟨by rfl, ?_⟩) ?_ ?_
                rotate_left
                ·
                 intro w'
                 go_simp
                 with_reducible rfl
                rotate_left
                ·
                 simp only [Act.put, List.setIfInBounds_toArray, List.set_cons_zero, List.set_cons_succ, i64_w, i32_w]
                 rfl
                refine pure_ (i := 15) (N := some 48) (v := ?_) (a' := ?_) #[true, true, true, true, false, true, false, false, false, false, false, true, true, true, false, true, false, false, false, false, false, false] rfl rfl (any_of HT_.out (by kernel_rfl)) (fun _ _ _ h => h) (Or.inl ⟨by rfl, ?_⟩) ?_ ?_
                rotate_left
                ·
                 intro w'
                 go_simp
                 with_reducible rfl
                rotate_left
                ·
                 simp only [Act.put, List.setIfInBounds_toArray, List.set_cons_zero, List.set_cons_succ, i64_w, i32_w]
                 rfl
                refine take_ (i := 4) (N := some 37) (v := ?_) (a' := ?_) #[true, true, true, true, true, true, false, false, false, false, false, true, true, true, false, true, false, false, false, false, false, false] rfl rfl (take_ofW HT_.out HW_.out (by kernel_rfl)) (fun _ _ _ h => h) (Or.inl ⟨by rfl, ?_⟩) hHeld ?_ ?_
                rotate_left
                ·
                 rintro w' ⟨s0, s1, s2, s3, s4, s5⟩
                 go_simp
                 with_reducible rfl
                rotate_left
                ·
                 simp only [Act.put, List.setIfInBounds_toArray, List.set_cons_zero, List.set_cons_succ, i64_w, i32_w]
                 rfl
                refine pure_ (i := 6) (N := some 39) (v := ?_) (a' := ?_) #[true, true, true, true, true, true, true, false, false, false, false, true, true, true, false, true, false, false, false, false, false, false] rfl rfl (any_of HT_.out (by kernel_rfl)) (fun _ _ _ h => h) (Or.inl ⟨by rfl, ?_⟩) ?_ ?_
                rotate_left
                ·
                 intro w'
                 go_simp
                 with_reducible rfl
                rotate_left
                ·
                 simp only [Act.put, List.setIfInBounds_toArray, List.set_cons_zero, List.set_cons_succ, i64_w, i32_w]
                 rfl
                refine pure_ (i := 7) (N := some 40) (v := ?_) (a' := ?_) #[true, true, true, true, true, true, true, true, false, false, false, true, true, true, false, true, false, false, false, false, false, false] rfl rfl (any_of HT_.out (by kernel_rfl)) (fun _ _ _ h => h) (Or.inl ⟨by rfl, ?_⟩) ?_ ?_
                rotate_left
                ·
                 intro w'
                 go_simp
                 with_reducible rfl
                rotate_left
                ·
                 simp only [Act.put, List.setIfInBounds_toArray, List.set_cons_zero, List.set_cons_succ, i64_w, i32_w]
                 rfl
                refine take_ (i := 8) (N := some 41) (v := ?_) (a' := ?_) #[true, true, true, true, true, true, true, true, true, false, false, true, true, true, false, true, false, false, false, false, false, false] rfl rfl (take_ofW HT_.out HW_.out (by kernel_rfl)) (fun _ _ _ h => h) (Or.inl ⟨by rfl, ?_⟩) hHeld ?_ ?_
                rotate_left
                ·
                 rintro w' ⟨s0, s1, s2, s3, s4, s5⟩
                 go_simp
                 with_reducible rfl
                rotate_left
                ·
                 simp only [Act.put, List.setIfInBounds_toArray, List.set_cons_zero, List.set_cons_succ, i64_w, i32_w]
                 rfl
                refine pure_ (i := 9) (N := some 42) (v := ?_) (a' := ?_) #[true, true, true, true, true, true, true, true, true, true, false, true, true, true, false, true, false, false, false, false, false, false] rfl rfl (any_of HT_.out (by kernel_rfl)) (fun _ _ _ h => h) (Or.inl ⟨by rfl, ?_⟩) ?_ ?_
                rotate_left
                ·
                 intro w'
                 go_simp
                 with_reducible rfl
                rotate_left
                ·
                 simp only [Act.put, List.setIfInBounds_toArray, List.set_cons_zero, List.set_cons_succ, i64_w, i32_w]
                 rfl
                refine pure_ (i := 10) (N := some 43) (v := ?_) (a' := ?_) #[true, true, true, true, true, true, true, true, true, true, true, true, true, true, false, true, false, false, false, false, false, false] rfl rfl (any_of HT_.out (by kernel_rfl)) (fun _ _ _ h => h) (Or.inl ⟨by rfl, ?_⟩) ?_ ?_
                rotate_left
                ·
                 intro w'
                 go_simp
                 with_reducible rfl
                rotate_left
                ·
                 simp only [Act.put, List.setIfInBounds_toArray, List.set_cons_zero, List.set_cons_succ, i64_w, i32_w]
                 rfl
                refine take_ (i := 14) (N := some 47) (v := ?_) (a' := ?_) #[true, true, true, true, true, true, true, true, true, true, true, true, true, true, true, true, false, false, false, false, false, false] rfl rfl (take_ofW HT_.out HW_.out (by kernel_rfl)) (fun _ _ _ h => h) (Or.inl ⟨by rfl, ?_⟩) hHeld ?_ ?_
                rotate_left
                ·
                 rintro w' ⟨s0, s1, s2, s3, s4, s5⟩
                 go_simp
                 with_reducible rfl
                rotate_left
                ·
                 simp only [Act.put, List.setIfInBounds_toArray, List.set_cons_zero, List.set_cons_succ, i64_w, i32_w]
                 rfl
                refine pure_ (i := 16) (N := some 49) (v := ?_) (a' := ?_) #[true, true, true, true, true, true, true, true, true, true, true, true, true, true, true, true, true, false, false, false, false, false] rfl rfl (any_of HT_.out (by kernel_rfl)) (fun _ _ _ h => h) (Or.inl ⟨by rfl, ?_⟩) ?_ ?_
                rotate_left
                ·
                 intro w'
                 go_simp
                 with_reducible rfl
                rotate_left
                ·
                 simp only [Act.put, List.setIfInBounds_toArray, List.set_cons_zero, List.set_cons_succ, i64_w, i32_w]
                 rfl
                refine pure_ (i := 17) (N := some 50) (v := ?_) (a' := ?_) #[true, true, true, true, true, true, true, true, true, true, true, true, true, true, true, true, true, true, false, false, false, false] rfl rfl (any_of HT_.out (by kernel_rfl)) (fun _ _ _ h => h) (Or.inl ⟨by rfl, ?_⟩) ?_ ?_
                rotate_left
                ·
                 intro w'
                 go_simp
                 with_reducible rfl
                rotate_left
                ·
                 simp only [Act.put, List.setIfInBounds_toArray, List.set_cons_zero, List.set_cons_succ, i64_w, i32_w]
                 rfl
                refine take_ (i := 18) (N := some 51) (v := ?_) (a' := ?_) #[true, true, true, true, true, true, true, true, true, true, true, true, true, true, true, true, true, true, true, false, false, false] rfl rfl (take_ofW HT_.out HW_.out (by kernel_rfl)) (fun _ _ _ h => h) (Or.inl ⟨by rfl, ?_⟩) hHeld ?_ ?_
                rotate_left
                ·
                 rintro w' ⟨s0, s1, s2, s3, s4, s5⟩
                 go_simp
                 with_reducible rfl
                rotate_left
                ·
                 simp only [Act.put, List.setIfInBounds_toArray, List.set_cons_zero, List.set_cons_succ, i64_w, i32_w]
                 rfl
                refine one_ (i := 19) (N := some 52) #[true, true, true, true, true, true, true, true, true, true, true, true, true, true, true, true, true, true, true, true, false, false] rfl rfl (one_of HT_.out (by kernel_rfl)) (by decide) (fun K hK => ?_)
                refine goes_ Tryd.func23 (by kernel_rfl) rfl #[.string ((rd_T40 (rd_L7 l0 x5_1) x6_2).f1)] (by rfl) rfl rfl ap3 ?_
                with_reducible refine (R15Text.calls k2 ((rd_T40 (rd_L7 l0 x5_1) x6_2).f1) t634 _ A14.out).mono ?_
                rintro e w17 ⟨rfl, hb⟩
                refine ⟨_, rfl, ?_⟩
                have n0_ := Aside0.mk (below_step ap1 hb)
                clear HB
                have HB := n0_
                clear n0_
                (try clear hb)
                (try clear hb2)
                (try clear hk)
                (try clear hi)
                refine hK.out _ _ ⟨((HB.out.cell (World.block_lt_of_cell? w _ hw630_0)).trans hw630_0), ((HB.out.cell (World.block_lt_of_cell? w _ hw631_0)).trans hw631_0), ((HB.out.cell (World.block_lt_of_cell? w _ hw631_1)).trans hw631_1), ((HB.out.cell (World.block_lt_of_cell? w _ hw632_0)).trans hw632_0), ((HB.out.cell (World.block_lt_of_cell? w _ hw633_0)).trans hw633_0), ((HB.out.cell (World.block_lt_of_cell? w _ hw633_1)).trans hw633_1)⟩ (fun hHeld => ?_)
                clear hK K
                refine norm_ (a' := ?_) ?_ ?_
                rotate_left
                ·
                 show Act.put _ (some 52) _ = _
                 simp only [Act.put, List.setIfInBounds_toArray, List.set_cons_zero, List.set_cons_succ, i64_w, i32_w]
                 rfl
                refine pure_ (i := 20) (N := some 53) (v := ?_) (a' := ?_) #[true, true, true, true, true, true, true, true, true, true, true, true, true, true, true, true, true, true, true, true, true, false] rfl rfl (any_of HT_.out (by kernel_rfl)) (fun _ _ _ h => h) (Or.inl ⟨by rfl, ?_⟩) ?_ ?_
                rotate_left
                ·
                 intro w'
                 go_simp
                 with_reducible rfl
                rotate_left
                ·
                 simp only [Act.put, List.setIfInBounds_toArray, List.set_cons_zero, List.set_cons_succ, i64_w, i32_w]
                 rfl
                refine pure_ (i := 21) (N := some 4) (v := ?_) (a' := ?_) #[true, true, true, true, true, true, true, true, true, true, true, true, true, true, true, true, true, true, true, true, true, true] rfl rfl (any_of HT_.out (by kernel_rfl)) (fun _ _ _ h => h) (Or.inl ⟨by rfl, ?_⟩) ?_ ?_
                rotate_left
                ·
                 intro w'
                 go_simp
                 with_reducible rfl
                rotate_left
                ·
                 simp only [Act.put, List.setIfInBounds_toArray, List.set_cons_zero, List.set_cons_succ, i64_w, i32_w]
                 rfl
                refine done_ (done_of HT_.out (by kernel_rfl)) ?_
                try go_wp2
                go_roundg k2
                case measure => have := HK1.out; have := HK2.out; omega
                case rel => exact ⟨((((x4_2 ++ (⟨#[43]⟩ : ByteArray)) ++ ((rd_T40 (rd_L7 l0 x5_1) x6_2).f0)) ++ (⟨#[61]⟩ : ByteArray)) ++ t634), (wrap64 (x6_2 + 1)), ap2, ap2, H', ⟨by have := HK1.out; have := HK2.out; omega⟩, ⟨by repeat (first | (with_reducible first | exact HB.out | apply below_alloc | apply pw_below_drewN | apply below_drew1) | exact HB.out)⟩⟩
               ·
                rw [if_neg c15] at H
                exact absurd H (by simp)
              ·
               rw [if_neg c13] at H
               exact absurd H (by simp)
             ·
              rw [if_neg c12] at H
              exact absurd H (by simp)
            ·
             rw [if_neg c11] at H
             exact absurd H (by simp)
           ·
            rw [if_neg c10] at H
            exact absurd H (by simp)
          ·
           rw [if_neg c9] at H
           have c9b0 := decide_eq_false c9
           clear c9
           by_cases c18 : x5_1 > 0
           ·
            rw [if_pos c18] at H
            have c18b0 := decide_eq_true c18
            clear c18
            by_cases c19 : x4_2.size + 1 ≤ 9223372036854775807
            ·
             rw [if_pos c19] at H
             have c19b0 := eq_true c19
             have c19b1 := decide_eq_true c19
             try have c19b2 : (9223372036854775807 < x4_2.size + 1) = False := eq_false (Nat.not_lt.2 c19)
             by_cases c20 : 0 ≤ x6_2
             ·
              rw [if_pos c20] at H
              have c20b0 := decide_eq_true c20
              clear c20
              by_cases c21 : (x4_2 ++ (⟨#[44]⟩ : ByteArray)).size + ((rd_T40 (rd_L7 l0 x5_1) x6_2).f0).size ≤ 9223372036854775807
              ·
               rw [if_pos c21] at H
               have c21b0 := eq_true c21
               have c21b1 := decide_eq_true c21
               try have c21b2 : (9223372036854775807 < (x4_2 ++ (⟨#[44]⟩ : ByteArray)).size + ((rd_T40 (rd_L7 l0 x5_1) x6_2).f0).size) = False := eq_false (Nat.not_lt.2 c21)
               try (have c21f := eq_false (Nat.not_lt.2 c21); simp only [ByteArray.size_append, sz_lit1, sz_lit2, sz_lit3] at c21f)
               by_cases c22 : ((x4_2 ++ (⟨#[44]⟩ : ByteArray)) ++ ((rd_T40 (rd_L7 l0 x5_1) x6_2).f0)).size + 1 ≤ 9223372036854775807
               ·
                rw [if_pos c22] at H
                have c22b0 := eq_true c22
                have c22b1 := decide_eq_true c22
                try have c22b2 : (9223372036854775807 < ((x4_2 ++ (⟨#[44]⟩ : ByteArray)) ++ ((rd_T40 (rd_L7 l0 x5_1) x6_2).f0)).size + 1) = False := eq_false (Nat.not_lt.2 c22)
                try (have c22f := eq_false (Nat.not_lt.2 c22); simp only [ByteArray.size_append, sz_lit1, sz_lit2, sz_lit3] at c22f)
                replace H := Option.bind_eq_some_iff.mp H
                obtain ⟨t639, A230, H⟩ := H
                replace H : (if (((x4_2 ++ (⟨#[44]⟩ : ByteArray)) ++ ((rd_T40 (rd_L7 l0 x5_1) x6_2).f0)) ++ (⟨#[61]⟩ : ByteArray)).size + t639.size ≤ 9223372036854775807 then (R15Print.l1 k2 l0 ((((x4_2 ++ (⟨#[44]⟩ : ByteArray)) ++ ((rd_T40 (rd_L7 l0 x5_1) x6_2).f0)) ++ (⟨#[61]⟩ : ByteArray)) ++ t639) x5_1 (wrap64 (x6_2 + 1))) else (none)) = some (r1, r2) := H
                have A23 := Aside0.mk A230
                clear A230
                by_cases c24 : (((x4_2 ++ (⟨#[44]⟩ : ByteArray)) ++ ((rd_T40 (rd_L7 l0 x5_1) x6_2).f0)) ++ (⟨#[61]⟩ : ByteArray)).size + t639.size ≤ 9223372036854775807
                ·
                 rw [if_pos c24] at H
                 have c24b0 := eq_true c24
                 have c24b1 := decide_eq_true c24
                 try have c24b2 : (9223372036854775807 < (((x4_2 ++ (⟨#[44]⟩ : ByteArray)) ++ ((rd_T40 (rd_L7 l0 x5_1) x6_2).f0)) ++ (⟨#[61]⟩ : ByteArray)).size + t639.size) = False := eq_false (Nat.not_lt.2 c24)
                 try (have c24f := eq_false (Nat.not_lt.2 c24); simp only [ByteArray.size_append, sz_lit1, sz_lit2, sz_lit3] at c24f)
                 have H' := Aside0.mk H
                 clear H
                 have p629 : 0 ≤ (x5_1 : Int) := of_decide_eq_true ap0
                 have q629 : x5_1 < (l0.length : Int) := of_decide_eq_true ap0
                 obtain ⟨ad629, A629_0, c629_0, e629, hx629_0, hl629_0, hi629_0⟩ := at_L7 HR0.out x5_1 p629 q629
                 cases e629
                 replace hx629_0 := (HB.out.cell (World.block_lt_of_cell? w _ hx629_0)).trans hx629_0
                 have HR629_0 := Aside0.mk hi629_0
                 have HC629_0 := Aside0.mk hl629_0
                 clear hi629_0 hl629_0
                 replace p629 := eq_true p629
                 replace q629 := eq_true q629
                 try go_wp2
                 have n0_ := Aside0.mk (below_drew1 HB.out)
                 clear HB
                 have HB := n0_
                 clear n0_
                 have p635 : 0 ≤ (x5_1 : Int) := of_decide_eq_true ap0
                 have q635 : x5_1 < (l0.length : Int) := of_decide_eq_true ap0
                 obtain ⟨ad635, A635_0, c635_0, e635, hx635_0, hl635_0, hi635_0⟩ := at_L7 HR0.out x5_1 p635 q635
                 have hw635_0 := hx635_0
                 obtain rfl : ad629 = ad635 := (by injection e635)
                 replace hx635_0 := (HB.out.cell (World.block_lt_of_cell? w _ hx635_0)).trans hx635_0
                 have HR635_0 := Aside0.mk hi635_0
                 have HC635_0 := Aside0.mk hl635_0
                 clear hi635_0 hl635_0
                 replace p635 := eq_true p635
                 replace q635 := eq_true q635
                 have p636 : 0 ≤ (x6_2 : Int) := of_decide_eq_true ap0
                 have q636 : x6_2 < ((rd_L7 l0 x5_1).length : Int) := of_decide_eq_true ap0
                 obtain ⟨ad636, e636, hx636_0, hx636_1⟩ := at_T40 HR635_0.out x6_2 p636 q636
                 have hw636_1 := hx636_1
                 have hw636_0 := hx636_0
                 cases e636
                 replace hx636_0 := (HB.out.cell (World.block_lt_of_cell? w _ hx636_0)).trans hx636_0
                 replace hx636_1 := (HB.out.cell (World.block_lt_of_cell? w _ hx636_1)).trans hx636_1
                 replace p636 := eq_true p636
                 replace q636 := eq_true q636
                 have p637 : 0 ≤ (x5_1 : Int) := of_decide_eq_true ap0
                 have q637 : x5_1 < (l0.length : Int) := of_decide_eq_true ap0
                 obtain ⟨ad637, A637_0, c637_0, e637, hx637_0, hl637_0, hi637_0⟩ := at_L7 HR0.out x5_1 p637 q637
                 have hw637_0 := hx637_0
                 obtain rfl : ad629 = ad637 := (by injection e637)
                 replace hx637_0 := (HB.out.cell (World.block_lt_of_cell? w _ hx637_0)).trans hx637_0
                 have HR637_0 := Aside0.mk hi637_0
                 have HC637_0 := Aside0.mk hl637_0
                 clear hi637_0 hl637_0
                 replace p637 := eq_true p637
                 replace q637 := eq_true q637
                 have ea_ := Option.some.inj (hx635_0.symm.trans hx637_0)
                 injection ea_ with ea_ en_ ec_
                 subst ea_
                 subst ec_
                 clear en_
                 have p638 : 0 ≤ (x6_2 : Int) := of_decide_eq_true ap0
                 have q638 : x6_2 < ((rd_L7 l0 x5_1).length : Int) := of_decide_eq_true ap0
                 obtain ⟨ad638, e638, hx638_0, hx638_1⟩ := at_T40 HR637_0.out x6_2 p638 q638
                 have hw638_1 := hx638_1
                 have hw638_0 := hx638_0
                 cases e638
                 replace hx638_0 := (HB.out.cell (World.block_lt_of_cell? w _ hx638_0)).trans hx638_0
                 replace hx638_1 := (HB.out.cell (World.block_lt_of_cell? w _ hx638_1)).trans hx638_1
                 replace p638 := eq_true p638
                 replace q638 := eq_true q638
                 refine start_ (n := 22) (S := fun w' => w'.cell? (ad629.add (x5_1).toNat) = some (.slice (some ad636) (rd_L7 l0 x5_1).length c635_0) ∧ w'.cell? (ad636.add ((x6_2).toNat * 2)) = some (.string ((rd_T40 (rd_L7 l0 x5_1) x6_2).f0)) ∧ w'.cell? ⟨(ad636.add ((x6_2).toNat * 2)).block, (ad636.add ((x6_2).toNat * 2)).off + 1, none⟩ = some (.string ((rd_T40 (rd_L7 l0 x5_1) x6_2).f1)) ∧ w'.cell? (ad629.add (x5_1).toNat) = some (.slice (some ad636) (rd_L7 l0 x5_1).length c635_0) ∧ w'.cell? (ad636.add ((x6_2).toNat * 2)) = some (.string ((rd_T40 (rd_L7 l0 x5_1) x6_2).f0)) ∧ w'.cell? ⟨(ad636.add ((x6_2).toNat * 2)).block, (ad636.add ((x6_2).toNat * 2)).off + 1, none⟩ = some (.string ((rd_T40 (rd_L7 l0 x5_1) x6_2).f1))) (ds := []) #[false, false, false, false, false, false, false, false, false, false, false, false, false, false, false, false, false, false, false, false, false, false] (by kernel_rfl) rfl rfl ⟨((HB.out.cell (World.block_lt_of_cell? w _ hw635_0)).trans hw635_0), ((HB.out.cell (World.block_lt_of_cell? w _ hw636_0)).trans hw636_0), ((HB.out.cell (World.block_lt_of_cell? w _ hw636_1)).trans hw636_1), ((HB.out.cell (World.block_lt_of_cell? w _ hw637_0)).trans hw637_0), ((HB.out.cell (World.block_lt_of_cell? w _ hw638_0)).trans hw638_0), ((HB.out.cell (World.block_lt_of_cell? w _ hw638_1)).trans hw638_1)⟩ (fun hHeld => ?_); refine with_tabW R15Print.tab14 R15Print.bits14 (fun HT_ HW_ => ?_)
                 generalize wr.drew = w25 at HB HR635_0 HR637_0 hx635_0 hx636_0 hx636_1 hx637_0 hx638_0 hx638_1 hHeld ⊢
                 refine pure_ (i := 0) (N := some 33) (v := ?_) (a' := ?_) #[true, false, false, false, false, false, false, false, false, false, false, false, false, false, false, false, false, false, false, false, false, false] rfl rfl (any_of HT_.out (by kernel_rfl)) (fun _ _ _ h => h) (Or.inl ⟨by rfl, ?_⟩) ?_ ?_
                 rotate_left
                 ·
                  intro w'
                  go_simp
                  with_reducible rfl
                 rotate_left
                 ·
                  simp only [Act.put, List.setIfInBounds_toArray, List.set_cons_zero, List.set_cons_succ, i64_w, i32_w]
                  rfl
                 refine pure_ (i := 1) (N := some 34) (v := ?_) (a' := ?_) #[true, true, false, false, false, false, false, false, false, false, false, false, false, false, false, false, false, false, false, false, false, false] rfl rfl (any_of HT_.out (by kernel_rfl)) (fun _ _ _ h => h) (Or.inl ⟨by rfl, ?_⟩) ?_ ?_
                 rotate_left
                 ·
                  intro w'
                  go_simp
                  with_reducible rfl
                 rotate_left
                 ·
                  simp only [Act.put, List.setIfInBounds_toArray, List.set_cons_zero, List.set_cons_succ, i64_w, i32_w]
                  rfl
                 refine pure_ (i := 2) (N := some 35) (v := ?_) (a' := ?_) #[true, true, true, false, false, false, false, false, false, false, false, false, false, false, false, false, false, false, false, false, false, false] rfl rfl (any_of HT_.out (by kernel_rfl)) (fun _ _ _ h => h) (Or.inl ⟨by rfl, ?_⟩) ?_ ?_
                 rotate_left
                 ·
                  intro w'
                  go_simp
                  with_reducible rfl
                 rotate_left
                 ·
                  simp only [Act.put, List.setIfInBounds_toArray, List.set_cons_zero, List.set_cons_succ, i64_w, i32_w]
                  rfl
                 refine pure_ (i := 3) (N := some 36) (v := ?_) (a' := ?_) #[true, true, true, true, false, false, false, false, false, false, false, false, false, false, false, false, false, false, false, false, false, false] rfl rfl (any_of HT_.out (by kernel_rfl)) (fun _ _ _ h => h) (Or.inl ⟨by rfl, ?_⟩) ?_ ?_
                 rotate_left
                 ·
                  intro w'
                  go_simp
                  with_reducible rfl
                 rotate_left
                 ·
                  simp only [Act.put, List.setIfInBounds_toArray, List.set_cons_zero, List.set_cons_succ, i64_w, i32_w]
                  rfl
                 refine pure_ (i := 5) (N := some 38) (v := ?_) (a' := ?_) #[true, true, true, true, false, true, false, false, false, false, false, false, false, false, false, false, false, false, false, false, false, false] rfl rfl (any_of HT_.out (by kernel_rfl)) (fun _ _ _ h => h) (Or.inl ⟨by rfl, ?_⟩) ?_ ?_
                 rotate_left
                 ·
                  intro w'
                  go_simp
                  with_reducible rfl
                 rotate_left
                 ·
                  simp only [Act.put, List.setIfInBounds_toArray, List.set_cons_zero, List.set_cons_succ, i64_w, i32_w]
                  rfl
                 refine pure_ (i := 11) (N := some 44) (v := ?_) (a' := ?_) #[true, true, true, true, false, true, false, false, false, false, false, true, false, false, false, false, false, false, false, false, false, false] rfl rfl (any_of HT_.out (by kernel_rfl)) (fun _ _ _ h => h) (Or.inl ⟨by rfl, ?_⟩) ?_ ?_
                 rotate_left
                 ·
                  intro w'
                  go_simp
                  with_reducible rfl
                 rotate_left
                 ·
                  simp only [Act.put, List.setIfInBounds_toArray, List.set_cons_zero, List.set_cons_succ, i64_w, i32_w]
                  rfl
                 refine pure_ (i := 12) (N := some 45) (v := ?_) (a' := ?_) #[true, true, true, true, false, true, false, false, false, false, false, true, true, false, false, false, false, false, false, false, false, false] rfl rfl (any_of HT_.out (by kernel_rfl)) (fun _ _ _ h => h) (Or.inl ⟨by rfl, ?_⟩) ?_ ?_
                 rotate_left
                 ·
                  intro w'
                  go_simp
                  with_reducible rfl
                 rotate_left
                 ·
                  simp only [Act.put, List.setIfInBounds_toArray, List.set_cons_zero, List.set_cons_succ, i64_w, i32_w]
                  rfl
                 refine pure_ (i := 13) (N := some 46) (v := ?_) (a' := ?_) #[true, true, true, true, false, true, false, false, false, false, false, true, true, true, false, false, false, false, false, false, false, false] rfl rfl (any_of HT_.out (by kernel_rfl)) (fun _ _ _ h => h) (Or.inl ⟨by rfl, ?_⟩) ?_ ?_
                 rotate_left
                 ·
                  intro w'
                  go_simp
                  with_reducible rfl
                 rotate_left
                 ·
                  simp only [Act.put, List.setIfInBounds_toArray, List.set_cons_zero, List.set_cons_succ, i64_w, i32_w]
                  rfl
                 refine pure_ (i := 15) (N := some 48) (v := ?_) (a' := ?_) #[true, true, true, true, false, true, false, false, false, false, false, true, true, true, false, true, false, false, false, false, false, false] rfl rfl (any_of HT_.out (by kernel_rfl)) (fun _ _ _ h => h) (Or.inl ⟨by rfl, ?_⟩) ?_ ?_
                 rotate_left
                 ·
                  intro w'
                  go_simp
                  with_reducible rfl
                 rotate_left
                 ·
                  simp only [Act.put, List.setIfInBounds_toArray, List.set_cons_zero, List.set_cons_succ, i64_w, i32_w]
                  rfl
                 refine take_ (i := 4) (N := some 37) (v := ?_) (a' := ?_) #[true, true, true, true, true, true, false, false, false, false, false, true, true, true, false, true, false, false, false, false, false, false] rfl rfl (take_ofW HT_.out HW_.out (by kernel_rfl)) (fun _ _ _ h => h) (Or.inl ⟨by rfl, ?_⟩) hHeld ?_ ?_
                 rotate_left
                 ·
                  rintro w' ⟨s0, s1, s2, s3, s4, s5⟩
                  go_simp
                  with_reducible rfl
                 rotate_left
                 ·
                  simp only [Act.put, List.setIfInBounds_toArray, List.set_cons_zero, List.set_cons_succ, i64_w, i32_w]
                  rfl
                 refine pure_ (i := 6) (N := some 39) (v := ?_) (a' := ?_) #[true, true, true, true, true, true, true, false, false, false, false, true, true, true, false, true, false, false, false, false, false, false] rfl rfl (any_of HT_.out (by kernel_rfl)) (fun _ _ _ h => h) (Or.inl ⟨by rfl, ?_⟩) ?_ ?_
                 rotate_left
                 ·
                  intro w'
                  go_simp
                  with_reducible rfl
                 rotate_left
                 ·
                  simp only [Act.put, List.setIfInBounds_toArray, List.set_cons_zero, List.set_cons_succ, i64_w, i32_w]
                  rfl
                 refine pure_ (i := 7) (N := some 40) (v := ?_) (a' := ?_) #[true, true, true, true, true, true, true, true, false, false, false, true, true, true, false, true, false, false, false, false, false, false] rfl rfl (any_of HT_.out (by kernel_rfl)) (fun _ _ _ h => h) (Or.inl ⟨by rfl, ?_⟩) ?_ ?_
                 rotate_left
                 ·
                  intro w'
                  go_simp
                  with_reducible rfl
                 rotate_left
                 ·
                  simp only [Act.put, List.setIfInBounds_toArray, List.set_cons_zero, List.set_cons_succ, i64_w, i32_w]
                  rfl
                 refine take_ (i := 8) (N := some 41) (v := ?_) (a' := ?_) #[true, true, true, true, true, true, true, true, true, false, false, true, true, true, false, true, false, false, false, false, false, false] rfl rfl (take_ofW HT_.out HW_.out (by kernel_rfl)) (fun _ _ _ h => h) (Or.inl ⟨by rfl, ?_⟩) hHeld ?_ ?_
                 rotate_left
                 ·
                  rintro w' ⟨s0, s1, s2, s3, s4, s5⟩
                  go_simp
                  with_reducible rfl
                 rotate_left
                 ·
                  simp only [Act.put, List.setIfInBounds_toArray, List.set_cons_zero, List.set_cons_succ, i64_w, i32_w]
                  rfl
                 refine pure_ (i := 9) (N := some 42) (v := ?_) (a' := ?_) #[true, true, true, true, true, true, true, true, true, true, false, true, true, true, false, true, false, false, false, false, false, false] rfl rfl (any_of HT_.out (by kernel_rfl)) (fun _ _ _ h => h) (Or.inl ⟨by rfl, ?_⟩) ?_ ?_
                 rotate_left
                 ·
                  intro w'
                  go_simp
                  with_reducible rfl
                 rotate_left
                 ·
                  simp only [Act.put, List.setIfInBounds_toArray, List.set_cons_zero, List.set_cons_succ, i64_w, i32_w]
                  rfl
                 refine pure_ (i := 10) (N := some 43) (v := ?_) (a' := ?_) #[true, true, true, true, true, true, true, true, true, true, true, true, true, true, false, true, false, false, false, false, false, false] rfl rfl (any_of HT_.out (by kernel_rfl)) (fun _ _ _ h => h) (Or.inl ⟨by rfl, ?_⟩) ?_ ?_
                 rotate_left
                 ·
                  intro w'
                  go_simp
                  with_reducible rfl
                 rotate_left
                 ·
                  simp only [Act.put, List.setIfInBounds_toArray, List.set_cons_zero, List.set_cons_succ, i64_w, i32_w]
                  rfl
                 refine take_ (i := 14) (N := some 47) (v := ?_) (a' := ?_) #[true, true, true, true, true, true, true, true, true, true, true, true, true, true, true, true, false, false, false, false, false, false] rfl rfl (take_ofW HT_.out HW_.out (by kernel_rfl)) (fun _ _ _ h => h) (Or.inl ⟨by rfl, ?_⟩) hHeld ?_ ?_
                 rotate_left
                 ·
                  rintro w' ⟨s0, s1, s2, s3, s4, s5⟩
                  go_simp
                  with_reducible rfl
                 rotate_left
                 ·
                  simp only [Act.put, List.setIfInBounds_toArray, List.set_cons_zero, List.set_cons_succ, i64_w, i32_w]
                  rfl
                 refine pure_ (i := 16) (N := some 49) (v := ?_) (a' := ?_) #[true, true, true, true, true, true, true, true, true, true, true, true, true, true, true, true, true, false, false, false, false, false] rfl rfl (any_of HT_.out (by kernel_rfl)) (fun _ _ _ h => h) (Or.inl ⟨by rfl, ?_⟩) ?_ ?_
                 rotate_left
                 ·
                  intro w'
                  go_simp
                  with_reducible rfl
                 rotate_left
                 ·
                  simp only [Act.put, List.setIfInBounds_toArray, List.set_cons_zero, List.set_cons_succ, i64_w, i32_w]
                  rfl
                 refine pure_ (i := 17) (N := some 50) (v := ?_) (a' := ?_) #[true, true, true, true, true, true, true, true, true, true, true, true, true, true, true, true, true, true, false, false, false, false] rfl rfl (any_of HT_.out (by kernel_rfl)) (fun _ _ _ h => h) (Or.inl ⟨by rfl, ?_⟩) ?_ ?_
                 rotate_left
                 ·
                  intro w'
                  go_simp
                  with_reducible rfl
                 rotate_left
                 ·
                  simp only [Act.put, List.setIfInBounds_toArray, List.set_cons_zero, List.set_cons_succ, i64_w, i32_w]
                  rfl
                 refine take_ (i := 18) (N := some 51) (v := ?_) (a' := ?_) #[true, true, true, true, true, true, true, true, true, true, true, true, true, true, true, true, true, true, true, false, false, false] rfl rfl (take_ofW HT_.out HW_.out (by kernel_rfl)) (fun _ _ _ h => h) (Or.inl ⟨by rfl, ?_⟩) hHeld ?_ ?_
                 rotate_left
                 ·
                  rintro w' ⟨s0, s1, s2, s3, s4, s5⟩
                  go_simp
                  with_reducible rfl
                 rotate_left
                 ·
                  simp only [Act.put, List.setIfInBounds_toArray, List.set_cons_zero, List.set_cons_succ, i64_w, i32_w]
                  rfl
                 refine one_ (i := 19) (N := some 52) #[true, true, true, true, true, true, true, true, true, true, true, true, true, true, true, true, true, true, true, true, false, false] rfl rfl (one_of HT_.out (by kernel_rfl)) (by decide) (fun K hK => ?_)
                 refine goes_ Tryd.func23 (by kernel_rfl) rfl #[.string ((rd_T40 (rd_L7 l0 x5_1) x6_2).f1)] (by rfl) rfl rfl ap3 ?_
                 with_reducible refine (R15Text.calls k2 ((rd_T40 (rd_L7 l0 x5_1) x6_2).f1) t639 _ A23.out).mono ?_
                 rintro e w26 ⟨rfl, hb⟩
                 refine ⟨_, rfl, ?_⟩
                 have n0_ := Aside0.mk (below_step ap1 hb)
                 clear HB
                 have HB := n0_
                 clear n0_
                 (try clear hb)
                 (try clear hb2)
                 (try clear hk)
                 (try clear hi)
                 refine hK.out _ _ ⟨((HB.out.cell (World.block_lt_of_cell? w _ hw635_0)).trans hw635_0), ((HB.out.cell (World.block_lt_of_cell? w _ hw636_0)).trans hw636_0), ((HB.out.cell (World.block_lt_of_cell? w _ hw636_1)).trans hw636_1), ((HB.out.cell (World.block_lt_of_cell? w _ hw637_0)).trans hw637_0), ((HB.out.cell (World.block_lt_of_cell? w _ hw638_0)).trans hw638_0), ((HB.out.cell (World.block_lt_of_cell? w _ hw638_1)).trans hw638_1)⟩ (fun hHeld => ?_)
                 clear hK K
                 refine norm_ (a' := ?_) ?_ ?_
                 rotate_left
                 ·
                  show Act.put _ (some 52) _ = _
                  simp only [Act.put, List.setIfInBounds_toArray, List.set_cons_zero, List.set_cons_succ, i64_w, i32_w]
                  rfl
                 refine pure_ (i := 20) (N := some 53) (v := ?_) (a' := ?_) #[true, true, true, true, true, true, true, true, true, true, true, true, true, true, true, true, true, true, true, true, true, false] rfl rfl (any_of HT_.out (by kernel_rfl)) (fun _ _ _ h => h) (Or.inl ⟨by rfl, ?_⟩) ?_ ?_
                 rotate_left
                 ·
                  intro w'
                  go_simp
                  with_reducible rfl
                 rotate_left
                 ·
                  simp only [Act.put, List.setIfInBounds_toArray, List.set_cons_zero, List.set_cons_succ, i64_w, i32_w]
                  rfl
                 refine pure_ (i := 21) (N := some 4) (v := ?_) (a' := ?_) #[true, true, true, true, true, true, true, true, true, true, true, true, true, true, true, true, true, true, true, true, true, true] rfl rfl (any_of HT_.out (by kernel_rfl)) (fun _ _ _ h => h) (Or.inl ⟨by rfl, ?_⟩) ?_ ?_
                 rotate_left
                 ·
                  intro w'
                  go_simp
                  with_reducible rfl
                 rotate_left
                 ·
                  simp only [Act.put, List.setIfInBounds_toArray, List.set_cons_zero, List.set_cons_succ, i64_w, i32_w]
                  rfl
                 refine done_ (done_of HT_.out (by kernel_rfl)) ?_
                 try go_wp2
                 go_roundg k2
                 case measure => have := HK1.out; have := HK2.out; omega
                 case rel => exact ⟨((((x4_2 ++ (⟨#[44]⟩ : ByteArray)) ++ ((rd_T40 (rd_L7 l0 x5_1) x6_2).f0)) ++ (⟨#[61]⟩ : ByteArray)) ++ t639), (wrap64 (x6_2 + 1)), ap2, ap2, H', ⟨by have := HK1.out; have := HK2.out; omega⟩, ⟨by repeat (first | (with_reducible first | exact HB.out | apply below_alloc | apply pw_below_drewN | apply below_drew1) | exact HB.out)⟩⟩
                ·
                 rw [if_neg c24] at H
                 exact absurd H (by simp)
               ·
                rw [if_neg c22] at H
                exact absurd H (by simp)
              ·
               rw [if_neg c21] at H
               exact absurd H (by simp)
             ·
              rw [if_neg c20] at H
              exact absurd H (by simp)
            ·
             rw [if_neg c19] at H
             exact absurd H (by simp)
           ·
            rw [if_neg c18] at H
            have c18b0 := decide_eq_false c18
            clear c18
            by_cases c27 : 0 ≤ x6_2
            ·
             rw [if_pos c27] at H
             have c27b0 := decide_eq_true c27
             clear c27
             by_cases c28 : x4_2.size + ((rd_T40 (rd_L7 l0 x5_1) x6_2).f0).size ≤ 9223372036854775807
             ·
              rw [if_pos c28] at H
              have c28b0 := eq_true c28
              have c28b1 := decide_eq_true c28
              try have c28b2 : (9223372036854775807 < x4_2.size + ((rd_T40 (rd_L7 l0 x5_1) x6_2).f0).size) = False := eq_false (Nat.not_lt.2 c28)
              by_cases c29 : (x4_2 ++ ((rd_T40 (rd_L7 l0 x5_1) x6_2).f0)).size + 1 ≤ 9223372036854775807
              ·
               rw [if_pos c29] at H
               have c29b0 := eq_true c29
               have c29b1 := decide_eq_true c29
               try have c29b2 : (9223372036854775807 < (x4_2 ++ ((rd_T40 (rd_L7 l0 x5_1) x6_2).f0)).size + 1) = False := eq_false (Nat.not_lt.2 c29)
               try (have c29f := eq_false (Nat.not_lt.2 c29); simp only [ByteArray.size_append, sz_lit1, sz_lit2, sz_lit3] at c29f)
               replace H := Option.bind_eq_some_iff.mp H
               obtain ⟨t644, A300, H⟩ := H
               replace H : (if ((x4_2 ++ ((rd_T40 (rd_L7 l0 x5_1) x6_2).f0)) ++ (⟨#[61]⟩ : ByteArray)).size + t644.size ≤ 9223372036854775807 then (R15Print.l1 k2 l0 (((x4_2 ++ ((rd_T40 (rd_L7 l0 x5_1) x6_2).f0)) ++ (⟨#[61]⟩ : ByteArray)) ++ t644) x5_1 (wrap64 (x6_2 + 1))) else (none)) = some (r1, r2) := H
               have A30 := Aside0.mk A300
               clear A300
               by_cases c31 : ((x4_2 ++ ((rd_T40 (rd_L7 l0 x5_1) x6_2).f0)) ++ (⟨#[61]⟩ : ByteArray)).size + t644.size ≤ 9223372036854775807
               ·
                rw [if_pos c31] at H
                have c31b0 := eq_true c31
                have c31b1 := decide_eq_true c31
                try have c31b2 : (9223372036854775807 < ((x4_2 ++ ((rd_T40 (rd_L7 l0 x5_1) x6_2).f0)) ++ (⟨#[61]⟩ : ByteArray)).size + t644.size) = False := eq_false (Nat.not_lt.2 c31)
                try (have c31f := eq_false (Nat.not_lt.2 c31); simp only [ByteArray.size_append, sz_lit1, sz_lit2, sz_lit3] at c31f)
                have H' := Aside0.mk H
                clear H
                have p629 : 0 ≤ (x5_1 : Int) := of_decide_eq_true ap0
                have q629 : x5_1 < (l0.length : Int) := of_decide_eq_true ap0
                obtain ⟨ad629, A629_0, c629_0, e629, hx629_0, hl629_0, hi629_0⟩ := at_L7 HR0.out x5_1 p629 q629
                cases e629
                replace hx629_0 := (HB.out.cell (World.block_lt_of_cell? w _ hx629_0)).trans hx629_0
                have HR629_0 := Aside0.mk hi629_0
                have HC629_0 := Aside0.mk hl629_0
                clear hi629_0 hl629_0
                replace p629 := eq_true p629
                replace q629 := eq_true q629
                try go_wp2
                have n0_ := Aside0.mk (below_drew1 HB.out)
                clear HB
                have HB := n0_
                clear n0_
                have p640 : 0 ≤ (x5_1 : Int) := of_decide_eq_true ap0
                have q640 : x5_1 < (l0.length : Int) := of_decide_eq_true ap0
                obtain ⟨ad640, A640_0, c640_0, e640, hx640_0, hl640_0, hi640_0⟩ := at_L7 HR0.out x5_1 p640 q640
                have hw640_0 := hx640_0
                obtain rfl : ad629 = ad640 := (by injection e640)
                replace hx640_0 := (HB.out.cell (World.block_lt_of_cell? w _ hx640_0)).trans hx640_0
                have HR640_0 := Aside0.mk hi640_0
                have HC640_0 := Aside0.mk hl640_0
                clear hi640_0 hl640_0
                replace p640 := eq_true p640
                replace q640 := eq_true q640
                have p641 : 0 ≤ (x6_2 : Int) := of_decide_eq_true ap0
                have q641 : x6_2 < ((rd_L7 l0 x5_1).length : Int) := of_decide_eq_true ap0
                obtain ⟨ad641, e641, hx641_0, hx641_1⟩ := at_T40 HR640_0.out x6_2 p641 q641
                have hw641_1 := hx641_1
                have hw641_0 := hx641_0
                cases e641
                replace hx641_0 := (HB.out.cell (World.block_lt_of_cell? w _ hx641_0)).trans hx641_0
                replace hx641_1 := (HB.out.cell (World.block_lt_of_cell? w _ hx641_1)).trans hx641_1
                replace p641 := eq_true p641
                replace q641 := eq_true q641
                have p642 : 0 ≤ (x5_1 : Int) := of_decide_eq_true ap0
                have q642 : x5_1 < (l0.length : Int) := of_decide_eq_true ap0
                obtain ⟨ad642, A642_0, c642_0, e642, hx642_0, hl642_0, hi642_0⟩ := at_L7 HR0.out x5_1 p642 q642
                have hw642_0 := hx642_0
                obtain rfl : ad629 = ad642 := (by injection e642)
                replace hx642_0 := (HB.out.cell (World.block_lt_of_cell? w _ hx642_0)).trans hx642_0
                have HR642_0 := Aside0.mk hi642_0
                have HC642_0 := Aside0.mk hl642_0
                clear hi642_0 hl642_0
                replace p642 := eq_true p642
                replace q642 := eq_true q642
                have ea_ := Option.some.inj (hx640_0.symm.trans hx642_0)
                injection ea_ with ea_ en_ ec_
                subst ea_
                subst ec_
                clear en_
                have p643 : 0 ≤ (x6_2 : Int) := of_decide_eq_true ap0
                have q643 : x6_2 < ((rd_L7 l0 x5_1).length : Int) := of_decide_eq_true ap0
                obtain ⟨ad643, e643, hx643_0, hx643_1⟩ := at_T40 HR642_0.out x6_2 p643 q643
                have hw643_1 := hx643_1
                have hw643_0 := hx643_0
                cases e643
                replace hx643_0 := (HB.out.cell (World.block_lt_of_cell? w _ hx643_0)).trans hx643_0
                replace hx643_1 := (HB.out.cell (World.block_lt_of_cell? w _ hx643_1)).trans hx643_1
                replace p643 := eq_true p643
                replace q643 := eq_true q643
                refine start_ (n := 22) (S := fun w' => w'.cell? (ad629.add (x5_1).toNat) = some (.slice (some ad641) (rd_L7 l0 x5_1).length c640_0) ∧ w'.cell? (ad641.add ((x6_2).toNat * 2)) = some (.string ((rd_T40 (rd_L7 l0 x5_1) x6_2).f0)) ∧ w'.cell? ⟨(ad641.add ((x6_2).toNat * 2)).block, (ad641.add ((x6_2).toNat * 2)).off + 1, none⟩ = some (.string ((rd_T40 (rd_L7 l0 x5_1) x6_2).f1)) ∧ w'.cell? (ad629.add (x5_1).toNat) = some (.slice (some ad641) (rd_L7 l0 x5_1).length c640_0) ∧ w'.cell? (ad641.add ((x6_2).toNat * 2)) = some (.string ((rd_T40 (rd_L7 l0 x5_1) x6_2).f0)) ∧ w'.cell? ⟨(ad641.add ((x6_2).toNat * 2)).block, (ad641.add ((x6_2).toNat * 2)).off + 1, none⟩ = some (.string ((rd_T40 (rd_L7 l0 x5_1) x6_2).f1))) (ds := []) #[false, false, false, false, false, false, false, false, false, false, false, false, false, false, false, false, false, false, false, false, false, false] (by kernel_rfl) rfl rfl ⟨((HB.out.cell (World.block_lt_of_cell? w _ hw640_0)).trans hw640_0), ((HB.out.cell (World.block_lt_of_cell? w _ hw641_0)).trans hw641_0), ((HB.out.cell (World.block_lt_of_cell? w _ hw641_1)).trans hw641_1), ((HB.out.cell (World.block_lt_of_cell? w _ hw642_0)).trans hw642_0), ((HB.out.cell (World.block_lt_of_cell? w _ hw643_0)).trans hw643_0), ((HB.out.cell (World.block_lt_of_cell? w _ hw643_1)).trans hw643_1)⟩ (fun hHeld => ?_); refine with_tabW R15Print.tab14 R15Print.bits14 (fun HT_ HW_ => ?_)
                generalize wr.drew = w32 at HB HR640_0 HR642_0 hx640_0 hx641_0 hx641_1 hx642_0 hx643_0 hx643_1 hHeld ⊢
                refine pure_ (i := 0) (N := some 33) (v := ?_) (a' := ?_) #[true, false, false, false, false, false, false, false, false, false, false, false, false, false, false, false, false, false, false, false, false, false] rfl rfl (any_of HT_.out (by kernel_rfl)) (fun _ _ _ h => h) (Or.inl ⟨by rfl, ?_⟩) ?_ ?_
                rotate_left
                ·
                 intro w'
                 go_simp
                 with_reducible rfl
                rotate_left
                ·
                 simp only [Act.put, List.setIfInBounds_toArray, List.set_cons_zero, List.set_cons_succ, i64_w, i32_w]
                 rfl
                refine pure_ (i := 1) (N := some 34) (v := ?_) (a' := ?_) #[true, true, false, false, false, false, false, false, false, false, false, false, false, false, false, false, false, false, false, false, false, false] rfl rfl (any_of HT_.out (by kernel_rfl)) (fun _ _ _ h => h) (Or.inl ⟨by rfl, ?_⟩) ?_ ?_
                rotate_left
                ·
                 intro w'
                 go_simp
                 with_reducible rfl
                rotate_left
                ·
                 simp only [Act.put, List.setIfInBounds_toArray, List.set_cons_zero, List.set_cons_succ, i64_w, i32_w]
                 rfl
                refine pure_ (i := 2) (N := some 35) (v := ?_) (a' := ?_) #[true, true, true, false, false, false, false, false, false, false, false, false, false, false, false, false, false, false, false, false, false, false] rfl rfl (any_of HT_.out (by kernel_rfl)) (fun _ _ _ h => h) (Or.inl ⟨by rfl, ?_⟩) ?_ ?_
                rotate_left
                ·
                 intro w'
                 go_simp
                 with_reducible rfl
                rotate_left
                ·
                 simp only [Act.put, List.setIfInBounds_toArray, List.set_cons_zero, List.set_cons_succ, i64_w, i32_w]
                 rfl
                refine pure_ (i := 3) (N := some 36) (v := ?_) (a' := ?_) #[true, true, true, true, false, false, false, false, false, false, false, false, false, false, false, false, false, false, false, false, false, false] rfl rfl (any_of HT_.out (by kernel_rfl)) (fun _ _ _ h => h) (Or.inl ⟨by rfl, ?_⟩) ?_ ?_
                rotate_left
                ·
                 intro w'
                 go_simp
                 with_reducible rfl
                rotate_left
                ·
                 simp only [Act.put, List.setIfInBounds_toArray, List.set_cons_zero, List.set_cons_succ, i64_w, i32_w]
                 rfl
                refine pure_ (i := 5) (N := some 38) (v := ?_) (a' := ?_) #[true, true, true, true, false, true, false, false, false, false, false, false, false, false, false, false, false, false, false, false, false, false] rfl rfl (any_of HT_.out (by kernel_rfl)) (fun _ _ _ h => h) (Or.inl ⟨by rfl, ?_⟩) ?_ ?_
                rotate_left
                ·
                 intro w'
                 go_simp
                 with_reducible rfl
                rotate_left
                ·
                 simp only [Act.put, List.setIfInBounds_toArray, List.set_cons_zero, List.set_cons_succ, i64_w, i32_w]
                 rfl
                refine pure_ (i := 11) (N := some 44) (v := ?_) (a' := ?_) #[true, true, true, true, false, true, false, false, false, false, false, true, false, false, false, false, false, false, false, false, false, false] rfl rfl (any_of HT_.out (by kernel_rfl)) (fun _ _ _ h => h) (Or.inl ⟨by rfl, ?_⟩) ?_ ?_
                rotate_left
                ·
                 intro w'
                 go_simp
                 with_reducible rfl
                rotate_left
                ·
                 simp only [Act.put, List.setIfInBounds_toArray, List.set_cons_zero, List.set_cons_succ, i64_w, i32_w]
                 rfl
                refine pure_ (i := 12) (N := some 45) (v := ?_) (a' := ?_) #[true, true, true, true, false, true, false, false, false, false, false, true, true, false, false, false, false, false, false, false, false, false] rfl rfl (any_of HT_.out (by kernel_rfl)) (fun _ _ _ h => h) (Or.inl ⟨by rfl, ?_⟩) ?_ ?_
                rotate_left
                ·
                 intro w'
                 go_simp
                 with_reducible rfl
                rotate_left
                ·
                 simp only [Act.put, List.setIfInBounds_toArray, List.set_cons_zero, List.set_cons_succ, i64_w, i32_w]
                 rfl
                refine pure_ (i := 13) (N := some 46) (v := ?_) (a' := ?_) #[true, true, true, true, false, true, false, false, false, false, false, true, true, true, false, false, false, false, false, false, false, false] rfl rfl (any_of HT_.out (by kernel_rfl)) (fun _ _ _ h => h) (Or.inl ⟨by rfl, ?_⟩) ?_ ?_
                rotate_left
                ·
                 intro w'
                 go_simp
                 with_reducible rfl
                rotate_left
                ·
                 simp only [Act.put, List.setIfInBounds_toArray, List.set_cons_zero, List.set_cons_succ, i64_w, i32_w]
                 rfl
                refine pure_ (i := 15) (N := some 48) (v := ?_) (a' := ?_) #[true, true, true, true, false, true, false, false, false, false, false, true, true, true, false, true, false, false, false, false, false, false] rfl rfl (any_of HT_.out (by kernel_rfl)) (fun _ _ _ h => h) (Or.inl ⟨by rfl, ?_⟩) ?_ ?_
                rotate_left
                ·
                 intro w'
                 go_simp
                 with_reducible rfl
                rotate_left
                ·
                 simp only [Act.put, List.setIfInBounds_toArray, List.set_cons_zero, List.set_cons_succ, i64_w, i32_w]
                 rfl
                refine take_ (i := 4) (N := some 37) (v := ?_) (a' := ?_) #[true, true, true, true, true, true, false, false, false, false, false, true, true, true, false, true, false, false, false, false, false, false] rfl rfl (take_ofW HT_.out HW_.out (by kernel_rfl)) (fun _ _ _ h => h) (Or.inl ⟨by rfl, ?_⟩) hHeld ?_ ?_
                rotate_left
                ·
                 rintro w' ⟨s0, s1, s2, s3, s4, s5⟩
                 go_simp
                 with_reducible rfl
                rotate_left
                ·
                 simp only [Act.put, List.setIfInBounds_toArray, List.set_cons_zero, List.set_cons_succ, i64_w, i32_w]
                 rfl
                refine pure_ (i := 6) (N := some 39) (v := ?_) (a' := ?_) #[true, true, true, true, true, true, true, false, false, false, false, true, true, true, false, true, false, false, false, false, false, false] rfl rfl (any_of HT_.out (by kernel_rfl)) (fun _ _ _ h => h) (Or.inl ⟨by rfl, ?_⟩) ?_ ?_
                rotate_left
                ·
                 intro w'
                 go_simp
                 with_reducible rfl
                rotate_left
                ·
                 simp only [Act.put, List.setIfInBounds_toArray, List.set_cons_zero, List.set_cons_succ, i64_w, i32_w]
                 rfl
                refine pure_ (i := 7) (N := some 40) (v := ?_) (a' := ?_) #[true, true, true, true, true, true, true, true, false, false, false, true, true, true, false, true, false, false, false, false, false, false] rfl rfl (any_of HT_.out (by kernel_rfl)) (fun _ _ _ h => h) (Or.inl ⟨by rfl, ?_⟩) ?_ ?_
                rotate_left
                ·
                 intro w'
                 go_simp
                 with_reducible rfl
                rotate_left
                ·
                 simp only [Act.put, List.setIfInBounds_toArray, List.set_cons_zero, List.set_cons_succ, i64_w, i32_w]
                 rfl
                refine take_ (i := 8) (N := some 41) (v := ?_) (a' := ?_) #[true, true, true, true, true, true, true, true, true, false, false, true, true, true, false, true, false, false, false, false, false, false] rfl rfl (take_ofW HT_.out HW_.out (by kernel_rfl)) (fun _ _ _ h => h) (Or.inl ⟨by rfl, ?_⟩) hHeld ?_ ?_
                rotate_left
                ·
                 rintro w' ⟨s0, s1, s2, s3, s4, s5⟩
                 go_simp
                 with_reducible rfl
                rotate_left
                ·
                 simp only [Act.put, List.setIfInBounds_toArray, List.set_cons_zero, List.set_cons_succ, i64_w, i32_w]
                 rfl
                refine pure_ (i := 9) (N := some 42) (v := ?_) (a' := ?_) #[true, true, true, true, true, true, true, true, true, true, false, true, true, true, false, true, false, false, false, false, false, false] rfl rfl (any_of HT_.out (by kernel_rfl)) (fun _ _ _ h => h) (Or.inl ⟨by rfl, ?_⟩) ?_ ?_
                rotate_left
                ·
                 intro w'
                 go_simp
                 with_reducible rfl
                rotate_left
                ·
                 simp only [Act.put, List.setIfInBounds_toArray, List.set_cons_zero, List.set_cons_succ, i64_w, i32_w]
                 rfl
                refine pure_ (i := 10) (N := some 43) (v := ?_) (a' := ?_) #[true, true, true, true, true, true, true, true, true, true, true, true, true, true, false, true, false, false, false, false, false, false] rfl rfl (any_of HT_.out (by kernel_rfl)) (fun _ _ _ h => h) (Or.inl ⟨by rfl, ?_⟩) ?_ ?_
                rotate_left
                ·
                 intro w'
                 go_simp
                 with_reducible rfl
                rotate_left
                ·
                 simp only [Act.put, List.setIfInBounds_toArray, List.set_cons_zero, List.set_cons_succ, i64_w, i32_w]
                 rfl
                refine take_ (i := 14) (N := some 47) (v := ?_) (a' := ?_) #[true, true, true, true, true, true, true, true, true, true, true, true, true, true, true, true, false, false, false, false, false, false] rfl rfl (take_ofW HT_.out HW_.out (by kernel_rfl)) (fun _ _ _ h => h) (Or.inl ⟨by rfl, ?_⟩) hHeld ?_ ?_
                rotate_left
                ·
                 rintro w' ⟨s0, s1, s2, s3, s4, s5⟩
                 go_simp
                 with_reducible rfl
                rotate_left
                ·
                 simp only [Act.put, List.setIfInBounds_toArray, List.set_cons_zero, List.set_cons_succ, i64_w, i32_w]
                 rfl
                refine pure_ (i := 16) (N := some 49) (v := ?_) (a' := ?_) #[true, true, true, true, true, true, true, true, true, true, true, true, true, true, true, true, true, false, false, false, false, false] rfl rfl (any_of HT_.out (by kernel_rfl)) (fun _ _ _ h => h) (Or.inl ⟨by rfl, ?_⟩) ?_ ?_
                rotate_left
                ·
                 intro w'
                 go_simp
                 with_reducible rfl
                rotate_left
                ·
                 simp only [Act.put, List.setIfInBounds_toArray, List.set_cons_zero, List.set_cons_succ, i64_w, i32_w]
                 rfl
                refine pure_ (i := 17) (N := some 50) (v := ?_) (a' := ?_) #[true, true, true, true, true, true, true, true, true, true, true, true, true, true, true, true, true, true, false, false, false, false] rfl rfl (any_of HT_.out (by kernel_rfl)) (fun _ _ _ h => h) (Or.inl ⟨by rfl, ?_⟩) ?_ ?_
                rotate_left
                ·
                 intro w'
                 go_simp
                 with_reducible rfl
                rotate_left
                ·
                 simp only [Act.put, List.setIfInBounds_toArray, List.set_cons_zero, List.set_cons_succ, i64_w, i32_w]
                 rfl
                refine take_ (i := 18) (N := some 51) (v := ?_) (a' := ?_) #[true, true, true, true, true, true, true, true, true, true, true, true, true, true, true, true, true, true, true, false, false, false] rfl rfl (take_ofW HT_.out HW_.out (by kernel_rfl)) (fun _ _ _ h => h) (Or.inl ⟨by rfl, ?_⟩) hHeld ?_ ?_
                rotate_left
                ·
                 rintro w' ⟨s0, s1, s2, s3, s4, s5⟩
                 go_simp
                 with_reducible rfl
                rotate_left
                ·
                 simp only [Act.put, List.setIfInBounds_toArray, List.set_cons_zero, List.set_cons_succ, i64_w, i32_w]
                 rfl
                refine one_ (i := 19) (N := some 52) #[true, true, true, true, true, true, true, true, true, true, true, true, true, true, true, true, true, true, true, true, false, false] rfl rfl (one_of HT_.out (by kernel_rfl)) (by decide) (fun K hK => ?_)
                refine goes_ Tryd.func23 (by kernel_rfl) rfl #[.string ((rd_T40 (rd_L7 l0 x5_1) x6_2).f1)] (by rfl) rfl rfl ap3 ?_
                with_reducible refine (R15Text.calls k2 ((rd_T40 (rd_L7 l0 x5_1) x6_2).f1) t644 _ A30.out).mono ?_
                rintro e w33 ⟨rfl, hb⟩
                refine ⟨_, rfl, ?_⟩
                have n0_ := Aside0.mk (below_step ap1 hb)
                clear HB
                have HB := n0_
                clear n0_
                (try clear hb)
                (try clear hb2)
                (try clear hk)
                (try clear hi)
                refine hK.out _ _ ⟨((HB.out.cell (World.block_lt_of_cell? w _ hw640_0)).trans hw640_0), ((HB.out.cell (World.block_lt_of_cell? w _ hw641_0)).trans hw641_0), ((HB.out.cell (World.block_lt_of_cell? w _ hw641_1)).trans hw641_1), ((HB.out.cell (World.block_lt_of_cell? w _ hw642_0)).trans hw642_0), ((HB.out.cell (World.block_lt_of_cell? w _ hw643_0)).trans hw643_0), ((HB.out.cell (World.block_lt_of_cell? w _ hw643_1)).trans hw643_1)⟩ (fun hHeld => ?_)
                clear hK K
                refine norm_ (a' := ?_) ?_ ?_
                rotate_left
                ·
                 show Act.put _ (some 52) _ = _
                 simp only [Act.put, List.setIfInBounds_toArray, List.set_cons_zero, List.set_cons_succ, i64_w, i32_w]
                 rfl
                refine pure_ (i := 20) (N := some 53) (v := ?_) (a' := ?_) #[true, true, true, true, true, true, true, true, true, true, true, true, true, true, true, true, true, true, true, true, true, false] rfl rfl (any_of HT_.out (by kernel_rfl)) (fun _ _ _ h => h) (Or.inl ⟨by rfl, ?_⟩) ?_ ?_
                rotate_left
                ·
                 intro w'
                 go_simp
                 with_reducible rfl
                rotate_left
                ·
                 simp only [Act.put, List.setIfInBounds_toArray, List.set_cons_zero, List.set_cons_succ, i64_w, i32_w]
                 rfl
                refine pure_ (i := 21) (N := some 4) (v := ?_) (a' := ?_) #[true, true, true, true, true, true, true, true, true, true, true, true, true, true, true, true, true, true, true, true, true, true] rfl rfl (any_of HT_.out (by kernel_rfl)) (fun _ _ _ h => h) (Or.inl ⟨by rfl, ?_⟩) ?_ ?_
                rotate_left
                ·
                 intro w'
                 go_simp
                 with_reducible rfl
                rotate_left
                ·
                 simp only [Act.put, List.setIfInBounds_toArray, List.set_cons_zero, List.set_cons_succ, i64_w, i32_w]
                 rfl
                refine done_ (done_of HT_.out (by kernel_rfl)) ?_
                try go_wp2
                go_roundg k2
                case measure => have := HK1.out; have := HK2.out; omega
                case rel => exact ⟨(((x4_2 ++ ((rd_T40 (rd_L7 l0 x5_1) x6_2).f0)) ++ (⟨#[61]⟩ : ByteArray)) ++ t644), (wrap64 (x6_2 + 1)), ap2, ap2, H', ⟨by have := HK1.out; have := HK2.out; omega⟩, ⟨by repeat (first | (with_reducible first | exact HB.out | apply below_alloc | apply pw_below_drewN | apply below_drew1) | exact HB.out)⟩⟩
               ·
                rw [if_neg c31] at H
                exact absurd H (by simp)
              ·
               rw [if_neg c29] at H
               exact absurd H (by simp)
             ·
              rw [if_neg c28] at H
              exact absurd H (by simp)
            ·
             rw [if_neg c27] at H
             exact absurd H (by simp)
         ·
          rw [if_neg c8] at H
          have c8b0 := decide_eq_false c8
          clear c8
          have H' := Aside0.mk H
          clear H
          have p629 : 0 ≤ (x5_1 : Int) := of_decide_eq_true ap0
          have q629 : x5_1 < (l0.length : Int) := of_decide_eq_true ap0
          obtain ⟨ad629, A629_0, c629_0, e629, hx629_0, hl629_0, hi629_0⟩ := at_L7 HR0.out x5_1 p629 q629
          cases e629
          replace hx629_0 := (HB.out.cell (World.block_lt_of_cell? w _ hx629_0)).trans hx629_0
          have HR629_0 := Aside0.mk hi629_0
          have HC629_0 := Aside0.mk hl629_0
          clear hi629_0 hl629_0
          replace p629 := eq_true p629
          replace q629 := eq_true q629
          go_wp2
          go_roundg k2
          case measure => have := HK1.out; have := HK2.out; omega
          case rel => exact ⟨(x4_2), (wrap64 (x5_1 + 1)), ap2, ap2, H', ⟨by have := HK1.out; have := HK2.out; omega⟩, ⟨by repeat (first | (with_reducible first | exact HB.out | apply below_alloc | apply pw_below_drewN | apply below_drew1) | exact HB.out)⟩⟩
        ·
         rw [if_neg c7] at H
         exact absurd H (by simp)
       ·
        rw [if_neg c6] at H
        exact absurd H (by simp)
    ·
     rw [if_neg c5] at H
     have c5b0 := decide_eq_false c5
     clear c5
     by_cases c34 : (x4_1.size : Int) > 1000
     ·
      rw [if_pos c34] at H
      have c34b0 := decide_eq_true c34
      have c34b1 : decide (1000 < x4_1.size) = true := decide_eq_true (by omega)
      clear c34
      simp only [Option.some.injEq, Prod.mk.injEq] at H
      obtain ⟨rfl, rfl⟩ := H
      go_wp2
      go_ret2
      exact ⟨by first | rfl | (simp [errW_none, errW_some, bne_nil8, beq_nil8]; done) | (simp [errW_none, errW_some] <;> rfl) | (simp [*, errW_none, errW_some] <;> rfl), by repeat (first | (with_reducible first | exact HB.out | apply below_alloc | apply pw_below_drewN | apply below_drew1) | exact HB.out)⟩
     ·
      rw [if_neg c34] at H
      have c34b0 := decide_eq_false c34
      have c34b1 : decide (1000 < x4_1.size) = false := decide_eq_false (by omega)
      clear c34
      simp only [Option.some.injEq, Prod.mk.injEq] at H
      obtain ⟨rfl, rfl⟩ := H
      go_wp2
      go_ret2
      exact ⟨by first | rfl | (simp [errW_none, errW_some, bne_nil8, beq_nil8]; done) | (simp [errW_none, errW_some] <;> rfl) | (simp [*, errW_none, errW_some] <;> rfl), by repeat (first | (with_reducible first | exact HB.out | apply below_alloc | apply pw_below_drewN | apply below_drew1) | exact HB.out)⟩
 ·
  replace c3 := Bool.eq_false_iff.mpr c3
  subst c3
  rw [if_neg (show ¬ (false = true) by decide)] at H
  simp only [Option.some.injEq, Prod.mk.injEq] at H
  obtain ⟨rfl, rfl⟩ := H
  go_enter Tryd.func17, Tryd.ntmps17
  go_wp2_with (first | ((with_reducible refine gate_callee (f := 19) rfl ?_); refine goesL_ (some 8) rfl rfl Tryd.func19 (by kernel_rfl) rfl #[.slice A0 l0.length c0] rfl ap3 ?_; (with_reducible refine (R15Right.calls k _ _ l0 false _ ?side1 ?side2 A2.out).mono ?_); (case side1 => repeat (first | exact HR0.out | (with_reducible refine Kd.C_alloc ?_ _) | (with_reducible refine Kd.C_drewN ?_ _) | (with_reducible refine Kd.C_drew ?_))); (case side2 => exact HC0.out); rintro e w35 ⟨rfl, hb⟩; refine ⟨_, rfl, ?_⟩; have n0_ := Aside0.mk (below_step ap1 hb); clear HB; have HB := n0_; clear n0_; (try clear hb); (try clear hb2); (try clear hk); (try clear hi)))
  go_ret2
  exact ⟨by first | rfl | (simp [errW_none, errW_some, bne_nil8, beq_nil8]; done) | (simp [errW_none, errW_some] <;> rfl) | (simp [*, errW_none, errW_some] <;> rfl), by repeat (first | (with_reducible first | exact HB.out | apply below_alloc | apply pw_below_drewN | apply below_drew1) | exact HB.out)⟩
end Go.Proofs.YtkklacijhmoopaaDoor.Print
namespace Go.Proofs.YtkklacijhmoopaaDoor.Print
open Go.RowKit Go.Proofs.YtkklacijhmoopaaDoorW.PrintWords Go.Proofs.YtkklacijhmoopaaDoorW.PrintLast Go.Proofs.YtkklacijhmoopaaDoorW.PrintMore Go.Proofs.YtkklacijhmoopaaDoor.Pure
set_option linter.unusedVariables false
set_option linter.unusedSimpArgs false
def escd (n i : Nat) (c : UInt8) : Bool := decide (c.toNat < 32) || decide (c.toNat = 127) || ((c == 32) && (decide (i = 0) || decide (i + 1 = n))) || ((c == 35) && decide (i = 0)) || special c
theorem idx_all : ∀ n : Nat, n < 256 → decide (0 ≤ Lib.indexByte dnSigns (UInt8.ofNat n)) = special (UInt8.ofNat n) := by decide +kernel
theorem idx_is (c : UInt8) : (0 ≤ Lib.indexByte dnSigns c) ↔ special c = true := by
  have := idx_all c.toNat c.toNat_lt
  rw [ofNat_toNat8] at this
  rw [← this, decide_eq_true_iff]
theorem piece_is (n i : Nat) (c : UInt8) : dnPiece n i c = if c.toNat < 32 ∨ c.toNat = 127 then 92 :: hexOf [c] else if (c = 32 ∧ (i = 0 ∨ i + 1 = n)) ∨ (c = 35 ∧ i = 0) ∨ special c = true then [92, c] else [c] := by
  have h1 : (c.toNat = 32) ↔ c = 32 := ⟨fun h => UInt8.toNat_inj.1 h, fun h => by rw [h]; rfl⟩
  have h2 : (c.toNat = 35) ↔ c = 35 := ⟨fun h => UInt8.toNat_inj.1 h, fun h => by rw [h]; rfl⟩
  unfold dnPiece
  simp only [h1, h2, idx_is]
def sgOf (n i : Nat) (c : UInt8) : Sg := (c, !escd n i c)
def sgsN (n : Nat) : Nat → List UInt8 → List Sg
  | _, [] => []
  | i, c :: r => sgOf n i c :: sgsN n (i + 1) r
def sgs (l : List UInt8) : List Sg := sgsN l.length 0 l
def textN (n : Nat) : Nat → List UInt8 → List UInt8
  | _, [] => []
  | i, c :: r => dnPiece n i c ++ textN n (i + 1) r
theorem textN_is (l : List UInt8) : ∀ (r : List UInt8) (i : Nat), l.drop i = r → ((List.range' i r.length).flatMap fun i => dnPiece l.length i (l.getD i 0)) = textN l.length i r
  | [], i, h => rfl
  | c :: r, i, h => by
    obtain ⟨h1, h2, h3⟩ := getD_at (d := (0 : UInt8)) h
    rw [Int.toNat_natCast] at h2
    rw [List.length_cons, List.range'_succ, List.flatMap_cons, h2, textN_is l r (i + 1) h3]; rfl
theorem dnText_is (l : List UInt8) : dnText l = textN l.length 0 l := by
  unfold dnText
  rw [List.range_eq_range']
  exact textN_is l l 0 rfl
theorem hex_all : ∀ n : Nat, n < 256 → hex2 (hexDig (n / 16)) (hexDig (n % 16)) = some (UInt8.ofNat n) ∧ isEsc (hexDig (n / 16)) = false := by decide +kernel
theorem signs_piece (n i : Nat) (c : UInt8) (t : List UInt8) : signs (dnPiece n i c ++ t) = (signs t).map (sgOf n i c :: ·) := by
  rw [piece_is]
  by_cases h1 : c.toNat < 32 ∨ c.toNat = 127
  · rw [if_pos h1]
    have he : escd n i c = true := by unfold escd; rcases h1 with h | h <;> simp [h]
    obtain ⟨k1, k2⟩ := hex_all c.toNat c.toNat_lt
    rw [ofNat_toNat8] at k1
    have : hexOf [c] = [hexDig (c.toNat / 16), hexDig (c.toNat % 16)] := rfl
    rw [this, List.cons_append, signs_esc]
    simp only [List.cons_append, List.nil_append, esc]
    rw [if_neg (by rw [k2]; simp), k1]
    unfold sgOf; rw [he]; rfl
  · rw [if_neg h1]
    by_cases h2 : (c = 32 ∧ (i = 0 ∨ i + 1 = n)) ∨ (c = 35 ∧ i = 0) ∨ special c = true
    · rw [if_pos h2]
      have he : escd n i c = true := by
        unfold escd
        rcases h2 with ⟨rfl, h | h⟩ | ⟨rfl, h⟩ | h <;> simp [h]
      have hi : isEsc c = true := by
        unfold isEsc
        rcases h2 with ⟨rfl, _⟩ | ⟨rfl, _⟩ | h
        · rfl
        · rfl
        · rw [h]; rfl
      show signs (92 :: c :: t) = _
      rw [signs_esc]
      simp only [esc]
      rw [if_pos hi]
      unfold sgOf; rw [he]; rfl
    · rw [if_neg h2]
      have he : escd n i c = false := by
        unfold escd
        simp only [not_or] at h1 h2
        have h3 : special c = false := by simpa using h2.2.2
        have h4 : ((c == 32) && (decide (i = 0) || decide (i + 1 = n))) = false := by
          cases hb : (c == 32) && (decide (i = 0) || decide (i + 1 = n)) with
          | false => rfl
          | true => simp only [Bool.and_eq_true, beq_iff_eq, Bool.or_eq_true, decide_eq_true_eq] at hb; exact absurd hb h2.1
        have h5 : ((c == 35) && decide (i = 0)) = false := by
          cases hb : (c == 35) && decide (i = 0) with
          | false => rfl
          | true => simp only [Bool.and_eq_true, beq_iff_eq, decide_eq_true_eq] at hb; exact absurd hb h2.2.1
        rw [h3, h4, h5, decide_eq_false h1.1, decide_eq_false h1.2]; rfl
      have h92 : c ≠ 92 := by rintro rfl; simp [special] at h2
      show signs (c :: t) = _
      rw [signs_bare h92]
      unfold sgOf; rw [he]; rfl
theorem signs_text (n : Nat) : ∀ (l : List UInt8) (i : Nat) (t : List UInt8), signs (textN n i l ++ t) = (signs t).map (sgsN n i l ++ ·)
  | [], i, t => by simp [textN, sgsN]
  | c :: r, i, t => by
    rw [textN, List.append_assoc, signs_piece, signs_text n r (i + 1) t]
    cases signs t <;> simp [sgsN]
theorem sgs_fst (n : Nat) : ∀ (l : List UInt8) (i : Nat), (sgsN n i l).map (·.1) = l
  | [], i => rfl
  | c :: r, i => by rw [sgsN, List.map_cons, sgs_fst n r (i + 1)]; rfl
theorem special_vals {c : UInt8} (h : special c = false) : c ≠ 34 ∧ c ≠ 43 ∧ c ≠ 44 ∧ c ≠ 59 ∧ c ≠ 60 ∧ c ≠ 61 ∧ c ≠ 62 ∧ c ≠ 92 := by
  refine ⟨?_, ?_, ?_, ?_, ?_, ?_, ?_, ?_⟩ <;> (rintro rfl; simp [special] at h)
theorem bare_plain {n i : Nat} {c : UInt8} (h : (sgOf n i c).2 = true) : special c = false := by
  have : escd n i c = false := by simpa [sgOf] using h
  unfold escd at this
  simp only [Bool.or_eq_false_iff] at this
  exact this.2
theorem sgs_mem (n : Nat) : ∀ (l : List UInt8) (i : Nat) (s : Sg), s ∈ sgsN n i l → sep s = false ∧ badV s = false
  | [], i, s, h => by simp [sgsN] at h
  | c :: r, i, s, h => by
    rw [sgsN] at h
    rcases List.mem_cons.1 h with rfl | h
    · by_cases hb : (sgOf n i c).2 = true
      · have hp := special_vals (bare_plain hb)
        have h1 : (sgOf n i c).1 = c := rfl
        simp [sep, badV, h1, hp]
      · simp [sep, badV, hb]
    · exact sgs_mem n r (i + 1) s h
theorem trim_sgs (l : List UInt8) : trim (sgs l) = sgs l := by
  unfold sgs
  cases l with
  | nil => rfl
  | cons c r =>
    have hd : isBlank (sgOf (c :: r).length 0 c) = false := by
      unfold sgOf isBlank escd
      by_cases h : c = 32
      · subst h; simp
      · simp [h]
    rw [sgsN, trim_head hd]
    have hl : ∀ (r : List UInt8) (c : UInt8) (i n : Nat), i + (c :: r).length = n → trimR (sgsN n i (c :: r)) = sgsN n i (c :: r) := by
      intro r
      induction r with
      | nil =>
        intro c i n hn
        simp only [List.length_cons, List.length_nil] at hn
        have : isBlank (sgOf n i c) = false := by
          unfold sgOf isBlank escd
          by_cases h : c = 32
          · subst h; simp; omega
          · simp [h]
        have := trimR_cons this []
        rw [sgsN, sgsN, this]; rfl
      | cons d r ih =>
        intro c i n hn
        have ih := ih d (i + 1) n (by simp at hn ⊢; omega)
        rw [sgsN]
        cases hb : isBlank (sgOf n i c) with
        | false => rw [trimR_cons hb, ih]
        | true =>
          obtain ⟨M, x, hM⟩ : ∃ M x, sgsN n (i + 1) (d :: r) = M ++ [x] := by
            rcases List.eq_nil_or_concat (sgsN n (i + 1) (d :: r)) with h | ⟨M, x, h⟩
            · simp [sgsN] at h
            · exact ⟨M, x, by rw [h, List.concat_eq_append]⟩
          rw [hM] at ih ⊢
          rw [trimR_snoc] at ih
          rw [← List.cons_append, trimR_snoc]
          split at ih
          · have := congrArg List.length ih
            obtain ⟨z, hz, _⟩ := trimR_split M
            have h2 := congrArg List.length hz
            rw [List.length_append] at h2
            simp at this; omega
          · rename_i hx; rw [if_neg hx]
    have := hl r c 0 (c :: r).length (by simp)
    rw [sgsN] at this; exact this
theorem valOk_sgs (l : List UInt8) : valOk (sgs l) = true := by
  unfold valOk
  have h1 : (sgs l).any badV = false := by
    rw [List.any_eq_false]
    intro s hs
    have := (sgs_mem _ _ _ _ hs).2
    simp [this]
  rw [h1]
  cases l with
  | nil => rfl
  | cons c r =>
    show (!false && !((sgOf (c :: r).length 0 c).2 && (sgOf (c :: r).length 0 c).1 == 35)) = true
    unfold sgOf escd
    by_cases h : c = 35
    · subst h; simp
    · simp [h]
theorem low_type {t : List UInt8} (h : typeOk t = true) : t.map lowB = t ∧ (∀ c ∈ t, c ≠ 92 ∧ c ≠ 61 ∧ c ≠ 32 ∧ c ≠ 44 ∧ c ≠ 59 ∧ c ≠ 43) := by
  obtain ⟨h1, h2⟩ := typeOk_all h
  have hl : ∀ c ∈ t, lowB c = c := by
    intro c hc
    have := h2 c hc
    unfold lowB
    rw [if_neg]
    intro h3
    simp only [typeB, Bool.or_eq_true, Bool.and_eq_true, decide_eq_true_eq, beq_iff_eq] at this
    rcases this with (h | h) | rfl
    · omega
    · omega
    · revert h3; decide
  refine ⟨?_, fun c hc => typeB_low (by rw [hl c hc]; exact h2 c hc)⟩
  conv => rhs; rw [← List.map_id t]
  exact List.map_congr_left fun c hc => hl c hc
def pairText (a : Pr) : List UInt8 := a.1 ++ 61 :: dnText a.2
def pairSigns (a : Pr) : List Sg := bare a.1 ++ (61, true) :: sgs a.2
theorem signs_pair {a : Pr} (h : typeOk a.1 = true) (t : List UInt8) : signs (pairText a ++ t) = (signs t).map (pairSigns a ++ ·) := by
  unfold pairText pairSigns
  rw [List.append_assoc, List.cons_append, signs_app _ _ (fun c hc => ((low_type h).2 c hc).1), signs_bare (by decide), dnText_is, signs_text]
  cases signs t <;> simp [sgs]
theorem pair_of {a : Pr} (h : typeOk a.1 = true) : pair (pairSigns a) = some a := by
  obtain ⟨hl, _⟩ := low_type h
  have := pair_make (b1 := []) (t := a.1) (b2 := []) (sgs a.2) (by simp) (by rw [hl]; exact h) (by simp)
  simp only [List.append_nil, List.nil_append] at this
  unfold pairSigns
  rw [this, trim_sgs, valOk_sgs, if_pos rfl, hl]
  congr 1
  exact Prod.ext rfl (sgs_fst _ _ _)
theorem pair_nosep {a : Pr} (h : typeOk a.1 = true) : ∀ s ∈ pairSigns a, sep s = false := by
  intro s hs
  unfold pairSigns at hs
  rcases List.mem_append.1 hs with hs | hs
  · obtain ⟨h1, h2⟩ := bare_mem.1 hs
    have := (low_type h).2 _ h2
    simp [sep, this]
  · rcases List.mem_cons.1 hs with rfl | hs
    · rfl
    · exact (sgs_mem _ _ _ _ hs).1
def joinT (c : UInt8) : List (List UInt8) → List UInt8
  | [] => []
  | [x] => x
  | x :: y :: r => x ++ c :: joinT c (y :: r)
def rdnText (l : List Pr) : List UInt8 := joinT 43 (l.map pairText)
def nameText (n : List (List Pr)) : List UInt8 := joinT 44 (n.map rdnText)
theorem goP_rdn (N0 : List (List Pr)) : ∀ (l : List Pr) (rdn : List Pr) (t : List UInt8) (T : List Sg), (∀ a ∈ l, typeOk a.1 = true) → l ≠ [] → signs t = some T →
    (t = [] → ((signs (rdnText l ++ t)).bind fun L => goP L [] rdn N0) = some (N0 ++ [rdn ++ l])) ∧
    (∀ t', t = 44 :: t' → ((signs (rdnText l ++ t)).bind fun L => goP L [] rdn N0) = (signs t').bind fun L => goP L [] [] (N0 ++ [rdn ++ l]))
  | [], _, _, _, _, h, _ => absurd rfl h
  | [a], rdn, t, T, hty, _, hT => by
    have ha := hty a (by simp)
    show _ ∧ _
    have e : rdnText [a] = pairText a := rfl
    rw [e, signs_pair ha]
    refine ⟨fun h => ?_, fun t' h => ?_⟩
    · subst h
      rw [signs_nil]
      simp only [Option.map_some, Option.bind_some]
      rw [goP_app _ _ _ _ _ (pair_nosep ha), goP, List.nil_append, pair_of ha]; rfl
    · subst h
      rw [signs_bare (by decide)]
      cases hs : signs t' with
      | none => rfl
      | some L =>
        simp only [Option.map_some, Option.bind_some]
        rw [goP_app _ _ _ _ _ (pair_nosep ha), goP, if_pos (show sep (44, true) = true from rfl), List.nil_append, pair_of ha]
        simp only [Option.bind_some]
        rw [if_neg (show ¬ ((44 : UInt8) = 43) by decide)]
  | a :: b :: l, rdn, t, T, hty, _, hT => by
    have ha := hty a (by simp)
    have e : rdnText (a :: b :: l) ++ t = pairText a ++ 43 :: (rdnText (b :: l) ++ t) := by
      show (pairText a ++ 43 :: rdnText (b :: l)) ++ t = _
      simp
    obtain ⟨i1, i2⟩ := goP_rdn N0 (b :: l) (rdn ++ [a]) t T (fun x hx => hty x (by simp at hx ⊢; exact .inr hx)) (by simp) hT
    have hgo : ((signs (rdnText (a :: b :: l) ++ t)).bind fun L => goP L [] rdn N0) = (signs (rdnText (b :: l) ++ t)).bind fun L => goP L [] (rdn ++ [a]) N0 := by
      rw [e, signs_pair ha, signs_bare (by decide)]
      cases hs : signs (rdnText (b :: l) ++ t) with
      | none => rfl
      | some L =>
        simp only [Option.map_some, Option.bind_some]
        rw [goP_app _ _ _ _ _ (pair_nosep ha), goP, if_pos (show sep (43, true) = true from rfl), List.nil_append, pair_of ha]
        simp only [Option.bind_some]
        rw [if_pos trivial]
    rw [List.append_assoc] at i1 i2
    refine ⟨fun h => by rw [hgo, i1 h]; rfl, fun t' h => by rw [hgo, i2 t' h]; rfl⟩
theorem signs_rdn : ∀ (l : List Pr) (t : List UInt8) (T : List Sg), (∀ a ∈ l, typeOk a.1 = true) → l ≠ [] → signs t = some T → ∃ T', signs (rdnText l ++ t) = some T'
  | [], _, _, _, h, _ => absurd rfl h
  | [a], t, T, hty, _, hT => by
    have e : rdnText [a] = pairText a := rfl
    rw [e, signs_pair (hty a (by simp)), hT]; exact ⟨_, rfl⟩
  | a :: b :: l, t, T, hty, _, hT => by
    have e : rdnText (a :: b :: l) ++ t = pairText a ++ 43 :: (rdnText (b :: l) ++ t) := by
      show (pairText a ++ 43 :: rdnText (b :: l)) ++ t = _
      simp
    obtain ⟨T', h⟩ := signs_rdn (b :: l) t T (fun x hx => hty x (by simp at hx ⊢; exact .inr hx)) (by simp) hT
    rw [e, signs_pair (hty a (by simp)), signs_bare (by decide), h]; exact ⟨_, rfl⟩
theorem signs_name : ∀ (n : List (List Pr)), (∀ l ∈ n, l ≠ [] ∧ ∀ a ∈ l, typeOk a.1 = true) → ∃ T, signs (nameText n) = some T
  | [], _ => ⟨_, signs_nil⟩
  | [l], h => by
    obtain ⟨h1, h2⟩ := h l (by simp)
    obtain ⟨T, hT⟩ := signs_rdn l [] [] h2 h1 signs_nil
    rw [List.append_nil] at hT
    exact ⟨T, hT⟩
  | l :: m :: n, h => by
    obtain ⟨h1, h2⟩ := h l (by simp)
    obtain ⟨T, hT⟩ := signs_name (m :: n) fun x hx => h x (by simp at hx ⊢; exact .inr hx)
    have h3 : signs (44 :: nameText (m :: n)) = some ((44, true) :: T) := by rw [signs_bare (by decide), hT]; rfl
    exact signs_rdn l _ _ h2 h1 h3
theorem goP_name : ∀ (n : List (List Pr)) (N0 : List (List Pr)), (∀ l ∈ n, l ≠ [] ∧ ∀ a ∈ l, typeOk a.1 = true) → n ≠ [] → ((signs (nameText n)).bind fun L => goP L [] [] N0) = some (N0 ++ n)
  | [], _, _, h => absurd rfl h
  | [l], N0, h, _ => by
    obtain ⟨h1, h2⟩ := h l (by simp)
    have := (goP_rdn N0 l [] [] [] h2 h1 signs_nil).1 rfl
    rw [List.append_nil] at this
    exact this
  | l :: m :: n, N0, h, _ => by
    obtain ⟨h1, h2⟩ := h l (by simp)
    have h' : ∀ x ∈ m :: n, x ≠ [] ∧ ∀ a ∈ x, typeOk a.1 = true := fun x hx => h x (by simp at hx ⊢; exact .inr hx)
    obtain ⟨T, hT⟩ := signs_name (m :: n) h'
    have h3 : signs (44 :: nameText (m :: n)) = some ((44, true) :: T) := by rw [signs_bare (by decide), hT]; rfl
    have := (goP_rdn N0 l [] _ _ h2 h1 h3).2 (nameText (m :: n)) rfl
    have e : nameText (l :: m :: n) = rdnText l ++ 44 :: nameText (m :: n) := rfl
    rw [e, this, goP_name (m :: n) _ h' (by simp)]
    simp
end Go.Proofs.YtkklacijhmoopaaDoor.Print
namespace Go.Proofs.YtkklacijhmoopaaDoor.Print
open Go.RowKit Go.Proofs.YtkklacijhmoopaaDoorW.PrintWords Go.Proofs.YtkklacijhmoopaaDoorW.PrintLast Go.Proofs.YtkklacijhmoopaaDoorW.PrintMore
attribute [local go_sem] max2_int min2_int max_two min_two max_three min_three max_four min_four
set_option linter.unusedVariables false
set_option linter.unusedSimpArgs false
theorem eqA40 (d : Nat) (w : World) (x0 y0 : ByteArray) (x1 y1 : ByteArray) :
  (Op.equalIn (d + 2) 40 (.agg #[.string x0, .string x1]) (.agg #[.string y0, .string y1])).run Tryd.prog w = .ok (x0.toList == y0.toList && (x1.toList == y1.toList)) w := by
 refine eqA_of Tryd.underlying40 (by kernel_rfl) ?_
 refine eqf_cons (by rfl) (by go_simp; rfl) (by go_simp; rfl) (by go_simp) ?_
 exact eqf_last (by rfl) (by go_simp; rfl) (by go_simp; rfl) (by go_simp)
end Go.Proofs.YtkklacijhmoopaaDoor.Print
namespace Go.Proofs.YtkklacijhmoopaaDoor.Print
open Go.RowKit Go.Proofs.YtkklacijhmoopaaDoorW.PrintWords Go.Proofs.YtkklacijhmoopaaDoorW.PrintLast Go.Proofs.YtkklacijhmoopaaDoorW.PrintMore
attribute [local go_sem] max2_int min2_int max_two min_two max_three min_three max_four min_four
set_option linter.unusedVariables false
set_option linter.unusedSimpArgs false
attribute [local go_sem high] eqA40
mutual
def R15Equal.l0 : Nat → List (List (S40)) → List (List (S40)) → Int → Option (Bool)
 | 0, _, _, _ => none
 | k + 1, x0, x1, x5 => if x5 < (x0.length : Int) then (if 0 ≤ x5 then (if x5 < (x1.length : Int) then (if ((rd_L7 x0 x5).length : Int) = ((rd_L7 x1 x5).length : Int) then (R15Equal.l1 k x0 x1 x5 0) else (some false)) else (none)) else (none)) else (some true)
def R15Equal.l1 : Nat → List (List (S40)) → List (List (S40)) → Int → Int → Option (Bool)
 | 0, _, _, _, _ => none
 | k + 1, x0, x1, x5, x6 => if 0 ≤ x5 then (if x5 < (x0.length : Int) then (if x6 < ((rd_L7 x0 x5).length : Int) then (if 0 ≤ x6 then (if x5 < (x1.length : Int) then (if x6 < ((rd_L7 x1 x5).length : Int) then (if (!((((rd_T40 (rd_L7 x0 x5) x6).f0).toList) == (((rd_T40 (rd_L7 x1 x5) x6).f0).toList)) || (!((((rd_T40 (rd_L7 x0 x5) x6).f1).toList) == (((rd_T40 (rd_L7 x1 x5) x6).f1).toList)))) = true then (some false) else (R15Equal.l1 k x0 x1 x5 (wrap64 (x6 + 1)))) else (none)) else (none)) else (none)) else (R15Equal.l0 k x0 x1 (wrap64 (x5 + 1)))) else (none)) else (none)
end
def R15Equal.f (k : Nat) (l0 : List (List (S40))) (l1 : List (List (S40))) : Option (Bool) := if (l0.length : Int) = (l1.length : Int) then (R15Equal.l0 k l0 l1 0) else (some false)
set_option maxHeartbeats 8000000 in
set_option maxRecDepth 100000 in
theorem R15Equal.calls (k : Nat) (A0 : Option Addr) (c0 : Nat) (l0 : List (List (S40))) (A1 : Option Addr) (c1 : Nat) (l1 : List (List (S40))) (r : Bool) (w : World) (hr0 : Kd.C (Kd.slice 40 k40) w A0 l0.length l0) (hc0 : l0.length ≤ c0) (hr1 : Kd.C (Kd.slice 40 k40) w A1 l1.length l1) (hc1 : l1.length ≤ c1) (h : R15Equal.f k l0 l1 = some r) :
  Calls Tryd.prog 14 #[.slice A0 l0.length c0, .slice A1 l1.length c1] w fun e w' => e = .returned (.bool r) ∧ Drawn0 w w' := by
 have hu40 := Tryd.underlying40
 have HR0 := Aside0.mk hr0
 have HC0 := Aside0.mk hc0
 clear hr0 hc0
 have HR1 := Aside0.mk hr1
 have HC1 := Aside0.mk hc1
 clear hr1 hc1
 have H : (if (l0.length : Int) = (l1.length : Int) then (R15Equal.l0 k l0 l1 0) else (some false)) = some r := h
 clear h
 by_cases c3 : (l0.length : Int) = (l1.length : Int)
 ·
  rw [if_pos c3] at H
  have c3b0 : ((l0.length : Int) == (l1.length : Int)) = true := beq_iff_eq.mpr c3
  have c3b1 : ((l0.length : Int) != (l1.length : Int)) = false := bne_eq_false_iff_eq.mpr c3
  have c3b2 : (l0.length == l1.length) = true := by first | simpa using c3 | (simp at c3 ⊢; omega)
  clear c3
  have H' := Aside0.mk H
  clear H
  go_enter Tryd.func14, Tryd.ntmps14
  go_wp2
  repeat (go_quiet (fail); try go_wp2)
  go_loopg [5] k (fun kq v5 w' => ∃ (x5_1 : Int), v5 = .int .i64 x5_1 ∧ Aside0 (R15Equal.l0 kq l0 l1 x5_1 = some r) ∧ Aside0 (kq ≤ k) ∧ Drawn0 w w')
  case atStart => exact ⟨(0), ap2, H', ⟨Nat.le_refl _⟩, by repeat (first | exact Drawn0.refl _ | apply Drawn0.step)⟩
  case round =>
   clear H'
   try clear c1
   try clear p2
   try clear c3
   try clear c3b0
   try clear c3b1
   try clear c3b2
   obtain ⟨x5_1, rfl, HA, HK1, ⟨m1, rfl⟩⟩ := hrel
   cases gk with
   | zero => exact absurd HA.out (by simp [R15Equal.l0])
   | succ k1 =>
    have H := HA.out
    clear HA
    simp only [R15Equal.l0] at H
    by_cases c4 : x5_1 < (l0.length : Int)
    ·
     rw [if_pos c4] at H
     have c4b0 := decide_eq_true c4
     clear c4
     by_cases c5 : 0 ≤ x5_1
     ·
      rw [if_pos c5] at H
      have c5b0 := decide_eq_true c5
      clear c5
      by_cases c6 : x5_1 < (l1.length : Int)
      ·
       rw [if_pos c6] at H
       have c6b0 := decide_eq_true c6
       clear c6
       by_cases c7 : ((rd_L7 l0 x5_1).length : Int) = ((rd_L7 l1 x5_1).length : Int)
       ·
        rw [if_pos c7] at H
        have c7b0 : (((rd_L7 l0 x5_1).length : Int) == ((rd_L7 l1 x5_1).length : Int)) = true := beq_iff_eq.mpr c7
        have c7b1 : (((rd_L7 l0 x5_1).length : Int) != ((rd_L7 l1 x5_1).length : Int)) = false := bne_eq_false_iff_eq.mpr c7
        have c7b2 : ((rd_L7 l0 x5_1).length == (rd_L7 l1 x5_1).length) = true := by first | simpa using c7 | (simp at c7 ⊢; omega)
        clear c7
        have H' := Aside0.mk H
        clear H
        have p557 : 0 ≤ (x5_1 : Int) := of_decide_eq_true ap0
        have q557 : x5_1 < (l0.length : Int) := of_decide_eq_true ap0
        obtain ⟨ad557, A557_0, c557_0, e557, hx557_0, hl557_0, hi557_0⟩ := at_L7 HR0.out x5_1 p557 q557
        cases e557
        have HR557_0 := Aside0.mk hi557_0
        have HC557_0 := Aside0.mk hl557_0
        clear hi557_0 hl557_0
        replace p557 := eq_true p557
        replace q557 := eq_true q557
        have p558 : 0 ≤ (x5_1 : Int) := of_decide_eq_true ap0
        have q558 : x5_1 < (l1.length : Int) := of_decide_eq_true ap0
        obtain ⟨ad558, A558_0, c558_0, e558, hx558_0, hl558_0, hi558_0⟩ := at_L7 HR1.out x5_1 p558 q558
        cases e558
        have HR558_0 := Aside0.mk hi558_0
        have HC558_0 := Aside0.mk hl558_0
        clear hi558_0 hl558_0
        replace p558 := eq_true p558
        replace q558 := eq_true q558
        go_wp2
        repeat (go_quiet (fail); try go_wp2)
        go_loopg [6] k1 (fun kq v6 w' => ∃ (x6_2 : Int), v6 = .int .i64 x6_2 ∧ Aside0 (R15Equal.l1 kq l0 l1 x5_1 x6_2 = some r) ∧ Aside0 (kq ≤ k1) ∧ Drawn0 w w')
        case atStart => exact ⟨(0), ap2, H', ⟨Nat.le_refl _⟩, by repeat (first | exact Drawn0.refl _ | apply Drawn0.step)⟩
        case round =>
         clear H'
         try clear c1
         try clear p2
         try clear c3
         try clear c3b0
         try clear c3b1
         try clear c3b2
         try clear c4
         try clear c4b0
         try clear c5
         try clear c5b0
         try clear p5
         try clear q5
         try clear hx5
         try clear c6
         try clear c6b0
         try clear c7
         try clear c7b0
         try clear c7b1
         try clear c7b2
         try clear hx557_0
         try clear hx558_0
         try clear p2
         try clear p557
         try clear p558
         try clear q557
         try clear q558
         obtain ⟨x6_2, rfl, HA, HK2, ⟨m2, rfl⟩⟩ := hrel
         cases gk with
         | zero => exact absurd HA.out (by simp [R15Equal.l1])
         | succ k2 =>
          have H := HA.out
          clear HA
          simp only [R15Equal.l1] at H
          by_cases c8 : 0 ≤ x5_1
          ·
           rw [if_pos c8] at H
           have c8b0 := decide_eq_true c8
           clear c8
           by_cases c9 : x5_1 < (l0.length : Int)
           ·
            rw [if_pos c9] at H
            have c9b0 := decide_eq_true c9
            clear c9
            by_cases c10 : x6_2 < ((rd_L7 l0 x5_1).length : Int)
            ·
             rw [if_pos c10] at H
             have c10b0 := decide_eq_true c10
             clear c10
             by_cases c11 : 0 ≤ x6_2
             ·
              rw [if_pos c11] at H
              have c11b0 := decide_eq_true c11
              clear c11
              by_cases c12 : x5_1 < (l1.length : Int)
              ·
               rw [if_pos c12] at H
               have c12b0 := decide_eq_true c12
               clear c12
               by_cases c13 : x6_2 < ((rd_L7 l1 x5_1).length : Int)
               ·
                rw [if_pos c13] at H
                have c13b0 := decide_eq_true c13
                clear c13
                by_cases c14 : (!((((rd_T40 (rd_L7 l0 x5_1) x6_2).f0).toList) == (((rd_T40 (rd_L7 l1 x5_1) x6_2).f0).toList)) || (!((((rd_T40 (rd_L7 l0 x5_1) x6_2).f1).toList) == (((rd_T40 (rd_L7 l1 x5_1) x6_2).f1).toList)))) = true
                ·
                 rw [if_pos c14] at H
                 have c14b0 : (!((((rd_T40 (rd_L7 l0 x5_1) x6_2).f0).toList) == (((rd_T40 (rd_L7 l1 x5_1) x6_2).f0).toList)) || (!((((rd_T40 (rd_L7 l0 x5_1) x6_2).f1).toList) == (((rd_T40 (rd_L7 l1 x5_1) x6_2).f1).toList)))) = true := c14
                 clear c14
                 obtain rfl := Option.some.inj H
                 have p559 : 0 ≤ (x5_1 : Int) := of_decide_eq_true ap0
                 have q559 : x5_1 < (l0.length : Int) := of_decide_eq_true ap0
                 obtain ⟨ad559, A559_0, c559_0, e559, hx559_0, hl559_0, hi559_0⟩ := at_L7 HR0.out x5_1 p559 q559
                 obtain rfl : ad557 = ad559 := (by injection e559)
                 have HR559_0 := Aside0.mk hi559_0
                 have HC559_0 := Aside0.mk hl559_0
                 clear hi559_0 hl559_0
                 replace p559 := eq_true p559
                 replace q559 := eq_true q559
                 have p560 : 0 ≤ (x5_1 : Int) := of_decide_eq_true ap0
                 have q560 : x5_1 < (l0.length : Int) := of_decide_eq_true ap0
                 obtain ⟨ad560, A560_0, c560_0, e560, hx560_0, hl560_0, hi560_0⟩ := at_L7 HR0.out x5_1 p560 q560
                 obtain rfl : ad557 = ad560 := (by injection e560)
                 have HR560_0 := Aside0.mk hi560_0
                 have HC560_0 := Aside0.mk hl560_0
                 clear hi560_0 hl560_0
                 replace p560 := eq_true p560
                 replace q560 := eq_true q560
                 have ea_ := Option.some.inj (hx559_0.symm.trans hx560_0)
                 injection ea_ with ea_ en_ ec_
                 subst ea_
                 subst ec_
                 clear en_
                 have p561 : 0 ≤ (x6_2 : Int) := of_decide_eq_true ap0
                 have q561 : x6_2 < ((rd_L7 l0 x5_1).length : Int) := of_decide_eq_true ap0
                 obtain ⟨ad561, e561, hx561_0, hx561_1⟩ := at_T40 HR560_0.out x6_2 p561 q561
                 cases e561
                 replace p561 := eq_true p561
                 replace q561 := eq_true q561
                 have p562 : 0 ≤ (x5_1 : Int) := of_decide_eq_true ap0
                 have q562 : x5_1 < (l1.length : Int) := of_decide_eq_true ap0
                 obtain ⟨ad562, A562_0, c562_0, e562, hx562_0, hl562_0, hi562_0⟩ := at_L7 HR1.out x5_1 p562 q562
                 obtain rfl : ad558 = ad562 := (by injection e562)
                 have HR562_0 := Aside0.mk hi562_0
                 have HC562_0 := Aside0.mk hl562_0
                 clear hi562_0 hl562_0
                 replace p562 := eq_true p562
                 replace q562 := eq_true q562
                 have p563 : 0 ≤ (x6_2 : Int) := of_decide_eq_true ap0
                 have q563 : x6_2 < ((rd_L7 l1 x5_1).length : Int) := of_decide_eq_true ap0
                 obtain ⟨ad563, e563, hx563_0, hx563_1⟩ := at_T40 HR562_0.out x6_2 p563 q563
                 cases e563
                 replace p563 := eq_true p563
                 replace q563 := eq_true q563
                 go_wp2
                 repeat (go_quiet (fail); try go_wp2)
                 go_ret
                 exact ⟨ap2, ap7⟩
                ·
                 rw [if_neg c14] at H
                 have c14b0 : (!((((rd_T40 (rd_L7 l0 x5_1) x6_2).f0).toList) == (((rd_T40 (rd_L7 l1 x5_1) x6_2).f0).toList)) || (!((((rd_T40 (rd_L7 l0 x5_1) x6_2).f1).toList) == (((rd_T40 (rd_L7 l1 x5_1) x6_2).f1).toList)))) = false := by simpa using c14
                 clear c14
                 have H' := Aside0.mk H
                 clear H
                 have p559 : 0 ≤ (x5_1 : Int) := of_decide_eq_true ap0
                 have q559 : x5_1 < (l0.length : Int) := of_decide_eq_true ap0
                 obtain ⟨ad559, A559_0, c559_0, e559, hx559_0, hl559_0, hi559_0⟩ := at_L7 HR0.out x5_1 p559 q559
                 obtain rfl : ad557 = ad559 := (by injection e559)
                 have HR559_0 := Aside0.mk hi559_0
                 have HC559_0 := Aside0.mk hl559_0
                 clear hi559_0 hl559_0
                 replace p559 := eq_true p559
                 replace q559 := eq_true q559
                 have p560 : 0 ≤ (x5_1 : Int) := of_decide_eq_true ap0
                 have q560 : x5_1 < (l0.length : Int) := of_decide_eq_true ap0
                 obtain ⟨ad560, A560_0, c560_0, e560, hx560_0, hl560_0, hi560_0⟩ := at_L7 HR0.out x5_1 p560 q560
                 obtain rfl : ad557 = ad560 := (by injection e560)
                 have HR560_0 := Aside0.mk hi560_0
                 have HC560_0 := Aside0.mk hl560_0
                 clear hi560_0 hl560_0
                 replace p560 := eq_true p560
                 replace q560 := eq_true q560
                 have ea_ := Option.some.inj (hx559_0.symm.trans hx560_0)
                 injection ea_ with ea_ en_ ec_
                 subst ea_
                 subst ec_
                 clear en_
                 have p561 : 0 ≤ (x6_2 : Int) := of_decide_eq_true ap0
                 have q561 : x6_2 < ((rd_L7 l0 x5_1).length : Int) := of_decide_eq_true ap0
                 obtain ⟨ad561, e561, hx561_0, hx561_1⟩ := at_T40 HR560_0.out x6_2 p561 q561
                 cases e561
                 replace p561 := eq_true p561
                 replace q561 := eq_true q561
                 have p562 : 0 ≤ (x5_1 : Int) := of_decide_eq_true ap0
                 have q562 : x5_1 < (l1.length : Int) := of_decide_eq_true ap0
                 obtain ⟨ad562, A562_0, c562_0, e562, hx562_0, hl562_0, hi562_0⟩ := at_L7 HR1.out x5_1 p562 q562
                 obtain rfl : ad558 = ad562 := (by injection e562)
                 have HR562_0 := Aside0.mk hi562_0
                 have HC562_0 := Aside0.mk hl562_0
                 clear hi562_0 hl562_0
                 replace p562 := eq_true p562
                 replace q562 := eq_true q562
                 have p563 : 0 ≤ (x6_2 : Int) := of_decide_eq_true ap0
                 have q563 : x6_2 < ((rd_L7 l1 x5_1).length : Int) := of_decide_eq_true ap0
                 obtain ⟨ad563, e563, hx563_0, hx563_1⟩ := at_T40 HR562_0.out x6_2 p563 q563
                 cases e563
                 replace p563 := eq_true p563
                 replace q563 := eq_true q563
                 go_wp2
                 repeat (go_quiet (fail); try go_wp2)
                 go_roundg k2
                 case measure => have := HK1.out; have := HK2.out; omega
                 case rel => exact ⟨(wrap64 (x6_2 + 1)), ap2, H', ⟨by have := HK1.out; have := HK2.out; omega⟩, by repeat (first | exact Drawn0.refl _ | apply Drawn0.step)⟩
               ·
                rw [if_neg c13] at H
                exact absurd H (by simp)
              ·
               rw [if_neg c12] at H
               exact absurd H (by simp)
             ·
              rw [if_neg c11] at H
              exact absurd H (by simp)
            ·
             rw [if_neg c10] at H
             have c10b0 := decide_eq_false c10
             clear c10
             have H' := Aside0.mk H
             clear H
             have p559 : 0 ≤ (x5_1 : Int) := of_decide_eq_true ap0
             have q559 : x5_1 < (l0.length : Int) := of_decide_eq_true ap0
             obtain ⟨ad559, A559_0, c559_0, e559, hx559_0, hl559_0, hi559_0⟩ := at_L7 HR0.out x5_1 p559 q559
             obtain rfl : ad557 = ad559 := (by injection e559)
             have HR559_0 := Aside0.mk hi559_0
             have HC559_0 := Aside0.mk hl559_0
             clear hi559_0 hl559_0
             replace p559 := eq_true p559
             replace q559 := eq_true q559
             go_wp2
             repeat (go_quiet (fail); try go_wp2)
             go_roundg k2
             case measure => have := HK1.out; have := HK2.out; omega
             case rel => exact ⟨(wrap64 (x5_1 + 1)), ap2, H', ⟨by have := HK1.out; have := HK2.out; omega⟩, by repeat (first | exact Drawn0.refl _ | apply Drawn0.step)⟩
           ·
            rw [if_neg c9] at H
            exact absurd H (by simp)
          ·
           rw [if_neg c8] at H
           exact absurd H (by simp)
       ·
        rw [if_neg c7] at H
        have c7b0 : (((rd_L7 l0 x5_1).length : Int) == ((rd_L7 l1 x5_1).length : Int)) = false := beq_eq_false_iff_ne.mpr c7
        have c7b1 : (((rd_L7 l0 x5_1).length : Int) != ((rd_L7 l1 x5_1).length : Int)) = true := bne_iff_ne.mpr c7
        have c7b2 : ((rd_L7 l0 x5_1).length == (rd_L7 l1 x5_1).length) = false := by first | simpa using c7 | (simp at c7 ⊢; omega)
        obtain rfl := Option.some.inj H
        have p557 : 0 ≤ (x5_1 : Int) := of_decide_eq_true ap0
        have q557 : x5_1 < (l0.length : Int) := of_decide_eq_true ap0
        obtain ⟨ad557, A557_0, c557_0, e557, hx557_0, hl557_0, hi557_0⟩ := at_L7 HR0.out x5_1 p557 q557
        cases e557
        have HR557_0 := Aside0.mk hi557_0
        have HC557_0 := Aside0.mk hl557_0
        clear hi557_0 hl557_0
        replace p557 := eq_true p557
        replace q557 := eq_true q557
        have p558 : 0 ≤ (x5_1 : Int) := of_decide_eq_true ap0
        have q558 : x5_1 < (l1.length : Int) := of_decide_eq_true ap0
        obtain ⟨ad558, A558_0, c558_0, e558, hx558_0, hl558_0, hi558_0⟩ := at_L7 HR1.out x5_1 p558 q558
        cases e558
        have HR558_0 := Aside0.mk hi558_0
        have HC558_0 := Aside0.mk hl558_0
        clear hi558_0 hl558_0
        replace p558 := eq_true p558
        replace q558 := eq_true q558
        go_wp2
        repeat (go_quiet (fail); try go_wp2)
        go_ret
        exact ⟨ap2, ap7⟩
      ·
       rw [if_neg c6] at H
       exact absurd H (by simp)
     ·
      rw [if_neg c5] at H
      exact absurd H (by simp)
    ·
     rw [if_neg c4] at H
     have c4b0 := decide_eq_false c4
     clear c4
     obtain rfl := Option.some.inj H
     go_wp2
     repeat (go_quiet (fail); try go_wp2)
     go_ret
     exact ⟨ap2, ap7⟩
 ·
  rw [if_neg c3] at H
  have c3b0 : ((l0.length : Int) == (l1.length : Int)) = false := beq_eq_false_iff_ne.mpr c3
  have c3b1 : ((l0.length : Int) != (l1.length : Int)) = true := bne_iff_ne.mpr c3
  have c3b2 : (l0.length == l1.length) = false := by first | simpa using c3 | (simp at c3 ⊢; omega)
  obtain rfl := Option.some.inj H
  go_enter Tryd.func14, Tryd.ntmps14
  go_wp2
  repeat (go_quiet (fail); try go_wp2)
  go_ret
  exact ⟨ap2, ap7⟩
end Go.Proofs.YtkklacijhmoopaaDoor.Print
namespace Go.Proofs.YtkklacijhmoopaaDoor.Print
open Go.RowKit Go.Proofs.YtkklacijhmoopaaDoorW.PrintWords Go.Proofs.YtkklacijhmoopaaDoorW.PrintLast Go.Proofs.YtkklacijhmoopaaDoorW.PrintMore Go.Proofs.YtkklacijhmoopaaDoor.Pure
set_option linter.unusedVariables false
set_option linter.unusedSimpArgs false
theorem equal_l1 (n : List (List AvaS)) (hl : n.length ≤ 1000000) (h : ∀ l ∈ n, l.length ≤ 1000000) (i : Nat) (hi : i < n.length) (l : List AvaS) (r : List (List AvaS)) (hr : n.drop i = l :: r)
    (hnext : Ev (fun k => R15Equal.l0 k n n ((i + 1 : Nat) : Int)) true) : ∀ (m j : Nat), l.length - j = m → j ≤ l.length → Ev (fun k => R15Equal.l1 k n n (i : Int) (j : Int)) true := by
  have g2 := rdR_at hr
  have hll : l.length ≤ 1000000 := h l (by
    have : l ∈ n.drop i := by rw [hr]; simp
    exact List.mem_of_mem_drop this)
  intro m
  induction m with
  | zero =>
    intro j hm hj
    refine Ev.step (fun k => by rw [R15Equal.l1]) ?_
    rw [g2, wsucc (p := i) (by omega)]
    exact Ev.pos (by omega) (Ev.pos (by omega) (Ev.neg (by omega) hnext))
  | succ m ih =>
    intro j hm hj
    have hi2 := ih (j + 1) (by omega) (by omega)
    refine Ev.step (fun k => by rw [R15Equal.l1]) ?_
    rw [g2, wsucc (p := j) (by omega)]
    refine Ev.pos (by omega) (Ev.pos (by omega) (Ev.pos (by omega) (Ev.pos (by omega) (Ev.pos (by omega) (Ev.pos (by omega) (Ev.neg ?_ hi2))))))
    simp
theorem equal_ev (n : List (List AvaS)) (hl : n.length ≤ 1000000) (h : ∀ l ∈ n, l.length ≤ 1000000) : Ev (fun k => R15Equal.f k n n) true := by
  have hloop : ∀ (m i : Nat), n.length - i = m → i ≤ n.length → Ev (fun k => R15Equal.l0 k n n (i : Int)) true := by
    intro m
    induction m with
    | zero =>
      intro i hm hi
      exact Ev.step (fun k => by rw [R15Equal.l0]) (Ev.neg (by omega) Ev.rfl')
    | succ m ih =>
      intro i hm hi
      cases hr : n.drop i with
      | nil => have := List.drop_eq_nil_iff.1 hr; omega
      | cons l r =>
        have hi2 := ih (i + 1) (by omega) (by omega)
        have hin := equal_l1 n hl h i (by omega) l r hr hi2 _ 0 rfl (Nat.zero_le _)
        refine Ev.step (fun k => by rw [R15Equal.l0]) ?_
        exact Ev.pos (by omega) (Ev.pos (by omega) (Ev.pos (by omega) (Ev.pos rfl hin)))
  unfold R15Equal.f
  exact Ev.pos rfl (hloop _ 0 rfl (Nat.zero_le _))
def shortN (B : Nat) (n : List (List Pr)) : Prop := n.length ≤ B ∧ ∀ l ∈ n, l.length ≤ B ∧ ∀ a ∈ l, a.1.length ≤ B ∧ a.2.length ≤ B
theorem sz_mk {B : Nat} (hB : B ≤ 100000) {n : List (List Pr)} (h : shortN B n) : (mkN n).length ≤ 1000000 ∧ szN (mkN n) ∧ ∀ l ∈ mkN n, l.length ≤ 1000000 := by
  have hs : szN (mkN n) := by
    intro l hl
    obtain ⟨x, hx, rfl⟩ := List.mem_map.1 hl
    obtain ⟨h1, h2⟩ := h.2 x hx
    refine ⟨by rw [mkR_len]; omega, ?_⟩
    intro a ha
    obtain ⟨p, hp, rfl⟩ := List.mem_map.1 ha
    obtain ⟨k1, k2⟩ := h2 p hp
    have e1 : (mkA p).f0.size = p.1.length := by rw [← bl_length]; rfl
    have e2 : (mkA p).f1.size = p.2.length := by rw [← bl_length]; rfl
    exact ⟨by omega, by omega⟩
  exact ⟨by rw [mkN_len]; have := h.1; omega, hs, fun l hl => (hs l hl).1⟩
end Go.Proofs.YtkklacijhmoopaaDoor.Print
namespace Go.Proofs.YtkklacijhmoopaaDoor.Print
open Go.RowKit Go.Proofs.YtkklacijhmoopaaDoorW.PrintWords Go.Proofs.YtkklacijhmoopaaDoorW.PrintLast Go.Proofs.YtkklacijhmoopaaDoorW.PrintMore
attribute [local go_sem] max2_int min2_int max_two min_two max_three min_three max_four min_four
set_option linter.unusedVariables false
set_option linter.unusedSimpArgs false
mutual
def L15Long.l0 : Nat → List (List (S40)) → Int → Option (Bool)
 | 0, _, _ => none
 | k + 1, x0, x3 => if x3 < (x0.length : Int) then (L15Long.j1 k x0 x3 (decide (x3 < 30))) else (L15Long.j1 k x0 x3 false)
def L15Long.j1 : Nat → List (List (S40)) → Int → Bool → Option (Bool)
 | 0, _, _, _ => none
 | k + 1, x0, x3, x12 => if x12 = true then (L15Long.l1 k x0 x3 0) else (some (decide ((x0.length : Int) > 30)))
def L15Long.l1 : Nat → List (List (S40)) → Int → Int → Option (Bool)
 | 0, _, _, _ => none
 | k + 1, x0, x3, x4 => if 0 ≤ x3 then (if x3 < (x0.length : Int) then (if x4 < ((rd_L7 x0 x3).length : Int) then (L15Long.j3 k x0 x3 x4 (decide (x4 < 30))) else (L15Long.j3 k x0 x3 x4 false)) else (none)) else (none)
def L15Long.j3 : Nat → List (List (S40)) → Int → Int → Bool → Option (Bool)
 | 0, _, _, _, _ => none
 | k + 1, x0, x3, x4, x25 => if x25 = true then (if 0 ≤ x3 then (if x3 < (x0.length : Int) then (if 0 ≤ x4 then (if x4 < ((rd_L7 x0 x3).length : Int) then (if (((rd_T40 (rd_L7 x0 x3) x4).f0).size : Int) > 600 then (some true) else (if (((rd_T40 (rd_L7 x0 x3) x4).f1).size : Int) > 600 then (some true) else (L15Long.l1 k x0 x3 (wrap64 (x4 + 1))))) else (none)) else (none)) else (none)) else (none)) else (if 0 ≤ x3 then (if x3 < (x0.length : Int) then (if ((rd_L7 x0 x3).length : Int) > 30 then (some true) else (L15Long.l0 k x0 (wrap64 (x3 + 1)))) else (none)) else (none))
end
def L15Long.f (k : Nat) (l0 : List (List (S40))) : Option (Bool) := L15Long.l0 k l0 0
set_option maxHeartbeats 8000000 in
set_option maxRecDepth 100000 in
theorem L15Long.calls (k : Nat) (A0 : Option Addr) (c0 : Nat) (l0 : List (List (S40))) (r : Bool) (w : World) (hr0 : Kd.C (Kd.slice 40 k40) w A0 l0.length l0) (hc0 : l0.length ≤ c0) (h : L15Long.f k l0 = some r) :
  Calls Tryd.prog 15 #[.slice A0 l0.length c0] w fun e w' => e = .returned (.bool r) ∧ Drawn0 w w' := by
 have HR0 := Aside0.mk hr0
 have HC0 := Aside0.mk hc0
 clear hr0 hc0
 have H : (L15Long.l0 k l0 0) = some r := h
 clear h
 have H' := Aside0.mk H
 clear H
 go_enter Tryd.func15, Tryd.ntmps15
 go_wp2
 go_loopg [3] k (fun kq v3 w' => ∃ (x3_1 : Int), v3 = .int .i64 x3_1 ∧ Aside0 (L15Long.l0 kq l0 x3_1 = some r) ∧ Aside0 (kq ≤ k) ∧ Drawn0 w w')
 case atStart => exact ⟨(0), ap2, H', ⟨Nat.le_refl _⟩, by repeat (first | exact Drawn0.refl _ | apply Drawn0.step)⟩
 case round =>
  clear H'
  try clear c1
  obtain ⟨x3_1, rfl, HA, HK1, ⟨m1, rfl⟩⟩ := hrel
  cases gk with
  | zero => exact absurd HA.out (by simp [L15Long.l0])
  | succ k1 =>
   have H := HA.out
   clear HA
   simp only [L15Long.l0] at H
   have HC2 := Aside0.mk H
   clear H
   go_upto_region 2 with (fail)
   go_cut [12] (fun v12 wc => ∃ (kq : Nat) (x12_1 : Bool), v12 = .bool x12_1 ∧ Aside0 (L15Long.j1 kq l0 x3_1 x12_1 = some r) ∧ Aside0 (kq ≤ k1) ∧ Drawn0 w wc)
   case first =>
    have H := HC2.out
    clear HC2
    by_cases c3 : x3_1 < (l0.length : Int)
    ·
     rw [if_pos c3] at H
     have c3b0 := decide_eq_true c3
     clear c3
     (first | rw [c3b0] | (simp only [i64_w, i32_w]; rw [c3b0]) | skip)
     have H' := Aside0.mk H
     clear H
     go_wp2
     go_meet
     case rel => exact ⟨_, (decide (x3_1 < 30)), ap2, H', ⟨by have := HK1.out; first | omega | exact Nat.le_refl _⟩, by repeat (first | exact Drawn0.refl _ | apply Drawn0.step)⟩
    ·
     rw [if_neg c3] at H
     have c3b0 := decide_eq_false c3
     clear c3
     (first | rw [c3b0] | (simp only [i64_w, i32_w]; rw [c3b0]) | skip)
     have H' := Aside0.mk H
     clear H
     go_wp2
     go_meet
     case rel => exact ⟨_, (false), ap2, H', ⟨by have := HK1.out; first | omega | exact Nat.le_refl _⟩, by repeat (first | exact Drawn0.refl _ | apply Drawn0.step)⟩
   case rest =>
    clear HC2
    try clear c1
    try clear p2
    try clear c3
    try clear c3b0
    obtain ⟨kq, x12_1, rfl, HA, HJ1, ⟨mc1, rfl⟩⟩ := hcut
    cases kq with
    | zero => exact absurd HA.out (by simp [L15Long.j1])
    | succ kj1 =>
     have H := HA.out
     clear HA
     simp only [L15Long.j1] at H
     by_cases c4 : x12_1 = true
     ·
      subst c4
      rw [if_pos rfl] at H
      have H' := Aside0.mk H
      clear H
      go_wp2
      go_loopg [4] kj1 (fun kq v4 w' => ∃ (x4_3 : Int), v4 = .int .i64 x4_3 ∧ Aside0 (L15Long.l1 kq l0 x3_1 x4_3 = some r) ∧ Aside0 (kq ≤ kj1) ∧ Drawn0 w w')
      case atStart => exact ⟨(0), ap2, H', ⟨Nat.le_refl _⟩, by repeat (first | exact Drawn0.refl _ | apply Drawn0.step)⟩
      case round =>
       clear H'
       try clear c1
       try clear p2
       try clear c3
       try clear c3b0
       try clear c4
       try clear p2
       obtain ⟨x4_3, rfl, HA, HK3, ⟨m3, rfl⟩⟩ := hrel
       cases gk with
       | zero => exact absurd HA.out (by simp [L15Long.l1])
       | succ k3 =>
        have H := HA.out
        clear HA
        simp only [L15Long.l1] at H
        have HC5 := Aside0.mk H
        clear H
        go_upto_region 5 with (fail)
        go_cut [25] (fun v25 wc => ∃ (kq : Nat) (x25_4 : Bool), v25 = .bool x25_4 ∧ Aside0 (L15Long.j3 kq l0 x3_1 x4_3 x25_4 = some r) ∧ Aside0 (kq ≤ k3) ∧ Drawn0 w wc)
        case first =>
         have H := HC5.out
         clear HC5
         by_cases c6 : 0 ≤ x3_1
         ·
          rw [if_pos c6] at H
          have c6b0 := decide_eq_true c6
          clear c6
          (first | rw [c6b0] | (simp only [i64_w, i32_w]; rw [c6b0]) | skip)
          by_cases c7 : x3_1 < (l0.length : Int)
          ·
           rw [if_pos c7] at H
           have c7b0 := decide_eq_true c7
           clear c7
           by_cases c8 : x4_3 < ((rd_L7 l0 x3_1).length : Int)
           ·
            rw [if_pos c8] at H
            have c8b0 := decide_eq_true c8
            clear c8
            have H' := Aside0.mk H
            clear H
            have p574 : 0 ≤ (x3_1 : Int) := of_decide_eq_true ap0
            have q574 : x3_1 < (l0.length : Int) := of_decide_eq_true ap0
            obtain ⟨ad574, A574_0, c574_0, e574, hx574_0, hl574_0, hi574_0⟩ := at_L7 HR0.out x3_1 p574 q574
            cases e574
            have HR574_0 := Aside0.mk hi574_0
            have HC574_0 := Aside0.mk hl574_0
            clear hi574_0 hl574_0
            replace p574 := eq_true p574
            replace q574 := eq_true q574
            go_wp2
            go_meet
            case rel => exact ⟨_, (decide (x4_3 < 30)), ap2, H', ⟨by have := HK1.out; have := HJ1.out; have := HK3.out; first | omega | exact Nat.le_refl _⟩, by repeat (first | exact Drawn0.refl _ | apply Drawn0.step)⟩
           ·
            rw [if_neg c8] at H
            have c8b0 := decide_eq_false c8
            clear c8
            have H' := Aside0.mk H
            clear H
            have p574 : 0 ≤ (x3_1 : Int) := of_decide_eq_true ap0
            have q574 : x3_1 < (l0.length : Int) := of_decide_eq_true ap0
            obtain ⟨ad574, A574_0, c574_0, e574, hx574_0, hl574_0, hi574_0⟩ := at_L7 HR0.out x3_1 p574 q574
            cases e574
            have HR574_0 := Aside0.mk hi574_0
            have HC574_0 := Aside0.mk hl574_0
            clear hi574_0 hl574_0
            replace p574 := eq_true p574
            replace q574 := eq_true q574
            go_wp2
            go_meet
            case rel => exact ⟨_, (false), ap2, H', ⟨by have := HK1.out; have := HJ1.out; have := HK3.out; first | omega | exact Nat.le_refl _⟩, by repeat (first | exact Drawn0.refl _ | apply Drawn0.step)⟩
          ·
           rw [if_neg c7] at H
           exact absurd H (by simp)
         ·
          rw [if_neg c6] at H
          exact absurd H (by simp)
        case rest =>
         clear HC5
         try clear c1
         try clear p2
         try clear c3
         try clear c3b0
         try clear c4
         try clear c5
         try clear p5
         try clear q5
         try clear hx5
         try clear c6
         try clear c6b0
         try clear c7
         try clear c7b0
         try clear c8
         try clear c8b0
         try clear hx574_0
         try clear p2
         try clear p574
         try clear q574
         obtain ⟨kq, x25_4, rfl, HA, HJ4, ⟨mc4, rfl⟩⟩ := hcut
         cases kq with
         | zero => exact absurd HA.out (by simp [L15Long.j3])
         | succ kj4 =>
          have H := HA.out
          clear HA
          simp only [L15Long.j3] at H
          by_cases c9 : x25_4 = true
          ·
           subst c9
           rw [if_pos rfl] at H
           by_cases c10 : 0 ≤ x3_1
           ·
            rw [if_pos c10] at H
            have c10b0 := decide_eq_true c10
            clear c10
            by_cases c11 : x3_1 < (l0.length : Int)
            ·
             rw [if_pos c11] at H
             have c11b0 := decide_eq_true c11
             clear c11
             by_cases c12 : 0 ≤ x4_3
             ·
              rw [if_pos c12] at H
              have c12b0 := decide_eq_true c12
              clear c12
              by_cases c13 : x4_3 < ((rd_L7 l0 x3_1).length : Int)
              ·
               rw [if_pos c13] at H
               have c13b0 := decide_eq_true c13
               clear c13
               by_cases c14 : (((rd_T40 (rd_L7 l0 x3_1) x4_3).f0).size : Int) > 600
               ·
                rw [if_pos c14] at H
                have c14b0 := decide_eq_true c14
                have c14b1 : decide (600 < ((rd_T40 (rd_L7 l0 x3_1) x4_3).f0).size) = true := decide_eq_true (by omega)
                clear c14
                obtain rfl := Option.some.inj H
                have p575 : 0 ≤ (x3_1 : Int) := of_decide_eq_true ap0
                have q575 : x3_1 < (l0.length : Int) := of_decide_eq_true ap0
                obtain ⟨ad575, A575_0, c575_0, e575, hx575_0, hl575_0, hi575_0⟩ := at_L7 HR0.out x3_1 p575 q575
                cases e575
                have HR575_0 := Aside0.mk hi575_0
                have HC575_0 := Aside0.mk hl575_0
                clear hi575_0 hl575_0
                replace p575 := eq_true p575
                replace q575 := eq_true q575
                have p576 : 0 ≤ (x4_3 : Int) := of_decide_eq_true ap0
                have q576 : x4_3 < ((rd_L7 l0 x3_1).length : Int) := of_decide_eq_true ap0
                obtain ⟨ad576, e576, hx576_0, hx576_1⟩ := at_T40 HR575_0.out x4_3 p576 q576
                cases e576
                replace p576 := eq_true p576
                replace q576 := eq_true q576
                go_wp2
                go_ret
                exact ⟨ap2, ap7⟩
               ·
                rw [if_neg c14] at H
                have c14b0 := decide_eq_false c14
                have c14b1 : decide (600 < ((rd_T40 (rd_L7 l0 x3_1) x4_3).f0).size) = false := decide_eq_false (by omega)
                clear c14
                by_cases c15 : (((rd_T40 (rd_L7 l0 x3_1) x4_3).f1).size : Int) > 600
                ·
                 rw [if_pos c15] at H
                 have c15b0 := decide_eq_true c15
                 have c15b1 : decide (600 < ((rd_T40 (rd_L7 l0 x3_1) x4_3).f1).size) = true := decide_eq_true (by omega)
                 clear c15
                 obtain rfl := Option.some.inj H
                 have p575 : 0 ≤ (x3_1 : Int) := of_decide_eq_true ap0
                 have q575 : x3_1 < (l0.length : Int) := of_decide_eq_true ap0
                 obtain ⟨ad575, A575_0, c575_0, e575, hx575_0, hl575_0, hi575_0⟩ := at_L7 HR0.out x3_1 p575 q575
                 cases e575
                 have HR575_0 := Aside0.mk hi575_0
                 have HC575_0 := Aside0.mk hl575_0
                 clear hi575_0 hl575_0
                 replace p575 := eq_true p575
                 replace q575 := eq_true q575
                 have p576 : 0 ≤ (x4_3 : Int) := of_decide_eq_true ap0
                 have q576 : x4_3 < ((rd_L7 l0 x3_1).length : Int) := of_decide_eq_true ap0
                 obtain ⟨ad576, e576, hx576_0, hx576_1⟩ := at_T40 HR575_0.out x4_3 p576 q576
                 cases e576
                 replace p576 := eq_true p576
                 replace q576 := eq_true q576
                 have p577 : 0 ≤ (x3_1 : Int) := of_decide_eq_true ap0
                 have q577 : x3_1 < (l0.length : Int) := of_decide_eq_true ap0
                 obtain ⟨ad577, A577_0, c577_0, e577, hx577_0, hl577_0, hi577_0⟩ := at_L7 HR0.out x3_1 p577 q577
                 obtain rfl : ad575 = ad577 := (by injection e577)
                 have HR577_0 := Aside0.mk hi577_0
                 have HC577_0 := Aside0.mk hl577_0
                 clear hi577_0 hl577_0
                 replace p577 := eq_true p577
                 replace q577 := eq_true q577
                 have ea_ := Option.some.inj (hx575_0.symm.trans hx577_0)
                 injection ea_ with ea_ en_ ec_
                 subst ea_
                 subst ec_
                 clear en_
                 have p578 : 0 ≤ (x4_3 : Int) := of_decide_eq_true ap0
                 have q578 : x4_3 < ((rd_L7 l0 x3_1).length : Int) := of_decide_eq_true ap0
                 obtain ⟨ad578, e578, hx578_0, hx578_1⟩ := at_T40 HR577_0.out x4_3 p578 q578
                 cases e578
                 replace p578 := eq_true p578
                 replace q578 := eq_true q578
                 go_wp2
                 go_ret
                 exact ⟨ap2, ap7⟩
                ·
                 rw [if_neg c15] at H
                 have c15b0 := decide_eq_false c15
                 have c15b1 : decide (600 < ((rd_T40 (rd_L7 l0 x3_1) x4_3).f1).size) = false := decide_eq_false (by omega)
                 clear c15
                 have H' := Aside0.mk H
                 clear H
                 have p575 : 0 ≤ (x3_1 : Int) := of_decide_eq_true ap0
                 have q575 : x3_1 < (l0.length : Int) := of_decide_eq_true ap0
                 obtain ⟨ad575, A575_0, c575_0, e575, hx575_0, hl575_0, hi575_0⟩ := at_L7 HR0.out x3_1 p575 q575
                 cases e575
                 have HR575_0 := Aside0.mk hi575_0
                 have HC575_0 := Aside0.mk hl575_0
                 clear hi575_0 hl575_0
                 replace p575 := eq_true p575
                 replace q575 := eq_true q575
                 have p576 : 0 ≤ (x4_3 : Int) := of_decide_eq_true ap0
                 have q576 : x4_3 < ((rd_L7 l0 x3_1).length : Int) := of_decide_eq_true ap0
                 obtain ⟨ad576, e576, hx576_0, hx576_1⟩ := at_T40 HR575_0.out x4_3 p576 q576
                 cases e576
                 replace p576 := eq_true p576
                 replace q576 := eq_true q576
                 have p577 : 0 ≤ (x3_1 : Int) := of_decide_eq_true ap0
                 have q577 : x3_1 < (l0.length : Int) := of_decide_eq_true ap0
                 obtain ⟨ad577, A577_0, c577_0, e577, hx577_0, hl577_0, hi577_0⟩ := at_L7 HR0.out x3_1 p577 q577
                 obtain rfl : ad575 = ad577 := (by injection e577)
                 have HR577_0 := Aside0.mk hi577_0
                 have HC577_0 := Aside0.mk hl577_0
                 clear hi577_0 hl577_0
                 replace p577 := eq_true p577
                 replace q577 := eq_true q577
                 have ea_ := Option.some.inj (hx575_0.symm.trans hx577_0)
                 injection ea_ with ea_ en_ ec_
                 subst ea_
                 subst ec_
                 clear en_
                 have p578 : 0 ≤ (x4_3 : Int) := of_decide_eq_true ap0
                 have q578 : x4_3 < ((rd_L7 l0 x3_1).length : Int) := of_decide_eq_true ap0
                 obtain ⟨ad578, e578, hx578_0, hx578_1⟩ := at_T40 HR577_0.out x4_3 p578 q578
                 cases e578
                 replace p578 := eq_true p578
                 replace q578 := eq_true q578
                 go_wp2
                 go_roundg kj4
                 case measure => have := HK1.out; have := HJ1.out; have := HK3.out; have := HJ4.out; omega
                 case rel => exact ⟨(wrap64 (x4_3 + 1)), ap2, H', ⟨by have := HK1.out; have := HJ1.out; have := HK3.out; have := HJ4.out; omega⟩, by repeat (first | exact Drawn0.refl _ | apply Drawn0.step)⟩
              ·
               rw [if_neg c13] at H
               exact absurd H (by simp)
             ·
              rw [if_neg c12] at H
              exact absurd H (by simp)
            ·
             rw [if_neg c11] at H
             exact absurd H (by simp)
           ·
            rw [if_neg c10] at H
            exact absurd H (by simp)
          ·
           replace c9 := Bool.eq_false_iff.mpr c9
           subst c9
           rw [if_neg (show ¬ (false = true) by decide)] at H
           by_cases c16 : 0 ≤ x3_1
           ·
            rw [if_pos c16] at H
            have c16b0 := decide_eq_true c16
            clear c16
            by_cases c17 : x3_1 < (l0.length : Int)
            ·
             rw [if_pos c17] at H
             have c17b0 := decide_eq_true c17
             clear c17
             by_cases c18 : ((rd_L7 l0 x3_1).length : Int) > 30
             ·
              rw [if_pos c18] at H
              have c18b0 := decide_eq_true c18
              have c18b1 : decide (30 < (rd_L7 l0 x3_1).length) = true := decide_eq_true (by omega)
              clear c18
              obtain rfl := Option.some.inj H
              have p579 : 0 ≤ (x3_1 : Int) := of_decide_eq_true ap0
              have q579 : x3_1 < (l0.length : Int) := of_decide_eq_true ap0
              obtain ⟨ad579, A579_0, c579_0, e579, hx579_0, hl579_0, hi579_0⟩ := at_L7 HR0.out x3_1 p579 q579
              cases e579
              have HR579_0 := Aside0.mk hi579_0
              have HC579_0 := Aside0.mk hl579_0
              clear hi579_0 hl579_0
              replace p579 := eq_true p579
              replace q579 := eq_true q579
              go_wp2
              go_ret
              exact ⟨ap2, ap7⟩
             ·
              rw [if_neg c18] at H
              have c18b0 := decide_eq_false c18
              have c18b1 : decide (30 < (rd_L7 l0 x3_1).length) = false := decide_eq_false (by omega)
              clear c18
              have H' := Aside0.mk H
              clear H
              have p579 : 0 ≤ (x3_1 : Int) := of_decide_eq_true ap0
              have q579 : x3_1 < (l0.length : Int) := of_decide_eq_true ap0
              obtain ⟨ad579, A579_0, c579_0, e579, hx579_0, hl579_0, hi579_0⟩ := at_L7 HR0.out x3_1 p579 q579
              cases e579
              have HR579_0 := Aside0.mk hi579_0
              have HC579_0 := Aside0.mk hl579_0
              clear hi579_0 hl579_0
              replace p579 := eq_true p579
              replace q579 := eq_true q579
              go_wp2
              go_roundg kj4
              case measure => have := HK1.out; have := HJ1.out; have := HK3.out; have := HJ4.out; omega
              case rel => exact ⟨(wrap64 (x3_1 + 1)), ap2, H', ⟨by have := HK1.out; have := HJ1.out; have := HK3.out; have := HJ4.out; omega⟩, by repeat (first | exact Drawn0.refl _ | apply Drawn0.step)⟩
            ·
             rw [if_neg c17] at H
             exact absurd H (by simp)
           ·
            rw [if_neg c16] at H
            exact absurd H (by simp)
     ·
      replace c4 := Bool.eq_false_iff.mpr c4
      subst c4
      rw [if_neg (show ¬ (false = true) by decide)] at H
      obtain rfl := Option.some.inj H
      go_wp2
      go_ret
      exact ⟨ap2, ap7⟩
end Go.Proofs.YtkklacijhmoopaaDoor.Print
namespace Go.Proofs.YtkklacijhmoopaaDoor.Print
open Go.RowKit Go.Proofs.YtkklacijhmoopaaDoorW.PrintWords Go.Proofs.YtkklacijhmoopaaDoorW.PrintLast Go.Proofs.YtkklacijhmoopaaDoorW.PrintMore Go.Proofs.YtkklacijhmoopaaDoor.Pure
set_option linter.unusedVariables false
set_option linter.unusedSimpArgs false
abbrev mkB (l : List UInt8) : ByteArray := ⟨l.toArray⟩
theorem mkB_size (l : List UInt8) : (mkB l).size = l.length := by rw [← bl_length]
theorem ba_app (a b : List UInt8) : mkB a ++ mkB b = mkB (a ++ b) := by
  apply ByteArray.ext
  apply Array.toList_inj.1
  rw [ByteArray.data_append]
  simp
def ofA (a : AvaS) : Pr := (bl a.f0, bl a.f1)
def ofN (n : List (List AvaS)) : List (List Pr) := n.map (·.map ofA)
theorem mk_of (n : List (List AvaS)) : mkN (ofN n) = n := by
  unfold mkN ofN
  rw [List.map_map]
  conv => rhs; rw [← List.map_id n]
  refine List.map_congr_left fun l _ => ?_
  show mkR (l.map ofA) = l
  unfold mkR
  rw [List.map_map]
  conv => rhs; rw [← List.map_id l]
  exact List.map_congr_left fun a _ => rfl
def okL (a : AvaS) : Prop := a.f0.size ≤ 600 ∧ a.f1.size ≤ 600
def okLs (n rest : List (List AvaS)) : Prop := n.length ≤ 30 ∧ ∀ l ∈ rest, l.length ≤ 30 ∧ ∀ a ∈ l, okL a
theorem long_l1 (n : List (List AvaS)) (i : Nat) (hi30 : i < 30) (l : List AvaS) (r : List (List AvaS)) (hr : n.drop i = l :: r)
    (hnext : ∃ b, Ev (fun k => L15Long.l0 k n ((i + 1 : Nat) : Int)) b ∧ (b = false → okLs n r)) : ∀ (m j : Nat), 30 - j = m → j ≤ 30 →
    ∃ b, Ev (fun k => L15Long.l1 k n (i : Int) (j : Int)) b ∧ (b = false → okLs n r ∧ l.length ≤ 30 ∧ ∀ a ∈ l.drop j, okL a) := by
  obtain ⟨g1, _, g3⟩ := getD_at (d := []) hr
  have g2 := rdR_at hr
  intro m
  induction m with
  | zero =>
    intro j hm hj
    have hend : Ev (fun k => L15Long.j3 k n (i : Int) (j : Int) false) true ∨ l.length ≤ 30 := by
      by_cases h : l.length ≤ 30
      · exact .inr h
      · left
        refine Ev.step (fun k => by rw [L15Long.j3]) ?_
        rw [g2]
        exact Ev.neg (by simp) (Ev.pos (by omega) (Ev.pos (by omega) (Ev.pos (by omega) Ev.rfl')))
    have hto : ∀ {b : Bool}, Ev (fun k => L15Long.j3 k n (i : Int) (j : Int) false) b → Ev (fun k => L15Long.l1 k n (i : Int) (j : Int)) b := by
      intro b h
      refine Ev.step (fun k => by rw [L15Long.l1]) ?_
      rw [g2]
      refine Ev.pos (by omega) (Ev.pos (by omega) ?_)
      by_cases hl : (j : Int) < (l.length : Int)
      · refine Ev.pos hl ?_
        rw [decide_eq_false (by omega)]; exact h
      · exact Ev.neg hl h
    rcases hend with h | h
    · exact ⟨true, hto h, fun h => by cases h⟩
    · obtain ⟨b, hb, hb2⟩ := hnext
      refine ⟨b, hto ?_, fun h0 => ⟨hb2 h0, h, by rw [List.drop_eq_nil_of_le (by omega)]; simp⟩⟩
      refine Ev.step (fun k => by rw [L15Long.j3]) ?_
      rw [g2, wsucc (p := i) (by omega)]
      exact Ev.neg (by simp) (Ev.pos (by omega) (Ev.pos (by omega) (Ev.neg (by omega) hb)))
  | succ m ih =>
    intro j hm hj
    cases hd : l.drop j with
    | nil =>
      have hjl := List.drop_eq_nil_iff.1 hd
      have hto : ∀ {b : Bool}, Ev (fun k => L15Long.j3 k n (i : Int) (j : Int) false) b → Ev (fun k => L15Long.l1 k n (i : Int) (j : Int)) b := by
        intro b h
        refine Ev.step (fun k => by rw [L15Long.l1]) ?_
        rw [g2]
        exact Ev.pos (by omega) (Ev.pos (by omega) (Ev.neg (by omega) h))
      obtain ⟨b, hb, hb2⟩ := hnext
      refine ⟨b, hto ?_, fun h0 => ⟨hb2 h0, by omega, by simp⟩⟩
      refine Ev.step (fun k => by rw [L15Long.j3]) ?_
      rw [g2, wsucc (p := i) (by omega)]
      exact Ev.neg (by simp) (Ev.pos (by omega) (Ev.pos (by omega) (Ev.neg (by omega) hb)))
    | cons a r2 =>
      obtain ⟨f1, _, f3⟩ := getD_at (d := z40) hd
      have f2 := rdA_at hd
      have hto : ∀ {b : Bool}, Ev (fun k => if (a.f0.size : Int) > 600 then (some true) else (if (a.f1.size : Int) > 600 then (some true) else (L15Long.l1 k n (i : Int) ((j + 1 : Nat) : Int)))) b → Ev (fun k => L15Long.l1 k n (i : Int) (j : Int)) b := by
        intro b h
        refine Ev.step (fun k => by rw [L15Long.l1]) ?_
        rw [g2]
        refine Ev.pos (by omega) (Ev.pos (by omega) (Ev.pos (by omega) ?_))
        rw [decide_eq_true (by omega)]
        refine Ev.step (fun k => by rw [L15Long.j3]) ?_
        rw [g2, f2, wsucc (p := j) (by omega)]
        exact Ev.pos rfl (Ev.pos (by omega) (Ev.pos (by omega) (Ev.pos (by omega) (Ev.pos (by omega) h))))
      by_cases h0 : a.f0.size > 600
      · exact ⟨true, hto (Ev.pos (by omega) Ev.rfl'), fun h => by cases h⟩
      by_cases h1 : a.f1.size > 600
      · exact ⟨true, hto (Ev.neg (by omega) (Ev.pos (by omega) Ev.rfl')), fun h => by cases h⟩
      obtain ⟨b, hb, hb2⟩ := ih (j + 1) (by omega) (by omega)
      rw [f3] at hb2
      refine ⟨b, hto (Ev.neg (by omega) (Ev.neg (by omega) hb)), fun h => ?_⟩
      obtain ⟨k1, k2, k3⟩ := hb2 h
      refine ⟨k1, k2, fun x hx => ?_⟩
      rcases List.mem_cons.1 hx with rfl | hx
      · exact ⟨by omega, by omega⟩
      · exact k3 x hx
theorem long_ev (n : List (List AvaS)) : ∃ b, Ev (fun k => L15Long.f k n) b ∧ (b = false → okLs n n) := by
  have hloop : ∀ (m i : Nat), 30 - i = m → i ≤ 30 → ∃ b, Ev (fun k => L15Long.l0 k n (i : Int)) b ∧ (b = false → okLs n (n.drop i)) := by
    intro m
    have hout : ∀ i : Nat, (n.length ≤ i ∨ 30 ≤ i) → ∃ b, Ev (fun k => L15Long.l0 k n (i : Int)) b ∧ (b = false → okLs n (n.drop i)) := by
      intro i h
      refine ⟨decide ((n.length : Int) > 30), ?_, fun h' => ?_⟩
      · refine Ev.step (fun k => by rw [L15Long.l0]) ?_
        have hj : Ev (fun k => L15Long.j1 k n (i : Int) false) (decide ((n.length : Int) > 30)) := Ev.step (fun k => by rw [L15Long.j1]) (Ev.neg (by simp) Ev.rfl')
        by_cases hl : (i : Int) < (n.length : Int)
        · refine Ev.pos hl ?_
          rw [show decide ((i : Int) < 30) = false from decide_eq_false (by omega)]; exact hj
        · exact Ev.neg hl hj
      · have := of_decide_eq_false h'
        refine ⟨by omega, ?_⟩
        rw [List.drop_eq_nil_of_le (by omega)]; simp
    induction m with
    | zero => intro i hm hi; exact hout i (.inr (by omega))
    | succ m ih =>
      intro i hm hi
      cases hr : n.drop i with
      | nil =>
        have := hout i (.inl (List.drop_eq_nil_iff.1 hr))
        rw [hr] at this; exact this
      | cons l r =>
        obtain ⟨g1, _, g3⟩ := getD_at (d := []) hr
        have hnext := ih (i + 1) (by omega) (by omega)
        rw [g3] at hnext
        obtain ⟨b, hb, hb2⟩ := long_l1 n i (by omega) l r hr hnext _ 0 rfl (by omega)
        refine ⟨b, ?_, fun h => ?_⟩
        · refine Ev.step (fun k => by rw [L15Long.l0]) ?_
          refine Ev.pos (by omega) ?_
          rw [show decide ((i : Int) < 30) = true from decide_eq_true (by omega)]
          refine Ev.step (fun k => by rw [L15Long.j1]) ?_
          exact Ev.pos rfl hb
        · obtain ⟨k1, k2, k3⟩ := hb2 h
          refine ⟨k1.1, fun x hx => ?_⟩
          rcases List.mem_cons.1 hx with rfl | hx
          · exact ⟨k2, fun a ha => k3 a (by rw [List.drop_zero]; exact ha)⟩
          · exact k1.2 x hx
  obtain ⟨b, hb, hb2⟩ := hloop _ 0 rfl (by omega)
  rw [List.drop_zero] at hb2
  exact ⟨b, hb, hb2⟩
set_option maxRecDepth 100000 in
theorem digit_hex : ∀ n : Nat, n < 256 → R14Digit.f (wrap64 (Int.tdiv (wrap64 (n : Int)) 16)) = some ((hexDig (n / 16)).toNat : Int) ∧ R14Digit.f (Int.tmod (wrap64 (n : Int)) 16) = some ((hexDig (n % 16)).toNat : Int) := by decide +kernel
theorem piece_len (n i : Nat) (c : UInt8) : (dnPiece n i c).length ≤ 3 := by
  rw [piece_is]
  split
  · show (92 :: hexOf [c]).length ≤ 3
    simp [hexOf]
  · split <;> simp
theorem textN_len (n : Nat) : ∀ (l : List UInt8) (i : Nat), (textN n i l).length ≤ 3 * l.length
  | [], i => by simp [textN]
  | c :: r, i => by
    have := piece_len n i c
    have := textN_len n r (i + 1)
    rw [textN, List.length_append, List.length_cons]; omega
theorem text_ev (s : ByteArray) (hs : s.size ≤ 1000000) : ∀ (m i : Nat) (acc : List UInt8), s.size - i = m → i ≤ s.size → acc.length ≤ 3 * i →
    Ev (fun k => R15Text.l0 k s (ints acc) (i : Int)) (mkB (acc ++ textN s.size i ((bl s).drop i))) := by
  intro m
  induction m with
  | zero =>
    intro i acc hm hi ha
    rw [drop_end (by omega), textN, List.append_nil]
    refine Ev.step (fun k => by rw [R15Text.l0]) (Ev.neg (by omega) ?_)
    rw [strOfNums_ints]; exact Ev.rfl'
  | succ m ih =>
    intro i acc hm hi ha
    cases hr : (bl s).drop i with
    | nil => have := drop_nil hr; omega
    | cons c r =>
      obtain ⟨g1, g2, g3⟩ := drop_cons hr
      have hc := c.toNat_lt
      have hal : ∀ x : List UInt8, x.length ≤ acc.length + 3 → (ints x).length < 140737488355328 := fun x hx => by rw [ints_length]; omega
      have hnext : Ev (fun k => R15Text.l0 k s (ints (acc ++ dnPiece s.size i c)) ((i + 1 : Nat) : Int)) (mkB (acc ++ textN s.size i (c :: r))) := by
        have hp := piece_len s.size i c
        have := ih (i + 1) (acc ++ dnPiece s.size i c) (by omega) (by omega) (by rw [List.length_append]; omega)
        rw [g3, List.append_assoc] at this
        rw [textN]; exact this
      rw [piece_is] at hnext
      refine Ev.step (fun k => by rw [R15Text.l0]) ?_
      rw [g2]
      refine Ev.pos (by omega) (Ev.pos (by omega) ?_)
      by_cases h1 : c.toNat < 32 ∨ c.toNat = 127
      · rw [if_pos h1] at hnext
        obtain ⟨d1, d2⟩ := digit_hex c.toNat hc
        have hj : Ev (fun k => R15Text.j1 k s (ints acc) (i : Int) (c.toNat : Int) true) (mkB (acc ++ textN s.size i (c :: r))) := by
          refine Ev.step (fun k => by rw [R15Text.j1]) ?_
          refine Ev.pos rfl (Ev.bindc d1 (Ev.bindc d2 (Ev.bindc rfl (Ev.pos (by rw [ints_length]; simp; omega) ?_))))
          rw [wsucc (by omega)]
          have e : ints acc ++ [92, ((hexDig (c.toNat / 16)).toNat : Int), ((hexDig (c.toNat % 16)).toNat : Int)] = ints (acc ++ 92 :: hexOf [c]) := by simp [ints, hexOf]
          rw [e]; exact hnext
        by_cases h2 : c.toNat < 32
        · exact Ev.pos (by omega) hj
        · refine Ev.neg (by omega) ?_
          rw [beq_iff_eq.2 (show (c.toNat : Int) = 127 by omega)]; exact hj
      · rw [if_neg h1] at hnext
        refine Ev.neg (by omega) ?_
        rw [beq_eq_false_iff_ne.2 (show (c.toNat : Int) ≠ 127 by omega)]
        refine Ev.step (fun k => by rw [R15Text.j1]) ?_
        rw [wsucc (by omega)]
        refine Ev.neg (by simp) (Ev.bindc (special_is c) ?_)
        have e32 : ((c.toNat : Int) = 32) ↔ c = 32 := ieq c 32
        have e35 : ((c.toNat : Int) = 35) ↔ c = 35 := ieq c 35
        have hput : ∀ {k : Nat}, R15Text.l0 k s (ints acc ++ [92] ++ [(c.toNat : Int)]) ((i + 1 : Nat) : Int) = R15Text.l0 k s (ints (acc ++ [92, c])) ((i + 1 : Nat) : Int) := fun {k} => by
          have : ints acc ++ [92] ++ [(c.toNat : Int)] = ints (acc ++ [92, c]) := by simp [ints]
          rw [this]
        have hesc : ((c = 32 ∧ (i = 0 ∨ i + 1 = s.size)) ∨ (c = 35 ∧ i = 0) ∨ special c = true) → Ev (fun k => (if (ints acc).length < 140737488355328 then ((some (ints acc ++ [92] : List Int)).bind fun y592 => (if y592.length < 140737488355328 then (R15Text.l0 k s (y592 ++ [(c.toNat : Int)]) ((i + 1 : Nat) : Int)) else (none))) else (none))) (mkB (acc ++ textN s.size i (c :: r))) := by
          intro h
          rw [if_pos h] at hnext
          refine Ev.pos (hal acc (by omega)) (Ev.bindc rfl (Ev.pos (by rw [List.length_append, ints_length]; simp; omega) ?_))
          exact Ev.congr (fun k => hput) hnext
        have hbar : ¬ ((c = 32 ∧ (i = 0 ∨ i + 1 = s.size)) ∨ (c = 35 ∧ i = 0) ∨ special c = true) → Ev (fun k => (if (ints acc).length < 140737488355328 then (R15Text.l0 k s (ints acc ++ [(c.toNat : Int)]) ((i + 1 : Nat) : Int)) else (none))) (mkB (acc ++ textN s.size i (c :: r))) := by
          intro h
          rw [if_neg h] at hnext
          refine Ev.pos (hal acc (by omega)) ?_
          rw [ints_snoc]; exact hnext
        cases hsp : special c with
        | true => exact Ev.pos rfl (hesc (.inr (.inr hsp)))
        | false =>
          refine Ev.neg (by simp) ?_
          by_cases h32 : c = 32
          · have h35 : c ≠ 35 := by rw [h32]; decide
            refine Ev.pos (e32.2 h32) ?_
            by_cases hi0 : i = 0
            · exact Ev.pos (by omega) (hesc (.inl ⟨h32, .inl hi0⟩))
            · refine Ev.neg (by omega) ?_
              by_cases hie : i + 1 = s.size
              · exact Ev.pos (by omega) (hesc (.inl ⟨h32, .inr hie⟩))
              · refine Ev.neg (by omega) (Ev.neg (fun h => h35 (e35.1 h)) (hbar ?_))
                simp [hi0, hie, h35, hsp]
          · refine Ev.neg (fun h => h32 (e32.1 h)) ?_
            by_cases h35 : c = 35
            · refine Ev.pos (e35.2 h35) ?_
              by_cases hi0 : i = 0
              · exact Ev.pos (by omega) (hesc (.inr (.inl ⟨h35, hi0⟩)))
              · refine Ev.neg (by omega) (hbar ?_)
                simp [hi0, h32, hsp]
            · refine Ev.neg (fun h => h35 (e35.1 h)) (hbar ?_)
              simp [h32, h35, hsp]
theorem refText_ev (s : ByteArray) (hs : s.size ≤ 1000000) : Ev (fun k => R15Text.f k s) (mkB (dnText (bl s))) := by
  have := text_ev s hs _ 0 [] rfl (Nat.zero_le _) (Nat.zero_le _)
  rw [List.drop_zero, List.nil_append] at this
  rw [dnText_is, bl_length]; exact this
theorem join_is (c : UInt8) : ∀ (l : List (List UInt8)), Lib.join l [c] = joinT c l
  | [] => rfl
  | [x] => by simp [Lib.join, joinT, List.intercalate]
  | x :: y :: r => by
    have ih := join_is c (y :: r)
    unfold Lib.join at ih ⊢
    rw [inter_cons] at ih ⊢
    rw [joinT, ← ih]; simp
theorem joinB_is (c : UInt8) (l : List (List UInt8)) : joinB (l.map mkB) (⟨#[c]⟩ : ByteArray) = joinT c l := by
  unfold joinB
  rw [List.map_map, ← join_is]
  congr 1
  conv => rhs; rw [← List.map_id l]
  exact List.map_congr_left fun x _ => rfl
theorem joinT_len (c : UInt8) (B : Nat) : ∀ (l : List (List UInt8)), (∀ x ∈ l, x.length ≤ B) → (joinT c l).length ≤ l.length * (B + 1)
  | [], _ => by simp [joinT]
  | [x], h => by have := h x (by simp); simp [joinT]; omega
  | x :: y :: r, h => by
    have ih := joinT_len c B (y :: r) fun z hz => h z (by simp at hz ⊢; exact .inr hz)
    have := h x (by simp)
    rw [joinT, List.length_append, List.length_cons]
    rw [List.length_cons (a := x), Nat.succ_mul]
    omega
theorem join_f (c : UInt8) (l : List (List UInt8)) (h1 : l.length ≤ 1000000) (h2 : (joinT c l).length ≤ 100000000) : strings_Join.f (l.map mkB) (⟨#[c]⟩ : ByteArray) = some (mkB (joinT c l)) := by
  unfold strings_Join.f
  rw [if_pos (by rw [List.length_map]; exact h1), joinB_is, if_pos h2]
def shortP (P : List (List Pr)) : Prop := P.length ≤ 30 ∧ ∀ l ∈ P, l.length ≤ 30 ∧ ∀ a ∈ l, a.1.length ≤ 600 ∧ a.2.length ≤ 600
theorem pairText_len {a : Pr} (h : a.1.length ≤ 600 ∧ a.2.length ≤ 600) : (pairText a).length ≤ 2401 := by
  have := textN_len a.2.length a.2 0
  unfold pairText
  rw [dnText_is, List.length_append, List.length_cons]; omega
theorem rdnText_len {l : List Pr} (h : l.length ≤ 30 ∧ ∀ a ∈ l, a.1.length ≤ 600 ∧ a.2.length ≤ 600) : (rdnText l).length ≤ 72060 := by
  have := joinT_len 43 2401 (l.map pairText) fun x hx => by
    obtain ⟨a, ha, rfl⟩ := List.mem_map.1 hx
    exact pairText_len (h.2 a ha)
  rw [List.length_map] at this
  unfold rdnText
  have h3 : l.length * 2402 ≤ 30 * 2402 := Nat.mul_le_mul_right _ h.1
  omega
theorem nameText_len {P : List (List Pr)} (h : shortP P) : (nameText P).length ≤ 2161830 := by
  have := joinT_len 44 72060 (P.map rdnText) fun x hx => by
    obtain ⟨l, hl, rfl⟩ := List.mem_map.1 hx
    exact rdnText_len (h.2 l hl)
  rw [List.length_map] at this
  unfold nameText
  have h3 : P.length * 72061 ≤ 30 * 72061 := Nat.mul_le_mul_right _ h.1
  omega
def fin (X : List UInt8) : ByteArray × Int := if X.length > 1000 then (⟨#[]⟩, 5) else (mkB X, 0)
theorem value_f (v : List UInt8) (h : v.length ≤ 600) : dn_value.f (mkB v) = some (mkB (dnText v)) := by
  unfold dn_value.f
  rw [if_pos (by rw [mkB_size]; omega)]
theorem drop_map' {α β : Type} (f : α → β) {l : List α} {i : Nat} {x : α} {r : List α} (h : l.drop i = x :: r) : (l.map f).drop i = f x :: r.map f := by
  rw [← List.map_drop, h]; rfl
theorem print_l1 (n : List (List AvaS)) (i : Nat) (l : List Pr) (hl : l.length ≤ 30 ∧ ∀ a ∈ l, a.1.length ≤ 600 ∧ a.2.length ≤ 600) (x4 : List ByteArray) (hx4 : x4.length ≤ 1000) (hi : i ≤ 1000) {o : ByteArray × Int}
    (hnext : Ev (fun k => dn_Print.l0 k (x4 ++ [mkB (rdnText l)]) n (n.length : Int) ((i + 1 : Nat) : Int)) o) : ∀ (m j : Nat), l.length - j = m → j ≤ l.length →
    Ev (fun k => dn_Print.l1 k x4 (((l.take j).map pairText).map mkB) n (n.length : Int) (i : Int) (mkR l) ((mkR l).length : Int) (j : Int)) o := by
  intro m
  induction m with
  | zero =>
    intro j hm hj
    refine Ev.step (fun k => by rw [dn_Print.l1]) ?_
    rw [List.take_of_length_le (by omega), wsucc (p := i) (by omega)]
    have := rdnText_len hl
    refine Ev.neg (by rw [mkR_len]; omega) (Ev.bindc (join_f 43 (l.map pairText) (by rw [List.length_map]; omega) (by unfold rdnText at this; omega)) (Ev.pos (by omega) ?_))
    exact hnext
  | succ m ih =>
    intro j hm hj
    cases hd : l.drop j with
    | nil => have := List.drop_eq_nil_iff.1 hd; omega
    | cons a r2 =>
      obtain ⟨f1, f0, f3⟩ := getD_at (d := (([], []) : Pr)) hd
      have hd' : (mkR l).drop j = mkA a :: mkR r2 := drop_map' mkA hd
      have f2 := rdA_at hd'
      have ha := hl.2 a (by
        have : a ∈ l.drop j := by rw [hd]; simp
        exact List.mem_of_mem_drop this)
      have hi2 := ih (j + 1) (by omega) (by omega)
      have htk : (l.take (j + 1)) = l.take j ++ [a] := by
        rw [List.take_succ_eq_append_getElem f1]
        congr 2
        rw [Int.toNat_natCast, List.getD_eq_getElem?_getD, List.getElem?_eq_getElem f1] at f0
        simpa using f0
      rw [htk, List.map_append, List.map_append] at hi2
      have htl := textN_len a.2.length a.2 0
      refine Ev.step (fun k => by rw [dn_Print.l1]) ?_
      rw [f2, wsucc (p := j) (by omega)]
      have e0 : (mkA a).f0 = mkB a.1 := rfl
      have e1 : (mkA a).f1 = mkB a.2 := rfl
      rw [e0, e1, show (⟨#[61]⟩ : ByteArray) = mkB [61] from rfl, ba_app]
      refine Ev.pos (by rw [mkR_len]; omega) (Ev.pos (by omega) (Ev.pos (by rw [mkR_len]; omega) (Ev.pos (by rw [mkB_size]; omega) (Ev.bindc (value_f a.2 ha.2) (Ev.pos ?_ (Ev.pos ?_ ?_))))))
      · rw [mkB_size, mkB_size, dnText_is, List.length_append]
        simp only [List.length_cons, List.length_nil]; omega
      · rw [List.length_map, List.length_map, List.length_take]; omega
      · rw [ba_app]
        have e : a.1 ++ [61] ++ dnText a.2 = pairText a := by unfold pairText; simp
        rw [e]; exact hi2
theorem print_loop (P : List (List Pr)) (hP : shortP P) : ∀ (m i : Nat), P.length - i = m → i ≤ P.length →
    Ev (fun k => dn_Print.l0 k (((P.take i).map rdnText).map mkB) (mkN P) ((mkN P).length : Int) (i : Int)) (fin (nameText P)) := by
  intro m
  induction m with
  | zero =>
    intro i hm hi
    refine Ev.step (fun k => by rw [dn_Print.l0]) ?_
    have hlen := nameText_len hP
    rw [List.take_of_length_le (by omega)]
    refine Ev.neg (by rw [mkN_len]; omega) (Ev.bindc (join_f 44 (P.map rdnText) (by rw [List.length_map]; have := hP.1; omega) (by unfold nameText at hlen; omega)) ?_)
    unfold fin
    rw [show joinT 44 (P.map rdnText) = nameText P from rfl]
    by_cases h : (nameText P).length > 1000
    · rw [if_pos h]; exact Ev.pos (by rw [mkB_size]; omega) Ev.rfl'
    · rw [if_neg h]; exact Ev.neg (by rw [mkB_size]; omega) Ev.rfl'
  | succ m ih =>
    intro i hm hi
    cases hr : P.drop i with
    | nil => have := List.drop_eq_nil_iff.1 hr; omega
    | cons l r =>
      obtain ⟨g1, g0, g3⟩ := getD_at (d := ([] : List Pr)) hr
      have hr' : (mkN P).drop i = mkR l :: mkN r := drop_map' mkR hr
      have g2 := rdR_at hr'
      have hl := hP.2 l (by
        have : l ∈ P.drop i := by rw [hr]; simp
        exact List.mem_of_mem_drop this)
      have hi2 := ih (i + 1) (by omega) (by omega)
      have htk : (P.take (i + 1)) = P.take i ++ [l] := by
        rw [List.take_succ_eq_append_getElem g1]
        congr 2
        rw [Int.toNat_natCast, List.getD_eq_getElem?_getD, List.getElem?_eq_getElem g1] at g0
        simpa using g0
      rw [htk, List.map_append, List.map_append] at hi2
      have h30 := hP.1
      have := print_l1 (mkN P) i l hl (((P.take i).map rdnText).map mkB) (by rw [List.length_map, List.length_map, List.length_take]; omega) (by omega) hi2 _ 0 rfl (Nat.zero_le _)
      refine Ev.step (fun k => by rw [dn_Print.l0]) ?_
      rw [g2]
      exact Ev.pos (by rw [mkN_len]; omega) (Ev.pos (by omega) (Ev.pos (by rw [mkN_len]; omega) this))
theorem sz_short {P : List (List Pr)} (h : shortP P) : (mkN P).length ≤ 1000000 ∧ szN (mkN P) ∧ ∀ l ∈ mkN P, l.length ≤ 1000000 :=
  sz_mk (B := 600) (by omega) ⟨by have := h.1; omega, fun l hl => ⟨by have := (h.2 l hl).1; omega, (h.2 l hl).2⟩⟩
theorem print_ev (P : List (List Pr)) (hP : shortP P) : Ev (fun k => dn_Print.f k (mkN P)) (if nameOk (mkN P) = true then fin (nameText P) else (⟨#[]⟩, 4)) := by
  obtain ⟨z1, z2, z3⟩ := sz_short hP
  unfold dn_Print.f
  refine Ev.bind (right_ev (mkN P) z1 z2) ?_
  cases nameOk (mkN P) with
  | true =>
    refine Ev.pos rfl ?_
    rw [if_pos rfl]
    exact print_loop P hP _ 0 rfl (Nat.zero_le _)
  | false => exact Ev.neg (by simp) (by simpa using Ev.rfl')
def appP (i : Nat) : Nat → List Pr → List UInt8
  | _, [] => []
  | j, a :: l => (if 0 < j then [43] else if 0 < i then [44] else []) ++ (pairText a ++ appP i (j + 1) l)
def appN : Nat → List (List Pr) → List UInt8
  | _, [] => []
  | i, l :: r => appP i 0 l ++ appN (i + 1) r
theorem appP_pos (i : Nat) : ∀ (l : List Pr) (j : Nat), 0 < j → appP i j l = l.flatMap fun a => 43 :: pairText a
  | [], j, _ => rfl
  | a :: l, j, h => by rw [appP, if_pos h, appP_pos i l (j + 1) (by omega)]; simp
theorem joinT_flat (c : UInt8) (x : List UInt8) : ∀ r : List (List UInt8), joinT c (x :: r) = x ++ r.flatMap (c :: ·)
  | [] => by simp [joinT]
  | y :: r => by rw [joinT, joinT_flat c y r]; simp
theorem appP_zero (i : Nat) {l : List Pr} (h : l ≠ []) : appP i 0 l = (if 0 < i then [44] else []) ++ rdnText l := by
  cases l with
  | nil => exact absurd rfl h
  | cons a l =>
    unfold rdnText
    rw [appP, if_neg (by omega), appP_pos i l 1 (by omega), List.map_cons, joinT_flat, List.flatMap_map]
theorem appN_pos : ∀ (r : List (List Pr)) (i : Nat), 0 < i → (∀ l ∈ r, l ≠ []) → appN i r = r.flatMap fun l => 44 :: rdnText l
  | [], i, _, _ => rfl
  | l :: r, i, h, hn => by
    rw [appN, appP_zero i (hn l (by simp)), if_pos h, appN_pos r (i + 1) (by omega) fun x hx => hn x (by simp [hx])]; simp
theorem appN_is {P : List (List Pr)} (hn : ∀ l ∈ P, l ≠ []) : appN 0 P = nameText P := by
  cases P with
  | nil => rfl
  | cons l r =>
    unfold nameText
    rw [appN, appP_zero 0 (hn l (by simp)), if_neg (by omega), appN_pos r 1 (by omega) (fun x hx => hn x (by simp [hx])), List.map_cons, joinT_flat, List.flatMap_map]; rfl
theorem refprint_l1 (n : List (List AvaS)) (i : Nat) (hi : i ≤ 1000) (l : List Pr) (hl : l.length ≤ 30 ∧ ∀ a ∈ l, a.1.length ≤ 600 ∧ a.2.length ≤ 600) (r : List (List AvaS)) (hr : n.drop i = mkR l :: r) (X : List UInt8) {o : ByteArray × Int}
    (hnext : ∀ T : List UInt8, (T ++ X).length ≤ 100000000 → o = fin (T ++ X) → Ev (fun k => R15Print.l0 k n (mkB T) ((i + 1 : Nat) : Int)) o) : ∀ (m j : Nat) (T : List UInt8), l.length - j = m → j ≤ l.length → (T ++ (appP i j (l.drop j) ++ X)).length ≤ 100000000 → o = fin (T ++ (appP i j (l.drop j) ++ X)) →
    Ev (fun k => R15Print.l1 k n (mkB T) (i : Int) (j : Int)) o := by
  have g1 : i < n.length := (getD_at (d := []) hr).1
  have g2 := rdR_at hr
  intro m
  induction m with
  | zero =>
    intro j T hm hj hT ho
    rw [List.drop_eq_nil_of_le (by omega), appP, List.nil_append] at hT ho
    refine Ev.step (fun k => by rw [R15Print.l1]) ?_
    rw [g2, wsucc (p := i) (by omega)]
    exact Ev.pos (by omega) (Ev.pos (by omega) (Ev.neg (by rw [mkR_len]; omega) (hnext T hT ho)))
  | succ m ih =>
    intro j T hm hj hT ho
    cases hd : l.drop j with
    | nil => have := List.drop_eq_nil_iff.1 hd; omega
    | cons a r2 =>
      obtain ⟨f1, f0, f3⟩ := getD_at (d := (([], []) : Pr)) hd
      have hd' : (mkR l).drop j = mkA a :: mkR r2 := drop_map' mkA hd
      have f2 := rdA_at hd'
      have ha := hl.2 a (by
        have : a ∈ l.drop j := by rw [hd]; simp
        exact List.mem_of_mem_drop this)
      rw [hd, appP] at hT ho
      have hi2 := ih (j + 1) (T ++ ((if 0 < j then [43] else if 0 < i then [44] else []) ++ pairText a)) (by omega) (by omega)
      rw [f3] at hi2
      have eX : T ++ ((if 0 < j then [43] else if 0 < i then [44] else []) ++ pairText a) ++ (appP i (j + 1) r2 ++ X) = T ++ (((if 0 < j then [43] else if 0 < i then [44] else []) ++ (pairText a ++ appP i (j + 1) r2)) ++ X) := by simp
      rw [eX] at hi2
      have hgo := hi2 hT ho
      have htv := refText_ev (mkB a.2) (by rw [mkB_size]; omega)
      rw [show bl (mkB a.2) = a.2 from rfl] at htv
      have e0 : (mkA a).f0 = mkB a.1 := rfl
      have e1 : (mkA a).f1 = mkB a.2 := rfl
      have hpl : (pairText a).length = a.1.length + 1 + (dnText a.2).length := by unfold pairText; simp; omega
      have hTl : T.length + (pairText a).length + 1 ≤ 100000001 := by
        simp only [List.length_append] at hT
        omega
      have h61 : (⟨#[61]⟩ : ByteArray) = mkB [61] := rfl
      have h43 : (⟨#[43]⟩ : ByteArray) = mkB [43] := rfl
      have h44 : (⟨#[44]⟩ : ByteArray) = mkB [44] := rfl
      refine Ev.step (fun k => by rw [R15Print.l1]) ?_
      rw [g2, f2, wsucc (p := j) (by omega), e0, e1, h61, h43, h44]
      refine Ev.pos (by omega) (Ev.pos (by omega) (Ev.pos (by rw [mkR_len]; omega) ?_))
      by_cases hj0 : 0 < j
      · rw [if_pos hj0] at hgo
        refine Ev.pos (by omega) (Ev.pos (by rw [mkB_size]; omega) (Ev.pos (by omega) ?_))
        rw [ba_app, ba_app, ba_app]
        refine Ev.pos ?_ (Ev.pos ?_ (Ev.bind htv (Ev.pos ?_ ?_)))
        · rw [mkB_size, mkB_size]; simp; omega
        · rw [mkB_size]; simp; omega
        · rw [mkB_size, mkB_size]; simp; omega
        · rw [ba_app]
          have e : T ++ [43] ++ a.1 ++ [61] ++ dnText a.2 = T ++ ([43] ++ pairText a) := by unfold pairText; simp
          rw [e]; exact hgo
      · rw [if_neg hj0] at hgo
        refine Ev.neg (by omega) ?_
        by_cases hi0 : 0 < i
        · rw [if_pos hi0] at hgo
          refine Ev.pos (by omega) (Ev.pos (by rw [mkB_size]; omega) (Ev.pos (by omega) ?_))
          rw [ba_app, ba_app, ba_app]
          refine Ev.pos ?_ (Ev.pos ?_ (Ev.bind htv (Ev.pos ?_ ?_)))
          · rw [mkB_size, mkB_size]; simp; omega
          · rw [mkB_size]; simp; omega
          · rw [mkB_size, mkB_size]; simp; omega
          · rw [ba_app]
            have e : T ++ [44] ++ a.1 ++ [61] ++ dnText a.2 = T ++ ([44] ++ pairText a) := by unfold pairText; simp
            rw [e]; exact hgo
        · rw [if_neg hi0] at hgo
          refine Ev.neg (by omega) (Ev.pos (by omega) ?_)
          rw [ba_app, ba_app]
          refine Ev.pos ?_ (Ev.pos ?_ (Ev.bind htv (Ev.pos ?_ ?_)))
          · rw [mkB_size, mkB_size]; omega
          · rw [mkB_size]; simp; omega
          · rw [mkB_size, mkB_size]; simp; omega
          · rw [ba_app]
            have e : T ++ a.1 ++ [61] ++ dnText a.2 = T ++ ([] ++ pairText a) := by unfold pairText; simp
            rw [e]; exact hgo
theorem refprint_loop (P : List (List Pr)) (hP : shortP P) : ∀ (m i : Nat) (T : List UInt8), P.length - i = m → i ≤ P.length → (T ++ appN i (P.drop i)).length ≤ 100000000 →
    Ev (fun k => R15Print.l0 k (mkN P) (mkB T) (i : Int)) (fin (T ++ appN i (P.drop i))) := by
  intro m
  induction m with
  | zero =>
    intro i T hm hi hT
    rw [List.drop_eq_nil_of_le (by omega), appN, List.append_nil]
    refine Ev.step (fun k => by rw [R15Print.l0]) ?_
    refine Ev.neg (by rw [mkN_len]; omega) ?_
    unfold fin
    by_cases h : T.length > 1000
    · rw [if_pos h]; exact Ev.pos (by rw [mkB_size]; omega) Ev.rfl'
    · rw [if_neg h]; exact Ev.neg (by rw [mkB_size]; omega) Ev.rfl'
  | succ m ih =>
    intro i T hm hi hT
    cases hr : P.drop i with
    | nil => have := List.drop_eq_nil_iff.1 hr; omega
    | cons l r =>
      obtain ⟨g1, g0, g3⟩ := getD_at (d := ([] : List Pr)) hr
      have hr' : (mkN P).drop i = mkR l :: mkN r := drop_map' mkR hr
      have hl := hP.2 l (by
        have : l ∈ P.drop i := by rw [hr]; simp
        exact List.mem_of_mem_drop this)
      have h30 := hP.1
      rw [hr, appN] at hT
      rw [appN]
      refine Ev.step (fun k => by rw [R15Print.l0]) ?_
      refine Ev.pos (by rw [mkN_len]; omega) ?_
      have := refprint_l1 (mkN P) i (by omega) l hl (mkN r) hr' (appN (i + 1) r) (o := fin (T ++ (appP i 0 l ++ appN (i + 1) r))) (fun T' hT' ho => by
        have h := ih (i + 1) T' (by omega) (by omega)
        rw [g3] at h
        rw [ho]; exact h hT') _ 0 T rfl (Nat.zero_le _) (by rw [List.drop_zero]; exact hT) (by rw [List.drop_zero])
      exact this
theorem nameOk_ne {P : List (List Pr)} (h : nameOk (mkN P) = true) : ∀ l ∈ P, l ≠ [] ∧ ∀ a ∈ l, typeOk a.1 = true := by
  unfold nameOk at h
  simp only [Bool.and_eq_true, List.all_eq_true] at h
  intro l hl
  have h2 := h.2 (mkR l) (List.mem_map_of_mem hl)
  unfold rdnOk at h2
  simp only [Bool.and_eq_true, decide_eq_true_eq] at h2
  refine ⟨fun h0 => by subst h0; simp [mkR] at h2, ?_⟩
  have hin : ∀ (xs pre : List AvaS), rdnIn pre xs = true → ∀ a ∈ xs, typeOk (bl a.f0) = true := by
    intro xs
    induction xs with
    | nil => intro pre _ a ha; simp at ha
    | cons x xs ih =>
      intro pre hx a ha
      rw [rdnIn] at hx
      simp only [Bool.and_eq_true] at hx
      rcases List.mem_cons.1 ha with rfl | ha
      · exact hx.1.1.1
      · exact ih _ hx.2 a ha
  intro a ha
  exact hin _ _ h2.2 (mkA a) (List.mem_map_of_mem ha)
theorem refprint_ev (P : List (List Pr)) (hP : shortP P) : Ev (fun k => R15Print.f k (mkN P)) (if nameOk (mkN P) = true then fin (nameText P) else (⟨#[]⟩, 4)) := by
  obtain ⟨z1, z2, z3⟩ := sz_short hP
  unfold R15Print.f
  refine Ev.bind (refRight_ev (mkN P) z1 z2) ?_
  cases hn : nameOk (mkN P) with
  | true =>
    refine Ev.pos rfl ?_
    rw [if_pos rfl]
    have hN := appN_is (P := P) fun l hl => (nameOk_ne hn l hl).1
    have hlen := nameText_len hP
    have := refprint_loop P hP _ 0 [] rfl (Nat.zero_le _) (by rw [List.drop_zero, hN, List.nil_append]; omega)
    rw [List.drop_zero, hN, List.nil_append] at this
    exact this
  | false => exact Ev.neg (by simp) (by simpa using Ev.rfl')
theorem name_front {P : List (List Pr)} (h : ∀ l ∈ P, l ≠ [] ∧ ∀ a ∈ l, typeOk a.1 = true) (hne : P ≠ []) : (nameText P).dropWhile (· == 32) ≠ [] := by
  cases P with
  | nil => exact absurd rfl hne
  | cons l r =>
    obtain ⟨h1, h2⟩ := h l (by simp)
    cases l with
    | nil => exact absurd rfl h1
    | cons a l =>
      have ha := h2 a (by simp)
      obtain ⟨t1, t2⟩ := typeOk_all ha
      obtain ⟨_, hm⟩ := low_type ha
      have e : ∃ z, nameText ((a :: l) :: r) = a.1 ++ z := by
        unfold nameText rdnText
        rw [List.map_cons, List.map_cons, joinT_flat, joinT_flat]
        exact ⟨_, by unfold pairText; rw [List.append_assoc, List.append_assoc]⟩
      obtain ⟨z, hz⟩ := e
      rw [hz]
      obtain ⟨c, t, hc⟩ := List.exists_cons_of_ne_nil t1
      rw [hc] at hm ⊢
      rw [List.cons_append, List.dropWhile_cons_of_neg (by simp [(hm c (by simp)).2.2.1])]
      simp
theorem back_ev (P : List (List Pr)) (hP : shortP P) (hn : nameOk (mkN P) = true) (hlen : (nameText P).length ≤ 1000) : Ev (fun k => dn_Parse.f k (mkB (nameText P))) (mkN P, 0) := by
  obtain ⟨p1, p2, p3, p4⟩ := parse_ev (mkB (nameText P)) (by rw [mkB_size]; omega)
  have hok := nameOk_ne hn
  by_cases hne : P = []
  · subst hne
    exact p2 (by rw [mkB_size]; omega) rfl
  · obtain ⟨z1, z2, z3⟩ := sz_short hP
    have hR := right_ev (mkN P) z1 z2
    have := p4 (by rw [mkB_size]; omega) (name_front hok hne) P _ (by have := goP_name P [] hok hne; simpa using this) hR
    rw [hn] at this
    exact this
end Go.Proofs.YtkklacijhmoopaaDoor.Print
namespace Go.Proofs.YtkklacijhmoopaaDoor.Print
open Go.RowKit Go.Proofs.YtkklacijhmoopaaDoorW.PrintWords Go.Proofs.YtkklacijhmoopaaDoorW.PrintLast Go.Proofs.YtkklacijhmoopaaDoorW.PrintMore
attribute [local go_sem] max2_int min2_int max_two min_two max_three min_three max_four min_four
set_option linter.unusedVariables false
set_option linter.unusedSimpArgs false
def L15awake.f (k : Nat)  : Option (Bool) := (dn_Parse.f k (⟨#[67, 78, 61, 65, 110, 110, 32, 92, 44, 32, 66, 32, 43, 32, 115, 110, 61, 120, 32, 44, 32, 111, 117, 61, 80, 101, 111, 112, 108, 101]⟩ : ByteArray)).bind fun bt353 => ((dn_Print.f k bt353.1).bind fun bt357 => (if bt353.2 = 0 then (if bt357.2 = 0 then (if bt357.1.toList = ([99, 110, 61, 65, 110, 110, 32, 92, 44, 32, 66, 43, 115, 110, 61, 120, 44, 111, 117, 61, 80, 101, 111, 112, 108, 101] : List UInt8) then (if (bt353.1.length : Int) = 2 then (if 0 < (bt353.1.length : Int) then (some (((rd_L7 bt353.1 0).length : Int) == 2)) else (none)) else (some false)) else (some false)) else (some false)) else (some false)))
set_option maxHeartbeats 8000000 in
set_option maxRecDepth 100000 in
theorem L15awake.calls (k : Nat)  (r : Bool) (w : World) (hG : Gw w) (h : L15awake.f k  = some r) :
  Calls Tryd.prog 11 #[] w fun e w' => e = .returned (.bool r) ∧ Below w.heap.size w w' := by
 have HB := Aside0.mk (Below.refl w.heap.size w)
 have HG := Aside0.mk hG
 clear hG
 have H : ((dn_Parse.f k (⟨#[67, 78, 61, 65, 110, 110, 32, 92, 44, 32, 66, 32, 43, 32, 115, 110, 61, 120, 32, 44, 32, 111, 117, 61, 80, 101, 111, 112, 108, 101]⟩ : ByteArray)).bind fun bt353 => ((dn_Print.f k bt353.1).bind fun bt357 => (if bt353.2 = 0 then (if bt357.2 = 0 then (if bt357.1.toList = ([99, 110, 61, 65, 110, 110, 32, 92, 44, 32, 66, 43, 115, 110, 61, 120, 44, 111, 117, 61, 80, 101, 111, 112, 108, 101] : List UInt8) then (if (bt353.1.length : Int) = 2 then (if 0 < (bt353.1.length : Int) then (some (((rd_L7 bt353.1 0).length : Int) == 2)) else (none)) else (some false)) else (some false)) else (some false)) else (some false)))) = some r := h
 clear h
 replace H := Option.bind_eq_some_iff.mp H
 obtain ⟨⟨t353, t354⟩, A10, H⟩ := H
 replace H : ((dn_Print.f k t353).bind fun bt357 => (if t354 = 0 then (if bt357.2 = 0 then (if bt357.1.toList = ([99, 110, 61, 65, 110, 110, 32, 92, 44, 32, 66, 43, 115, 110, 61, 120, 44, 111, 117, 61, 80, 101, 111, 112, 108, 101] : List UInt8) then (if (t353.length : Int) = 2 then (if 0 < (t353.length : Int) then (some (((rd_L7 t353 0).length : Int) == 2)) else (none)) else (some false)) else (some false)) else (some false)) else (some false))) = some r := H
 have A1 := Aside0.mk A10
 clear A10
 replace H := Option.bind_eq_some_iff.mp H
 obtain ⟨⟨t357, t358⟩, A20, H⟩ := H
 replace H : (if t354 = 0 then (if t358 = 0 then (if t357.toList = ([99, 110, 61, 65, 110, 110, 32, 92, 44, 32, 66, 43, 115, 110, 61, 120, 44, 111, 117, 61, 80, 101, 111, 112, 108, 101] : List UInt8) then (if (t353.length : Int) = 2 then (if 0 < (t353.length : Int) then (some (((rd_L7 t353 0).length : Int) == 2)) else (none)) else (some false)) else (some false)) else (some false)) else (some false)) = some r := H
 have A2 := Aside0.mk A20
 clear A20
 by_cases c3 : t354 = 0
 ·
  rw [if_pos c3] at H
  have c3b0 : (t354 == 0) = true := beq_iff_eq.mpr c3
  have c3b1 : (t354 != 0) = false := bne_eq_false_iff_eq.mpr c3
  clear c3
  by_cases c4 : t358 = 0
  ·
   rw [if_pos c4] at H
   have c4b0 : (t358 == 0) = true := beq_iff_eq.mpr c4
   have c4b1 : (t358 != 0) = false := bne_eq_false_iff_eq.mpr c4
   clear c4
   by_cases c5 : t357.toList = ([99, 110, 61, 65, 110, 110, 32, 92, 44, 32, 66, 43, 115, 110, 61, 120, 44, 111, 117, 61, 80, 101, 111, 112, 108, 101] : List UInt8)
   ·
    rw [if_pos c5] at H
    have c5b0 : (t357.toList == ([99, 110, 61, 65, 110, 110, 32, 92, 44, 32, 66, 43, 115, 110, 61, 120, 44, 111, 117, 61, 80, 101, 111, 112, 108, 101] : List UInt8)) = true := beq_iff_eq.mpr c5
    have c5b1 : (t357.toList != ([99, 110, 61, 65, 110, 110, 32, 92, 44, 32, 66, 43, 115, 110, 61, 120, 44, 111, 117, 61, 80, 101, 111, 112, 108, 101] : List UInt8)) = false := bne_eq_false_iff_eq.mpr c5
    clear c5
    by_cases c6 : (t353.length : Int) = 2
    ·
     rw [if_pos c6] at H
     have c6b0 : ((t353.length : Int) == 2) = true := beq_iff_eq.mpr c6
     have c6b1 : ((t353.length : Int) != 2) = false := bne_eq_false_iff_eq.mpr c6
     clear c6
     by_cases c7 : 0 < (t353.length : Int)
     ·
      rw [if_pos c7] at H
      have c7b0 := decide_eq_true c7
      have c7b1 : decide (0 < t353.length) = true := decide_eq_true (by omega)
      clear c7
      obtain rfl := Option.some.inj H
      go_enter Tryd.func11, Tryd.ntmps11
      go_wp2_with (first | ((with_reducible refine gate_callee (f := 12) rfl ?_); refine goesL_ (some 6) rfl rfl Tryd.func12 (by kernel_rfl) rfl #[.string (⟨#[67, 78, 61, 65, 110, 110, 32, 92, 44, 32, 66, 32, 43, 32, 115, 110, 61, 120, 32, 44, 32, 111, 117, 61, 80, 101, 111, 112, 108, 101]⟩ : ByteArray)] rfl ap3 ?_; (with_reducible refine (dn_Parse.calls k (⟨#[67, 78, 61, 65, 110, 110, 32, 92, 44, 32, 66, 32, 43, 32, 115, 110, 61, 120, 32, 44, 32, 111, 117, 61, 80, 101, 111, 112, 108, 101]⟩ : ByteArray) t353 t354 _ ?side1 A1.out).mono ?_); (case side1 => exact ap6); rintro e w8 ⟨v355, rfl, ho0, hb⟩; refine ⟨_, rfl, ?_⟩; have n0_ := Aside0.mk (Kd.S_lower ho0 (below_size ap1)); have n1_ := Aside0.mk (below_step ap1 hb); clear HB; have HO356 := n0_; have HB := n1_; clear n0_ n1_; (try clear hb); (try clear hb2); (try clear hk); (try clear hi); (try clear ho0); obtain ⟨Ao9, co9, eo9⟩ := Kd.S_slice HO356.out; subst eo9) | ((with_reducible refine gate_callee (f := 16) rfl ?_); refine goesL_ (some 11) rfl rfl Tryd.func16 (by kernel_rfl) rfl #[.slice Ao9 t353.length co9] rfl ap3 ?_; (with_reducible refine (dn_Print.calls k _ _ t353 t357 t358 _ ?side1 ?side2 ?side3 A2.out).mono ?_); (case side1 => repeat (first | exact (Kd.S_reads' HO356.out).2.2 | (with_reducible refine Kd.C_alloc ?_ _) | (with_reducible refine Kd.C_drewN ?_ _) | (with_reducible refine Kd.C_drew ?_))); (case side2 => exact (Kd.S_reads' HO356.out).2.1); (case side3 => exact ap6); rintro e w10 ⟨rfl, hb⟩; refine ⟨_, rfl, ?_⟩; have n0_ := Aside0.mk (Kd.S_below (apAS HO356.out) hb); have n1_ := Aside0.mk (below_step ap1 hb); clear HO356; clear HB; have HO356 := n0_; have HB := n1_; clear n0_ n1_; (try clear hb); (try clear hb2); (try clear hk); (try clear hi); have p359 : 0 ≤ (0 : Int) := (by omega); have q359 : 0 < (t353.length : Int) := of_decide_eq_true ap0; obtain ⟨ad359, A359_0, c359_0, e359, hx359_0, hl359_0, hi359_0⟩ := at_L7 (Kd.S_reads' HO356.out).2.2 0 p359 q359; cases e359; obtain ⟨ce359, hce359, hMe359, hcc359⟩ := Kd.S_get HO356.out [] 0 p359 (by first | exact q359 | exact of_decide_eq_true ap0 | (have e_ := (Kd.S_reads' HO356.out).1; omega)); obtain ⟨ve359_0, rfl, ge359_0⟩ := hMe359; have hv359_0 := hcc359 0 _ rfl; rw [Nat.add_zero, show ((Kd.slice 40 k40)).sz = 1 from rfl, Nat.mul_one] at hv359_0; replace hv359_0 := Option.some.inj (hv359_0.symm.trans hx359_0); rw [hv359_0] at ge359_0; have HL359_0 := Aside0.mk (show Kd.R k40 40 _ _ _ _ (rd_L7 t353 0) from ge359_0); clear hv359_0 ge359_0; clear hcc359 hce359; have qi359 : (0 < t353.length) = True := eq_true (by omega); (try rw [show ((0 : Int)).toNat = 0 from rfl] at hx359_0); (try rw [Addr.add_zero'] at hx359_0); have HR359_0 := Aside0.mk hi359_0; have HC359_0 := Aside0.mk hl359_0; clear hi359_0 hl359_0; replace p359 := eq_true p359; replace q359 := eq_true q359))
      go_ret
      exact ⟨by first | rfl | (simp [errW_none, errW_some, bne_nil8, beq_nil8]; done) | (simp [errW_none, errW_some] <;> rfl) | (simp [*, errW_none, errW_some] <;> rfl), by repeat (first | (with_reducible first | exact HB.out | apply below_alloc | apply pw_below_drewN | apply below_drew1) | exact HB.out)⟩
     ·
      rw [if_neg c7] at H
      exact absurd H (by simp)
    ·
     rw [if_neg c6] at H
     have c6b0 : ((t353.length : Int) == 2) = false := beq_eq_false_iff_ne.mpr c6
     have c6b1 : ((t353.length : Int) != 2) = true := bne_iff_ne.mpr c6
     obtain rfl := Option.some.inj H
     go_enter Tryd.func11, Tryd.ntmps11
     go_wp2_with (first | ((with_reducible refine gate_callee (f := 12) rfl ?_); refine goesL_ (some 6) rfl rfl Tryd.func12 (by kernel_rfl) rfl #[.string (⟨#[67, 78, 61, 65, 110, 110, 32, 92, 44, 32, 66, 32, 43, 32, 115, 110, 61, 120, 32, 44, 32, 111, 117, 61, 80, 101, 111, 112, 108, 101]⟩ : ByteArray)] rfl ap3 ?_; (with_reducible refine (dn_Parse.calls k (⟨#[67, 78, 61, 65, 110, 110, 32, 92, 44, 32, 66, 32, 43, 32, 115, 110, 61, 120, 32, 44, 32, 111, 117, 61, 80, 101, 111, 112, 108, 101]⟩ : ByteArray) t353 t354 _ ?side1 A1.out).mono ?_); (case side1 => exact ap6); rintro e w11 ⟨v355, rfl, ho0, hb⟩; refine ⟨_, rfl, ?_⟩; have n0_ := Aside0.mk (Kd.S_lower ho0 (below_size ap1)); have n1_ := Aside0.mk (below_step ap1 hb); clear HB; have HO356 := n0_; have HB := n1_; clear n0_ n1_; (try clear hb); (try clear hb2); (try clear hk); (try clear hi); (try clear ho0); obtain ⟨Ao12, co12, eo12⟩ := Kd.S_slice HO356.out; subst eo12) | ((with_reducible refine gate_callee (f := 16) rfl ?_); refine goesL_ (some 11) rfl rfl Tryd.func16 (by kernel_rfl) rfl #[.slice Ao12 t353.length co12] rfl ap3 ?_; (with_reducible refine (dn_Print.calls k _ _ t353 t357 t358 _ ?side1 ?side2 ?side3 A2.out).mono ?_); (case side1 => repeat (first | exact (Kd.S_reads' HO356.out).2.2 | (with_reducible refine Kd.C_alloc ?_ _) | (with_reducible refine Kd.C_drewN ?_ _) | (with_reducible refine Kd.C_drew ?_))); (case side2 => exact (Kd.S_reads' HO356.out).2.1); (case side3 => exact ap6); rintro e w13 ⟨rfl, hb⟩; refine ⟨_, rfl, ?_⟩; have n0_ := Aside0.mk (Kd.S_below (apAS HO356.out) hb); have n1_ := Aside0.mk (below_step ap1 hb); clear HO356; clear HB; have HO356 := n0_; have HB := n1_; clear n0_ n1_; (try clear hb); (try clear hb2); (try clear hk); (try clear hi)))
     go_ret
     exact ⟨by first | rfl | (simp [errW_none, errW_some, bne_nil8, beq_nil8]; done) | (simp [errW_none, errW_some] <;> rfl) | (simp [*, errW_none, errW_some] <;> rfl), by repeat (first | (with_reducible first | exact HB.out | apply below_alloc | apply pw_below_drewN | apply below_drew1) | exact HB.out)⟩
   ·
    rw [if_neg c5] at H
    have c5b0 : (t357.toList == ([99, 110, 61, 65, 110, 110, 32, 92, 44, 32, 66, 43, 115, 110, 61, 120, 44, 111, 117, 61, 80, 101, 111, 112, 108, 101] : List UInt8)) = false := beq_eq_false_iff_ne.mpr c5
    have c5b1 : (t357.toList != ([99, 110, 61, 65, 110, 110, 32, 92, 44, 32, 66, 43, 115, 110, 61, 120, 44, 111, 117, 61, 80, 101, 111, 112, 108, 101] : List UInt8)) = true := bne_iff_ne.mpr c5
    obtain rfl := Option.some.inj H
    go_enter Tryd.func11, Tryd.ntmps11
    go_wp2_with (first | ((with_reducible refine gate_callee (f := 12) rfl ?_); refine goesL_ (some 6) rfl rfl Tryd.func12 (by kernel_rfl) rfl #[.string (⟨#[67, 78, 61, 65, 110, 110, 32, 92, 44, 32, 66, 32, 43, 32, 115, 110, 61, 120, 32, 44, 32, 111, 117, 61, 80, 101, 111, 112, 108, 101]⟩ : ByteArray)] rfl ap3 ?_; (with_reducible refine (dn_Parse.calls k (⟨#[67, 78, 61, 65, 110, 110, 32, 92, 44, 32, 66, 32, 43, 32, 115, 110, 61, 120, 32, 44, 32, 111, 117, 61, 80, 101, 111, 112, 108, 101]⟩ : ByteArray) t353 t354 _ ?side1 A1.out).mono ?_); (case side1 => exact ap6); rintro e w14 ⟨v355, rfl, ho0, hb⟩; refine ⟨_, rfl, ?_⟩; have n0_ := Aside0.mk (Kd.S_lower ho0 (below_size ap1)); have n1_ := Aside0.mk (below_step ap1 hb); clear HB; have HO356 := n0_; have HB := n1_; clear n0_ n1_; (try clear hb); (try clear hb2); (try clear hk); (try clear hi); (try clear ho0); obtain ⟨Ao15, co15, eo15⟩ := Kd.S_slice HO356.out; subst eo15) | ((with_reducible refine gate_callee (f := 16) rfl ?_); refine goesL_ (some 11) rfl rfl Tryd.func16 (by kernel_rfl) rfl #[.slice Ao15 t353.length co15] rfl ap3 ?_; (with_reducible refine (dn_Print.calls k _ _ t353 t357 t358 _ ?side1 ?side2 ?side3 A2.out).mono ?_); (case side1 => repeat (first | exact (Kd.S_reads' HO356.out).2.2 | (with_reducible refine Kd.C_alloc ?_ _) | (with_reducible refine Kd.C_drewN ?_ _) | (with_reducible refine Kd.C_drew ?_))); (case side2 => exact (Kd.S_reads' HO356.out).2.1); (case side3 => exact ap6); rintro e w16 ⟨rfl, hb⟩; refine ⟨_, rfl, ?_⟩; have n0_ := Aside0.mk (Kd.S_below (apAS HO356.out) hb); have n1_ := Aside0.mk (below_step ap1 hb); clear HO356; clear HB; have HO356 := n0_; have HB := n1_; clear n0_ n1_; (try clear hb); (try clear hb2); (try clear hk); (try clear hi)))
    go_ret
    exact ⟨by first | rfl | (simp [errW_none, errW_some, bne_nil8, beq_nil8]; done) | (simp [errW_none, errW_some] <;> rfl) | (simp [*, errW_none, errW_some] <;> rfl), by repeat (first | (with_reducible first | exact HB.out | apply below_alloc | apply pw_below_drewN | apply below_drew1) | exact HB.out)⟩
  ·
   rw [if_neg c4] at H
   have c4b0 : (t358 == 0) = false := beq_eq_false_iff_ne.mpr c4
   have c4b1 : (t358 != 0) = true := bne_iff_ne.mpr c4
   obtain rfl := Option.some.inj H
   go_enter Tryd.func11, Tryd.ntmps11
   go_wp2_with (first | ((with_reducible refine gate_callee (f := 12) rfl ?_); refine goesL_ (some 6) rfl rfl Tryd.func12 (by kernel_rfl) rfl #[.string (⟨#[67, 78, 61, 65, 110, 110, 32, 92, 44, 32, 66, 32, 43, 32, 115, 110, 61, 120, 32, 44, 32, 111, 117, 61, 80, 101, 111, 112, 108, 101]⟩ : ByteArray)] rfl ap3 ?_; (with_reducible refine (dn_Parse.calls k (⟨#[67, 78, 61, 65, 110, 110, 32, 92, 44, 32, 66, 32, 43, 32, 115, 110, 61, 120, 32, 44, 32, 111, 117, 61, 80, 101, 111, 112, 108, 101]⟩ : ByteArray) t353 t354 _ ?side1 A1.out).mono ?_); (case side1 => exact ap6); rintro e w17 ⟨v355, rfl, ho0, hb⟩; refine ⟨_, rfl, ?_⟩; have n0_ := Aside0.mk (Kd.S_lower ho0 (below_size ap1)); have n1_ := Aside0.mk (below_step ap1 hb); clear HB; have HO356 := n0_; have HB := n1_; clear n0_ n1_; (try clear hb); (try clear hb2); (try clear hk); (try clear hi); (try clear ho0); obtain ⟨Ao18, co18, eo18⟩ := Kd.S_slice HO356.out; subst eo18) | ((with_reducible refine gate_callee (f := 16) rfl ?_); refine goesL_ (some 11) rfl rfl Tryd.func16 (by kernel_rfl) rfl #[.slice Ao18 t353.length co18] rfl ap3 ?_; (with_reducible refine (dn_Print.calls k _ _ t353 t357 t358 _ ?side1 ?side2 ?side3 A2.out).mono ?_); (case side1 => repeat (first | exact (Kd.S_reads' HO356.out).2.2 | (with_reducible refine Kd.C_alloc ?_ _) | (with_reducible refine Kd.C_drewN ?_ _) | (with_reducible refine Kd.C_drew ?_))); (case side2 => exact (Kd.S_reads' HO356.out).2.1); (case side3 => exact ap6); rintro e w19 ⟨rfl, hb⟩; refine ⟨_, rfl, ?_⟩; have n0_ := Aside0.mk (Kd.S_below (apAS HO356.out) hb); have n1_ := Aside0.mk (below_step ap1 hb); clear HO356; clear HB; have HO356 := n0_; have HB := n1_; clear n0_ n1_; (try clear hb); (try clear hb2); (try clear hk); (try clear hi)))
   go_ret
   exact ⟨by first | rfl | (simp [errW_none, errW_some, bne_nil8, beq_nil8]; done) | (simp [errW_none, errW_some] <;> rfl) | (simp [*, errW_none, errW_some] <;> rfl), by repeat (first | (with_reducible first | exact HB.out | apply below_alloc | apply pw_below_drewN | apply below_drew1) | exact HB.out)⟩
 ·
  rw [if_neg c3] at H
  have c3b0 : (t354 == 0) = false := beq_eq_false_iff_ne.mpr c3
  have c3b1 : (t354 != 0) = true := bne_iff_ne.mpr c3
  obtain rfl := Option.some.inj H
  go_enter Tryd.func11, Tryd.ntmps11
  go_wp2_with (first | ((with_reducible refine gate_callee (f := 12) rfl ?_); refine goesL_ (some 6) rfl rfl Tryd.func12 (by kernel_rfl) rfl #[.string (⟨#[67, 78, 61, 65, 110, 110, 32, 92, 44, 32, 66, 32, 43, 32, 115, 110, 61, 120, 32, 44, 32, 111, 117, 61, 80, 101, 111, 112, 108, 101]⟩ : ByteArray)] rfl ap3 ?_; (with_reducible refine (dn_Parse.calls k (⟨#[67, 78, 61, 65, 110, 110, 32, 92, 44, 32, 66, 32, 43, 32, 115, 110, 61, 120, 32, 44, 32, 111, 117, 61, 80, 101, 111, 112, 108, 101]⟩ : ByteArray) t353 t354 _ ?side1 A1.out).mono ?_); (case side1 => exact ap6); rintro e w20 ⟨v355, rfl, ho0, hb⟩; refine ⟨_, rfl, ?_⟩; have n0_ := Aside0.mk (Kd.S_lower ho0 (below_size ap1)); have n1_ := Aside0.mk (below_step ap1 hb); clear HB; have HO356 := n0_; have HB := n1_; clear n0_ n1_; (try clear hb); (try clear hb2); (try clear hk); (try clear hi); (try clear ho0); obtain ⟨Ao21, co21, eo21⟩ := Kd.S_slice HO356.out; subst eo21) | ((with_reducible refine gate_callee (f := 16) rfl ?_); refine goesL_ (some 11) rfl rfl Tryd.func16 (by kernel_rfl) rfl #[.slice Ao21 t353.length co21] rfl ap3 ?_; (with_reducible refine (dn_Print.calls k _ _ t353 t357 t358 _ ?side1 ?side2 ?side3 A2.out).mono ?_); (case side1 => repeat (first | exact (Kd.S_reads' HO356.out).2.2 | (with_reducible refine Kd.C_alloc ?_ _) | (with_reducible refine Kd.C_drewN ?_ _) | (with_reducible refine Kd.C_drew ?_))); (case side2 => exact (Kd.S_reads' HO356.out).2.1); (case side3 => exact ap6); rintro e w22 ⟨rfl, hb⟩; refine ⟨_, rfl, ?_⟩; have n0_ := Aside0.mk (Kd.S_below (apAS HO356.out) hb); have n1_ := Aside0.mk (below_step ap1 hb); clear HO356; clear HB; have HO356 := n0_; have HB := n1_; clear n0_ n1_; (try clear hb); (try clear hb2); (try clear hk); (try clear hi)))
  go_ret
  exact ⟨by first | rfl | (simp [errW_none, errW_some, bne_nil8, beq_nil8]; done) | (simp [errW_none, errW_some] <;> rfl) | (simp [*, errW_none, errW_some] <;> rfl), by repeat (first | (with_reducible first | exact HB.out | apply below_alloc | apply pw_below_drewN | apply below_drew1) | exact HB.out)⟩
end Go.Proofs.YtkklacijhmoopaaDoor.Print
namespace Go.Proofs.YtkklacijhmoopaaDoor.Print
open Go.RowKit Go.Proofs.YtkklacijhmoopaaDoorW.PrintWords Go.Proofs.YtkklacijhmoopaaDoorW.PrintLast Go.Proofs.YtkklacijhmoopaaDoorW.PrintMore Go.Proofs.YtkklacijhmoopaaDoor.Pure
def exT : List UInt8 := [67, 78, 61, 65, 110, 110, 32, 92, 44, 32, 66, 32, 43, 32, 115, 110, 61, 120, 32, 44, 32, 111, 117, 61, 80, 101, 111, 112, 108, 101]
def exN : List (List Pr) := [[([99, 110], [65, 110, 110, 32, 44, 32, 66]), ([115, 110], [120])], [([111, 117], [80, 101, 111, 112, 108, 101])]]
set_option maxRecDepth 100000 in
theorem exN_read : ((signs exT).bind fun L => goP L [] [] []) = some exN := by decide +kernel
set_option maxRecDepth 100000 in
theorem exN_ok : nameOk (mkN exN) = true := by decide +kernel
theorem exN_short : shortP exN := by unfold shortP exN; decide
theorem exN_text : nameText exN = [99, 110, 61, 65, 110, 110, 32, 92, 44, 32, 66, 43, 115, 110, 61, 120, 44, 111, 117, 61, 80, 101, 111, 112, 108, 101] := by decide +kernel
theorem awake15_ev : Ev (fun k => L15awake.f k) true := by
  obtain ⟨z1, z2, z3⟩ := sz_short exN_short
  obtain ⟨_, _, _, p4⟩ := parse_ev (mkB exT) (by rw [mkB_size]; decide)
  have hp := p4 (by rw [mkB_size]; decide) (by decide) exN _ exN_read (right_ev (mkN exN) z1 z2)
  have hq := print_ev exN exN_short
  rw [exN_ok, if_pos rfl] at hp hq
  have hf : fin (nameText exN) = (mkB [99, 110, 61, 65, 110, 110, 32, 92, 44, 32, 66, 43, 115, 110, 61, 120, 44, 111, 117, 61, 80, 101, 111, 112, 108, 101], 0) := by
    unfold fin; rw [exN_text, if_neg (by decide)]
  rw [hf] at hq
  unfold L15awake.f
  refine Ev.bind hp (Ev.bind hq (Ev.pos rfl (Ev.pos rfl (Ev.pos ?_ (Ev.pos rfl (Ev.pos (by decide) Ev.rfl'))))))
  rw [Lib.toList_data]
end Go.Proofs.YtkklacijhmoopaaDoor.Print
namespace Go.Proofs.YtkklacijhmoopaaDoor.Print
open Go.RowKit Go.Proofs.YtkklacijhmoopaaDoorW.PrintWords Go.Proofs.YtkklacijhmoopaaDoorW.PrintLast Go.Proofs.YtkklacijhmoopaaDoorW.PrintMore
attribute [local go_sem] max2_int min2_int max_two min_two max_three min_three max_four min_four
set_option linter.unusedVariables false
set_option linter.unusedSimpArgs false
def dn_Depth.f (l0 : List (List (S40))) : Option (Int) := some (l0.length : Int)
set_option maxHeartbeats 8000000 in
set_option maxRecDepth 100000 in
theorem dn_Depth.calls (A0 : Option Addr) (c0 : Nat) (l0 : List (List (S40))) (r : Int) (w : World) (hr0 : Kd.C (Kd.slice 40 k40) w A0 l0.length l0) (hc0 : l0.length ≤ c0) (h : dn_Depth.f l0 = some r) :
  Calls Tryd.prog 20 #[.slice A0 l0.length c0] w fun e w' => e = .returned (.int .i64 r) ∧ Drawn0 w w' := by
 have HR0 := Aside0.mk hr0
 have HC0 := Aside0.mk hc0
 clear hr0 hc0
 have H : (some (l0.length : Int)) = some r := h
 clear h
 obtain rfl := Option.some.inj H
 go_enter Tryd.func20, Tryd.ntmps20
 go_wp2
 go_ret
 exact ⟨ap2, ap7⟩
def L15DnPrints.j0 : Nat → List (List (S40)) → ByteArray → Int → Bool → Option (Bool)
 | 0, _, _, _, _ => none
 | k + 1, x0, x3, x4, x44 => if x44 = true then (some false) else (if x4 = 0 then ((dn_Parse.f k x3).bind fun bt654 => (if bt654.2 = 0 then ((R15Equal.f k bt654.1 x0).bind fun t658 => (some t658)) else (some false))) else (some (x3.toList == ([] : List UInt8))))
def L15DnPrints.f (k : Nat) (l0 : List (List (S40))) : Option (Bool) := (L15awake.f k).bind fun t645 => (if t645 = true then ((L15Long.f k l0).bind fun t646 => (if t646 = true then (some true) else ((dn_Print.f k l0).bind fun bt647 => ((R15Print.f k l0).bind fun bt649 => (if bt647.1.toList = bt649.1.toList then (if bt647.2 = bt649.2 then ((dn_Right.f k l0).bind fun t651 => ((R15Right.f k l0).bind fun t652 => (if (t651 != t652) = true then (L15DnPrints.j0 k l0 bt647.1 bt647.2 true) else ((dn_Depth.f l0).bind fun t653 => (L15DnPrints.j0 k l0 bt647.1 bt647.2 (t653 != (l0.length : Int))))))) else (L15DnPrints.j0 k l0 bt647.1 bt647.2 true)) else (L15DnPrints.j0 k l0 bt647.1 bt647.2 true)))))) else (some false))
set_option maxHeartbeats 8000000 in
set_option maxRecDepth 100000 in
theorem L15DnPrints.calls (k : Nat) (A0 : Option Addr) (c0 : Nat) (l0 : List (List (S40))) (r : Bool) (w : World) (hr0 : Kd.C (Kd.slice 40 k40) w A0 l0.length l0) (hc0 : l0.length ≤ c0) (hG : Gw w) (h : L15DnPrints.f k l0 = some r) :
  Calls Tryd.prog 5 #[.slice A0 l0.length c0] w fun e w' => e = .returned (.bool r) ∧ Below w.heap.size w w' := by
 have HR0 := Aside0.mk hr0
 have HC0 := Aside0.mk hc0
 clear hr0 hc0
 have HB := Aside0.mk (Below.refl w.heap.size w)
 have HG := Aside0.mk hG
 clear hG
 have H : ((L15awake.f k).bind fun t645 => (if t645 = true then ((L15Long.f k l0).bind fun t646 => (if t646 = true then (some true) else ((dn_Print.f k l0).bind fun bt647 => ((R15Print.f k l0).bind fun bt649 => (if bt647.1.toList = bt649.1.toList then (if bt647.2 = bt649.2 then ((dn_Right.f k l0).bind fun t651 => ((R15Right.f k l0).bind fun t652 => (if (t651 != t652) = true then (L15DnPrints.j0 k l0 bt647.1 bt647.2 true) else ((dn_Depth.f l0).bind fun t653 => (L15DnPrints.j0 k l0 bt647.1 bt647.2 (t653 != (l0.length : Int))))))) else (L15DnPrints.j0 k l0 bt647.1 bt647.2 true)) else (L15DnPrints.j0 k l0 bt647.1 bt647.2 true)))))) else (some false))) = some r := h
 clear h
 replace H := Option.bind_eq_some_iff.mp H
 obtain ⟨t645, A20, H⟩ := H
 replace H : (if t645 = true then ((L15Long.f k l0).bind fun t646 => (if t646 = true then (some true) else ((dn_Print.f k l0).bind fun bt647 => ((R15Print.f k l0).bind fun bt649 => (if bt647.1.toList = bt649.1.toList then (if bt647.2 = bt649.2 then ((dn_Right.f k l0).bind fun t651 => ((R15Right.f k l0).bind fun t652 => (if (t651 != t652) = true then (L15DnPrints.j0 k l0 bt647.1 bt647.2 true) else ((dn_Depth.f l0).bind fun t653 => (L15DnPrints.j0 k l0 bt647.1 bt647.2 (t653 != (l0.length : Int))))))) else (L15DnPrints.j0 k l0 bt647.1 bt647.2 true)) else (L15DnPrints.j0 k l0 bt647.1 bt647.2 true)))))) else (some false)) = some r := H
 have A2 := Aside0.mk A20
 clear A20
 by_cases c3 : t645 = true
 ·
  subst c3
  rw [if_pos rfl] at H
  replace H := Option.bind_eq_some_iff.mp H
  obtain ⟨t646, A40, H⟩ := H
  replace H : (if t646 = true then (some true) else ((dn_Print.f k l0).bind fun bt647 => ((R15Print.f k l0).bind fun bt649 => (if bt647.1.toList = bt649.1.toList then (if bt647.2 = bt649.2 then ((dn_Right.f k l0).bind fun t651 => ((R15Right.f k l0).bind fun t652 => (if (t651 != t652) = true then (L15DnPrints.j0 k l0 bt647.1 bt647.2 true) else ((dn_Depth.f l0).bind fun t653 => (L15DnPrints.j0 k l0 bt647.1 bt647.2 (t653 != (l0.length : Int))))))) else (L15DnPrints.j0 k l0 bt647.1 bt647.2 true)) else (L15DnPrints.j0 k l0 bt647.1 bt647.2 true))))) = some r := H
  have A4 := Aside0.mk A40
  clear A40
  by_cases c5 : t646 = true
  ·
   subst c5
   rw [if_pos rfl] at H
   obtain rfl := Option.some.inj H
   go_enter Tryd.func5, Tryd.ntmps5
   go_wp2_with (first | ((with_reducible refine gate_callee (f := 11) rfl ?_); refine goesL_ (some 9) rfl rfl Tryd.func11 (by kernel_rfl) rfl #[] rfl ap3 ?_; (with_reducible refine (L15awake.calls k  true _ ?side1 A2.out).mono ?_); (case side1 => exact ap6); rintro e w6 ⟨rfl, hb⟩; refine ⟨_, rfl, ?_⟩; have n0_ := Aside0.mk (below_step ap1 hb); clear HB; have HB := n0_; clear n0_; (try clear hb); (try clear hb2); (try clear hk); (try clear hi)) | ((with_reducible refine gate_callee (f := 15) rfl ?_); refine goesL_ (some 12) rfl rfl Tryd.func15 (by kernel_rfl) rfl #[.slice A0 l0.length c0] rfl ap3 ?_; (with_reducible refine (L15Long.calls k _ _ l0 true _ ?side1 ?side2 A4.out).mono ?_); (case side1 => repeat (first | exact (Kd.C_below HR0.out HB.out) | (with_reducible refine Kd.C_alloc ?_ _) | (with_reducible refine Kd.C_drewN ?_ _) | (with_reducible refine Kd.C_drew ?_))); (case side2 => exact HC0.out); rintro e w' ⟨rfl, ⟨nd, rfl⟩⟩; refine ⟨_, rfl, ?_⟩))
   go_ret
   exact ⟨by first | rfl | (simp [errW_none, errW_some, bne_nil8, beq_nil8]; done) | (simp [errW_none, errW_some] <;> rfl) | (simp [*, errW_none, errW_some] <;> rfl), by repeat (first | (with_reducible first | exact HB.out | apply below_alloc | apply pw_below_drewN | apply below_drew1) | exact HB.out)⟩
  ·
   replace c5 := Bool.eq_false_iff.mpr c5
   subst c5
   rw [if_neg (show ¬ (false = true) by decide)] at H
   replace H := Option.bind_eq_some_iff.mp H
   obtain ⟨⟨t647, t648⟩, A70, H⟩ := H
   replace H : ((R15Print.f k l0).bind fun bt649 => (if t647.toList = bt649.1.toList then (if t648 = bt649.2 then ((dn_Right.f k l0).bind fun t651 => ((R15Right.f k l0).bind fun t652 => (if (t651 != t652) = true then (L15DnPrints.j0 k l0 t647 t648 true) else ((dn_Depth.f l0).bind fun t653 => (L15DnPrints.j0 k l0 t647 t648 (t653 != (l0.length : Int))))))) else (L15DnPrints.j0 k l0 t647 t648 true)) else (L15DnPrints.j0 k l0 t647 t648 true))) = some r := H
   have A7 := Aside0.mk A70
   clear A70
   replace H := Option.bind_eq_some_iff.mp H
   obtain ⟨⟨t649, t650⟩, A80, H⟩ := H
   replace H : (if t647.toList = t649.toList then (if t648 = t650 then ((dn_Right.f k l0).bind fun t651 => ((R15Right.f k l0).bind fun t652 => (if (t651 != t652) = true then (L15DnPrints.j0 k l0 t647 t648 true) else ((dn_Depth.f l0).bind fun t653 => (L15DnPrints.j0 k l0 t647 t648 (t653 != (l0.length : Int))))))) else (L15DnPrints.j0 k l0 t647 t648 true)) else (L15DnPrints.j0 k l0 t647 t648 true)) = some r := H
   have A8 := Aside0.mk A80
   clear A80
   have HC9 := Aside0.mk H
   clear H
   go_enter Tryd.func5, Tryd.ntmps5
   go_upto_region 7 with (first | ((with_reducible refine gate_callee (f := 11) rfl ?_); refine goesL_ (some 9) rfl rfl Tryd.func11 (by kernel_rfl) rfl #[] rfl ap3 ?_; (with_reducible refine (L15awake.calls k  true _ ?side1 A2.out).mono ?_); (case side1 => exact ap6); rintro e w10 ⟨rfl, hb⟩; refine ⟨_, rfl, ?_⟩; have n0_ := Aside0.mk (below_step ap1 hb); clear HB; have HB := n0_; clear n0_; (try clear hb); (try clear hb2); (try clear hk); (try clear hi)) | ((with_reducible refine gate_callee (f := 15) rfl ?_); refine goesL_ (some 12) rfl rfl Tryd.func15 (by kernel_rfl) rfl #[.slice A0 l0.length c0] rfl ap3 ?_; (with_reducible refine (L15Long.calls k _ _ l0 false _ ?side1 ?side2 A4.out).mono ?_); (case side1 => repeat (first | exact (Kd.C_below HR0.out HB.out) | (with_reducible refine Kd.C_alloc ?_ _) | (with_reducible refine Kd.C_drewN ?_ _) | (with_reducible refine Kd.C_drew ?_))); (case side2 => exact HC0.out); rintro e w' ⟨rfl, ⟨nd, rfl⟩⟩; refine ⟨_, rfl, ?_⟩) | ((with_reducible refine gate_callee (f := 16) rfl ?_); refine goesL_ (some 15) rfl rfl Tryd.func16 (by kernel_rfl) rfl #[.slice A0 l0.length c0] rfl ap3 ?_; (with_reducible refine (dn_Print.calls k _ _ l0 t647 t648 _ ?side1 ?side2 ?side3 A7.out).mono ?_); (case side1 => repeat (first | exact (Kd.C_below HR0.out ap1) | (with_reducible refine Kd.C_alloc ?_ _) | (with_reducible refine Kd.C_drewN ?_ _) | (with_reducible refine Kd.C_drew ?_))); (case side2 => exact HC0.out); (case side3 => exact ap6); rintro e w11 ⟨rfl, hb⟩; refine ⟨_, rfl, ?_⟩; have n0_ := Aside0.mk (below_step ap1 hb); clear HB; have HB := n0_; clear n0_; (try clear hb); (try clear hb2); (try clear hk); (try clear hi)) | ((with_reducible refine gate_callee (f := 17) rfl ?_); refine goesL_ (some 20) rfl rfl Tryd.func17 (by kernel_rfl) rfl #[.slice A0 l0.length c0] rfl ap3 ?_; (with_reducible refine (R15Print.calls k _ _ l0 t649 t650 _ ?side1 ?side2 A8.out).mono ?_); (case side1 => repeat (first | exact (Kd.C_below HR0.out HB.out) | (with_reducible refine Kd.C_alloc ?_ _) | (with_reducible refine Kd.C_drewN ?_ _) | (with_reducible refine Kd.C_drew ?_))); (case side2 => exact HC0.out); rintro e w12 ⟨rfl, hb⟩; refine ⟨_, rfl, ?_⟩; have n0_ := Aside0.mk (below_step ap1 hb); clear HB; have HB := n0_; clear n0_; (try clear hb); (try clear hb2); (try clear hk); (try clear hi)))
   (try simp only [Act.put, List.setIfInBounds_toArray, List.set_cons_zero, List.set_cons_succ])
   go_cut [44] (fun v44 wc => ∃ (kq : Nat) (x44_8 : Bool), v44 = .bool x44_8 ∧ Aside0 (L15DnPrints.j0 kq l0 t647 t648 x44_8 = some r) ∧ Aside0 (kq ≤ k) ∧ Aside0 (Below w.heap.size w wc))
   case first =>
    have H := HC9.out
    clear HC9
    by_cases c13 : t647.toList = t649.toList
    ·
     rw [if_pos c13] at H
     have c13b0 : (t647.toList == t649.toList) = true := beq_iff_eq.mpr c13
     have c13b1 : (t647.toList != t649.toList) = false := bne_eq_false_iff_eq.mpr c13
     clear c13
     (first | rw [c13b0] | (simp only [i64_w, i32_w]; rw [c13b0]) | skip)
     by_cases c14 : t648 = t650
     ·
      rw [if_pos c14] at H
      have c14b0 : (t648 == t650) = true := beq_iff_eq.mpr c14
      have c14b1 : (t648 != t650) = false := bne_eq_false_iff_eq.mpr c14
      clear c14
      replace H := Option.bind_eq_some_iff.mp H
      obtain ⟨t651, A150, H⟩ := H
      replace H : ((R15Right.f k l0).bind fun t652 => (if (t651 != t652) = true then (L15DnPrints.j0 k l0 t647 t648 true) else ((dn_Depth.f l0).bind fun t653 => (L15DnPrints.j0 k l0 t647 t648 (t653 != (l0.length : Int)))))) = some r := H
      have A15 := Aside0.mk A150
      clear A150
      replace H := Option.bind_eq_some_iff.mp H
      obtain ⟨t652, A160, H⟩ := H
      replace H : (if (t651 != t652) = true then (L15DnPrints.j0 k l0 t647 t648 true) else ((dn_Depth.f l0).bind fun t653 => (L15DnPrints.j0 k l0 t647 t648 (t653 != (l0.length : Int))))) = some r := H
      have A16 := Aside0.mk A160
      clear A160
      by_cases c17 : (t651 != t652) = true
      ·
       rw [if_pos c17] at H
       have c17b0 : (t651 != t652) = true := c17
       (try (have c17b1 : decide (t651 = t652) = false := by simpa using c17))
       (try (have c17b2 : (t651 == t652) = false := by simpa using c17))
       (try (have c17b3 : ¬ (t651 = t652) := by simpa using c17))
       clear c17
       have H' := Aside0.mk H
       clear H
       go_wp2_with (first | (go_at_call 18; (with_reducible refine (dn_Right.calls k _ _ l0 t651 _ ?side1 ?side2 ?side3 A15.out).mono ?_); (case side1 => repeat (first | exact (Kd.C_below HR0.out HB.out) | (with_reducible refine Kd.C_alloc ?_ _) | (with_reducible refine Kd.C_drewN ?_ _) | (with_reducible refine Kd.C_drew ?_))); (case side2 => exact HC0.out); (case side3 => exact ap6); rintro e w18 ⟨rfl, hb⟩; have n0_ := Aside0.mk (below_step ap1 hb); clear HB; have HB := n0_; clear n0_; (try clear hb); (try clear hb2); (try clear hk); (try clear hi)) | (go_at_call 19; (with_reducible refine (R15Right.calls k _ _ l0 t652 _ ?side1 ?side2 A16.out).mono ?_); (case side1 => repeat (first | exact (Kd.C_below HR0.out HB.out) | (with_reducible refine Kd.C_alloc ?_ _) | (with_reducible refine Kd.C_drewN ?_ _) | (with_reducible refine Kd.C_drew ?_))); (case side2 => exact HC0.out); rintro e w19 ⟨rfl, hb⟩; have n0_ := Aside0.mk (below_step ap1 hb); clear HB; have HB := n0_; clear n0_; (try clear hb); (try clear hb2); (try clear hk); (try clear hi)))
       first | go_meet | (simp only [c14b0] at *; go_meet) | (simp only [c13b0] at *; go_meet)
       case rel => exact ⟨_, (true), ap2, H', ⟨by first | omega | exact Nat.le_refl _⟩, ⟨by repeat (first | (with_reducible first | exact HB.out | apply below_alloc | apply pw_below_drewN | apply below_drew1) | exact HB.out)⟩⟩
      ·
       rw [if_neg c17] at H
       have c17b0 : (t651 != t652) = false := by simpa using c17
       (try (have c17b1 : decide (t651 = t652) = true := by simpa using c17))
       (try (have c17b2 : (t651 == t652) = true := by simpa using c17))
       clear c17
       replace H := Option.bind_eq_some_iff.mp H
       obtain ⟨t653, A200, H⟩ := H
       replace H : (L15DnPrints.j0 k l0 t647 t648 (t653 != (l0.length : Int))) = some r := H
       have A20 := Aside0.mk A200
       clear A200
       have H' := Aside0.mk H
       clear H
       go_wp2_with (first | (go_at_call 18; (with_reducible refine (dn_Right.calls k _ _ l0 t651 _ ?side1 ?side2 ?side3 A15.out).mono ?_); (case side1 => repeat (first | exact (Kd.C_below HR0.out HB.out) | (with_reducible refine Kd.C_alloc ?_ _) | (with_reducible refine Kd.C_drewN ?_ _) | (with_reducible refine Kd.C_drew ?_))); (case side2 => exact HC0.out); (case side3 => exact ap6); rintro e w21 ⟨rfl, hb⟩; have n0_ := Aside0.mk (below_step ap1 hb); clear HB; have HB := n0_; clear n0_; (try clear hb); (try clear hb2); (try clear hk); (try clear hi)) | (go_at_call 19; (with_reducible refine (R15Right.calls k _ _ l0 t652 _ ?side1 ?side2 A16.out).mono ?_); (case side1 => repeat (first | exact (Kd.C_below HR0.out HB.out) | (with_reducible refine Kd.C_alloc ?_ _) | (with_reducible refine Kd.C_drewN ?_ _) | (with_reducible refine Kd.C_drew ?_))); (case side2 => exact HC0.out); rintro e w22 ⟨rfl, hb⟩; have n0_ := Aside0.mk (below_step ap1 hb); clear HB; have HB := n0_; clear n0_; (try clear hb); (try clear hb2); (try clear hk); (try clear hi)) | (go_at_call 20; (with_reducible refine (dn_Depth.calls _ _ l0 t653 _ ?side1 ?side2 A20.out).mono ?_); (case side1 => repeat (first | exact (Kd.C_below HR0.out HB.out) | (with_reducible refine Kd.C_alloc ?_ _) | (with_reducible refine Kd.C_drewN ?_ _) | (with_reducible refine Kd.C_drew ?_))); (case side2 => exact HC0.out); rintro e w' ⟨rfl, ⟨nd, rfl⟩⟩))
       first | go_meet | (simp only [c14b0] at *; go_meet) | (simp only [c13b0] at *; go_meet)
       case rel => exact ⟨_, ((t653 != (l0.length : Int))), ap2, H', ⟨by first | omega | exact Nat.le_refl _⟩, ⟨by repeat (first | (with_reducible first | exact HB.out | apply below_alloc | apply pw_below_drewN | apply below_drew1) | exact HB.out)⟩⟩
     ·
      rw [if_neg c14] at H
      have c14b0 : (t648 == t650) = false := beq_eq_false_iff_ne.mpr c14
      have c14b1 : (t648 != t650) = true := bne_iff_ne.mpr c14
      have H' := Aside0.mk H
      clear H
      go_wp2
      first | go_meet | (simp only [c14b0] at *; go_meet) | (simp only [c14b0] at *; go_meet) | (simp only [c13b0] at *; go_meet)
      case rel => exact ⟨_, (true), ap2, H', ⟨by first | omega | exact Nat.le_refl _⟩, ⟨by repeat (first | (with_reducible first | exact HB.out | apply below_alloc | apply pw_below_drewN | apply below_drew1) | exact HB.out)⟩⟩
    ·
     rw [if_neg c13] at H
     have c13b0 : (t647.toList == t649.toList) = false := beq_eq_false_iff_ne.mpr c13
     have c13b1 : (t647.toList != t649.toList) = true := bne_iff_ne.mpr c13
     (first | rw [c13b0] | (simp only [i64_w, i32_w]; rw [c13b0]) | skip)
     have H' := Aside0.mk H
     clear H
     go_wp2
     first | go_meet | (simp only [c13b0] at *; go_meet) | (simp only [c14b0] at *; go_meet) | (simp only [c14b0] at *; go_meet)
     case rel => exact ⟨_, (true), ap2, H', ⟨by first | omega | exact Nat.le_refl _⟩, ⟨by repeat (first | (with_reducible first | exact HB.out | apply below_alloc | apply pw_below_drewN | apply below_drew1) | exact HB.out)⟩⟩
   case rest =>
    clear HC9
    try clear c1
    try clear p2
    try clear c3
    try clear c5
    try clear c11
    try clear c13
    try clear c13b0
    try clear c13b1
    try clear c14
    try clear c14b0
    try clear c14b1
    try clear c15
    try clear c16
    try clear c17
    try clear c17b0
    try clear c17b1
    try clear c17b2
    obtain ⟨kq, x44_8, rfl, HA, HJ8, HB⟩ := hcut
    cases kq with
    | zero => exact absurd HA.out (by simp [L15DnPrints.j0])
    | succ kj8 =>
     have H := HA.out
     clear HA
     simp only [L15DnPrints.j0] at H
     by_cases c23 : x44_8 = true
     ·
      subst c23
      rw [if_pos rfl] at H
      obtain rfl := Option.some.inj H
      go_wp2
      go_ret
      exact ⟨by first | rfl | (simp [errW_none, errW_some, bne_nil8, beq_nil8]; done) | (simp [errW_none, errW_some] <;> rfl) | (simp [*, errW_none, errW_some] <;> rfl), by repeat (first | (with_reducible first | exact HB.out | apply below_alloc | apply pw_below_drewN | apply below_drew1) | exact HB.out)⟩
     ·
      replace c23 := Bool.eq_false_iff.mpr c23
      subst c23
      rw [if_neg (show ¬ (false = true) by decide)] at H
      by_cases c24 : t648 = 0
      ·
       rw [if_pos c24] at H
       have c24b0 : (t648 == 0) = true := beq_iff_eq.mpr c24
       have c24b1 : (t648 != 0) = false := bne_eq_false_iff_eq.mpr c24
       clear c24
       replace H := Option.bind_eq_some_iff.mp H
       obtain ⟨⟨t654, t655⟩, A250, H⟩ := H
       replace H : (if t655 = 0 then ((R15Equal.f kj8 t654 l0).bind fun t658 => (some t658)) else (some false)) = some r := H
       have A25 := Aside0.mk A250
       clear A250
       by_cases c26 : t655 = 0
       ·
        rw [if_pos c26] at H
        have c26b0 : (t655 == 0) = true := beq_iff_eq.mpr c26
        have c26b1 : (t655 != 0) = false := bne_eq_false_iff_eq.mpr c26
        clear c26
        replace H := Option.bind_eq_some_iff.mp H
        obtain ⟨t658, A270, H⟩ := H
        replace H : (some t658) = some r := H
        have A27 := Aside0.mk A270
        clear A270
        obtain rfl := Option.some.inj H
        go_wp2_with (first | ((with_reducible refine gate_callee (f := 12) rfl ?_); refine goesL_ (some 51) rfl rfl Tryd.func12 (by kernel_rfl) rfl #[.string t647] rfl ap3 ?_; (with_reducible refine (dn_Parse.calls kj8 t647 t654 t655 _ ?side1 A25.out).mono ?_); (case side1 => exact ap6); rintro e w28 ⟨v656, rfl, ho0, hb⟩; refine ⟨_, rfl, ?_⟩; have n0_ := Aside0.mk (Kd.S_lower ho0 (below_size ap1)); have n1_ := Aside0.mk (below_step ap1 hb); clear HB; have HO657 := n0_; have HB := n1_; clear n0_ n1_; (try clear hb); (try clear hb2); (try clear hk); (try clear hi); (try clear ho0); obtain ⟨Ao29, co29, eo29⟩ := Kd.S_slice HO657.out; subst eo29) | (go_at_call 14; (with_reducible refine (R15Equal.calls kj8 _ _ t654 _ _ l0 t658 _ ?side1 ?side2 ?side3 ?side4 A27.out).mono ?_); (case side1 => repeat (first | exact (Kd.S_reads' HO657.out).2.2 | (with_reducible refine Kd.C_alloc ?_ _) | (with_reducible refine Kd.C_drewN ?_ _) | (with_reducible refine Kd.C_drew ?_))); (case side2 => exact (Kd.S_reads' HO657.out).2.1); (case side3 => repeat (first | exact (Kd.C_below HR0.out HB.out) | (with_reducible refine Kd.C_alloc ?_ _) | (with_reducible refine Kd.C_drewN ?_ _) | (with_reducible refine Kd.C_drew ?_))); (case side4 => exact HC0.out); rintro e w' ⟨rfl, ⟨nd, rfl⟩⟩))
        go_ret
        exact ⟨by first | rfl | (simp [errW_none, errW_some, bne_nil8, beq_nil8]; done) | (simp [errW_none, errW_some] <;> rfl) | (simp [*, errW_none, errW_some] <;> rfl), by repeat (first | (with_reducible first | exact HB.out | apply below_alloc | apply pw_below_drewN | apply below_drew1) | exact HB.out)⟩
       ·
        rw [if_neg c26] at H
        have c26b0 : (t655 == 0) = false := beq_eq_false_iff_ne.mpr c26
        have c26b1 : (t655 != 0) = true := bne_iff_ne.mpr c26
        obtain rfl := Option.some.inj H
        go_wp2_with (first | ((with_reducible refine gate_callee (f := 12) rfl ?_); refine goesL_ (some 51) rfl rfl Tryd.func12 (by kernel_rfl) rfl #[.string t647] rfl ap3 ?_; (with_reducible refine (dn_Parse.calls kj8 t647 t654 t655 _ ?side1 A25.out).mono ?_); (case side1 => exact ap6); rintro e w30 ⟨v656, rfl, ho0, hb⟩; refine ⟨_, rfl, ?_⟩; have n0_ := Aside0.mk (Kd.S_lower ho0 (below_size ap1)); have n1_ := Aside0.mk (below_step ap1 hb); clear HB; have HO657 := n0_; have HB := n1_; clear n0_ n1_; (try clear hb); (try clear hb2); (try clear hk); (try clear hi); (try clear ho0)))
        go_ret
        exact ⟨by first | rfl | (simp [errW_none, errW_some, bne_nil8, beq_nil8]; done) | (simp [errW_none, errW_some] <;> rfl) | (simp [*, errW_none, errW_some] <;> rfl), by repeat (first | (with_reducible first | exact HB.out | apply below_alloc | apply pw_below_drewN | apply below_drew1) | exact HB.out)⟩
      ·
       rw [if_neg c24] at H
       have c24b0 : (t648 == 0) = false := beq_eq_false_iff_ne.mpr c24
       have c24b1 : (t648 != 0) = true := bne_iff_ne.mpr c24
       obtain rfl := Option.some.inj H
       go_wp2
       go_ret
       exact ⟨by first | rfl | (simp [errW_none, errW_some, bne_nil8, beq_nil8]; done) | (simp [errW_none, errW_some] <;> rfl) | (simp [*, errW_none, errW_some] <;> rfl), by repeat (first | (with_reducible first | exact HB.out | apply below_alloc | apply pw_below_drewN | apply below_drew1) | exact HB.out)⟩
 ·
  replace c3 := Bool.eq_false_iff.mpr c3
  subst c3
  rw [if_neg (show ¬ (false = true) by decide)] at H
  obtain rfl := Option.some.inj H
  go_enter Tryd.func5, Tryd.ntmps5
  go_wp2_with (first | ((with_reducible refine gate_callee (f := 11) rfl ?_); refine goesL_ (some 9) rfl rfl Tryd.func11 (by kernel_rfl) rfl #[] rfl ap3 ?_; (with_reducible refine (L15awake.calls k  false _ ?side1 A2.out).mono ?_); (case side1 => exact ap6); rintro e w31 ⟨rfl, hb⟩; refine ⟨_, rfl, ?_⟩; have n0_ := Aside0.mk (below_step ap1 hb); clear HB; have HB := n0_; clear n0_; (try clear hb); (try clear hb2); (try clear hk); (try clear hi)))
  go_ret
  exact ⟨by first | rfl | (simp [errW_none, errW_some, bne_nil8, beq_nil8]; done) | (simp [errW_none, errW_some] <;> rfl) | (simp [*, errW_none, errW_some] <;> rfl), by repeat (first | (with_reducible first | exact HB.out | apply below_alloc | apply pw_below_drewN | apply below_drew1) | exact HB.out)⟩
end Go.Proofs.YtkklacijhmoopaaDoor.Print
namespace Go.Proofs.YtkklacijhmoopaaDoor.Print
open Go.RowKit Go.Proofs.YtkklacijhmoopaaDoorW.PrintWords Go.Proofs.YtkklacijhmoopaaDoorW.PrintLast Go.Proofs.YtkklacijhmoopaaDoorW.PrintMore Go.Proofs.YtkklacijhmoopaaDoor.Pure
theorem short_of {n : List (List AvaS)} (h : okLs n n) : shortP (ofN n) := by
  refine ⟨by unfold ofN; rw [List.length_map]; exact h.1, fun l hl => ?_⟩
  obtain ⟨x, hx, rfl⟩ := List.mem_map.1 hl
  obtain ⟨h1, h2⟩ := h.2 x hx
  refine ⟨by rw [List.length_map]; exact h1, fun a ha => ?_⟩
  obtain ⟨y, hy, rfl⟩ := List.mem_map.1 ha
  obtain ⟨k1, k2⟩ := h2 y hy
  exact ⟨by rw [show (ofA y).1 = bl y.f0 from rfl, bl_length]; exact k1, by rw [show (ofA y).2 = bl y.f1 from rfl, bl_length]; exact k2⟩
theorem DnPrints_main (n : List (List AvaS)) : ∃ k, L15DnPrints.f k n = some true := by
  refine Ev.some' ?_
  unfold L15DnPrints.f
  refine Ev.bind awake15_ev (Ev.pos rfl ?_)
  obtain ⟨b, hb, hb2⟩ := long_ev n
  refine Ev.bind hb ?_
  cases b with
  | true => exact Ev.pos rfl Ev.rfl'
  | false =>
    refine Ev.neg (by simp) ?_
    have hP := short_of (hb2 rfl)
    have hm := mk_of n
    have h1 := print_ev _ hP
    have h2 := refprint_ev _ hP
    obtain ⟨z1, z2, z3⟩ := sz_short hP
    rw [hm] at h1 h2 z1 z2 z3
    have h3 := right_ev n z1 z2
    have h4 := refRight_ev n z1 z2
    refine Ev.bind h1 (Ev.bind h2 (Ev.pos rfl (Ev.pos rfl (Ev.bind h3 (Ev.bind h4 (Ev.neg (by simp) ?_))))))
    refine Ev.bindc rfl ?_
    rw [show ((n.length : Int) != (n.length : Int)) = false by simp]
    refine Ev.step (fun k => by rw [L15DnPrints.j0]) ?_
    refine Ev.neg (by simp) ?_
    cases hn : nameOk n with
    | false =>
      rw [if_neg (by simp)]
      refine Ev.neg (show ¬ ((4 : Int) = 0) by decide) ?_
      rw [Lib.toList_data]; exact Ev.rfl'
    | true =>
      rw [if_pos rfl]
      unfold fin
      by_cases hl : (nameText (ofN n)).length > 1000
      · rw [if_pos hl]
        refine Ev.neg (show ¬ ((5 : Int) = 0) by decide) ?_
        rw [Lib.toList_data]; exact Ev.rfl'
      · rw [if_neg hl]
        have hb := back_ev (ofN n) hP (by rw [hm]; exact hn) (by omega)
        rw [hm] at hb
        exact Ev.pos rfl (Ev.bind hb (Ev.pos rfl (Ev.bind (equal_ev n z1 z3) Ev.rfl')))
end Go.Proofs.YtkklacijhmoopaaDoor.Print
namespace Go
variable {H : Type} {enc : TypeId × Value → H}
theorem handed_laid {a : Assume} {C : Checked} {os : Os} {f : FuncId} {fn : Func} {s : ChangeSpec} {conds : List PathCond} {apart fresh handsOn again : Bool} {X : World → Array Value → Prop}
    (hX : ∀ (w w' : World) (args : Array Value), w.heap = w'.heap → X w args → X w' args)
    (own : ownKnob C.prog.godebug = none) (started : os.Started) (noInit : C.prog.inits.idxOf? f = none) (hfn : C.prog.funcs[f]? = some fn)
    (witness : ∃ (w : World) (tape : Tape) (i : Input), w.os = os ∧ (w.forCall tape i).Shaped C.prog ∧ i.vars = [] ∧ Input.okWide C.prog (w.forCall tape i) .any w.heap.size f i ∧
      ((s.pre enc C.prog fn conds apart (w.forCall tape i).memory i.args ∧ X (w.forCall tape i).memory i.args) ∧ sizedMet enc C.prog fn (OpenSpec.ofChange s) apart (w.forCall tape i).memory i.args) ∧ a.holds C.prog (lone (Frame.enter C.prog f i.args .normal) [] (w.forCall tape i)))
    (contract : ∀ (W : World) (base : Nat) (args : Array Value) (ds gs : List (DataW H)) (before : List MemPlace),
      (∀ (j : Nat) t v, fn.params[j]? = some t → args[j]? = some v → Value.okWide C.prog W .any base t v) →
      DataW.Whole enc C.prog fn.params.toList s.vars apart W args.toList ds gs before →
      conds.all (PathCond.test C.prog ⟨fn.params.toList, ds, s.plain.varTypes C.prog, gs⟩) = true →
      (DataW.weightsEach C.prog (fn.params.toList ++ s.plain.varTypes C.prog) (ds ++ gs)).all (· ≤ reachBytes) = true → X W args →
      W.ShapedOpen C.prog →
      a.holds C.prog (lone (Frame.enter C.prog f args .normal) [] W) →
      Calls C.prog f args W fun e W' => ∃ v, e = .returned v ∧ s.post enc C.prog fn apart fresh handsOn again W args v W') :
    ReturnsInHanded a C os f .any (fun w args => (s.pre enc C.prog fn conds apart w args ∧ X w args) ∧ sizedMet enc C.prog fn (OpenSpec.ofChange s) apart w args) (s.post enc C.prog fn apart fresh handsOn again) := by
  refine returnsInHanded_of_calls own started noInit witness ?_
  intro w tape i _ hsh _ hok hpre hholds
  obtain ⟨_, _, _, fn', hfn', _, _, _, _, hval⟩ := hok
  have e : fn' = fn := Option.some.inj (hfn'.symm.trans hfn)
  subst e
  obtain ⟨⟨⟨ds, gs, before, hw, hc⟩, hx⟩, hz⟩ := hpre
  have hw' := DataW.Whole.of_heap (w' := w.forCall tape i) (by rfl) hw
  refine (contract (w.forCall tape i) w.heap.size i.args ds gs before hval hw' hc (hz.weights hw) (hX _ _ _ (by rfl) hx) hsh hholds).mono fun e W' ⟨v, he, hp⟩ => ?_
  subst he
  exact ChangeSpec.post_blind hp
end Go
namespace Go.Proofs.YtkklacijhmoopaaDoor
open Go.ChangeShapes Go.WideShapes Go.ChangeAt Go.RowKit
open Go.ChangeMaps (open_string shut_string)
set_option maxRecDepth 100000
theorem own : ownKnob Tryd.prog.godebug = none := by kernel_rfl
def laid2 : List (String × DataW Unit) := [("unicode/utf8.acceptRanges", Rows.laid_unicode_utf8_acceptRanges), ("unicode/utf8.first", Rows.laid_unicode_utf8_first)]
theorem first_is : (Rows.laid_unicode_utf8_first : DataW Unit) = Lib.firstData := by kernel_rfl
theorem accept_is : (Rows.laid_unicode_utf8_acceptRanges : DataW Unit) = Lib.acceptData := by kernel_rfl
def ren : Go.Shelf.Ren := ⟨fun n => n, fun | 5 => 5 | 119 => 158 | 138 => 160 | 139 => 161 | n => n, fun | 3 => 1 | 4 => 2 | n => n⟩
theorem u8types : U8Types Tryd.prog ren := { t5 := Tryd.underlying5, t119 := Tryd.underlying158, t138 := Tryd.underlying160, t139 := Tryd.underlying161 }
theorem u8extra : U8Extra Tryd.prog ren := { n3 := by kernel_rfl, n4 := by kernel_rfl, y3 := by kernel_rfl, y4 := by kernel_rfl, c5 := by kernel_rfl, c119 := by kernel_rfl, c138 := by kernel_rfl }
theorem gw_of {W : World} (hsh : W.ShapedOpen Tryd.prog) (hL : laidMetH Tryd.prog laid2 W) : Print.Gw W := by
  rw [MakeChecks.laidMetH_plain _ _ _ (by kernel_rfl)] at hL
  refine ⟨cell_of_shapedOpen_int (zero := #[.int .i64 0]) (t := 3) hsh (of_decide_eq_true (by kernel_rfl)) (by kernel_rfl) rfl (by kernel_rfl) (by kernel_rfl) Tryd.underlying3, ?_⟩
  refine utf8Tabs_of_readsT u8types u8extra ?_ ?_
  · rw [← first_is]; exact Lib.laidMet.reads hL (by simp [laid2])
  · rw [← accept_is]; exact Lib.laidMet.reads hL (by simp [laid2])
end Go.Proofs.YtkklacijhmoopaaDoor
namespace Go.Proofs.YtkklacijhmoopaaDoor.Opens
open Go.RowKit Go.Proofs.YtkklacijhmoopaaDoorW.PrintWords
set_option linter.unusedVariables false
def Opens (P : Program) {α : Type} (t : TypeId) (d : Kd α) : Prop :=
  ∀ {H : Type} (enc : TypeId × Value → H) (w : World) (base : Nat) (spare : Nat → Bool) (held : Bool) (fuel : Nat) (cs : List Value) (x : DataW H × List MemPlace), DataW.trod enc P w base spare held fuel t cs = some x → ∃ a, d.K w a cs
theorem opens_string {P : Program} {t : TypeId} (h : P.underlying t = some .string) : Opens P t Kd.string := by
  intro H enc w base spare held fuel cs x hx
  obtain ⟨s, rfl, _⟩ := DataW.trod_string h hx
  exact ⟨s, rfl⟩
theorem opens_iso {P : Program} {α β : Type} {t : TypeId} {d : Kd α} (f : β → α) (g : α → β) (hg : ∀ a, f (g a) = a) (h : Opens P t d) : Opens P t (Kd.iso d f) := by
  intro H enc w base spare held fuel cs x hx
  obtain ⟨a, ha⟩ := h enc w base spare held fuel cs x hx
  exact ⟨g a, by show d.K w (f (g a)) cs; rw [hg]; exact ha⟩
theorem opens_two {P : Program} {α β : Type} {t : TypeId} {f0 f1 : Field} {d0 : Kd α} {d1 : Kd β} (h : P.underlying t = some (.struct #[f0, f1])) (o0 : f0.offset = 0) (o1 : f1.offset = P.cellsOf f0.type) (hc : P.cellsOf t = P.cellsOf f0.type + P.cellsOf f1.type)
    (h0 : Opens P f0.type d0) (h1 : Opens P f1.type d1) : Opens P t (Kd.pair d0 d1) := by
  intro H enc w base spare held fuel cs x hx
  obtain ⟨xs, n, _, _, hl, hn, hf⟩ := DataW.trod_struct h hx
  have k0 := hf 0 f0 rfl
  have k1 := hf 1 f1 rfl
  have hn2 : xs.length = 2 := hn
  rw [List.getElem?_eq_getElem (by omega)] at k0 k1
  rw [o0, List.drop_zero] at k0
  rw [o1] at k1
  obtain ⟨a, ha⟩ := h0 enc w base spare held n _ _ k0
  obtain ⟨b, hb⟩ := h1 enc w base spare held n _ _ k1
  refine ⟨(a, b), _, _, ?_, ha, hb⟩
  conv => lhs; rw [← List.take_append_drop (P.cellsOf f0.type) cs]
  congr 1
  rw [List.take_of_length_le]
  rw [List.length_drop]; omega
theorem cells_at {w : World} {base : Nat} {a : Addr} {n : Nat} {cs : List Value} (h : w.cells? base a n = some cs) : cs.length = n ∧ ∀ i u, cs[i]? = some u → w.cell? (a.add i) = some u := by
  obtain ⟨_, hl, hc⟩ := World.cells?_some h
  exact ⟨hl, fun i u hu => by rw [hc i (by rw [← hl]; exact (List.getElem?_eq_some_iff.1 hu).1)]; exact hu⟩
theorem choose_list {α : Type} {p : Nat → α → Prop} : ∀ n : Nat, (∀ i, i < n → ∃ a, p i a) → ∃ l : List α, l.length = n ∧ ∀ i a, l[i]? = some a → p i a
  | 0, _ => ⟨[], rfl, fun i a h => by simp at h⟩
  | n + 1, h => by
    obtain ⟨l, hl, hp⟩ := choose_list n fun i hi => h i (by omega)
    obtain ⟨a, ha⟩ := h n (by omega)
    refine ⟨l ++ [a], by simp [hl], fun i b hb => ?_⟩
    by_cases hi : i < l.length
    · rw [List.getElem?_append_left hi] at hb; exact hp i b hb
    · rw [List.getElem?_append_right (by omega)] at hb
      have : i = n := by
        have := (List.getElem?_eq_some_iff.1 hb).1
        simp at this; omega
      subst this
      rw [hl, Nat.sub_self] at hb
      simp at hb; subst hb; exact ha
theorem opens_slice {P : Program} {α : Type} {t e : TypeId} {d : Kd α} (h : P.underlying t = some (.slice e)) (hc : P.cellsOf e = d.sz) (hd : Opens P e d) : Opens P t (Kd.slice e d) := by
  intro H enc w base spare held fuel cs x hx
  rcases DataW.trod_slice h hx with ⟨rfl, _⟩ | ⟨a, len, cap, elems, rest, n, _, rfl, _, _, hl, hm, hlen, hel, _, _⟩
  · exact ⟨[], none, 0, rfl, Nat.le_refl _, rfl, by simp, fun h => absurd h (by simp)⟩
  · obtain ⟨xs, hxl, hxs⟩ := choose_list (p := fun i y => ∃ c, c.length = d.sz ∧ d.K w y c ∧ ∀ j u, c[j]? = some u → w.cell? (a.add (i * d.sz + j)) = some u) len (fun i hi => by
      have := hel i hi
      rw [List.getElem?_eq_getElem (by omega)] at this
      obtain ⟨c, h1, h2⟩ := Option.bind_eq_some_iff.1 this
      obtain ⟨y, hy⟩ := hd enc w base spare held n _ _ h2
      obtain ⟨hcl, hcc⟩ := cells_at h1
      refine ⟨y, c, by omega, hy, fun j u hj => ?_⟩
      have := hcc j u hj
      rw [← this, hc, ← Go.Deep.add_add])
    refine ⟨xs, some a, cap, by rw [hxl], by omega, rfl, by have : maxLen = 9223372036854775807 := rfl; omega, fun _ => ⟨a, rfl, hxs⟩⟩
end Go.Proofs.YtkklacijhmoopaaDoor.Opens
