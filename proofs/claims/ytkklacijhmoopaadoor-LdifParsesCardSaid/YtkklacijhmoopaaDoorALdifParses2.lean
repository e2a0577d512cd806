-- laid together by pack.py (a program of this session)
import Derived.Test.YtkklacijhmoopaaDoorALdifParses1
namespace Go.Proofs.YtkklacijhmoopaaDoor.Print
open Go.RowKit Go.Proofs.YtkklacijhmoopaaDoorW.PrintWords Go.Proofs.YtkklacijhmoopaaDoorW.PrintLast Go.Proofs.YtkklacijhmoopaaDoorW.PrintMore
attribute [local go_sem] max2_int min2_int max_two min_two max_three min_three max_four min_four
set_option linter.unusedVariables false
set_option linter.unusedSimpArgs false
set_option maxHeartbeats 8000000 in
set_option maxRecDepth 100000 in
theorem ldif_Parse0.calls (k : Nat) (a0 : ByteArray) (r1 : List (S43)) (r2 : Int) (r3 : Int) (w : World) (hG : Gw w) (h : ldif_Parse0.f k a0 = some (r1, r2, r3)) :
    Calls Tryd.prog 8 #[.string a0] w fun e w' => ∃ v0_ : Value, e = .returned (.tuple #[v0_, .int .i64 r2, .int .i64 r3]) ∧ Kd.S k43 43 w' w.heap.size (fun _ => True) v0_ r1 ∧ Below w.heap.size w w' := by
  have hu49 := Tryd.underlying49
  have hu40 := Tryd.underlying40
  have hu43 := Tryd.underlying43
  have HB := Aside0.mk (Below.refl w.heap.size w)
  have HG := Aside0.mk hG
  clear hG
  have H : (if (a0.size : Int) > 100000 then (some (([] : List (S43)), 0, 5)) else ((ldif_lines.f k a0).bind fun bt149 => (if bt149.2.2 = true then (ldif_Parse0.l0 k ([] : List (S43)) false bt149.1 (bt149.1.length : Int) 0) else ((ldif_firstN.f k bt149.1 a0 bt149.2.1).bind fun t154 => (if t154 > 0 then (some (([] : List (S43)), t154, 4)) else (some (([] : List (S43)), bt149.2.1, 4))))))) = some (r1, r2, r3) := h
  clear h
  by_cases c2 : (a0.size : Int) > 100000
  · rw [if_pos c2] at H
    have c2b0 := decide_eq_true c2
    have c2b1 : decide (100000 < a0.size) = true := decide_eq_true (by omega)
    clear c2
    simp only [Option.some.injEq, Prod.mk.injEq] at H
    obtain ⟨rfl, rfl, rfl⟩ := H
    go_enter Tryd.func8, Tryd.ntmps8
    go_wp2
    go_ret3
    exact ⟨_, by first | rfl | (simp [errW_none, errW_some, bne_nil8, beq_nil8]; done) | (simp [errW_none, errW_some] <;> rfl) | (simp [*, errW_none, errW_some] <;> rfl), by first | exact Kd.S_nil _ _ _ _ _ | exact Kd.N_nil _ _ _ _ _ | exact Kd.V_nil _ _ _ _ _ | exact Kd.Q_nil _ _ _ _ _ | exact Kd.R_nil _ _ _ _ _, by repeat (first | (with_reducible first | exact HB.out | apply below_alloc | apply pw_below_drewN | apply below_drew1) | exact HB.out)⟩
  · rw [if_neg c2] at H
    have c2b0 := decide_eq_false c2
    have c2b1 : decide (100000 < a0.size) = false := decide_eq_false (by omega)
    clear c2
    replace H := Option.bind_eq_some_iff.mp H
    obtain ⟨⟨t149, t150, t151⟩, A30, H⟩ := H
    replace H : (if t151 = true then (ldif_Parse0.l0 k ([] : List (S43)) false t149 (t149.length : Int) 0) else ((ldif_firstN.f k t149 a0 t150).bind fun t154 => (if t154 > 0 then (some (([] : List (S43)), t154, 4)) else (some (([] : List (S43)), t150, 4))))) = some (r1, r2, r3) := H
    have A3 := Aside0.mk A30
    clear A30
    by_cases c4 : t151 = true
    · subst c4
      rw [if_pos rfl] at H
      have H' := Aside0.mk H
      clear H
      go_enter Tryd.func8, Tryd.ntmps8
      go_wp2_with (first | ((with_reducible refine gate_callee (f := 25) rfl ?_); refine goesL_ (some 20) rfl rfl Tryd.func25 (by kernel_rfl) rfl #[.string a0] rfl (by (try simp only [List.map_toArray, List.map_cons, List.map_nil]); first | done | rfl | (simp only [List.length_drop, List.length_take]; rfl)) ?_; (with_reducible refine (ldif_lines.calls k a0 t149 t150 true _ ?side1 A3.out).mono ?_); (case side1 => first | exact HG.out | (refine Gw.below HG.out ?_; repeat (first | (with_reducible first | exact HB.out | apply below_alloc | apply pw_below_drewN | apply below_drew1) | exact HB.out))); rintro e w5 ⟨v152, rfl, ho0, hb⟩; refine ⟨_, rfl, ?_⟩; have n0_ := Aside0.mk (Kd.R_lower ho0 (below_size (by repeat (first | (with_reducible first | exact HB.out | apply below_alloc | apply pw_below_drewN | apply below_drew1) | exact HB.out)))); have n1_ := Aside0.mk (below_step (by repeat (first | (with_reducible first | exact HB.out | apply below_alloc | apply pw_below_drewN | apply below_drew1) | exact HB.out)) hb); clear HB; have HO153 := n0_; have HB := n1_; clear n0_ n1_; (try clear hb); (try clear hb2); (try clear hk); (try clear hi); (try clear ho0); obtain ⟨Ao6, co6, eo6⟩ := Kd.R_slice HO153.out; subst eo6))
      go_loopg [9, 10, 36] k (fun kq v9 v10 v36 w' => ∃ (x9_1 : List (S43)) (x10_1 : Bool) (x36_1 : Int), v10 = .bool x10_1 ∧ v36 = .int .i64 x36_1 ∧ Aside0 (ldif_Parse0.l0 kq x9_1 x10_1 t149 (t149.length : Int) x36_1 = some (r1, r2, r3)) ∧ Aside0 (kq ≤ k) ∧ Aside0 (Kd.S k43 43 w' w.heap.size (fun _ => True) v9 x9_1) ∧ Aside0 (Kd.R k49 49 w' w.heap.size (fun _ => True) (.slice Ao6 t149.length co6) t149) ∧ Aside0 (Below w.heap.size w w'))
      case atStart => exact ⟨(([] : List (S43))), (false), (0), (by first | rfl | (simp; done) | (simp [bne_nil8, beq_nil8]; done) | (simp [*]; done)), (by first | rfl | (simp; done) | (simp [bne_nil8, beq_nil8]; done) | (simp [*]; done)), H', ⟨Nat.le_refl _⟩, ⟨by first | exact Kd.S_nil _ _ _ _ _ | exact Kd.N_nil _ _ _ _ _ | exact Kd.V_nil _ _ _ _ _ | exact Kd.Q_nil _ _ _ _ _ | exact Kd.R_nil _ _ _ _ _⟩, ⟨by (with_reducible repeat (first | apply Kd.R_alloc | apply Kd.R_drewN | apply Kd.R_drew)); exact HO153.out⟩, ⟨by repeat (first | (with_reducible first | exact HB.out | apply below_alloc | apply pw_below_drewN | apply below_drew1) | exact HB.out)⟩⟩
      case round =>
        clear H'
        try clear c2
        try clear c2b0
        try clear c2b1
        try clear p2
        try clear c4
        obtain ⟨x9_1, x10_1, x36_1, rfl, rfl, HA, HK1, HO_9, HO_34, HB⟩ := hrel
        cases gk with
        | zero => exact absurd HA.out (by simp [ldif_Parse0.l0])
        | succ k1 =>
          have H := HA.out
          clear HA
          simp only [ldif_Parse0.l0] at H
          by_cases c7 : x36_1 < (t149.length : Int)
          · rw [if_pos c7] at H
            have c7b0 := decide_eq_true c7
            clear c7
            by_cases c8 : 0 ≤ x36_1
            · rw [if_pos c8] at H
              have c8b0 := decide_eq_true c8
              clear c8
              by_cases c9 : x36_1 < (t149.length : Int)
              · rw [if_pos c9] at H
                have c9b0 := decide_eq_true c9
                clear c9
                replace H := Option.bind_eq_some_iff.mp H
                obtain ⟨t157, A100, H⟩ := H
                replace H : (if t157 = true then (ldif_Parse0.j1 k1 x9_1 x10_1 t149 (t149.length : Int) x36_1 t157 ((rd_T49 t149 x36_1).f0) ((rd_T49 t149 x36_1).f1)) else (if x36_1 = 0 then (ldif_Parse0.j1 k1 x9_1 x10_1 t149 (t149.length : Int) x36_1 (((rd_T49 t149 x36_1).f0).toList == ([118, 101, 114, 115, 105, 111, 110, 58, 32, 49] : List UInt8)) ((rd_T49 t149 x36_1).f0) ((rd_T49 t149 x36_1).f1)) else (ldif_Parse0.j1 k1 x9_1 x10_1 t149 (t149.length : Int) x36_1 false ((rd_T49 t149 x36_1).f0) ((rd_T49 t149 x36_1).f1)))) = some (r1, r2, r3) := H
                have A10 := Aside0.mk A100
                clear A100
                have HC11 := Aside0.mk H
                clear H
                have p155 : 0 ≤ (x36_1 : Int) := of_decide_eq_true (by first | (with_reducible assumption) | assumption)
                have q155 : x36_1 < (t149.length : Int) := of_decide_eq_true (by first | (with_reducible assumption) | assumption)
                obtain ⟨ad155, e155, hx155_0, hx155_1⟩ := at_T49 (Kd.R_reads' HO_34.out).2.2 x36_1 p155 q155
                cases e155
                replace p155 := eq_true p155
                replace q155 := eq_true q155
                go_upto_if 41 with (first | ((with_reducible refine gate_dst (N := 12) rfl ?_); refine box_event ?hg (N := 12) ?hd (cs := #[.string (⟨#[]⟩ : ByteArray), .int .i64 0]) (t := 49) ?hr ?_; (case hd => rfl); (case hg => rfl); (case hr => first | (go_simp; done) | (go_simp; rfl)); intro gb156 hg w12 hbox hb; have n0_ := Aside0.mk (Kd.S_below (by (with_reducible repeat (first | apply Kd.S_alloc | apply Kd.S_drewN | apply Kd.S_drew)); exact HO_9.out) hb); have n1_ := Aside0.mk (Kd.R_below (Kd.R_elderB (by (with_reducible repeat (first | apply Kd.R_alloc | apply Kd.R_drewN | apply Kd.R_drew)); exact HO_34.out) gb156 (Nat.le_of_eq hg.symm)) hb); have n2_ := Aside0.mk (below_step (by repeat (first | (with_reducible first | exact HB.out | apply below_alloc | apply pw_below_drewN | apply below_drew1) | exact HB.out)) hb); have n3_ := Aside0.mk (hbox); have n4_ := Aside0.mk ((by rw [hg]; exact (below_size (by repeat (first | (with_reducible first | exact HB.out | apply below_alloc | apply pw_below_drewN | apply below_drew1) | exact HB.out))) : w.heap.size ≤ gb156)); have n5_ := Aside0.mk ((by rw [hg]; exact (below_size (by repeat (first | (with_reducible first | exact HB.out | apply below_alloc | apply pw_below_drewN | apply below_drew1) | exact HB.out))) : w.heap.size ≤ gb156)); clear HO_9; clear HO_34; clear HB; have HO_9 := n0_; have HO_34 := n1_; have HB := n2_; have BK156 := n3_; have GW156 := n4_; have GE156 := n5_; clear n0_ n1_ n2_ n3_ n4_ n5_; clear hb hbox hg; have hcz13_0 : w12.cell? ⟨gb156, 0, none⟩ = some (.string (⟨#[]⟩ : ByteArray)) := (blk_cell BK156.out 0).trans rfl; have hcz13_1 : w12.cell? ⟨gb156, 1, none⟩ = some (.int .i64 0) := (blk_cell BK156.out 1).trans rfl; have hfz13_0 := blk_frozen BK156.out 0; have hfz13_1 := blk_frozen BK156.out 1) | ((with_reducible refine gate_callee (f := 27) rfl ?_); refine goesL_ (some 44) rfl rfl Tryd.func27 (by kernel_rfl) rfl #[.string ((rd_T49 t149 x36_1).f0), .string (⟨#[35]⟩ : ByteArray)] rfl (by (try simp only [List.map_toArray, List.map_cons, List.map_nil]); first | done | rfl | (simp only [List.length_drop, List.length_take]; rfl)) ?_; (with_reducible refine (strings_HasPrefix.calls ((rd_T49 t149 x36_1).f0) (⟨#[35]⟩ : ByteArray) t157 _ A10.out).mono ?_); rintro e w' ⟨rfl, ⟨nd, rfl⟩⟩; refine ⟨_, rfl, ?_⟩))
                (try simp only [Act.put, List.setIfInBounds_toArray, List.set_cons_zero, List.set_cons_succ])
                go_cut [41] (fun v41 wc => ∃ (kq : Nat) (x41_10 : Bool), v41 = .bool x41_10 ∧ Aside0 (ldif_Parse0.j1 kq x9_1 x10_1 t149 (t149.length : Int) x36_1 x41_10 ((rd_T49 t149 x36_1).f0) ((rd_T49 t149 x36_1).f1) = some (r1, r2, r3)) ∧ Aside0 (kq ≤ k1) ∧ Aside0 (Kd.S k43 43 wc w.heap.size (fun _ => True) u9 x9_1) ∧ Aside0 (Kd.R k49 49 wc w.heap.size (fun k_ => k_ ≠ gb156) (.slice (some ad155) t149.length co6) t149) ∧ Aside0 (wc.heap[gb156]? = some (.cells #[.string ((rd_T49 t149 x36_1).f0), .int .i64 ((rd_T49 t149 x36_1).f1)] 49 (0, 0))) ∧ Aside0 (Below w.heap.size w wc))
                case first =>
                  have H := HC11.out
                  clear HC11
                  by_cases c14 : t157 = true
                  · subst c14
                    rw [if_pos rfl] at H
                    have H' := Aside0.mk H
                    clear H
                    go_wp2
                    go_meet
                    case rel => exact ⟨_, (true), (by first | rfl | (simp; done) | (simp [bne_nil8, beq_nil8]; done) | (simp [*]; done)), H', ⟨by have := HK1.out; first | omega | exact Nat.le_refl _⟩, ⟨by (with_reducible repeat (first | apply Kd.S_alloc | apply Kd.S_drewN | apply Kd.S_drew)); exact Kd.S_mono (Kd.S_far (p := ⟨gb156, 1, none⟩) (Kd.S_far (p := ⟨gb156, 0, none⟩) (Kd.S_types HO_9.out BK156.out (by decide)) (fun _ hk => hk.2) (.string ((rd_T49 t149 x36_1).f0))) (fun _ hk => hk.2) (.int .i64 ((rd_T49 t149 x36_1).f1))) (fun _ hk => trivial)⟩, ⟨by (with_reducible repeat (first | apply Kd.R_alloc | apply Kd.R_drewN | apply Kd.R_drew)); exact Kd.R_mono (Kd.R_far (p := ⟨gb156, 1, none⟩) (Kd.R_far (p := ⟨gb156, 0, none⟩) (Kd.R_mono HO_34.out (fun k_ hk => (⟨hk, hk.2⟩ : _ ∧ k_ ≠ gb156))) (fun _ hk => hk.2) (.string ((rd_T49 t149 x36_1).f0))) (fun _ hk => hk.2) (.int .i64 ((rd_T49 t149 x36_1).f1))) (fun _ hk => hk.1.2)⟩, ⟨by (with_reducible repeat (first | refine blk_drewN ?_ _ | refine blk_drew ?_ | refine blk_alloc ?_ _)); refine blk_put (cs := #[.string ((rd_T49 t149 x36_1).f0), .int .i64 0]) ?_ 1 _ rfl; (with_reducible repeat (first | refine blk_drewN ?_ _ | refine blk_drew ?_ | refine blk_alloc ?_ _)); refine blk_put (cs := #[.string (⟨#[]⟩ : ByteArray), .int .i64 0]) ?_ 0 _ rfl; (with_reducible repeat (first | refine blk_drewN ?_ _ | refine blk_drew ?_ | refine blk_alloc ?_ _)); exact BK156.out⟩, ⟨by repeat (first | (with_reducible first | exact HB.out | apply below_alloc | apply pw_below_drewN | apply below_drew1 | refine below_set ?_ GE156.out) | exact HB.out)⟩⟩
                  · replace c14 := Bool.eq_false_iff.mpr c14
                    subst c14
                    rw [if_neg (show ¬ (false = true) by decide)] at H
                    by_cases c15 : x36_1 = 0
                    · rw [if_pos c15] at H
                      have c15b0 : (x36_1 == 0) = true := beq_iff_eq.mpr c15
                      have c15b1 : (x36_1 != 0) = false := bne_eq_false_iff_eq.mpr c15
                      clear c15
                      (first | rw [c15b0] | (simp only [i64_w, i32_w]; rw [c15b0]) | skip)
                      have H' := Aside0.mk H
                      clear H
                      have hcz16_0 : w12.cell? ⟨gb156, 0, none⟩ = some (.string (⟨#[]⟩ : ByteArray)) := (blk_cell BK156.out 0).trans rfl
                      have hcz16_1 : w12.cell? ⟨gb156, 1, none⟩ = some (.int .i64 0) := (blk_cell BK156.out 1).trans rfl
                      have hfz16_0 := blk_frozen BK156.out 0
                      have hfz16_1 := blk_frozen BK156.out 1
                      go_wp2
                      first | go_meet | (simp only [c15b0] at *; go_meet)
                      case rel => exact ⟨_, ((((rd_T49 t149 x36_1).f0).toList == ([118, 101, 114, 115, 105, 111, 110, 58, 32, 49] : List UInt8))), (by first | rfl | (simp; done) | (simp [bne_nil8, beq_nil8]; done) | (simp [*]; done)), H', ⟨by have := HK1.out; first | omega | exact Nat.le_refl _⟩, ⟨by (with_reducible repeat (first | apply Kd.S_alloc | apply Kd.S_drewN | apply Kd.S_drew)); exact Kd.S_mono (Kd.S_far (p := ⟨gb156, 1, none⟩) (Kd.S_far (p := ⟨gb156, 0, none⟩) (Kd.S_types HO_9.out BK156.out (by decide)) (fun _ hk => hk.2) (.string ((rd_T49 t149 x36_1).f0))) (fun _ hk => hk.2) (.int .i64 ((rd_T49 t149 x36_1).f1))) (fun _ hk => trivial)⟩, ⟨by (with_reducible repeat (first | apply Kd.R_alloc | apply Kd.R_drewN | apply Kd.R_drew)); exact Kd.R_mono (Kd.R_far (p := ⟨gb156, 1, none⟩) (Kd.R_far (p := ⟨gb156, 0, none⟩) (Kd.R_mono HO_34.out (fun k_ hk => (⟨hk, hk.2⟩ : _ ∧ k_ ≠ gb156))) (fun _ hk => hk.2) (.string ((rd_T49 t149 x36_1).f0))) (fun _ hk => hk.2) (.int .i64 ((rd_T49 t149 x36_1).f1))) (fun _ hk => hk.1.2)⟩, ⟨by (with_reducible repeat (first | refine blk_drewN ?_ _ | refine blk_drew ?_ | refine blk_alloc ?_ _)); refine blk_put (cs := #[.string ((rd_T49 t149 x36_1).f0), .int .i64 0]) ?_ 1 _ rfl; (with_reducible repeat (first | refine blk_drewN ?_ _ | refine blk_drew ?_ | refine blk_alloc ?_ _)); refine blk_put (cs := #[.string (⟨#[]⟩ : ByteArray), .int .i64 0]) ?_ 0 _ rfl; (with_reducible repeat (first | refine blk_drewN ?_ _ | refine blk_drew ?_ | refine blk_alloc ?_ _)); exact BK156.out⟩, ⟨by repeat (first | (with_reducible first | exact HB.out | apply below_alloc | apply pw_below_drewN | apply below_drew1 | refine below_set ?_ GE156.out) | exact HB.out)⟩⟩
                    · rw [if_neg c15] at H
                      have c15b0 : (x36_1 == 0) = false := beq_eq_false_iff_ne.mpr c15
                      have c15b1 : (x36_1 != 0) = true := bne_iff_ne.mpr c15
                      (first | rw [c15b0] | (simp only [i64_w, i32_w]; rw [c15b0]) | skip)
                      have H' := Aside0.mk H
                      clear H
                      go_wp2
                      first | go_meet | (simp only [c15b0] at *; go_meet) | (simp only [c15b0] at *; go_meet)
                      case rel => exact ⟨_, (false), (by first | rfl | (simp; done) | (simp [bne_nil8, beq_nil8]; done) | (simp [*]; done)), H', ⟨by have := HK1.out; first | omega | exact Nat.le_refl _⟩, ⟨by (with_reducible repeat (first | apply Kd.S_alloc | apply Kd.S_drewN | apply Kd.S_drew)); exact Kd.S_mono (Kd.S_far (p := ⟨gb156, 1, none⟩) (Kd.S_far (p := ⟨gb156, 0, none⟩) (Kd.S_types HO_9.out BK156.out (by decide)) (fun _ hk => hk.2) (.string ((rd_T49 t149 x36_1).f0))) (fun _ hk => hk.2) (.int .i64 ((rd_T49 t149 x36_1).f1))) (fun _ hk => trivial)⟩, ⟨by (with_reducible repeat (first | apply Kd.R_alloc | apply Kd.R_drewN | apply Kd.R_drew)); exact Kd.R_mono (Kd.R_far (p := ⟨gb156, 1, none⟩) (Kd.R_far (p := ⟨gb156, 0, none⟩) (Kd.R_mono HO_34.out (fun k_ hk => (⟨hk, hk.2⟩ : _ ∧ k_ ≠ gb156))) (fun _ hk => hk.2) (.string ((rd_T49 t149 x36_1).f0))) (fun _ hk => hk.2) (.int .i64 ((rd_T49 t149 x36_1).f1))) (fun _ hk => hk.1.2)⟩, ⟨by (with_reducible repeat (first | refine blk_drewN ?_ _ | refine blk_drew ?_ | refine blk_alloc ?_ _)); refine blk_put (cs := #[.string ((rd_T49 t149 x36_1).f0), .int .i64 0]) ?_ 1 _ rfl; (with_reducible repeat (first | refine blk_drewN ?_ _ | refine blk_drew ?_ | refine blk_alloc ?_ _)); refine blk_put (cs := #[.string (⟨#[]⟩ : ByteArray), .int .i64 0]) ?_ 0 _ rfl; (with_reducible repeat (first | refine blk_drewN ?_ _ | refine blk_drew ?_ | refine blk_alloc ?_ _)); exact BK156.out⟩, ⟨by repeat (first | (with_reducible first | exact HB.out | apply below_alloc | apply pw_below_drewN | apply below_drew1 | refine below_set ?_ GE156.out) | exact HB.out)⟩⟩
                case rest =>
                  clear HC11
                  try clear c1
                  try clear p1
                  try clear q1
                  try clear hx1
                  try clear c2
                  try clear c2b0
                  try clear c2b1
                  try clear p2
                  try clear c4
                  try clear c7
                  try clear c7b0
                  try clear c8
                  try clear c8b0
                  try clear c9
                  try clear c9b0
                  try clear c14
                  try clear c15
                  try clear c15b0
                  try clear c15b1
                  try clear p15
                  try clear q15
                  try clear hx15
                  try clear hcz13_0
                  try clear hcz13_1
                  try clear hcz16_0
                  try clear hcz16_1
                  try clear hfz13_0
                  try clear hfz13_1
                  try clear hfz16_0
                  try clear hfz16_1
                  try clear hx155_0
                  try clear hx155_1
                  try clear p155
                  try clear p2
                  try clear q155
                  obtain ⟨kq, x41_10, rfl, HA, HJ10, HO_9, HO_34, BK156, HB⟩ := hcut
                  cases kq with
                  | zero => exact absurd HA.out (by simp [ldif_Parse0.j1])
                  | succ kj10 =>
                    have H := HA.out
                    clear HA
                    simp only [ldif_Parse0.j1] at H
                    by_cases c17 : x41_10 = true
                    · subst c17
                      rw [if_pos rfl] at H
                      have H' := Aside0.mk H
                      clear H
                      go_wp2
                      go_roundg kj10
                      case measure => have := HK1.out; have := HJ10.out; omega
                      case rel => exact ⟨(x9_1), (x10_1), (wrap64 (x36_1 + 1)), (by first | rfl | (simp; done) | (simp [bne_nil8, beq_nil8]; done) | (simp [*]; done)), (by first | rfl | (simp; done) | (simp [bne_nil8, beq_nil8]; done) | (simp [*]; done)), H', ⟨by have := HK1.out; have := HJ10.out; omega⟩, ⟨by (with_reducible repeat (first | apply Kd.S_alloc | apply Kd.S_drewN | apply Kd.S_drew)); exact HO_9.out⟩, ⟨by (with_reducible repeat (first | apply Kd.R_alloc | apply Kd.R_drewN | apply Kd.R_drew)); exact Kd.R_mono HO_34.out (fun _ hk => trivial)⟩, ⟨by repeat (first | (with_reducible first | exact HB.out | apply below_alloc | apply pw_below_drewN | apply below_drew1 | refine below_set ?_ GE156.out) | exact HB.out)⟩⟩
                    · replace c17 := Bool.eq_false_iff.mpr c17
                      subst c17
                      rw [if_neg (show ¬ (false = true) by decide)] at H
                      by_cases c18 : ((rd_T49 t149 x36_1).f0).toList = ([] : List UInt8)
                      · rw [if_pos c18] at H
                        have c18b0 : (((rd_T49 t149 x36_1).f0).toList == ([] : List UInt8)) = true := beq_iff_eq.mpr c18
                        have c18b1 : (((rd_T49 t149 x36_1).f0).toList != ([] : List UInt8)) = false := bne_eq_false_iff_eq.mpr c18
                        clear c18
                        have H' := Aside0.mk H
                        clear H
                        have hcz19_0 : wc.cell? ⟨gb156, 0, none⟩ = some (.string ((rd_T49 t149 x36_1).f0)) := (blk_cell BK156.out 0).trans rfl
                        have hcz19_1 : wc.cell? ⟨gb156, 1, none⟩ = some (.int .i64 ((rd_T49 t149 x36_1).f1)) := (blk_cell BK156.out 1).trans rfl
                        have hfz19_0 := blk_frozen BK156.out 0
                        have hfz19_1 := blk_frozen BK156.out 1
                        go_wp2
                        go_roundg kj10
                        case measure => have := HK1.out; have := HJ10.out; omega
                        case rel => exact ⟨(x9_1), (false), (wrap64 (x36_1 + 1)), (by first | rfl | (simp; done) | (simp [bne_nil8, beq_nil8]; done) | (simp [*]; done)), (by first | rfl | (simp; done) | (simp [bne_nil8, beq_nil8]; done) | (simp [*]; done)), H', ⟨by have := HK1.out; have := HJ10.out; omega⟩, ⟨by (with_reducible repeat (first | apply Kd.S_alloc | apply Kd.S_drewN | apply Kd.S_drew)); exact HO_9.out⟩, ⟨by (with_reducible repeat (first | apply Kd.R_alloc | apply Kd.R_drewN | apply Kd.R_drew)); exact Kd.R_mono HO_34.out (fun _ hk => trivial)⟩, ⟨by repeat (first | (with_reducible first | exact HB.out | apply below_alloc | apply pw_below_drewN | apply below_drew1 | refine below_set ?_ GE156.out) | exact HB.out)⟩⟩
                      · rw [if_neg c18] at H
                        have c18b0 : (((rd_T49 t149 x36_1).f0).toList == ([] : List UInt8)) = false := beq_eq_false_iff_ne.mpr c18
                        have c18b1 : (((rd_T49 t149 x36_1).f0).toList != ([] : List UInt8)) = true := bne_iff_ne.mpr c18
                        replace H := Option.bind_eq_some_iff.mp H
                        obtain ⟨⟨t158, t159, t160⟩, A200, H⟩ := H
                        replace H : (if t160 = true then ((ldif_isName.f t158).bind fun t162 => (ldif_Parse0.j2 kj10 x9_1 x10_1 t149 (t149.length : Int) x36_1 (t162 == x10_1) ((rd_T49 t149 x36_1).f0) ((rd_T49 t149 x36_1).f1) t158 t159)) else (ldif_Parse0.j2 kj10 x9_1 x10_1 t149 (t149.length : Int) x36_1 true ((rd_T49 t149 x36_1).f0) ((rd_T49 t149 x36_1).f1) t158 t159)) = some (r1, r2, r3) := H
                        have A20 := Aside0.mk A200
                        clear A200
                        have HC21 := Aside0.mk H
                        clear H
                        have hcz22_0 : wc.cell? ⟨gb156, 0, none⟩ = some (.string ((rd_T49 t149 x36_1).f0)) := (blk_cell BK156.out 0).trans rfl
                        have hcz22_1 : wc.cell? ⟨gb156, 1, none⟩ = some (.int .i64 ((rd_T49 t149 x36_1).f1)) := (blk_cell BK156.out 1).trans rfl
                        have hfz22_0 := blk_frozen BK156.out 0
                        have hfz22_1 := blk_frozen BK156.out 1
                        go_upto_region 19 with (first | ((with_reducible refine gate_callee (f := 28) rfl ?_); refine goesL_ (some 59) rfl rfl Tryd.func28 (by kernel_rfl) rfl #[.string ((rd_T49 t149 x36_1).f0)] rfl (by (try simp only [List.map_toArray, List.map_cons, List.map_nil]); first | done | rfl | (simp only [List.length_drop, List.length_take]; rfl)) ?_; (with_reducible refine (ldif_pair.calls kj10 ((rd_T49 t149 x36_1).f0) t158 t159 t160 _ ?side1 A20.out).mono ?_); (case side1 => first | exact HG.out | (refine Gw.below HG.out ?_; repeat (first | (with_reducible first | exact HB.out | apply below_alloc | apply pw_below_drewN | apply below_drew1 | refine below_set ?_ GE156.out) | exact HB.out))); rintro e w23 ⟨rfl, hb⟩; refine ⟨_, rfl, ?_⟩; have n0_ := Aside0.mk (Kd.S_below (by (with_reducible repeat (first | apply Kd.S_alloc | apply Kd.S_drewN | apply Kd.S_drew)); exact HO_9.out) hb); have n1_ := Aside0.mk (Kd.R_below (by (with_reducible repeat (first | apply Kd.R_alloc | apply Kd.R_drewN | apply Kd.R_drew)); exact HO_34.out) hb); have n2_ := Aside0.mk (blk_below (g := gb156) (o := .cells #[.string ((rd_T49 t149 x36_1).f0), .int .i64 ((rd_T49 t149 x36_1).f1)] 49 (0, 0)) (by (with_reducible repeat (first | refine blk_drewN ?_ _ | refine blk_drew ?_ | refine blk_alloc ?_ _)); exact BK156.out) hb); have n3_ := Aside0.mk (below_step (by repeat (first | (with_reducible first | exact HB.out | apply below_alloc | apply pw_below_drewN | apply below_drew1 | refine below_set ?_ GE156.out) | exact HB.out)) hb); clear HO_9; clear HO_34; clear BK156; clear HB; have HO_9 := n0_; have HO_34 := n1_; have BK156 := n2_; have HB := n3_; clear n0_ n1_ n2_ n3_; (try clear hb); (try clear hb2); (try clear hk); (try clear hi)) | ((with_reducible refine gate_dst (N := 13) rfl ?_); refine box_event ?hg (N := 13) ?hd (cs := #[.string (⟨#[]⟩ : ByteArray), .string (⟨#[]⟩ : ByteArray)]) (t := 40) ?hr ?_; (case hd => rfl); (case hg => rfl); (case hr => first | (go_simp; done) | (go_simp; rfl)); intro gb161 hg w24 hbox hb; have n0_ := Aside0.mk (Kd.S_below (Kd.S_elderB (by (with_reducible repeat (first | apply Kd.S_alloc | apply Kd.S_drewN | apply Kd.S_drew)); exact HO_9.out) gb161 (Nat.le_of_eq hg.symm)) hb); have n1_ := Aside0.mk (Kd.R_below (by (with_reducible repeat (first | apply Kd.R_alloc | apply Kd.R_drewN | apply Kd.R_drew)); exact HO_34.out) hb); have n2_ := Aside0.mk (blk_below (g := gb156) (o := .cells #[.string ((rd_T49 t149 x36_1).f0), .int .i64 ((rd_T49 t149 x36_1).f1)] 49 (0, 0)) (by (with_reducible repeat (first | refine blk_drewN ?_ _ | refine blk_drew ?_ | refine blk_alloc ?_ _)); exact BK156.out) hb); have n3_ := Aside0.mk (below_step (by repeat (first | (with_reducible first | exact HB.out | apply below_alloc | apply pw_below_drewN | apply below_drew1 | refine below_set ?_ GE156.out) | exact HB.out)) hb); have n4_ := Aside0.mk (hbox); have n5_ := Aside0.mk ((by rw [hg]; exact (below_size (by repeat (first | (with_reducible first | exact HB.out | apply below_alloc | apply pw_below_drewN | apply below_drew1 | refine below_set ?_ GE156.out) | exact HB.out))) : w.heap.size ≤ gb161)); have n6_ := Aside0.mk ((by rw [hg]; exact (below_size (by repeat (first | (with_reducible first | exact HB.out | apply below_alloc | apply pw_below_drewN | apply below_drew1 | refine below_set ?_ GE156.out) | exact HB.out))) : w.heap.size ≤ gb161)); have n7_ := Aside0.mk ((by rw [hg]; exact Nat.ne_of_lt (blk_lt (g := gb156) (o := .cells #[.string ((rd_T49 t149 x36_1).f0), .int .i64 ((rd_T49 t149 x36_1).f1)] 49 (0, 0)) (by (with_reducible repeat (first | refine blk_drewN ?_ _ | refine blk_drew ?_ | refine blk_alloc ?_ _)); exact BK156.out)) : gb156 ≠ gb161)); have n8_ := Aside0.mk ((by rw [hg]; exact Nat.ne_of_gt (blk_lt (g := gb156) (o := .cells #[.string ((rd_T49 t149 x36_1).f0), .int .i64 ((rd_T49 t149 x36_1).f1)] 49 (0, 0)) (by (with_reducible repeat (first | refine blk_drewN ?_ _ | refine blk_drew ?_ | refine blk_alloc ?_ _)); exact BK156.out)) : gb161 ≠ gb156)); clear HO_9; clear HO_34; clear BK156; clear HB; have HO_9 := n0_; have HO_34 := n1_; have BK156 := n2_; have HB := n3_; have BK161 := n4_; have GW161 := n5_; have GE161 := n6_; have NB156_161 := n7_; have NB161_156 := n8_; clear n0_ n1_ n2_ n3_ n4_ n5_ n6_ n7_ n8_; clear hb hbox hg; have hnb25 := NB161_156.out; have hnc25 := NB156_161.out; have hcz26_0 : w24.cell? ⟨gb161, 0, none⟩ = some (.string (⟨#[]⟩ : ByteArray)) := (blk_cell BK161.out 0).trans rfl; have hcz26_1 : w24.cell? ⟨gb161, 1, none⟩ = some (.string (⟨#[]⟩ : ByteArray)) := (blk_cell BK161.out 1).trans rfl; have hfz26_0 := blk_frozen BK161.out 0; have hfz26_1 := blk_frozen BK161.out 1))
                        (try simp only [Act.put, List.setIfInBounds_toArray, List.set_cons_zero, List.set_cons_succ])
                        go_cut [70] (fun v70 wc => ∃ (kq : Nat) (x70_20 : Bool), v70 = .bool x70_20 ∧ Aside0 (ldif_Parse0.j2 kq x9_1 x10_1 t149 (t149.length : Int) x36_1 x70_20 ((rd_T49 t149 x36_1).f0) ((rd_T49 t149 x36_1).f1) t158 t159 = some (r1, r2, r3)) ∧ Aside0 (kq ≤ kj10) ∧ Aside0 (Kd.S k43 43 wc w.heap.size (fun k_ => k_ ≠ gb161) u9 x9_1) ∧ Aside0 (Kd.R k49 49 wc w.heap.size (fun k_ => k_ ≠ gb156) (.slice (some ad155) t149.length co6) t149) ∧ Aside0 (wc.heap[gb156]? = some (.cells #[.string ((rd_T49 t149 x36_1).f0), .int .i64 ((rd_T49 t149 x36_1).f1)] 49 (0, 0))) ∧ Aside0 (wc.heap[gb161]? = some (.cells #[.string t158, .string t159] 40 (0, 0))) ∧ Aside0 (Below w.heap.size w wc))
                        case first =>
                          have H := HC21.out
                          clear HC21
                          by_cases c27 : t160 = true
                          · subst c27
                            rw [if_pos rfl] at H
                            replace H := Option.bind_eq_some_iff.mp H
                            obtain ⟨t162, A280, H⟩ := H
                            replace H : (ldif_Parse0.j2 kj10 x9_1 x10_1 t149 (t149.length : Int) x36_1 (t162 == x10_1) ((rd_T49 t149 x36_1).f0) ((rd_T49 t149 x36_1).f1) t158 t159) = some (r1, r2, r3) := H
                            have A28 := Aside0.mk A280
                            clear A280
                            have H' := Aside0.mk H
                            clear H
                            have hnb29 := NB161_156.out
                            have hnc29 := NB156_161.out
                            have hcz30_0 : w24.cell? ⟨gb161, 0, none⟩ = some (.string (⟨#[]⟩ : ByteArray)) := (blk_cell BK161.out 0).trans rfl
                            have hcz30_1 : w24.cell? ⟨gb161, 1, none⟩ = some (.string (⟨#[]⟩ : ByteArray)) := (blk_cell BK161.out 1).trans rfl
                            have hfz30_0 := blk_frozen BK161.out 0
                            have hfz30_1 := blk_frozen BK161.out 1
                            go_wp2_with (first | (go_at_call 29; (with_reducible refine (ldif_isName.calls t158 t162 _ A28.out).mono ?_); rintro e w' ⟨rfl, ⟨nd, rfl⟩⟩))
                            first | go_meet | (simp only [c18b0] at *; go_meet) | (simp only [c18b0] at *; go_meet) | (simp only [c15b0] at *; go_meet)
                            case rel => exact ⟨_, ((t162 == x10_1)), (by first | rfl | (simp; done) | (simp [bne_nil8, beq_nil8]; done) | (simp [*]; done)), H', ⟨by have := HK1.out; have := HJ10.out; first | omega | exact Nat.le_refl _⟩, ⟨by (with_reducible repeat (first | apply Kd.S_alloc | apply Kd.S_drewN | apply Kd.S_drew)); exact Kd.S_mono (Kd.S_far (p := ⟨gb161, 1, none⟩) (Kd.S_far (p := ⟨gb161, 0, none⟩) (Kd.S_mono HO_9.out (fun k_ hk => (⟨hk, hk.2⟩ : _ ∧ k_ ≠ gb161))) (fun _ hk => hk.2) (.string t158)) (fun _ hk => hk.2) (.string t159)) (fun _ hk => hk.1.2)⟩, ⟨by (with_reducible repeat (first | apply Kd.R_alloc | apply Kd.R_drewN | apply Kd.R_drew)); exact Kd.R_mono (Kd.R_far (p := ⟨gb161, 1, none⟩) (Kd.R_far (p := ⟨gb161, 0, none⟩) (Kd.R_types HO_34.out BK161.out (by decide)) (fun _ hk => hk.2) (.string t158)) (fun _ hk => hk.2) (.string t159)) (fun _ hk => hk.1)⟩, ⟨by (with_reducible repeat (first | refine blk_drewN ?_ _ | refine blk_drew ?_ | refine blk_alloc ?_ _)); refine blk_far ?_ NB156_161.out _; (with_reducible repeat (first | refine blk_drewN ?_ _ | refine blk_drew ?_ | refine blk_alloc ?_ _)); refine blk_far ?_ NB156_161.out _; (with_reducible repeat (first | refine blk_drewN ?_ _ | refine blk_drew ?_ | refine blk_alloc ?_ _)); exact BK156.out⟩, ⟨by (with_reducible repeat (first | refine blk_drewN ?_ _ | refine blk_drew ?_ | refine blk_alloc ?_ _)); refine blk_put (cs := #[.string t158, .string (⟨#[]⟩ : ByteArray)]) ?_ 1 _ rfl; (with_reducible repeat (first | refine blk_drewN ?_ _ | refine blk_drew ?_ | refine blk_alloc ?_ _)); refine blk_put (cs := #[.string (⟨#[]⟩ : ByteArray), .string (⟨#[]⟩ : ByteArray)]) ?_ 0 _ rfl; (with_reducible repeat (first | refine blk_drewN ?_ _ | refine blk_drew ?_ | refine blk_alloc ?_ _)); exact BK161.out⟩, ⟨by repeat (first | (with_reducible first | exact HB.out | apply below_alloc | apply pw_below_drewN | apply below_drew1 | refine below_set ?_ GE156.out | refine below_set ?_ GE161.out) | exact HB.out)⟩⟩
                          · replace c27 := Bool.eq_false_iff.mpr c27
                            subst c27
                            rw [if_neg (show ¬ (false = true) by decide)] at H
                            have H' := Aside0.mk H
                            clear H
                            go_wp2
                            first | go_meet | (simp only [c18b0] at *; go_meet) | (simp only [c18b0] at *; go_meet) | (simp only [c15b0] at *; go_meet)
                            case rel => exact ⟨_, (true), (by first | rfl | (simp; done) | (simp [bne_nil8, beq_nil8]; done) | (simp [*]; done)), H', ⟨by have := HK1.out; have := HJ10.out; first | omega | exact Nat.le_refl _⟩, ⟨by (with_reducible repeat (first | apply Kd.S_alloc | apply Kd.S_drewN | apply Kd.S_drew)); exact Kd.S_mono (Kd.S_far (p := ⟨gb161, 1, none⟩) (Kd.S_far (p := ⟨gb161, 0, none⟩) (Kd.S_mono HO_9.out (fun k_ hk => (⟨hk, hk.2⟩ : _ ∧ k_ ≠ gb161))) (fun _ hk => hk.2) (.string t158)) (fun _ hk => hk.2) (.string t159)) (fun _ hk => hk.1.2)⟩, ⟨by (with_reducible repeat (first | apply Kd.R_alloc | apply Kd.R_drewN | apply Kd.R_drew)); exact Kd.R_mono (Kd.R_far (p := ⟨gb161, 1, none⟩) (Kd.R_far (p := ⟨gb161, 0, none⟩) (Kd.R_types HO_34.out BK161.out (by decide)) (fun _ hk => hk.2) (.string t158)) (fun _ hk => hk.2) (.string t159)) (fun _ hk => hk.1)⟩, ⟨by (with_reducible repeat (first | refine blk_drewN ?_ _ | refine blk_drew ?_ | refine blk_alloc ?_ _)); refine blk_far ?_ NB156_161.out _; (with_reducible repeat (first | refine blk_drewN ?_ _ | refine blk_drew ?_ | refine blk_alloc ?_ _)); refine blk_far ?_ NB156_161.out _; (with_reducible repeat (first | refine blk_drewN ?_ _ | refine blk_drew ?_ | refine blk_alloc ?_ _)); exact BK156.out⟩, ⟨by (with_reducible repeat (first | refine blk_drewN ?_ _ | refine blk_drew ?_ | refine blk_alloc ?_ _)); refine blk_put (cs := #[.string t158, .string (⟨#[]⟩ : ByteArray)]) ?_ 1 _ rfl; (with_reducible repeat (first | refine blk_drewN ?_ _ | refine blk_drew ?_ | refine blk_alloc ?_ _)); refine blk_put (cs := #[.string (⟨#[]⟩ : ByteArray), .string (⟨#[]⟩ : ByteArray)]) ?_ 0 _ rfl; (with_reducible repeat (first | refine blk_drewN ?_ _ | refine blk_drew ?_ | refine blk_alloc ?_ _)); exact BK161.out⟩, ⟨by repeat (first | (with_reducible first | exact HB.out | apply below_alloc | apply pw_below_drewN | apply below_drew1 | refine below_set ?_ GE156.out | refine below_set ?_ GE161.out) | exact HB.out)⟩⟩
                        case rest =>
                          clear HC21
                          try clear c1
                          try clear p1
                          try clear q1
                          try clear hx1
                          try clear c2
                          try clear c2b0
                          try clear c2b1
                          try clear p2
                          try clear c4
                          try clear p6
                          try clear c7
                          try clear c7b0
                          try clear c8
                          try clear c8b0
                          try clear c9
                          try clear c9b0
                          try clear c14
                          try clear c15
                          try clear c15b0
                          try clear c15b1
                          try clear p15
                          try clear q15
                          try clear hx15
                          try clear c17
                          try clear c18
                          try clear c18b0
                          try clear c18b1
                          try clear c25
                          try clear c27
                          try clear c28
                          try clear c29
                          try clear hcz13_0
                          try clear hcz13_1
                          try clear hcz16_0
                          try clear hcz16_1
                          try clear hcz19_0
                          try clear hcz19_1
                          try clear hcz22_0
                          try clear hcz22_1
                          try clear hcz26_0
                          try clear hcz26_1
                          try clear hcz30_0
                          try clear hcz30_1
                          try clear hfz13_0
                          try clear hfz13_1
                          try clear hfz16_0
                          try clear hfz16_1
                          try clear hfz19_0
                          try clear hfz19_1
                          try clear hfz22_0
                          try clear hfz22_1
                          try clear hfz26_0
                          try clear hfz26_1
                          try clear hfz30_0
                          try clear hfz30_1
                          try clear hx155_0
                          try clear hx155_1
                          try clear p1
                          try clear p15
                          try clear p155
                          try clear p2
                          try clear q1
                          try clear q15
                          try clear q155
                          obtain ⟨kq, x70_20, rfl, HA, HJ20, HO_9, HO_34, BK156, BK161, HB⟩ := hcut
                          cases kq with
                          | zero => exact absurd HA.out (by simp [ldif_Parse0.j2])
                          | succ kj20 =>
                            have H := HA.out
                            clear HA
                            simp only [ldif_Parse0.j2] at H
                            by_cases c31 : x70_20 = true
                            · subst c31
                              rw [if_pos rfl] at H
                              simp only [Option.some.injEq, Prod.mk.injEq] at H
                              obtain ⟨rfl, rfl, rfl⟩ := H
                              try go_wp2
                              have n0_ := Aside0.mk (Kd.S_drew HO_9.out)
                              have n1_ := Aside0.mk (Kd.R_drew HO_34.out)
                              have n2_ := Aside0.mk (blk_drew BK156.out)
                              have n3_ := Aside0.mk (blk_drew BK161.out)
                              have n4_ := Aside0.mk (below_drew1 HB.out)
                              clear HO_9
                              clear HO_34
                              clear BK156
                              clear BK161
                              clear HB
                              have HO_9 := n0_
                              have HO_34 := n1_
                              have BK156 := n2_
                              have BK161 := n3_
                              have HB := n4_
                              clear n0_ n1_ n2_ n3_ n4_
                              refine start_ (n := 5) (S := fun w' => w'.cell? ⟨gb156, 0, none⟩ = some (.string ((rd_T49 t149 x36_1).f0)) ∧ w'.cell? ⟨gb156, 1, none⟩ = some (.int .i64 ((rd_T49 t149 x36_1).f1))) (ds := []) #[false, false, false, false, false] (by kernel_rfl) rfl rfl ⟨(blk_cell BK156.out 0).trans rfl, (blk_cell BK156.out 1).trans rfl⟩ (fun hHeld => ?_)
                              generalize wc.drew = w32 at HO_9 HO_34 BK156 BK161 HB hHeld ⊢
                              refine pure_ (i := 0) (N := some 71) (v := ?_) (a' := ?_) #[true, false, false, false, false] rfl rfl (by kernel_rfl) (fun _ _ _ h => h) (Or.inl ⟨by rfl, ?_⟩) ?_ ?_
                              rotate_left
                              · intro w'
                                go_simp
                                with_reducible rfl
                              rotate_left
                              · simp only [Act.put, List.setIfInBounds_toArray, List.set_cons_zero, List.set_cons_succ, i64_w, i32_w]
                                rfl
                              refine pure_ (i := 2) (N := some 2) (v := ?_) (a' := ?_) #[true, false, true, false, false] rfl rfl (by kernel_rfl) (fun _ _ _ h => h) (Or.inl ⟨by rfl, ?_⟩) ?_ ?_
                              rotate_left
                              · intro w'
                                go_simp
                                with_reducible rfl
                              rotate_left
                              · simp only [Act.put, List.setIfInBounds_toArray, List.set_cons_zero, List.set_cons_succ, i64_w, i32_w]
                                rfl
                              refine take_ (i := 1) (N := some 72) (v := ?_) (a' := ?_) #[true, true, true, false, false] rfl rfl (by kernel_rfl) (fun _ _ _ h => h) (Or.inl ⟨by rfl, ?_⟩) hHeld ?_ ?_
                              rotate_left
                              · rintro w' ⟨s0, s1⟩
                                go_simp
                                with_reducible rfl
                              rotate_left
                              · simp only [Act.put, List.setIfInBounds_toArray, List.set_cons_zero, List.set_cons_succ, i64_w, i32_w]
                                rfl
                              refine pure_ (i := 3) (N := some 3) (v := ?_) (a' := ?_) #[true, true, true, true, false] rfl rfl (by kernel_rfl) (fun _ _ _ h => h) (Or.inl ⟨by rfl, ?_⟩) ?_ ?_
                              rotate_left
                              · intro w'
                                go_simp
                                with_reducible rfl
                              rotate_left
                              · simp only [Act.put, List.setIfInBounds_toArray, List.set_cons_zero, List.set_cons_succ, i64_w, i32_w]
                                rfl
                              refine pure_ (i := 4) (N := some 4) (v := ?_) (a' := ?_) #[true, true, true, true, true] rfl rfl (by kernel_rfl) (fun _ _ _ h => h) (Or.inl ⟨by rfl, ?_⟩) ?_ ?_
                              rotate_left
                              · intro w'
                                go_simp
                                with_reducible rfl
                              rotate_left
                              · simp only [Act.put, List.setIfInBounds_toArray, List.set_cons_zero, List.set_cons_succ, i64_w, i32_w]
                                rfl
                              refine done_ (by kernel_rfl) ?_
                              try go_wp2
                              go_ret3
                              exact ⟨_, by first | rfl | (simp [errW_none, errW_some, bne_nil8, beq_nil8]; done) | (simp [errW_none, errW_some] <;> rfl) | (simp [*, errW_none, errW_some] <;> rfl), by first | exact Kd.S_nil _ _ _ _ _ | exact Kd.N_nil _ _ _ _ _ | exact Kd.V_nil _ _ _ _ _ | exact Kd.Q_nil _ _ _ _ _ | exact Kd.R_nil _ _ _ _ _, by repeat (first | (with_reducible first | exact HB.out | apply below_alloc | apply pw_below_drewN | apply below_drew1 | refine below_set ?_ GE156.out | refine below_set ?_ GE161.out) | exact HB.out)⟩
                            · replace c31 := Bool.eq_false_iff.mpr c31
                              subst c31
                              rw [if_neg (show ¬ (false = true) by decide)] at H
                              by_cases c33 : x10_1 = true
                              · subst c33
                                rw [if_pos rfl] at H
                                obtain ⟨ji34, hji34⟩ : ∃ j_ : Int, (wrap64 ((x9_1.length : Int) - 1)) = j_ := ⟨_, rfl⟩
                                replace H : (if 0 ≤ (ji34) then (if (ji34) < (x9_1.length : Int) then (if ((rd_T43 x9_1 (ji34)).f1).length < 4398046511104 then (ldif_Parse0.l0 kj20 (x9_1.set ((ji34) : Int).toNat (⟨(rd_T43 x9_1 (ji34)).f0, (((rd_T43 x9_1 (ji34)).f1) ++ [(⟨t158, t159⟩ : S40)])⟩ : S43)) true t149 (t149.length : Int) (wrap64 (x36_1 + 1))) else (none)) else (none)) else (none)) = some (r1, r2, r3) := by first | (rw [hji34] at H; exact H) | (simp only [hji34] at H ⊢; exact H)
                                have hji34w : (IntKind.i64.wrap ((x9_1.length : Int) - 1)) = ji34 := (i64_w _).trans hji34
                                by_cases c35 : 0 ≤ (ji34)
                                · rw [if_pos c35] at H
                                  have c35b0 := decide_eq_true c35
                                  clear c35
                                  by_cases c36 : (ji34) < (x9_1.length : Int)
                                  · rw [if_pos c36] at H
                                    have c36b0 := decide_eq_true c36
                                    clear c36
                                    by_cases c37 : ((rd_T43 x9_1 (ji34)).f1).length < 4398046511104
                                    · rw [if_pos c37] at H
                                      have LMc37 := Aside0.mk c37
                                      clear c37
                                      obtain ⟨y164, hy164⟩ : ∃ y_ : List (S40), y_ = (((rd_T43 x9_1 (ji34)).f1) ++ [(⟨t158, t159⟩ : S40)]) := ⟨_, rfl⟩
                                      replace H : (ldif_Parse0.l0 kj20 (x9_1.set ((ji34) : Int).toNat (⟨(rd_T43 x9_1 (ji34)).f0, y164⟩ : S43)) true t149 (t149.length : Int) (wrap64 (x36_1 + 1))) = some (r1, r2, r3) := by first | (rw [hy164]; with_reducible exact H) | (have H2_ := (Option.bind_some _ _).symm.trans H; rw [hy164]; with_reducible exact H2_) | (have H2_ := (Option.bind_some _ _).symm.trans H; with_reducible exact H2_) | with_reducible exact H | (rw [hy164]; exact H) | exact H
                                      have Ny164 := Aside0.mk hy164
                                      clear hy164
                                      obtain ⟨y167, hy167⟩ : ∃ y_ : List (S43), y_ = (x9_1.set ((ji34) : Int).toNat (⟨(rd_T43 x9_1 (ji34)).f0, y164⟩ : S43)) := ⟨_, rfl⟩
                                      replace H : (ldif_Parse0.l0 kj20 y167 true t149 (t149.length : Int) (wrap64 (x36_1 + 1))) = some (r1, r2, r3) := by first | (rw [hy167]; with_reducible exact H) | (have H2_ := (Option.bind_some _ _).symm.trans H; rw [hy167]; with_reducible exact H2_) | (have H2_ := (Option.bind_some _ _).symm.trans H; with_reducible exact H2_) | with_reducible exact H | (rw [hy167]; exact H) | exact H
                                      have Ny167 := Aside0.mk hy167
                                      clear hy167
                                      have H' := Aside0.mk H
                                      clear H
                                      try go_wp2
                                      have n0_ := Aside0.mk (Kd.S_drew HO_9.out)
                                      have n1_ := Aside0.mk (Kd.R_drew HO_34.out)
                                      have n2_ := Aside0.mk (blk_drew BK156.out)
                                      have n3_ := Aside0.mk (blk_drew BK161.out)
                                      have n4_ := Aside0.mk (below_drew1 HB.out)
                                      clear HO_9
                                      clear HO_34
                                      clear BK156
                                      clear BK161
                                      clear HB
                                      have HO_9 := n0_
                                      have HO_34 := n1_
                                      have BK156 := n2_
                                      have BK161 := n3_
                                      have HB := n4_
                                      clear n0_ n1_ n2_ n3_ n4_
                                      obtain ⟨Ao40, co40, eo40⟩ := Kd.S_slice HO_9.out
                                      (first | subst eo40 | (injection eo40 with f1_ f2_ f3_; have f4_ := f1_.symm; have f5_ := f3_.symm; clear f1_ f2_ f3_; subst f4_; subst f5_))
                                      have p163 : 0 ≤ ((ji34) : Int) := of_decide_eq_true (by first | (with_reducible assumption) | assumption)
                                      have q163 : (ji34) < (x9_1.length : Int) := of_decide_eq_true (by first | (with_reducible assumption) | assumption)
                                      obtain ⟨ad163, A163_1, c163_1, e163, hx163_0, hx163_1, hl163_1, hi163_1⟩ := at_T43 (Kd.S_reads' HO_9.out).2.2 (ji34) p163 q163
                                      cases e163
                                      obtain ⟨ce163, hce163, hMe163, hcc163⟩ := Kd.S_get HO_9.out z43 (ji34) p163 (by first | exact q163 | exact of_decide_eq_true (by first | (with_reducible assumption) | assumption) | (have e_ := (Kd.S_reads' HO_9.out).1; omega))
                                      obtain ⟨ve163_1, rfl, ge163_1⟩ := k43_openM hMe163
                                      have hv163_1 := hcc163 1 _ rfl
                                      rw [add_field _ _ 1 (by omega)] at hv163_1
                                      replace hv163_1 := Option.some.inj (hv163_1.symm.trans hx163_1)
                                      rw [hv163_1] at ge163_1
                                      have HL163_1 := Aside0.mk (show Kd.R k40 40 _ _ _ _ ((rd_T43 x9_1 (ji34)).f1) from ge163_1)
                                      clear hv163_1 ge163_1
                                      have HX163_1 := Aside0.mk hx163_1
                                      clear hcc163 hce163
                                      have HR163_1 := Aside0.mk hi163_1
                                      have HC163_1 := Aside0.mk hl163_1
                                      clear hi163_1 hl163_1
                                      replace p163 := eq_true p163
                                      replace q163 := eq_true q163
                                      obtain ⟨go41, co41, eo41, gb41, gl41, cl41, HG41⟩ := Kd.S_form HO_9.out (by have h_ : ((ji34) : Int) < ((x9_1.length : Int) : Int) := of_decide_eq_true (by first | (with_reducible assumption) | assumption); have h2_ : 0 ≤ ((ji34) : Int) := (of_decide_eq_true (by first | (with_reducible assumption) | assumption)); omega)
                                      (first | cases eo41 | (injection eo41 with ea_ en_ ec_; (first | subst ea_ | (injection ea_ with ea_; subst ea_)); subst ec_; clear en_))
                                      have GB41 := Aside0.mk gb41
                                      have GG41 := Aside0.mk HG41
                                      clear gb41 gl41 HG41
                                      (first | simp only [add_plain] at hx163_0 | skip)
                                      (first | simp only [add_plain] at hx163_1 | skip)
                                      obtain ⟨oki41, ce41, hcl41, hM41, hcc41, _, _, hH41⟩ := Kd.S_elem HO_9.out z43 ((ji34) : Int) (of_decide_eq_true (by first | (with_reducible assumption) | assumption)) (by have h_ : ((ji34) : Int) < ((x9_1.length : Int) : Int) := of_decide_eq_true (by first | (with_reducible assumption) | assumption); first | exact h_ | (have e_ := (Kd.S_reads' HO_9.out).1; omega) | simpa using h_)
                                      obtain ⟨ve41_1, rfl, ge41_1⟩ := k43_openM hM41
                                      have hv41 := hcc41 1 _ rfl
                                      have hX41 := HX163_1.out
                                      (try simp only [add_plain] at hX41)
                                      (try simp only [Nat.add_zero] at hv41)
                                      replace hv41 := Option.some.inj (hv41.symm.trans hX41)
                                      subst hv41
                                      clear hX41 hcc41 hcl41
                                      have UU41 := Aside0.mk (show Kd.R k40 40 _ w.heap.size oki41 (.slice A163_1 ((rd_T43 x9_1 (ji34)).f1).length c163_1) ((rd_T43 x9_1 (ji34)).f1) from ge41_1)
                                      have HH41 := Aside0.mk hH41
                                      have HN41 := Aside0.mk (Kd.S_reads' HO_9.out).1
                                      clear hH41 ge41_1
                                      refine start_ (n := 17) (S := fun w' => w'.cell? ⟨gb161, 0, none⟩ = some (.string t158) ∧ w'.cell? ⟨gb161, 1, none⟩ = some (.string t159) ∧ w'.cell? ⟨go41, ((ji34)).toNat * 2, none⟩ = some (.string ((rd_T43 x9_1 (ji34)).f0)) ∧ w'.cell? ⟨go41, ((ji34)).toNat * 2 + 1, none⟩ = some (.slice A163_1 ((rd_T43 x9_1 (ji34)).f1).length c163_1)) (ds := [16]) #[false, false, false, false, false, false, false, false, false, false, false, false, false, false, false, false, false] (by kernel_rfl) rfl rfl ⟨(blk_cell BK161.out 0).trans rfl, (blk_cell BK161.out 1).trans rfl, hx163_0, hx163_1⟩ (fun hHeld => ?_); refine with_tabW ldif_Parse0.tab22 ldif_Parse0.bits22 (fun HT_ HW_ => ?_)
                                      generalize wc.drew = w39 at HO_9 HO_34 BK156 BK161 HB GG41 HH41 HL163_1 HR163_1 HX163_1 UU41 hx163_0 hx163_1 hHeld ⊢
                                      refine pure_ (i := 0) (N := some 74) (v := ?_) (a' := ?_) #[true, false, false, false, false, false, false, false, false, false, false, false, false, false, false, false, false] rfl rfl (any_of HT_.out (by kernel_rfl)) (fun _ _ _ h => h) (Or.inl ⟨by rfl, ?_⟩) ?_ ?_
                                      rotate_left
                                      · intro w'
                                        go_simp
                                        with_reducible rfl
                                      rotate_left
                                      · simp only [Act.put, List.setIfInBounds_toArray, List.set_cons_zero, List.set_cons_succ, i64_w, i32_w]
                                        rfl
                                      refine pure_ (i := 1) (N := some 75) (v := ?_) (a' := ?_) #[true, true, false, false, false, false, false, false, false, false, false, false, false, false, false, false, false] rfl rfl (any_of HT_.out (by kernel_rfl)) (fun _ _ _ h => h) (Or.inl ⟨by rfl, ?_⟩) ?_ ?_
                                      rotate_left
                                      · intro w'
                                        go_simp
                                        with_reducible rfl
                                      rotate_left
                                      · simp only [Act.put, List.setIfInBounds_toArray, List.set_cons_zero, List.set_cons_succ, i64_w, i32_w]
                                        rfl
                                      refine pure_ (i := 2) (N := some 76) (v := ?_) (a' := ?_) #[true, true, true, false, false, false, false, false, false, false, false, false, false, false, false, false, false] rfl rfl (any_of HT_.out (by kernel_rfl)) (fun _ _ _ h => h) (Or.inl ⟨by rfl, ?_⟩) ?_ ?_
                                      rotate_left
                                      · intro w'
                                        go_simp
                                        with_reducible rfl
                                      rotate_left
                                      · simp only [Act.put, List.setIfInBounds_toArray, List.set_cons_zero, List.set_cons_succ, i64_w, i32_w]
                                        rfl
                                      refine pure_ (i := 3) (N := some 77) (v := ?_) (a' := ?_) #[true, true, true, true, false, false, false, false, false, false, false, false, false, false, false, false, false] rfl rfl (any_of HT_.out (by kernel_rfl)) (fun _ _ _ h => h) (Or.inl ⟨by rfl, ?_⟩) ?_ ?_
                                      rotate_left
                                      · intro w'
                                        go_simp
                                        with_reducible rfl
                                      rotate_left
                                      · simp only [Act.put, List.setIfInBounds_toArray, List.set_cons_zero, List.set_cons_succ, i64_w, i32_w]
                                        rfl
                                      refine pure_ (i := 4) (N := some 78) (v := ?_) (a' := ?_) #[true, true, true, true, true, false, false, false, false, false, false, false, false, false, false, false, false] rfl rfl (any_of HT_.out (by kernel_rfl)) (fun _ _ _ h => h) (Or.inl ⟨by rfl, ?_⟩) ?_ ?_
                                      rotate_left
                                      · intro w'
                                        go_simp
                                        with_reducible rfl
                                      rotate_left
                                      · simp only [Act.put, List.setIfInBounds_toArray, List.set_cons_zero, List.set_cons_succ, i64_w, i32_w]
                                        rfl
                                      refine pure_ (i := 5) (N := some 79) (v := ?_) (a' := ?_) #[true, true, true, true, true, true, false, false, false, false, false, false, false, false, false, false, false] rfl rfl (any_of HT_.out (by kernel_rfl)) (fun _ _ _ h => h) (Or.inl ⟨by rfl, ?_⟩) ?_ ?_
                                      rotate_left
                                      · intro w'
                                        go_simp
                                        with_reducible rfl
                                      rotate_left
                                      · simp only [Act.put, List.setIfInBounds_toArray, List.set_cons_zero, List.set_cons_succ, i64_w, i32_w]
                                        rfl
                                      refine pure_ (i := 6) (N := some 80) (v := ?_) (a' := ?_) #[true, true, true, true, true, true, true, false, false, false, false, false, false, false, false, false, false] rfl rfl (any_of HT_.out (by kernel_rfl)) (fun _ _ _ h => h) (Or.inl ⟨by rfl, ?_⟩) ?_ ?_
                                      rotate_left
                                      · intro w'
                                        go_simp
                                        with_reducible rfl
                                      rotate_left
                                      · simp only [Act.put, List.setIfInBounds_toArray, List.set_cons_zero, List.set_cons_succ, i64_w, i32_w]
                                        rfl
                                      refine pure_ (i := 7) (N := some 81) (v := ?_) (a' := ?_) #[true, true, true, true, true, true, true, true, false, false, false, false, false, false, false, false, false] rfl rfl (any_of HT_.out (by kernel_rfl)) (fun _ _ _ h => h) (Or.inl ⟨by rfl, ?_⟩) ?_ ?_
                                      rotate_left
                                      · intro w'
                                        go_simp
                                        with_reducible rfl
                                      rotate_left
                                      · simp only [Act.put, List.setIfInBounds_toArray, List.set_cons_zero, List.set_cons_succ, i64_w, i32_w]
                                        rfl
                                      refine pure_ (i := 8) (N := some 82) (v := ?_) (a' := ?_) #[true, true, true, true, true, true, true, true, true, false, false, false, false, false, false, false, false] rfl rfl (any_of HT_.out (by kernel_rfl)) (fun _ _ _ h => h) (Or.inl ⟨by rfl, ?_⟩) ?_ ?_
                                      rotate_left
                                      · intro w'
                                        go_simp
                                        with_reducible rfl
                                      rotate_left
                                      · simp only [Act.put, List.setIfInBounds_toArray, List.set_cons_zero, List.set_cons_succ, i64_w, i32_w]
                                        rfl
                                      refine pure_ (i := 9) (N := some 83) (v := ?_) (a' := ?_) #[true, true, true, true, true, true, true, true, true, true, false, false, false, false, false, false, false] rfl rfl (any_of HT_.out (by kernel_rfl)) (fun _ _ _ h => h) (Or.inl ⟨by rfl, ?_⟩) ?_ ?_
                                      rotate_left
                                      · intro w'
                                        go_simp
                                        with_reducible rfl
                                      rotate_left
                                      · simp only [Act.put, List.setIfInBounds_toArray, List.set_cons_zero, List.set_cons_succ, i64_w, i32_w]
                                        rfl
                                      refine take_ (i := 10) (N := some 84) (v := ?_) (a' := ?_) #[true, true, true, true, true, true, true, true, true, true, true, false, false, false, false, false, false] rfl rfl (take_ofW HT_.out HW_.out (by kernel_rfl)) (fun _ _ _ h => h) (Or.inl ⟨by rfl, ?_⟩) hHeld ?_ ?_
                                      rotate_left
                                      · rintro w' ⟨s0, s1, s2, s3⟩
                                        go_simp
                                        with_reducible rfl
                                      rotate_left
                                      · simp only [Act.put, List.setIfInBounds_toArray, List.set_cons_zero, List.set_cons_succ, i64_w, i32_w]
                                        rfl
                                      refine take_ (i := 11) (N := some 85) (v := ?_) (a' := ?_) #[true, true, true, true, true, true, true, true, true, true, true, true, false, false, false, false, false] rfl rfl (take_ofW HT_.out HW_.out (by kernel_rfl)) (fun _ _ _ h => h) (Or.inl ⟨by rfl, ?_⟩) hHeld ?_ ?_
                                      rotate_left
                                      · rintro w' ⟨s0, s1, s2, s3⟩
                                        go_simp
                                        with_reducible rfl
                                      rotate_left
                                      · simp only [Act.put, List.setIfInBounds_toArray, List.set_cons_zero, List.set_cons_succ, i64_w, i32_w]
                                        rfl
                                      refine one_ (i := 12) (N := some 86) #[true, true, true, true, true, true, true, true, true, true, true, true, true, false, false, false, false] rfl rfl (one_of HT_.out (by kernel_rfl)) (by decide) (fun K hK => ?_)
                                      refine value_ (w1 := ?_) (v := ?_) (by rfl) rfl ?_ ?_
                                      rotate_left 2
                                      · go_simp
                                        constructor
                                        · rfl
                                        · rfl
                                      refine hK.out _ _ ⟨(blk_cell (blk_alloc BK161.out _) 0).trans rfl, (blk_cell (blk_alloc BK161.out _) 1).trans rfl, (World.cell?_alloc_lt _ _ _ (World.block_lt_of_cell? _ _ (hHeld.2.2.1))).trans (hHeld.2.2.1), (World.cell?_alloc_lt _ _ _ (World.block_lt_of_cell? _ _ (hHeld.2.2.2))).trans (hHeld.2.2.2)⟩ (fun hHeld => ?_)
                                      clear hK K
                                      refine norm_ (a' := ?_) ?_ ?_
                                      rotate_left
                                      · show Act.put _ (some 86) _ = _
                                        simp only [Act.put, List.setIfInBounds_toArray, List.set_cons_zero, List.set_cons_succ, i64_w, i32_w]
                                        rfl
                                      refine one_ (i := 13) (N := some 87) #[true, true, true, true, true, true, true, true, true, true, true, true, true, true, false, false, false] rfl rfl (one_of HT_.out (by kernel_rfl)) (by decide) (fun K hK => ?_)
                                      refine Kd.R_append_step k40 (w0 := w) w.heap.size (by rfl) (.tmp 84) (.tmp 86) 37 40 (.agg #[(.string ⟨#[]⟩), (.string ⟨#[]⟩)]) 32 rfl Tryd.underlying37 info40 rfl (by decide) (by omega) (.slice A163_1 ((rd_T43 x9_1 (ji34)).f1).length c163_1) ((rd_T43 x9_1 (ji34)).f1) (⟨t158, t159⟩ : S40) [.string t158, .string t159] (fun k_ => oki41 k_ ∨ ((fun k_ => k_ ≠ gb161)) k_ ∧ w39.heap.size ≤ k_) (fun _ => False) rfl rfl ?aP (fun _ hk => hk.elim) ?aF ?aO ?aB ?aS ?aL ?_
                                      (case aP => exact k40_mkM _ _ _ (⟨t158, t159⟩ : S40))
                                      (case aB => exact (by repeat (first | (with_reducible first | exact HB.out | apply below_alloc | apply pw_below_drewN | apply below_drew1 | refine below_set ?_ GE156.out | refine below_set ?_ GE161.out) | exact HB.out)))
                                      (case aF => exact (fun k_ hk => .inr ⟨Kd.freshB (g := gb161) (o := .cells #[.string t158, .string t159] 40 (0, 0)) (by (with_reducible repeat (first | refine blk_drewN ?_ _ | refine blk_drew ?_ | refine blk_alloc ?_ _)); exact BK161.out) k_ hk, hk⟩))
                                      (case aO => exact (by (with_reducible repeat (first | apply Kd.R_alloc | apply Kd.R_drewN | apply Kd.R_drew)); exact Kd.R_mono UU41.out (fun _ hk => .inl hk)))
                                      (case aS => exact (below_size (by repeat (first | (with_reducible first | exact HB.out | apply below_alloc | apply pw_below_drewN | apply below_drew1 | refine below_set ?_ GE156.out | refine below_set ?_ GE161.out) | exact HB.out))))
                                      (case aL => have := LMc37.out; omega)
                                      intro v165 w42 ho hb hg hat
                                      (first | have HS2_ := cell_grown hg (hHeld.2.2.1) (by first | (rw [add_block]; exact (fun e_ => ((HL163_1.out.1 _ e_.symm).2) rfl)) | (show some (Addr.add _ _).block ≠ _; rw [add_block]; exact (fun e_ => ((HL163_1.out.1 _ e_.symm).2) rfl)) | exact (fun e_ => ((HL163_1.out.1 _ e_.symm).2) rfl)) | have HS2_ := cell_grown hg (cell_unalloc (hHeld.2.2.1) (by first | (rw [add_block]; exact Kd.S_lt HO_9.out _ rfl) | (show (Addr.add _ _).block < _; rw [add_block]; exact Kd.S_lt HO_9.out _ rfl) | exact Kd.S_lt HO_9.out _ rfl)) (by first | (rw [add_block]; exact (fun e_ => ((HL163_1.out.1 _ e_.symm).2) rfl)) | (show some (Addr.add _ _).block ≠ _; rw [add_block]; exact (fun e_ => ((HL163_1.out.1 _ e_.symm).2) rfl)) | exact (fun e_ => ((HL163_1.out.1 _ e_.symm).2) rfl)))
                                      (first | have HS3_ := cell_grown hg (hHeld.2.2.2) (by first | (rw [add_block]; exact (fun e_ => ((HL163_1.out.1 _ e_.symm).2) rfl)) | (show some (Addr.add _ _).block ≠ _; rw [add_block]; exact (fun e_ => ((HL163_1.out.1 _ e_.symm).2) rfl)) | exact (fun e_ => ((HL163_1.out.1 _ e_.symm).2) rfl)) | have HS3_ := cell_grown hg (cell_unalloc (hHeld.2.2.2) (by first | (rw [add_block]; exact Kd.S_lt HO_9.out _ rfl) | (show (Addr.add _ _).block < _; rw [add_block]; exact Kd.S_lt HO_9.out _ rfl) | exact Kd.S_lt HO_9.out _ rfl)) (by first | (rw [add_block]; exact (fun e_ => ((HL163_1.out.1 _ e_.symm).2) rfl)) | (show some (Addr.add _ _).block ≠ _; rw [add_block]; exact (fun e_ => ((HL163_1.out.1 _ e_.symm).2) rfl)) | exact (fun e_ => ((HL163_1.out.1 _ e_.symm).2) rfl)))
                                      rw [← Ny164.out] at ho
                                      have n0_ := Aside0.mk (Kd.R_over' (v := (.slice A163_1 ((rd_T43 x9_1 (ji34)).f1).length c163_1)) (by (with_reducible repeat (first | apply Kd.R_alloc | apply Kd.R_drewN | apply Kd.R_drew)); exact HO_34.out) (Kd.R_typed HL163_1.out) (by decide) hg)
                                      have n1_ := Aside0.mk (blk_grown (g := gb156) (o := .cells #[.string ((rd_T49 t149 x36_1).f0), .int .i64 ((rd_T49 t149 x36_1).f1)] 49 (0, 0)) (by (with_reducible repeat (first | refine blk_drewN ?_ _ | refine blk_drew ?_ | refine blk_alloc ?_ _)); exact BK156.out) hg (Kd.R_ne HL163_1.out BK156.out (by decide)))
                                      have n2_ := Aside0.mk (blk_grown (g := gb161) (o := .cells #[.string t158, .string t159] 40 (0, 0)) (by (with_reducible repeat (first | refine blk_drewN ?_ _ | refine blk_drew ?_ | refine blk_alloc ?_ _)); exact BK161.out) hg (Kd.R_away HL163_1.out (fun _ hk => hk.1)))
                                      have n3_ := Aside0.mk (hb)
                                      have n4_ := Aside0.mk (Kd.H_grown (Kd.H_widen (by repeat (first | exact HH41.out | refine Kd.H_alloc ?_ _ | refine Kd.H_drewN ?_ _ | refine Kd.H_drew ?_))) hg (fun k_ e_ => .inl (UU41.out.1 k_ e_)))
                                      have n5_ := Aside0.mk (ho)
                                      clear HO_34
                                      clear BK156
                                      clear BK161
                                      clear HB
                                      clear HH41
                                      clear HO_9
                                      clear UU41
                                      clear HL163_1
                                      have HO_34 := n0_
                                      have BK156 := n1_
                                      have BK161 := n2_
                                      have HB := n3_
                                      have HH41 := n4_
                                      have HO166 := n5_
                                      clear n0_ n1_ n2_ n3_ n4_ n5_
                                      clear ho hb hg hat
                                      have p38 : 0 ≤ ((ji34) : Int) := of_decide_eq_true (by first | (with_reducible assumption) | assumption)
                                      have q38 : ((ji34) : Int) < ((x9_1.length : Int) : Int) := of_decide_eq_true (by first | (with_reducible assumption) | assumption)
                                      replace p38 := eq_true p38
                                      replace q38 := eq_true q38
                                      obtain ⟨Ao45, co45, eo45⟩ := Kd.R_slice HO166.out
                                      (first | subst eo45 | (injection eo45 with f1_ f2_ f3_; have f4_ := f1_.symm; have f5_ := f3_.symm; clear f1_ f2_ f3_; subst f4_; subst f5_))
                                      obtain ⟨_, _, hraw43, _, _, hcc43, _⟩ := Kd.H_raw HH41.out (of_decide_eq_true (by first | (with_reducible assumption) | assumption)) (by have h_ : ((ji34) : Int) < ((x9_1.length : Int) : Int) := of_decide_eq_true (by first | (with_reducible assumption) | assumption); first | exact h_ | (have e_ := (HN41.out); omega) | simpa using h_)
                                      obtain ⟨_, hfr43⟩ := Kd.H_at HH41.out (of_decide_eq_true (by first | (with_reducible assumption) | assumption)) (by have h_ : ((ji34) : Int) < ((x9_1.length : Int) : Int) := of_decide_eq_true (by first | (with_reducible assumption) | assumption); first | exact h_ | (have e_ := (HN41.out); omega) | simpa using h_)
                                      have hx43_0 := hcc43 1 _ rfl
                                      have hf43_0 := hfr43 1
                                      (try rw [show (k43).sz = 2 from rfl] at hx43_0)
                                      (try rw [show (k43).sz = 2 from rfl] at hf43_0)
                                      have HP43 := Kd.S_seg0 HH41.out (of_decide_eq_true (by first | (with_reducible assumption) | assumption)) (by have h_ : ((ji34) : Int) < ((x9_1.length : Int) : Int) := of_decide_eq_true (by first | (with_reducible assumption) | assumption); first | exact h_ | (have e_ := (HN41.out); omega) | simpa using h_) (seg := [.slice Ao45 y164.length co45]) (j := 1) (show 2 ≤ 2 from by decide) (x' := (⟨(rd_T43 x9_1 (ji34)).f0, y164⟩ : S43)) (k43_mkM _ _ _ (⟨(rd_T43 x9_1 (ji34)).f0, y164⟩ : S43) HO166.out) (fun _ hk => hk)
                                      clear hcc43 hfr43
                                      have HNB156_go41 := Aside0.mk (show gb156 ≠ go41 from by have h_ := Kd.R_ne hraw43 BK156.out (by decide); intro e_; exact h_ (by rw [e_]; rfl))
                                      have HNB161_go41 := Aside0.mk (show gb161 ≠ go41 from by have h_ := Kd.R_ne hraw43 BK161.out (by decide); intro e_; exact h_ (by rw [e_]; rfl))
                                      have HS43 := HP43.1
                                      rw [← Ny167.out] at HS43
                                      have HQ43 := Aside0.mk HS43
                                      obtain ⟨_, hgg43⟩ := Kd.R_typed hraw43 go41 rfl
                                      have GG43_ := Aside0.mk hgg43
                                      clear HP43 HS43 hgg43
                                      refine hK.out _ _ ⟨(blk_cell BK161.out 0).trans rfl, (blk_cell BK161.out 1).trans rfl, HS2_, HS3_⟩ (fun hHeld => ?_)
                                      clear hK K
                                      refine norm_ (a' := ?_) ?_ ?_
                                      rotate_left
                                      · show Act.put _ (some 87) _ = _
                                        simp only [Act.put, List.setIfInBounds_toArray, List.set_cons_zero, List.set_cons_succ, i64_w, i32_w]
                                        rfl
                                      refine pure_ (i := 14) (N := some 88) (v := ?_) (a' := ?_) #[true, true, true, true, true, true, true, true, true, true, true, true, true, true, true, false, false] rfl rfl (any_of HT_.out (by kernel_rfl)) (fun _ _ _ h => h) (Or.inl ⟨by rfl, ?_⟩) ?_ ?_
                                      rotate_left
                                      · intro w'
                                        go_simp
                                        with_reducible rfl
                                      rotate_left
                                      · simp only [Act.put, List.setIfInBounds_toArray, List.set_cons_zero, List.set_cons_succ, i64_w, i32_w]
                                        rfl
                                      refine pure_ (i := 15) (N := some 89) (v := ?_) (a' := ?_) #[true, true, true, true, true, true, true, true, true, true, true, true, true, true, true, true, false] rfl rfl (any_of HT_.out (by kernel_rfl)) (fun _ _ _ h => h) (Or.inl ⟨by rfl, ?_⟩) ?_ ?_
                                      rotate_left
                                      · intro w'
                                        go_simp
                                        with_reducible rfl
                                      rotate_left
                                      · simp only [Act.put, List.setIfInBounds_toArray, List.set_cons_zero, List.set_cons_succ, i64_w, i32_w]
                                        rfl
                                      refine last_ (i := 16) (N := none) #[true, true, true, true, true, true, true, true, true, true, true, true, true, true, true, true, true] rfl rfl (one_of HT_.out (by kernel_rfl)) (by decide) (fun K hK => ?_)
                                      refine skip_ (w1 := ?_) (by rfl) rfl ?_ ?_
                                      rotate_left
                                      · go_simp
                                        rfl
                                      refine hK.out _ _ ?_
                                      clear hK K
                                      refine done_ (done_of HT_.out (by kernel_rfl)) ?_
                                      try go_wp2
                                      go_roundg kj20
                                      case measure => have := HK1.out; have := HJ10.out; have := HJ20.out; omega
                                      case rel => exact ⟨(y167), (true), (wrap64 (x36_1 + 1)), (by first | rfl | (simp; done) | (simp [bne_nil8, beq_nil8]; done) | (simp [*]; done)), (by first | rfl | (simp; done) | (simp [bne_nil8, beq_nil8]; done) | (simp [*]; done)), H', ⟨by have := HK1.out; have := HJ10.out; have := HJ20.out; omega⟩, ⟨by (with_reducible repeat (first | apply Kd.S_alloc | apply Kd.S_drewN | apply Kd.S_drew)); exact Kd.S_mono HQ43.out (fun _ hk => trivial)⟩, ⟨by (with_reducible repeat (first | apply Kd.R_alloc | apply Kd.R_drewN | apply Kd.R_drew)); exact Kd.R_mono (Kd.R_far (p := ⟨go41, ((ji34) : Int).toNat * 2 + 1, none⟩) (Kd.R_types HO_34.out GG43_.out (by decide)) (fun _ hk => hk.2) (.slice Ao45 y164.length co45)) (fun _ hk => trivial)⟩, ⟨by repeat (first | (with_reducible first | exact HB.out | apply below_alloc | apply pw_below_drewN | apply below_drew1 | refine below_set ?_ GB41.out | refine below_set ?_ GE156.out | refine below_set ?_ GE161.out) | exact HB.out)⟩⟩
                                    · rw [if_neg c37] at H
                                      exact absurd H (by simp)
                                  · rw [if_neg c36] at H
                                    exact absurd H (by simp)
                                · rw [if_neg c35] at H
                                  exact absurd H (by simp)
                              · replace c33 := Bool.eq_false_iff.mpr c33
                                subst c33
                                rw [if_neg (show ¬ (false = true) by decide)] at H
                                by_cases c46 : x9_1.length < 3518437208883
                                · rw [if_pos c46] at H
                                  have LMc46 := Aside0.mk c46
                                  clear c46
                                  obtain ⟨y168, hy168⟩ : ∃ y_ : List (S43), y_ = (x9_1 ++ [(⟨t159, ([] : List (S40))⟩ : S43)]) := ⟨_, rfl⟩
                                  replace H : (ldif_Parse0.l0 kj20 y168 true t149 (t149.length : Int) (wrap64 (x36_1 + 1))) = some (r1, r2, r3) := by first | (rw [hy168]; with_reducible exact H) | (have H2_ := (Option.bind_some _ _).symm.trans H; rw [hy168]; with_reducible exact H2_) | (have H2_ := (Option.bind_some _ _).symm.trans H; with_reducible exact H2_) | with_reducible exact H | (rw [hy168]; exact H) | exact H
                                  have Ny168 := Aside0.mk hy168
                                  clear hy168
                                  have H' := Aside0.mk H
                                  clear H
                                  have hnb47 := NB161_156.out
                                  have hnc47 := NB156_161.out
                                  have hcz48_0 : wc.cell? ⟨gb161, 0, none⟩ = some (.string t158) := (blk_cell BK161.out 0).trans rfl
                                  have hcz48_1 : wc.cell? ⟨gb161, 1, none⟩ = some (.string t159) := (blk_cell BK161.out 1).trans rfl
                                  have hfz48_0 := blk_frozen BK161.out 0
                                  have hfz48_1 := blk_frozen BK161.out 1
                                  go_wp2_with (first | ((with_reducible refine gate_builtin (b := .append) (xs := #[.tmp 90, .tmp 94]) rfl ?_); at_builtin; refine Kd.S_append k43 (w0 := w) w.heap.size rfl (.tmp 90) (.tmp 94) 23 43 (.agg #[(.string ⟨#[]⟩), (.slice none 0 0)]) 40 rfl Tryd.underlying23 info43 rfl (by decide) (by omega) u9 x9_1 (⟨t159, ([] : List (S40))⟩ : S43) [.string t159, .slice none 0 0] (fun k_ => k_ ≠ gb161) (fun _ => False) rfl rfl ?aP (fun k_ hk_ => hk_.elim) ?aF ?aO ?aB ?aS ?aL ?_; (case aP => exact k43_mkM _ _ _ (⟨t159, ([] : List (S40))⟩ : S43) (Kd.R_nil _ _ _ _ _)); (case aB => exact (by repeat (first | (with_reducible first | exact HB.out | apply below_alloc | apply pw_below_drewN | apply below_drew1 | refine below_set ?_ GE156.out | refine below_set ?_ GE161.out) | exact HB.out))); (case aF => exact (fun k_ hk => Kd.freshB (g := gb161) (o := .cells #[.string t158, .string t159] 40 (0, 0)) (by (with_reducible repeat (first | refine blk_drewN ?_ _ | refine blk_drew ?_ | refine blk_alloc ?_ _)); exact BK161.out) k_ hk)); (case aO => exact (by (with_reducible repeat (first | apply Kd.S_alloc | apply Kd.S_drewN | apply Kd.S_drew)); exact Kd.S_mono HO_9.out (fun k_ hk => ⟨hk, fun e_ => e_⟩))); (case aS => exact (below_size (by repeat (first | (with_reducible first | exact HB.out | apply below_alloc | apply pw_below_drewN | apply below_drew1 | refine below_set ?_ GE156.out | refine below_set ?_ GE161.out) | exact HB.out)))); (case aL => have := LMc46.out; omega); intro v169 w49 ho hb hg hat; rw [← Ny168.out] at ho; have n0_ := Aside0.mk (Kd.R_over' (by (with_reducible repeat (first | apply Kd.R_alloc | apply Kd.R_drewN | apply Kd.R_drew)); exact HO_34.out) (Kd.S_typed (by (with_reducible repeat (first | apply Kd.S_alloc | apply Kd.S_drewN | apply Kd.S_drew)); exact HO_9.out)) (by decide) hg); have n1_ := Aside0.mk (blk_grown (g := gb156) (o := .cells #[.string ((rd_T49 t149 x36_1).f0), .int .i64 ((rd_T49 t149 x36_1).f1)] 49 (0, 0)) (by (with_reducible repeat (first | refine blk_drewN ?_ _ | refine blk_drew ?_ | refine blk_alloc ?_ _)); exact BK156.out) hg (Kd.S_ne HO_9.out BK156.out (by decide))); have n2_ := Aside0.mk (blk_grown (g := gb161) (o := .cells #[.string t158, .string t159] 40 (0, 0)) (by (with_reducible repeat (first | refine blk_drewN ?_ _ | refine blk_drew ?_ | refine blk_alloc ?_ _)); exact BK161.out) hg (Kd.S_ne HO_9.out BK161.out (by decide))); have n3_ := Aside0.mk (hb); have n4_ := Aside0.mk (ho); clear HO_34; clear BK156; clear BK161; clear HB; clear HO_9; have HO_34 := n0_; have BK156 := n1_; have BK161 := n2_; have HB := n3_; have HO170 := n4_; clear n0_ n1_ n2_ n3_ n4_; clear ho hb hg hat))
                                  go_roundg kj20
                                  case measure => have := HK1.out; have := HJ10.out; have := HJ20.out; omega
                                  case rel => exact ⟨(y168), (true), (wrap64 (x36_1 + 1)), (by first | rfl | (simp; done) | (simp [bne_nil8, beq_nil8]; done) | (simp [*]; done)), (by first | rfl | (simp; done) | (simp [bne_nil8, beq_nil8]; done) | (simp [*]; done)), H', ⟨by have := HK1.out; have := HJ10.out; have := HJ20.out; omega⟩, ⟨by (with_reducible repeat (first | apply Kd.S_alloc | apply Kd.S_drewN | apply Kd.S_drew)); exact Kd.S_mono HO170.out (fun _ hk => trivial)⟩, ⟨by (with_reducible repeat (first | apply Kd.R_alloc | apply Kd.R_drewN | apply Kd.R_drew)); exact Kd.R_mono HO_34.out (fun _ hk => trivial)⟩, ⟨by repeat (first | (with_reducible first | exact HB.out | apply below_alloc | apply pw_below_drewN | apply below_drew1 | refine below_set ?_ GE156.out | refine below_set ?_ GE161.out) | exact HB.out)⟩⟩
                                · rw [if_neg c46] at H
                                  exact absurd H (by simp)
              · rw [if_neg c9] at H
                exact absurd H (by simp)
            · rw [if_neg c8] at H
              exact absurd H (by simp)
          · rw [if_neg c7] at H
            have c7b0 := decide_eq_false c7
            clear c7
            simp only [Option.some.injEq, Prod.mk.injEq] at H
            obtain ⟨rfl, rfl, rfl⟩ := H
            go_wp2
            go_ret3
            exact ⟨_, by first | rfl | (simp [errW_none, errW_some, bne_nil8, beq_nil8]; done) | (simp [errW_none, errW_some] <;> rfl) | (simp [*, errW_none, errW_some] <;> rfl), by (with_reducible repeat (first | apply Kd.S_alloc | apply Kd.S_drewN | apply Kd.S_drew)); exact HO_9.out, by repeat (first | (with_reducible first | exact HB.out | apply below_alloc | apply pw_below_drewN | apply below_drew1) | exact HB.out)⟩
    · replace c4 := Bool.eq_false_iff.mpr c4
      subst c4
      rw [if_neg (show ¬ (false = true) by decide)] at H
      replace H := Option.bind_eq_some_iff.mp H
      obtain ⟨t154, A500, H⟩ := H
      replace H : (if t154 > 0 then (some (([] : List (S43)), t154, 4)) else (some (([] : List (S43)), t150, 4))) = some (r1, r2, r3) := H
      have A50 := Aside0.mk A500
      clear A500
      by_cases c51 : t154 > 0
      · rw [if_pos c51] at H
        have c51b0 := decide_eq_true c51
        clear c51
        simp only [Option.some.injEq, Prod.mk.injEq] at H
        obtain ⟨rfl, rfl, rfl⟩ := H
        go_enter Tryd.func8, Tryd.ntmps8
        go_wp2_with (first | ((with_reducible refine gate_callee (f := 25) rfl ?_); refine goesL_ (some 20) rfl rfl Tryd.func25 (by kernel_rfl) rfl #[.string a0] rfl (by (try simp only [List.map_toArray, List.map_cons, List.map_nil]); first | done | rfl | (simp only [List.length_drop, List.length_take]; rfl)) ?_; (with_reducible refine (ldif_lines.calls k a0 t149 t150 false _ ?side1 A3.out).mono ?_); (case side1 => first | exact HG.out | (refine Gw.below HG.out ?_; repeat (first | (with_reducible first | exact HB.out | apply below_alloc | apply pw_below_drewN | apply below_drew1) | exact HB.out))); rintro e w52 ⟨v152, rfl, ho0, hb⟩; refine ⟨_, rfl, ?_⟩; have n0_ := Aside0.mk (Kd.R_lower ho0 (below_size (by repeat (first | (with_reducible first | exact HB.out | apply below_alloc | apply pw_below_drewN | apply below_drew1) | exact HB.out)))); have n1_ := Aside0.mk (below_step (by repeat (first | (with_reducible first | exact HB.out | apply below_alloc | apply pw_below_drewN | apply below_drew1) | exact HB.out)) hb); clear HB; have HO153 := n0_; have HB := n1_; clear n0_ n1_; (try clear hb); (try clear hb2); (try clear hk); (try clear hi); (try clear ho0); obtain ⟨Ao53, co53, eo53⟩ := Kd.R_slice HO153.out; subst eo53) | ((with_reducible refine gate_callee (f := 26) rfl ?_); refine goesL_ (some 29) rfl rfl Tryd.func26 (by kernel_rfl) rfl #[.slice Ao53 t149.length co53, .string a0, .int .i64 t150] rfl (by (try simp only [List.map_toArray, List.map_cons, List.map_nil]); first | done | rfl | (simp only [List.length_drop, List.length_take]; rfl)) ?_; (with_reducible refine (ldif_firstN.calls k _ _ t149 a0 t150 t154 _ ?side1 ?side2 ?side3 A50.out).mono ?_); (case side1 => repeat (first | exact (Kd.R_reads' HO153.out).2.2 | (with_reducible refine Kd.C_alloc ?_ _) | (with_reducible refine Kd.C_drewN ?_ _) | (with_reducible refine Kd.C_drew ?_))); (case side2 => exact (Kd.R_reads' HO153.out).2.1); (case side3 => first | exact HG.out | (refine Gw.below HG.out ?_; repeat (first | (with_reducible first | exact HB.out | apply below_alloc | apply pw_below_drewN | apply below_drew1) | exact HB.out))); rintro e w54 ⟨rfl, hb⟩; refine ⟨_, rfl, ?_⟩; have n0_ := Aside0.mk (Kd.R_below (by (with_reducible repeat (first | apply Kd.R_alloc | apply Kd.R_drewN | apply Kd.R_drew)); exact HO153.out) hb); have n1_ := Aside0.mk (below_step (by repeat (first | (with_reducible first | exact HB.out | apply below_alloc | apply pw_below_drewN | apply below_drew1) | exact HB.out)) hb); clear HO153; clear HB; have HO153 := n0_; have HB := n1_; clear n0_ n1_; (try clear hb); (try clear hb2); (try clear hk); (try clear hi)))
        go_ret3
        exact ⟨_, by first | rfl | (simp [errW_none, errW_some, bne_nil8, beq_nil8]; done) | (simp [errW_none, errW_some] <;> rfl) | (simp [*, errW_none, errW_some] <;> rfl), by first | exact Kd.S_nil _ _ _ _ _ | exact Kd.N_nil _ _ _ _ _ | exact Kd.V_nil _ _ _ _ _ | exact Kd.Q_nil _ _ _ _ _ | exact Kd.R_nil _ _ _ _ _, by repeat (first | (with_reducible first | exact HB.out | apply below_alloc | apply pw_below_drewN | apply below_drew1) | exact HB.out)⟩
      · rw [if_neg c51] at H
        have c51b0 := decide_eq_false c51
        clear c51
        simp only [Option.some.injEq, Prod.mk.injEq] at H
        obtain ⟨rfl, rfl, rfl⟩ := H
        go_enter Tryd.func8, Tryd.ntmps8
        go_wp2_with (first | ((with_reducible refine gate_callee (f := 25) rfl ?_); refine goesL_ (some 20) rfl rfl Tryd.func25 (by kernel_rfl) rfl #[.string a0] rfl (by (try simp only [List.map_toArray, List.map_cons, List.map_nil]); first | done | rfl | (simp only [List.length_drop, List.length_take]; rfl)) ?_; (with_reducible refine (ldif_lines.calls k a0 t149 t150 false _ ?side1 A3.out).mono ?_); (case side1 => first | exact HG.out | (refine Gw.below HG.out ?_; repeat (first | (with_reducible first | exact HB.out | apply below_alloc | apply pw_below_drewN | apply below_drew1) | exact HB.out))); rintro e w55 ⟨v152, rfl, ho0, hb⟩; refine ⟨_, rfl, ?_⟩; have n0_ := Aside0.mk (Kd.R_lower ho0 (below_size (by repeat (first | (with_reducible first | exact HB.out | apply below_alloc | apply pw_below_drewN | apply below_drew1) | exact HB.out)))); have n1_ := Aside0.mk (below_step (by repeat (first | (with_reducible first | exact HB.out | apply below_alloc | apply pw_below_drewN | apply below_drew1) | exact HB.out)) hb); clear HB; have HO153 := n0_; have HB := n1_; clear n0_ n1_; (try clear hb); (try clear hb2); (try clear hk); (try clear hi); (try clear ho0); obtain ⟨Ao56, co56, eo56⟩ := Kd.R_slice HO153.out; subst eo56) | ((with_reducible refine gate_callee (f := 26) rfl ?_); refine goesL_ (some 29) rfl rfl Tryd.func26 (by kernel_rfl) rfl #[.slice Ao56 t149.length co56, .string a0, .int .i64 t150] rfl (by (try simp only [List.map_toArray, List.map_cons, List.map_nil]); first | done | rfl | (simp only [List.length_drop, List.length_take]; rfl)) ?_; (with_reducible refine (ldif_firstN.calls k _ _ t149 a0 t150 t154 _ ?side1 ?side2 ?side3 A50.out).mono ?_); (case side1 => repeat (first | exact (Kd.R_reads' HO153.out).2.2 | (with_reducible refine Kd.C_alloc ?_ _) | (with_reducible refine Kd.C_drewN ?_ _) | (with_reducible refine Kd.C_drew ?_))); (case side2 => exact (Kd.R_reads' HO153.out).2.1); (case side3 => first | exact HG.out | (refine Gw.below HG.out ?_; repeat (first | (with_reducible first | exact HB.out | apply below_alloc | apply pw_below_drewN | apply below_drew1) | exact HB.out))); rintro e w57 ⟨rfl, hb⟩; refine ⟨_, rfl, ?_⟩; have n0_ := Aside0.mk (Kd.R_below (by (with_reducible repeat (first | apply Kd.R_alloc | apply Kd.R_drewN | apply Kd.R_drew)); exact HO153.out) hb); have n1_ := Aside0.mk (below_step (by repeat (first | (with_reducible first | exact HB.out | apply below_alloc | apply pw_below_drewN | apply below_drew1) | exact HB.out)) hb); clear HO153; clear HB; have HO153 := n0_; have HB := n1_; clear n0_ n1_; (try clear hb); (try clear hb2); (try clear hk); (try clear hi)))
        go_ret3
        exact ⟨_, by first | rfl | (simp [errW_none, errW_some, bne_nil8, beq_nil8]; done) | (simp [errW_none, errW_some] <;> rfl) | (simp [*, errW_none, errW_some] <;> rfl), by first | exact Kd.S_nil _ _ _ _ _ | exact Kd.N_nil _ _ _ _ _ | exact Kd.V_nil _ _ _ _ _ | exact Kd.Q_nil _ _ _ _ _ | exact Kd.R_nil _ _ _ _ _, by repeat (first | (with_reducible first | exact HB.out | apply below_alloc | apply pw_below_drewN | apply below_drew1) | exact HB.out)⟩
def ldif_first.l0 : Nat → ByteArray → Int → Int → Int → Option (Int)
  | 0, _, _, _, _ => none
  | k + 1, x1, x7, x12, x13 => if x13 < x12 then (if 0 ≤ x7 then (if x7 ≤ (x1.size : Int) then ((strings_IndexByte.f (x1.extract (x7 : Int).toNat x1.size) 10).bind fun t119 => (ldif_first.l0 k x1 (wrap64 (x7 + (wrap64 (t119 + 1)))) x12 (wrap64 (x13 + 1)))) else (none)) else (none)) else (if 0 ≤ x7 then (if x7 ≤ (x1.size : Int) then ((ldif_Parse0.f k (x1.extract 0 (x7 : Int).toNat)).bind fun bt120 => (if bt120.2.2 = 0 then (some 0) else (some bt120.2.1))) else (none)) else (none))
def ldif_first.f (k : Nat) (l0 : List (S49)) (a1 : ByteArray) (a2 : Int) : Option (Int) := ldif_first.l0 k a1 0 (wrap64 (a2 - 1)) 0
set_option maxHeartbeats 8000000 in
set_option maxRecDepth 100000 in
theorem ldif_first.calls (k : Nat) (A0 : Option Addr) (c0 : Nat) (l0 : List (S49)) (a1 : ByteArray) (a2 : Int) (r : Int) (w : World) (hr0 : Kd.C k49 w A0 l0.length l0) (hc0 : l0.length ≤ c0) (hG : Gw w) (h : ldif_first.f k l0 a1 a2 = some r) :
    Calls Tryd.prog 26 #[.slice A0 l0.length c0, .string a1, .int .i64 a2] w fun e w' => e = .returned (.int .i64 r) ∧ Below w.heap.size w w' := by
  have HR0 := Aside0.mk hr0
  have HC0 := Aside0.mk hc0
  clear hr0 hc0
  have HB := Aside0.mk (Below.refl w.heap.size w)
  have HG := Aside0.mk hG
  clear hG
  have H : (ldif_first.l0 k a1 0 (wrap64 (a2 - 1)) 0) = some r := h
  clear h
  have H' := Aside0.mk H
  clear H
  go_enter Tryd.func26, Tryd.ntmps26
  go_wp2
  go_loopg [7, 13] k (fun kq v7 v13 w' => ∃ (x7_1 : Int) (x13_1 : Int), v7 = .int .i64 x7_1 ∧ v13 = .int .i64 x13_1 ∧ Aside0 (ldif_first.l0 kq a1 x7_1 (wrap64 (a2 - 1)) x13_1 = some r) ∧ Aside0 (kq ≤ k) ∧ Aside0 (Below w.heap.size w w'))
  case atStart => exact ⟨(0), (0), (by first | rfl | (simp; done) | (simp [bne_nil8, beq_nil8]; done) | (simp [*]; done)), (by first | rfl | (simp; done) | (simp [bne_nil8, beq_nil8]; done) | (simp [*]; done)), H', ⟨Nat.le_refl _⟩, ⟨by repeat (first | (with_reducible first | exact HB.out | apply below_alloc | apply pw_below_drewN | apply below_drew1) | exact HB.out)⟩⟩
  case round =>
    clear H'
    try clear c2
    try clear p2
    obtain ⟨x7_1, x13_1, rfl, rfl, HA, HK1, HB⟩ := hrel
    cases gk with
    | zero => exact absurd HA.out (by simp [ldif_first.l0])
    | succ k1 =>
      have H := HA.out
      clear HA
      simp only [ldif_first.l0] at H
      by_cases c4 : x13_1 < (wrap64 (a2 - 1))
      · rw [if_pos c4] at H
        have c4b0 := decide_eq_true c4
        clear c4
        by_cases c5 : 0 ≤ x7_1
        · rw [if_pos c5] at H
          have c5b0 := eq_true c5
          have c5b1 := decide_eq_true c5
          clear c5
          by_cases c6 : x7_1 ≤ (a1.size : Int)
          · rw [if_pos c6] at H
            have c6b0 := eq_true c6
            have c6b1 := decide_eq_true c6
            clear c6
            replace H := Option.bind_eq_some_iff.mp H
            obtain ⟨t119, A70, H⟩ := H
            replace H : (ldif_first.l0 k1 a1 (wrap64 (x7_1 + (wrap64 (t119 + 1)))) (wrap64 (a2 - 1)) (wrap64 (x13_1 + 1))) = some r := H
            have A7 := Aside0.mk A70
            clear A70
            have H' := Aside0.mk H
            clear H
            go_wp2_with (first | ((with_reducible refine gate_callee (f := 50) rfl ?_); refine goesL_ (some 19) rfl rfl Tryd.func50 (by kernel_rfl) rfl #[.string (a1.extract (x7_1 : Int).toNat a1.size), .int .u8 10] rfl (by (try simp only [List.map_toArray, List.map_cons, List.map_nil]); first | done | rfl | (simp only [List.length_drop, List.length_take]; rfl)) ?_; (with_reducible refine (strings_IndexByte.calls (a1.extract (x7_1 : Int).toNat a1.size) 10 t119 _ A7.out).mono ?_); rintro e w' ⟨rfl, ⟨nd, rfl⟩⟩; refine ⟨_, rfl, ?_⟩))
            go_roundg k1
            case measure => have := HK1.out; omega
            case rel => exact ⟨(wrap64 (x7_1 + (wrap64 (t119 + 1)))), (wrap64 (x13_1 + 1)), (by first | rfl | (simp; done) | (simp [bne_nil8, beq_nil8]; done) | (simp [*]; done)), (by first | rfl | (simp; done) | (simp [bne_nil8, beq_nil8]; done) | (simp [*]; done)), H', ⟨by have := HK1.out; omega⟩, ⟨by repeat (first | (with_reducible first | exact HB.out | apply below_alloc | apply pw_below_drewN | apply below_drew1) | exact HB.out)⟩⟩
          · rw [if_neg c6] at H
            exact absurd H (by simp)
        · rw [if_neg c5] at H
          exact absurd H (by simp)
      · rw [if_neg c4] at H
        have c4b0 := decide_eq_false c4
        clear c4
        by_cases c8 : 0 ≤ x7_1
        · rw [if_pos c8] at H
          have c8b0 := eq_true c8
          have c8b1 := decide_eq_true c8
          clear c8
          by_cases c9 : x7_1 ≤ (a1.size : Int)
          · rw [if_pos c9] at H
            have c9b0 := eq_true c9
            have c9b1 := decide_eq_true c9
            clear c9
            replace H := Option.bind_eq_some_iff.mp H
            obtain ⟨⟨t120, t121, t122⟩, A100, H⟩ := H
            replace H : (if t122 = 0 then (some 0) else (some t121)) = some r := H
            have A10 := Aside0.mk A100
            clear A100
            by_cases c11 : t122 = 0
            · rw [if_pos c11] at H
              have c11b0 : (t122 == 0) = true := beq_iff_eq.mpr c11
              have c11b1 : (t122 != 0) = false := bne_eq_false_iff_eq.mpr c11
              clear c11
              obtain rfl := Option.some.inj H
              go_wp2_with (first | ((with_reducible refine gate_callee (f := 8) rfl ?_); refine goesL_ (some 27) rfl rfl Tryd.func8 (by kernel_rfl) rfl #[.string (a1.extract 0 (x7_1 : Int).toNat)] rfl (by (try simp only [List.map_toArray, List.map_cons, List.map_nil]); first | done | rfl | (simp only [List.length_drop, List.length_take]; rfl)) ?_; (with_reducible refine (ldif_Parse0.calls k1 (a1.extract 0 (x7_1 : Int).toNat) t120 t121 t122 _ ?side1 A10.out).mono ?_); (case side1 => first | exact HG.out | (refine Gw.below HG.out ?_; repeat (first | (with_reducible first | exact HB.out | apply below_alloc | apply pw_below_drewN | apply below_drew1) | exact HB.out))); rintro e w12 ⟨v123, rfl, ho0, hb⟩; refine ⟨_, rfl, ?_⟩; have n0_ := Aside0.mk (Kd.S_lower ho0 (below_size (by repeat (first | (with_reducible first | exact HB.out | apply below_alloc | apply pw_below_drewN | apply below_drew1) | exact HB.out)))); have n1_ := Aside0.mk (below_step (by repeat (first | (with_reducible first | exact HB.out | apply below_alloc | apply pw_below_drewN | apply below_drew1) | exact HB.out)) hb); clear HB; have HO124 := n0_; have HB := n1_; clear n0_ n1_; (try clear hb); (try clear hb2); (try clear hk); (try clear hi); (try clear ho0)))
              go_ret
              exact ⟨by first | rfl | (simp [errW_none, errW_some, bne_nil8, beq_nil8]; done) | (simp [errW_none, errW_some] <;> rfl) | (simp [*, errW_none, errW_some] <;> rfl), by repeat (first | (with_reducible first | exact HB.out | apply below_alloc | apply pw_below_drewN | apply below_drew1) | exact HB.out)⟩
            · rw [if_neg c11] at H
              have c11b0 : (t122 == 0) = false := beq_eq_false_iff_ne.mpr c11
              have c11b1 : (t122 != 0) = true := bne_iff_ne.mpr c11
              obtain rfl := Option.some.inj H
              go_wp2_with (first | ((with_reducible refine gate_callee (f := 8) rfl ?_); refine goesL_ (some 27) rfl rfl Tryd.func8 (by kernel_rfl) rfl #[.string (a1.extract 0 (x7_1 : Int).toNat)] rfl (by (try simp only [List.map_toArray, List.map_cons, List.map_nil]); first | done | rfl | (simp only [List.length_drop, List.length_take]; rfl)) ?_; (with_reducible refine (ldif_Parse0.calls k1 (a1.extract 0 (x7_1 : Int).toNat) t120 t121 t122 _ ?side1 A10.out).mono ?_); (case side1 => first | exact HG.out | (refine Gw.below HG.out ?_; repeat (first | (with_reducible first | exact HB.out | apply below_alloc | apply pw_below_drewN | apply below_drew1) | exact HB.out))); rintro e w13 ⟨v123, rfl, ho0, hb⟩; refine ⟨_, rfl, ?_⟩; have n0_ := Aside0.mk (Kd.S_lower ho0 (below_size (by repeat (first | (with_reducible first | exact HB.out | apply below_alloc | apply pw_below_drewN | apply below_drew1) | exact HB.out)))); have n1_ := Aside0.mk (below_step (by repeat (first | (with_reducible first | exact HB.out | apply below_alloc | apply pw_below_drewN | apply below_drew1) | exact HB.out)) hb); clear HB; have HO124 := n0_; have HB := n1_; clear n0_ n1_; (try clear hb); (try clear hb2); (try clear hk); (try clear hi); (try clear ho0)))
              go_ret
              exact ⟨by first | rfl | (simp [errW_none, errW_some, bne_nil8, beq_nil8]; done) | (simp [errW_none, errW_some] <;> rfl) | (simp [*, errW_none, errW_some] <;> rfl), by repeat (first | (with_reducible first | exact HB.out | apply below_alloc | apply pw_below_drewN | apply below_drew1) | exact HB.out)⟩
          · rw [if_neg c9] at H
            exact absurd H (by simp)
        · rw [if_neg c8] at H
          exact absurd H (by simp)
mutual
def ldif_Parse.l0 : Nat → List (S43) → Bool → List (S49) → Int → Int → Option ((List (S43)) × Int × Int)
 | 0, _, _, _, _, _ => none
 | k + 1, x9, x10, x34, x35, x36 => if x36 < x35 then (if 0 ≤ x36 then (if x36 < (x34.length : Int) then ((strings_HasPrefix.f ((rd_T49 x34 x36).f0) (⟨#[35]⟩ : ByteArray)).bind fun t157 => (if t157 = true then (ldif_Parse.j1 k x9 x10 x34 x35 x36 t157 ((rd_T49 x34 x36).f0) ((rd_T49 x34 x36).f1)) else (if x36 = 0 then (ldif_Parse.j1 k x9 x10 x34 x35 x36 (((rd_T49 x34 x36).f0).toList == ([118, 101, 114, 115, 105, 111, 110, 58, 32, 49] : List UInt8)) ((rd_T49 x34 x36).f0) ((rd_T49 x34 x36).f1)) else (ldif_Parse.j1 k x9 x10 x34 x35 x36 false ((rd_T49 x34 x36).f0) ((rd_T49 x34 x36).f1))))) else (none)) else (none)) else (some (x9, 0, 0))
def ldif_Parse.j1 : Nat → List (S43) → Bool → List (S49) → Int → Int → Bool → ByteArray → Int → Option ((List (S43)) × Int × Int)
 | 0, _, _, _, _, _, _, _, _ => none
 | k + 1, x9, x10, x34, x35, x36, x41, x157000, x157001 => if x41 = true then (ldif_Parse.l0 k x9 x10 x34 x35 (wrap64 (x36 + 1))) else (if x157000.toList = ([] : List UInt8) then (ldif_Parse.l0 k x9 false x34 x35 (wrap64 (x36 + 1))) else ((ldif_pair.f k x157000).bind fun bt158 => (if bt158.2.2 = true then ((ldif_isName.f bt158.1).bind fun t162 => (ldif_Parse.j2 k x9 x10 x34 x35 x36 (t162 == x10) x157000 x157001 bt158.1 bt158.2.1)) else (ldif_Parse.j2 k x9 x10 x34 x35 x36 true x157000 x157001 bt158.1 bt158.2.1))))
def ldif_Parse.j2 : Nat → List (S43) → Bool → List (S49) → Int → Int → Bool → ByteArray → Int → ByteArray → ByteArray → Option ((List (S43)) × Int × Int)
 | 0, _, _, _, _, _, _, _, _, _, _ => none
 | k + 1, x9, x10, x34, x35, x36, x70, x157000, x157001, x162000, x162001 => if x70 = true then (some (([] : List (S43)), x157001, 4)) else (if x10 = true then (if 0 ≤ (wrap64 ((x9.length : Int) - 1)) then (if (wrap64 ((x9.length : Int) - 1)) < (x9.length : Int) then (if ((rd_T43 x9 (wrap64 ((x9.length : Int) - 1))).f1).length < 4398046511104 then (ldif_Parse.l0 k (x9.set ((wrap64 ((x9.length : Int) - 1)) : Int).toNat (⟨(rd_T43 x9 (wrap64 ((x9.length : Int) - 1))).f0, (((rd_T43 x9 (wrap64 ((x9.length : Int) - 1))).f1) ++ [(⟨x162000, x162001⟩ : S40)])⟩ : S43)) x10 x34 x35 (wrap64 (x36 + 1))) else (none)) else (none)) else (none)) else (if x9.length < 3518437208883 then (ldif_Parse.l0 k (x9 ++ [(⟨x162001, ([] : List (S40))⟩ : S43)]) true x34 x35 (wrap64 (x36 + 1))) else (none)))
end
def ldif_Parse.f (k : Nat) (a0 : ByteArray) : Option ((List (S43)) × Int × Int) := if (a0.size : Int) > 100000 then (some (([] : List (S43)), 0, 5)) else ((ldif_lines.f k a0).bind fun bt149 => (if bt149.2.2 = true then (ldif_Parse.l0 k ([] : List (S43)) false bt149.1 (bt149.1.length : Int) 0) else ((ldif_first.f k bt149.1 a0 bt149.2.1).bind fun t154 => (if t154 > 0 then (some (([] : List (S43)), t154, 4)) else (some (([] : List (S43)), bt149.2.1, 4))))))
def ldif_Parse.T22 : Bool × List (List Nat × List Nat) := (true, [([], []), ([], []), ([1], [1]), ([2], [2]), ([], []), ([], []), ([5], [5]), ([6], [6]), ([4, 7], [4, 7]), ([8], [8]), ([9], [9]), ([], []), ([11], [11]), ([10, 12], [10, 12]), ([0, 3, 0, 1, 2, 3, 4, 5, 6, 7, 8, 9, 10, 11, 12, 13], [0, 3]), ([14, 0, 1, 2, 3, 4, 5, 6, 7, 8, 9, 10, 11, 12, 13], [14]), ([15, 13, 13, 0, 1, 2, 3, 4, 5, 6, 7, 8, 9, 10, 11, 12, 13], [13, 15])])
def ldif_Parse.B22 : List Nat := [0, 0, 2, 6, 0, 0, 32, 96, 240, 496, 1008, 0, 2048, 8176, 16383, 32767, 65535]
theorem ldif_Parse.tab22 : rtab .any (opsOf Tryd.f8 22) = ldif_Parse.T22 := by kernel_rfl
theorem ldif_Parse.bits22 : waitsOk ldif_Parse.T22.2 ldif_Parse.B22 = true := by kernel_rfl
set_option maxHeartbeats 8000000 in
set_option maxRecDepth 100000 in
theorem ldif_Parse.calls (k : Nat) (a0 : ByteArray) (r1 : List (S43)) (r2 : Int) (r3 : Int) (w : World) (hG : Gw w) (h : ldif_Parse.f k a0 = some (r1, r2, r3)) :
  Calls Tryd.prog 8 #[.string a0] w fun e w' => ∃ v0_ : Value, e = .returned (.tuple #[v0_, .int .i64 r2, .int .i64 r3]) ∧ Kd.S k43 43 w' w.heap.size (fun _ => True) v0_ r1 ∧ Below w.heap.size w w' := by
 have hu49 := Tryd.underlying49
 have hu40 := Tryd.underlying40
 have hu43 := Tryd.underlying43
 have HB := Aside0.mk (Below.refl w.heap.size w)
 have HG := Aside0.mk hG
 clear hG
 have H : (if (a0.size : Int) > 100000 then (some (([] : List (S43)), 0, 5)) else ((ldif_lines.f k a0).bind fun bt149 => (if bt149.2.2 = true then (ldif_Parse.l0 k ([] : List (S43)) false bt149.1 (bt149.1.length : Int) 0) else ((ldif_first.f k bt149.1 a0 bt149.2.1).bind fun t154 => (if t154 > 0 then (some (([] : List (S43)), t154, 4)) else (some (([] : List (S43)), bt149.2.1, 4))))))) = some (r1, r2, r3) := h
 clear h
 by_cases c2 : (a0.size : Int) > 100000
 ·
  rw [if_pos c2] at H
  have c2b0 := decide_eq_true c2
  have c2b1 : decide (100000 < a0.size) = true := decide_eq_true (by omega)
  clear c2
  simp only [Option.some.injEq, Prod.mk.injEq] at H
  obtain ⟨rfl, rfl, rfl⟩ := H
  go_enter Tryd.func8, Tryd.ntmps8
  go_wp2
  go_ret3
  exact ⟨_, by first | rfl | (simp [errW_none, errW_some, bne_nil8, beq_nil8]; done) | (simp [errW_none, errW_some] <;> rfl) | (simp [*, errW_none, errW_some] <;> rfl), by first | exact Kd.S_nil _ _ _ _ _ | exact Kd.N_nil _ _ _ _ _ | exact Kd.V_nil _ _ _ _ _ | exact Kd.Q_nil _ _ _ _ _ | exact Kd.R_nil _ _ _ _ _, by repeat (first | (with_reducible first | exact HB.out | apply below_alloc | apply pw_below_drewN | apply below_drew1) | exact HB.out)⟩
 ·
  rw [if_neg c2] at H
  have c2b0 := decide_eq_false c2
  have c2b1 : decide (100000 < a0.size) = false := decide_eq_false (by omega)
  clear c2
  replace H := Option.bind_eq_some_iff.mp H
  obtain ⟨⟨t149, t150, t151⟩, A30, H⟩ := H
  replace H : (if t151 = true then (ldif_Parse.l0 k ([] : List (S43)) false t149 (t149.length : Int) 0) else ((ldif_first.f k t149 a0 t150).bind fun t154 => (if t154 > 0 then (some (([] : List (S43)), t154, 4)) else (some (([] : List (S43)), t150, 4))))) = some (r1, r2, r3) := H
  have A3 := Aside0.mk A30
  clear A30
  by_cases c4 : t151 = true
  ·
   subst c4
   rw [if_pos rfl] at H
   have H' := Aside0.mk H
   clear H
   go_enter Tryd.func8, Tryd.ntmps8
   go_wp2_with (first | ((with_reducible refine gate_callee (f := 25) rfl ?_); refine goesL_ (some 20) rfl rfl Tryd.func25 (by kernel_rfl) rfl #[.string a0] rfl ap3 ?_; (with_reducible refine (ldif_lines.calls k a0 t149 t150 true _ ?side1 A3.out).mono ?_); (case side1 => exact ap6); rintro e w5 ⟨v152, rfl, ho0, hb⟩; refine ⟨_, rfl, ?_⟩; have n0_ := Aside0.mk (Kd.R_lower ho0 (below_size ap1)); have n1_ := Aside0.mk (below_step ap1 hb); clear HB; have HO153 := n0_; have HB := n1_; clear n0_ n1_; (try clear hb); (try clear hb2); (try clear hk); (try clear hi); (try clear ho0); obtain ⟨Ao6, co6, eo6⟩ := Kd.R_slice HO153.out; subst eo6))
   go_loopg [9, 10, 36] k (fun kq v9 v10 v36 w' => ∃ (x9_1 : List (S43)) (x10_1 : Bool) (x36_1 : Int), v10 = .bool x10_1 ∧ v36 = .int .i64 x36_1 ∧ Aside0 (ldif_Parse.l0 kq x9_1 x10_1 t149 (t149.length : Int) x36_1 = some (r1, r2, r3)) ∧ Aside0 (kq ≤ k) ∧ Aside0 (Kd.S k43 43 w' w.heap.size (fun _ => True) v9 x9_1) ∧ Aside0 (Kd.R k49 49 w' w.heap.size (fun _ => True) (.slice Ao6 t149.length co6) t149) ∧ Aside0 (Below w.heap.size w w'))
   case atStart => exact ⟨(([] : List (S43))), (false), (0), ap2, ap2, H', ⟨Nat.le_refl _⟩, ⟨by first | exact Kd.S_nil _ _ _ _ _ | exact Kd.N_nil _ _ _ _ _ | exact Kd.V_nil _ _ _ _ _ | exact Kd.Q_nil _ _ _ _ _ | exact Kd.R_nil _ _ _ _ _⟩, ⟨by (with_reducible repeat (first | apply Kd.R_alloc | apply Kd.R_drewN | apply Kd.R_drew)); exact HO153.out⟩, ⟨by repeat (first | (with_reducible first | exact HB.out | apply below_alloc | apply pw_below_drewN | apply below_drew1) | exact HB.out)⟩⟩
   case round =>
    clear H'
    try clear c2
    try clear c2b0
    try clear c2b1
    try clear p2
    try clear c4
    obtain ⟨x9_1, x10_1, x36_1, rfl, rfl, HA, HK1, HO_9, HO_34, HB⟩ := hrel
    cases gk with
    | zero => exact absurd HA.out (by simp [ldif_Parse.l0])
    | succ k1 =>
     have H := HA.out
     clear HA
     simp only [ldif_Parse.l0] at H
     by_cases c7 : x36_1 < (t149.length : Int)
     ·
      rw [if_pos c7] at H
      have c7b0 := decide_eq_true c7
      clear c7
      by_cases c8 : 0 ≤ x36_1
      ·
       rw [if_pos c8] at H
       have c8b0 := decide_eq_true c8
       clear c8
       by_cases c9 : x36_1 < (t149.length : Int)
       ·
        rw [if_pos c9] at H
        have c9b0 := decide_eq_true c9
        clear c9
        replace H := Option.bind_eq_some_iff.mp H
        obtain ⟨t157, A100, H⟩ := H
        replace H : (if t157 = true then (ldif_Parse.j1 k1 x9_1 x10_1 t149 (t149.length : Int) x36_1 t157 ((rd_T49 t149 x36_1).f0) ((rd_T49 t149 x36_1).f1)) else (if x36_1 = 0 then (ldif_Parse.j1 k1 x9_1 x10_1 t149 (t149.length : Int) x36_1 (((rd_T49 t149 x36_1).f0).toList == ([118, 101, 114, 115, 105, 111, 110, 58, 32, 49] : List UInt8)) ((rd_T49 t149 x36_1).f0) ((rd_T49 t149 x36_1).f1)) else (ldif_Parse.j1 k1 x9_1 x10_1 t149 (t149.length : Int) x36_1 false ((rd_T49 t149 x36_1).f0) ((rd_T49 t149 x36_1).f1)))) = some (r1, r2, r3) := H
        have A10 := Aside0.mk A100
        clear A100
        have HC11 := Aside0.mk H
        clear H
        have p155 : 0 ≤ (x36_1 : Int) := of_decide_eq_true ap0
        have q155 : x36_1 < (t149.length : Int) := of_decide_eq_true ap0
        obtain ⟨ad155, e155, hx155_0, hx155_1⟩ := at_T49 (Kd.R_reads' HO_34.out).2.2 x36_1 p155 q155
        cases e155
        replace p155 := eq_true p155
        replace q155 := eq_true q155
        go_upto_if 41 with (first | ((with_reducible refine gate_dst (N := 12) rfl ?_); refine box_event ?hg (N := 12) ?hd (cs := #[.string (⟨#[]⟩ : ByteArray), .int .i64 0]) (t := 49) ?hr ?_; (case hd => rfl); (case hg => rfl); (case hr => first | (go_simp; done) | (go_simp; rfl)); intro gb156 hg w12 hbox hb; have n0_ := Aside0.mk (Kd.S_below (apAS HO_9.out) hb); have n1_ := Aside0.mk (Kd.R_below (Kd.R_elderB (apAR HO_34.out) gb156 (Nat.le_of_eq hg.symm)) hb); have n2_ := Aside0.mk (below_step ap1 hb); have n3_ := Aside0.mk (hbox); have n4_ := Aside0.mk ((by rw [hg]; exact (below_size ap1) : w.heap.size ≤ gb156)); have n5_ := Aside0.mk ((by rw [hg]; exact (below_size ap1) : w.heap.size ≤ gb156)); clear HO_9; clear HO_34; clear HB; have HO_9 := n0_; have HO_34 := n1_; have HB := n2_; have BK156 := n3_; have GW156 := n4_; have GE156 := n5_; clear n0_ n1_ n2_ n3_ n4_ n5_; clear hb hbox hg; have hcz13_0 : w12.cell? ⟨gb156, 0, none⟩ = some (.string (⟨#[]⟩ : ByteArray)) := (blk_cell BK156.out 0).trans rfl; have hcz13_1 : w12.cell? ⟨gb156, 1, none⟩ = some (.int .i64 0) := (blk_cell BK156.out 1).trans rfl; have hfz13_0 := blk_frozen BK156.out 0; have hfz13_1 := blk_frozen BK156.out 1) | ((with_reducible refine gate_callee (f := 27) rfl ?_); refine goesL_ (some 44) rfl rfl Tryd.func27 (by kernel_rfl) rfl #[.string ((rd_T49 t149 x36_1).f0), .string (⟨#[35]⟩ : ByteArray)] rfl ap3 ?_; (with_reducible refine (strings_HasPrefix.calls ((rd_T49 t149 x36_1).f0) (⟨#[35]⟩ : ByteArray) t157 _ A10.out).mono ?_); rintro e w' ⟨rfl, ⟨nd, rfl⟩⟩; refine ⟨_, rfl, ?_⟩))
        (try simp only [Act.put, List.setIfInBounds_toArray, List.set_cons_zero, List.set_cons_succ])
        go_cut [41] (fun v41 wc => ∃ (kq : Nat) (x41_10 : Bool), v41 = .bool x41_10 ∧ Aside0 (ldif_Parse.j1 kq x9_1 x10_1 t149 (t149.length : Int) x36_1 x41_10 ((rd_T49 t149 x36_1).f0) ((rd_T49 t149 x36_1).f1) = some (r1, r2, r3)) ∧ Aside0 (kq ≤ k1) ∧ Aside0 (Kd.S k43 43 wc w.heap.size (fun _ => True) u9 x9_1) ∧ Aside0 (Kd.R k49 49 wc w.heap.size (fun k_ => k_ ≠ gb156) (.slice (some ad155) t149.length co6) t149) ∧ Aside0 (wc.heap[gb156]? = some (.cells #[.string ((rd_T49 t149 x36_1).f0), .int .i64 ((rd_T49 t149 x36_1).f1)] 49 (0, 0))) ∧ Aside0 (Below w.heap.size w wc))
        case first =>
         have H := HC11.out
         clear HC11
         by_cases c14 : t157 = true
         ·
          subst c14
          rw [if_pos rfl] at H
          have H' := Aside0.mk H
          clear H
          go_wp2
          go_meet
          case rel => exact ⟨_, (true), ap2, H', ⟨by have := HK1.out; first | omega | exact Nat.le_refl _⟩, ⟨by (with_reducible repeat (first | apply Kd.S_alloc | apply Kd.S_drewN | apply Kd.S_drew)); exact Kd.S_mono (Kd.S_far (p := ⟨gb156, 1, none⟩) (Kd.S_far (p := ⟨gb156, 0, none⟩) (Kd.S_types HO_9.out BK156.out (by decide)) (fun _ hk => hk.2) (.string ((rd_T49 t149 x36_1).f0))) (fun _ hk => hk.2) (.int .i64 ((rd_T49 t149 x36_1).f1))) (fun _ hk => trivial)⟩, ⟨by (with_reducible repeat (first | apply Kd.R_alloc | apply Kd.R_drewN | apply Kd.R_drew)); exact Kd.R_mono (Kd.R_far (p := ⟨gb156, 1, none⟩) (Kd.R_far (p := ⟨gb156, 0, none⟩) (Kd.R_mono HO_34.out (fun k_ hk => (⟨hk, hk.2⟩ : _ ∧ k_ ≠ gb156))) (fun _ hk => hk.2) (.string ((rd_T49 t149 x36_1).f0))) (fun _ hk => hk.2) (.int .i64 ((rd_T49 t149 x36_1).f1))) (fun _ hk => hk.1.2)⟩, ⟨by (with_reducible repeat (first | refine blk_drewN ?_ _ | refine blk_drew ?_ | refine blk_alloc ?_ _)); refine blk_put (cs := #[.string ((rd_T49 t149 x36_1).f0), .int .i64 0]) ?_ 1 _ rfl; (with_reducible repeat (first | refine blk_drewN ?_ _ | refine blk_drew ?_ | refine blk_alloc ?_ _)); refine blk_put (cs := #[.string (⟨#[]⟩ : ByteArray), .int .i64 0]) ?_ 0 _ rfl; (with_reducible repeat (first | refine blk_drewN ?_ _ | refine blk_drew ?_ | refine blk_alloc ?_ _)); exact BK156.out⟩, ⟨by repeat (first | (with_reducible first | exact HB.out | apply below_alloc | apply pw_below_drewN | apply below_drew1 | refine below_set ?_ GE156.out) | exact HB.out)⟩⟩
         ·
          replace c14 := Bool.eq_false_iff.mpr c14
          subst c14
          rw [if_neg (show ¬ (false = true) by decide)] at H
          by_cases c15 : x36_1 = 0
          ·
           rw [if_pos c15] at H
           have c15b0 : (x36_1 == 0) = true := beq_iff_eq.mpr c15
           have c15b1 : (x36_1 != 0) = false := bne_eq_false_iff_eq.mpr c15
           clear c15
           (first | rw [c15b0] | (simp only [i64_w, i32_w]; rw [c15b0]) | skip)
           have H' := Aside0.mk H
           clear H
           have hcz16_0 : w12.cell? ⟨gb156, 0, none⟩ = some (.string (⟨#[]⟩ : ByteArray)) := (blk_cell BK156.out 0).trans rfl
           have hcz16_1 : w12.cell? ⟨gb156, 1, none⟩ = some (.int .i64 0) := (blk_cell BK156.out 1).trans rfl
           have hfz16_0 := blk_frozen BK156.out 0
           have hfz16_1 := blk_frozen BK156.out 1
           go_wp2
           first | go_meet | (simp only [c15b0] at *; go_meet)
           case rel => exact ⟨_, ((((rd_T49 t149 x36_1).f0).toList == ([118, 101, 114, 115, 105, 111, 110, 58, 32, 49] : List UInt8))), ap2, H', ⟨by have := HK1.out; first | omega | exact Nat.le_refl _⟩, ⟨by (with_reducible repeat (first | apply Kd.S_alloc | apply Kd.S_drewN | apply Kd.S_drew)); exact Kd.S_mono (Kd.S_far (p := ⟨gb156, 1, none⟩) (Kd.S_far (p := ⟨gb156, 0, none⟩) (Kd.S_types HO_9.out BK156.out (by decide)) (fun _ hk => hk.2) (.string ((rd_T49 t149 x36_1).f0))) (fun _ hk => hk.2) (.int .i64 ((rd_T49 t149 x36_1).f1))) (fun _ hk => trivial)⟩, ⟨by (with_reducible repeat (first | apply Kd.R_alloc | apply Kd.R_drewN | apply Kd.R_drew)); exact Kd.R_mono (Kd.R_far (p := ⟨gb156, 1, none⟩) (Kd.R_far (p := ⟨gb156, 0, none⟩) (Kd.R_mono HO_34.out (fun k_ hk => (⟨hk, hk.2⟩ : _ ∧ k_ ≠ gb156))) (fun _ hk => hk.2) (.string ((rd_T49 t149 x36_1).f0))) (fun _ hk => hk.2) (.int .i64 ((rd_T49 t149 x36_1).f1))) (fun _ hk => hk.1.2)⟩, ⟨by (with_reducible repeat (first | refine blk_drewN ?_ _ | refine blk_drew ?_ | refine blk_alloc ?_ _)); refine blk_put (cs := #[.string ((rd_T49 t149 x36_1).f0), .int .i64 0]) ?_ 1 _ rfl; (with_reducible repeat (first | refine blk_drewN ?_ _ | refine blk_drew ?_ | refine blk_alloc ?_ _)); refine blk_put (cs := #[.string (⟨#[]⟩ : ByteArray), .int .i64 0]) ?_ 0 _ rfl; (with_reducible repeat (first | refine blk_drewN ?_ _ | refine blk_drew ?_ | refine blk_alloc ?_ _)); exact BK156.out⟩, ⟨by repeat (first | (with_reducible first | exact HB.out | apply below_alloc | apply pw_below_drewN | apply below_drew1 | refine below_set ?_ GE156.out) | exact HB.out)⟩⟩
          ·
           rw [if_neg c15] at H
           have c15b0 : (x36_1 == 0) = false := beq_eq_false_iff_ne.mpr c15
           have c15b1 : (x36_1 != 0) = true := bne_iff_ne.mpr c15
           (first | rw [c15b0] | (simp only [i64_w, i32_w]; rw [c15b0]) | skip)
           have H' := Aside0.mk H
           clear H
           go_wp2
           first | go_meet | (simp only [c15b0] at *; go_meet) | (simp only [c15b0] at *; go_meet)
           case rel => exact ⟨_, (false), ap2, H', ⟨by have := HK1.out; first | omega | exact Nat.le_refl _⟩, ⟨by (with_reducible repeat (first | apply Kd.S_alloc | apply Kd.S_drewN | apply Kd.S_drew)); exact Kd.S_mono (Kd.S_far (p := ⟨gb156, 1, none⟩) (Kd.S_far (p := ⟨gb156, 0, none⟩) (Kd.S_types HO_9.out BK156.out (by decide)) (fun _ hk => hk.2) (.string ((rd_T49 t149 x36_1).f0))) (fun _ hk => hk.2) (.int .i64 ((rd_T49 t149 x36_1).f1))) (fun _ hk => trivial)⟩, ⟨by (with_reducible repeat (first | apply Kd.R_alloc | apply Kd.R_drewN | apply Kd.R_drew)); exact Kd.R_mono (Kd.R_far (p := ⟨gb156, 1, none⟩) (Kd.R_far (p := ⟨gb156, 0, none⟩) (Kd.R_mono HO_34.out (fun k_ hk => (⟨hk, hk.2⟩ : _ ∧ k_ ≠ gb156))) (fun _ hk => hk.2) (.string ((rd_T49 t149 x36_1).f0))) (fun _ hk => hk.2) (.int .i64 ((rd_T49 t149 x36_1).f1))) (fun _ hk => hk.1.2)⟩, ⟨by (with_reducible repeat (first | refine blk_drewN ?_ _ | refine blk_drew ?_ | refine blk_alloc ?_ _)); refine blk_put (cs := #[.string ((rd_T49 t149 x36_1).f0), .int .i64 0]) ?_ 1 _ rfl; (with_reducible repeat (first | refine blk_drewN ?_ _ | refine blk_drew ?_ | refine blk_alloc ?_ _)); refine blk_put (cs := #[.string (⟨#[]⟩ : ByteArray), .int .i64 0]) ?_ 0 _ rfl; (with_reducible repeat (first | refine blk_drewN ?_ _ | refine blk_drew ?_ | refine blk_alloc ?_ _)); exact BK156.out⟩, ⟨by repeat (first | (with_reducible first | exact HB.out | apply below_alloc | apply pw_below_drewN | apply below_drew1 | refine below_set ?_ GE156.out) | exact HB.out)⟩⟩
        case rest =>
         clear HC11
         try clear c1
         try clear p1
         try clear q1
         try clear hx1
         try clear c2
         try clear c2b0
         try clear c2b1
         try clear p2
         try clear c4
         try clear c7
         try clear c7b0
         try clear c8
         try clear c8b0
         try clear c9
         try clear c9b0
         try clear c14
         try clear c15
         try clear c15b0
         try clear c15b1
         try clear p15
         try clear q15
         try clear hx15
         try clear hcz13_0
         try clear hcz13_1
         try clear hcz16_0
         try clear hcz16_1
         try clear hfz13_0
         try clear hfz13_1
         try clear hfz16_0
         try clear hfz16_1
         try clear hx155_0
         try clear hx155_1
         try clear p155
         try clear p2
         try clear q155
         obtain ⟨kq, x41_10, rfl, HA, HJ10, HO_9, HO_34, BK156, HB⟩ := hcut
         cases kq with
         | zero => exact absurd HA.out (by simp [ldif_Parse.j1])
         | succ kj10 =>
          have H := HA.out
          clear HA
          simp only [ldif_Parse.j1] at H
          by_cases c17 : x41_10 = true
          ·
           subst c17
           rw [if_pos rfl] at H
           have H' := Aside0.mk H
           clear H
           go_wp2
           go_roundg kj10
           case measure => have := HK1.out; have := HJ10.out; omega
           case rel => exact ⟨(x9_1), (x10_1), (wrap64 (x36_1 + 1)), ap2, ap2, H', ⟨by have := HK1.out; have := HJ10.out; omega⟩, ⟨by (with_reducible repeat (first | apply Kd.S_alloc | apply Kd.S_drewN | apply Kd.S_drew)); exact HO_9.out⟩, ⟨by (with_reducible repeat (first | apply Kd.R_alloc | apply Kd.R_drewN | apply Kd.R_drew)); exact Kd.R_mono HO_34.out (fun _ hk => trivial)⟩, ⟨by repeat (first | (with_reducible first | exact HB.out | apply below_alloc | apply pw_below_drewN | apply below_drew1 | refine below_set ?_ GE156.out) | exact HB.out)⟩⟩
          ·
           replace c17 := Bool.eq_false_iff.mpr c17
           subst c17
           rw [if_neg (show ¬ (false = true) by decide)] at H
           by_cases c18 : ((rd_T49 t149 x36_1).f0).toList = ([] : List UInt8)
           ·
            rw [if_pos c18] at H
            have c18b0 : (((rd_T49 t149 x36_1).f0).toList == ([] : List UInt8)) = true := beq_iff_eq.mpr c18
            have c18b1 : (((rd_T49 t149 x36_1).f0).toList != ([] : List UInt8)) = false := bne_eq_false_iff_eq.mpr c18
            clear c18
            have H' := Aside0.mk H
            clear H
            have hcz19_0 : wc.cell? ⟨gb156, 0, none⟩ = some (.string ((rd_T49 t149 x36_1).f0)) := (blk_cell BK156.out 0).trans rfl
            have hcz19_1 : wc.cell? ⟨gb156, 1, none⟩ = some (.int .i64 ((rd_T49 t149 x36_1).f1)) := (blk_cell BK156.out 1).trans rfl
            have hfz19_0 := blk_frozen BK156.out 0
            have hfz19_1 := blk_frozen BK156.out 1
            go_wp2
            go_roundg kj10
            case measure => have := HK1.out; have := HJ10.out; omega
            case rel => exact ⟨(x9_1), (false), (wrap64 (x36_1 + 1)), ap2, ap2, H', ⟨by have := HK1.out; have := HJ10.out; omega⟩, ⟨by (with_reducible repeat (first | apply Kd.S_alloc | apply Kd.S_drewN | apply Kd.S_drew)); exact HO_9.out⟩, ⟨by (with_reducible repeat (first | apply Kd.R_alloc | apply Kd.R_drewN | apply Kd.R_drew)); exact Kd.R_mono HO_34.out (fun _ hk => trivial)⟩, ⟨by repeat (first | (with_reducible first | exact HB.out | apply below_alloc | apply pw_below_drewN | apply below_drew1 | refine below_set ?_ GE156.out) | exact HB.out)⟩⟩
           ·
            rw [if_neg c18] at H
            have c18b0 : (((rd_T49 t149 x36_1).f0).toList == ([] : List UInt8)) = false := beq_eq_false_iff_ne.mpr c18
            have c18b1 : (((rd_T49 t149 x36_1).f0).toList != ([] : List UInt8)) = true := bne_iff_ne.mpr c18
            replace H := Option.bind_eq_some_iff.mp H
            obtain ⟨⟨t158, t159, t160⟩, A200, H⟩ := H
            replace H : (if t160 = true then ((ldif_isName.f t158).bind fun t162 => (ldif_Parse.j2 kj10 x9_1 x10_1 t149 (t149.length : Int) x36_1 (t162 == x10_1) ((rd_T49 t149 x36_1).f0) ((rd_T49 t149 x36_1).f1) t158 t159)) else (ldif_Parse.j2 kj10 x9_1 x10_1 t149 (t149.length : Int) x36_1 true ((rd_T49 t149 x36_1).f0) ((rd_T49 t149 x36_1).f1) t158 t159)) = some (r1, r2, r3) := H
            have A20 := Aside0.mk A200
            clear A200
            have HC21 := Aside0.mk H
            clear H
            have hcz22_0 : wc.cell? ⟨gb156, 0, none⟩ = some (.string ((rd_T49 t149 x36_1).f0)) := (blk_cell BK156.out 0).trans rfl
            have hcz22_1 : wc.cell? ⟨gb156, 1, none⟩ = some (.int .i64 ((rd_T49 t149 x36_1).f1)) := (blk_cell BK156.out 1).trans rfl
            have hfz22_0 := blk_frozen BK156.out 0
            have hfz22_1 := blk_frozen BK156.out 1
            go_upto_region 19 with (first | ((with_reducible refine gate_callee (f := 28) rfl ?_); refine goesL_ (some 59) rfl rfl Tryd.func28 (by kernel_rfl) rfl #[.string ((rd_T49 t149 x36_1).f0)] rfl ap3 ?_; (with_reducible refine (ldif_pair.calls kj10 ((rd_T49 t149 x36_1).f0) t158 t159 t160 _ ?side1 A20.out).mono ?_); (case side1 => first | exact HG.out | (refine Gw.below HG.out ?_; repeat (first | (with_reducible first | exact HB.out | apply below_alloc | apply pw_below_drewN | apply below_drew1 | refine below_set ?_ GE156.out) | exact HB.out))); rintro e w23 ⟨rfl, hb⟩; refine ⟨_, rfl, ?_⟩; have n0_ := Aside0.mk (Kd.S_below (apAS HO_9.out) hb); have n1_ := Aside0.mk (Kd.R_below (apAR HO_34.out) hb); have n2_ := Aside0.mk (blk_below (g := gb156) (o := .cells #[.string ((rd_T49 t149 x36_1).f0), .int .i64 ((rd_T49 t149 x36_1).f1)] 49 (0, 0)) (apB BK156.out) hb); have n3_ := Aside0.mk (below_step (apG GE156.out) hb); clear HO_9; clear HO_34; clear BK156; clear HB; have HO_9 := n0_; have HO_34 := n1_; have BK156 := n2_; have HB := n3_; clear n0_ n1_ n2_ n3_; (try clear hb); (try clear hb2); (try clear hk); (try clear hi)) | ((with_reducible refine gate_dst (N := 13) rfl ?_); refine box_event ?hg (N := 13) ?hd (cs := #[.string (⟨#[]⟩ : ByteArray), .string (⟨#[]⟩ : ByteArray)]) (t := 40) ?hr ?_; (case hd => rfl); (case hg => rfl); (case hr => first | (go_simp; done) | (go_simp; rfl)); intro gb161 hg w24 hbox hb; have n0_ := Aside0.mk (Kd.S_below (Kd.S_elderB (apAS HO_9.out) gb161 (Nat.le_of_eq hg.symm)) hb); have n1_ := Aside0.mk (Kd.R_below (apAR HO_34.out) hb); have n2_ := Aside0.mk (blk_below (g := gb156) (o := .cells #[.string ((rd_T49 t149 x36_1).f0), .int .i64 ((rd_T49 t149 x36_1).f1)] 49 (0, 0)) (apB BK156.out) hb); have n3_ := Aside0.mk (below_step (apG GE156.out) hb); have n4_ := Aside0.mk (hbox); have n5_ := Aside0.mk ((by rw [hg]; exact (below_size (apG GE156.out)) : w.heap.size ≤ gb161)); have n6_ := Aside0.mk ((by rw [hg]; exact (below_size (apG GE156.out)) : w.heap.size ≤ gb161)); have n7_ := Aside0.mk ((by rw [hg]; exact Nat.ne_of_lt (blk_lt (g := gb156) (o := .cells #[.string ((rd_T49 t149 x36_1).f0), .int .i64 ((rd_T49 t149 x36_1).f1)] 49 (0, 0)) (apB BK156.out)) : gb156 ≠ gb161)); have n8_ := Aside0.mk ((by rw [hg]; exact Nat.ne_of_gt (blk_lt (g := gb156) (o := .cells #[.string ((rd_T49 t149 x36_1).f0), .int .i64 ((rd_T49 t149 x36_1).f1)] 49 (0, 0)) (apB BK156.out)) : gb161 ≠ gb156)); clear HO_9; clear HO_34; clear BK156; clear HB; have HO_9 := n0_; have HO_34 := n1_; have BK156 := n2_; have HB := n3_; have BK161 := n4_; have GW161 := n5_; have GE161 := n6_; have NB156_161 := n7_; have NB161_156 := n8_; clear n0_ n1_ n2_ n3_ n4_ n5_ n6_ n7_ n8_; clear hb hbox hg; have hnb25 := NB161_156.out; have hnc25 := NB156_161.out; have hcz26_0 : w24.cell? ⟨gb161, 0, none⟩ = some (.string (⟨#[]⟩ : ByteArray)) := (blk_cell BK161.out 0).trans rfl; have hcz26_1 : w24.cell? ⟨gb161, 1, none⟩ = some (.string (⟨#[]⟩ : ByteArray)) := (blk_cell BK161.out 1).trans rfl; have hfz26_0 := blk_frozen BK161.out 0; have hfz26_1 := blk_frozen BK161.out 1))
            (try simp only [Act.put, List.setIfInBounds_toArray, List.set_cons_zero, List.set_cons_succ])
            go_cut [70] (fun v70 wc => ∃ (kq : Nat) (x70_20 : Bool), v70 = .bool x70_20 ∧ Aside0 (ldif_Parse.j2 kq x9_1 x10_1 t149 (t149.length : Int) x36_1 x70_20 ((rd_T49 t149 x36_1).f0) ((rd_T49 t149 x36_1).f1) t158 t159 = some (r1, r2, r3)) ∧ Aside0 (kq ≤ kj10) ∧ Aside0 (Kd.S k43 43 wc w.heap.size (fun k_ => k_ ≠ gb161) u9 x9_1) ∧ Aside0 (Kd.R k49 49 wc w.heap.size (fun k_ => k_ ≠ gb156) (.slice (some ad155) t149.length co6) t149) ∧ Aside0 (wc.heap[gb156]? = some (.cells #[.string ((rd_T49 t149 x36_1).f0), .int .i64 ((rd_T49 t149 x36_1).f1)] 49 (0, 0))) ∧ Aside0 (wc.heap[gb161]? = some (.cells #[.string t158, .string t159] 40 (0, 0))) ∧ Aside0 (Below w.heap.size w wc))
            case first =>
             have H := HC21.out
             clear HC21
             by_cases c27 : t160 = true
             ·
              subst c27
              rw [if_pos rfl] at H
              replace H := Option.bind_eq_some_iff.mp H
              obtain ⟨t162, A280, H⟩ := H
              replace H : (ldif_Parse.j2 kj10 x9_1 x10_1 t149 (t149.length : Int) x36_1 (t162 == x10_1) ((rd_T49 t149 x36_1).f0) ((rd_T49 t149 x36_1).f1) t158 t159) = some (r1, r2, r3) := H
              have A28 := Aside0.mk A280
              clear A280
              have H' := Aside0.mk H
              clear H
              have hnb29 := NB161_156.out
              have hnc29 := NB156_161.out
              have hcz30_0 : w24.cell? ⟨gb161, 0, none⟩ = some (.string (⟨#[]⟩ : ByteArray)) := (blk_cell BK161.out 0).trans rfl
              have hcz30_1 : w24.cell? ⟨gb161, 1, none⟩ = some (.string (⟨#[]⟩ : ByteArray)) := (blk_cell BK161.out 1).trans rfl
              have hfz30_0 := blk_frozen BK161.out 0
              have hfz30_1 := blk_frozen BK161.out 1
              go_wp2_with (first | (go_at_call 29; (with_reducible refine (ldif_isName.calls t158 t162 _ A28.out).mono ?_); rintro e w' ⟨rfl, ⟨nd, rfl⟩⟩))
              first | go_meet | (simp only [c18b0] at *; go_meet) | (simp only [c18b0] at *; go_meet) | (simp only [c15b0] at *; go_meet)
              case rel => exact ⟨_, ((t162 == x10_1)), ap2, H', ⟨by have := HK1.out; have := HJ10.out; first | omega | exact Nat.le_refl _⟩, ⟨by (with_reducible repeat (first | apply Kd.S_alloc | apply Kd.S_drewN | apply Kd.S_drew)); exact Kd.S_mono (Kd.S_far (p := ⟨gb161, 1, none⟩) (Kd.S_far (p := ⟨gb161, 0, none⟩) (Kd.S_mono HO_9.out (fun k_ hk => (⟨hk, hk.2⟩ : _ ∧ k_ ≠ gb161))) (fun _ hk => hk.2) (.string t158)) (fun _ hk => hk.2) (.string t159)) (fun _ hk => hk.1.2)⟩, ⟨by (with_reducible repeat (first | apply Kd.R_alloc | apply Kd.R_drewN | apply Kd.R_drew)); exact Kd.R_mono (Kd.R_far (p := ⟨gb161, 1, none⟩) (Kd.R_far (p := ⟨gb161, 0, none⟩) (Kd.R_types HO_34.out BK161.out (by decide)) (fun _ hk => hk.2) (.string t158)) (fun _ hk => hk.2) (.string t159)) (fun _ hk => hk.1)⟩, ⟨by (with_reducible repeat (first | refine blk_drewN ?_ _ | refine blk_drew ?_ | refine blk_alloc ?_ _)); refine blk_far ?_ NB156_161.out _; (with_reducible repeat (first | refine blk_drewN ?_ _ | refine blk_drew ?_ | refine blk_alloc ?_ _)); refine blk_far ?_ NB156_161.out _; (with_reducible repeat (first | refine blk_drewN ?_ _ | refine blk_drew ?_ | refine blk_alloc ?_ _)); exact BK156.out⟩, ⟨by (with_reducible repeat (first | refine blk_drewN ?_ _ | refine blk_drew ?_ | refine blk_alloc ?_ _)); refine blk_put (cs := #[.string t158, .string (⟨#[]⟩ : ByteArray)]) ?_ 1 _ rfl; (with_reducible repeat (first | refine blk_drewN ?_ _ | refine blk_drew ?_ | refine blk_alloc ?_ _)); refine blk_put (cs := #[.string (⟨#[]⟩ : ByteArray), .string (⟨#[]⟩ : ByteArray)]) ?_ 0 _ rfl; (with_reducible repeat (first | refine blk_drewN ?_ _ | refine blk_drew ?_ | refine blk_alloc ?_ _)); exact BK161.out⟩, ⟨by repeat (first | (with_reducible first | exact HB.out | apply below_alloc | apply pw_below_drewN | apply below_drew1 | refine below_set ?_ GE156.out | refine below_set ?_ GE161.out) | exact HB.out)⟩⟩
             ·
              replace c27 := Bool.eq_false_iff.mpr c27
              subst c27
              rw [if_neg (show ¬ (false = true) by decide)] at H
              have H' := Aside0.mk H
              clear H
              go_wp2
              first | go_meet | (simp only [c18b0] at *; go_meet) | (simp only [c18b0] at *; go_meet) | (simp only [c15b0] at *; go_meet)
              case rel => exact ⟨_, (true), ap2, H', ⟨by have := HK1.out; have := HJ10.out; first | omega | exact Nat.le_refl _⟩, ⟨by (with_reducible repeat (first | apply Kd.S_alloc | apply Kd.S_drewN | apply Kd.S_drew)); exact Kd.S_mono (Kd.S_far (p := ⟨gb161, 1, none⟩) (Kd.S_far (p := ⟨gb161, 0, none⟩) (Kd.S_mono HO_9.out (fun k_ hk => (⟨hk, hk.2⟩ : _ ∧ k_ ≠ gb161))) (fun _ hk => hk.2) (.string t158)) (fun _ hk => hk.2) (.string t159)) (fun _ hk => hk.1.2)⟩, ⟨by (with_reducible repeat (first | apply Kd.R_alloc | apply Kd.R_drewN | apply Kd.R_drew)); exact Kd.R_mono (Kd.R_far (p := ⟨gb161, 1, none⟩) (Kd.R_far (p := ⟨gb161, 0, none⟩) (Kd.R_types HO_34.out BK161.out (by decide)) (fun _ hk => hk.2) (.string t158)) (fun _ hk => hk.2) (.string t159)) (fun _ hk => hk.1)⟩, ⟨by (with_reducible repeat (first | refine blk_drewN ?_ _ | refine blk_drew ?_ | refine blk_alloc ?_ _)); refine blk_far ?_ NB156_161.out _; (with_reducible repeat (first | refine blk_drewN ?_ _ | refine blk_drew ?_ | refine blk_alloc ?_ _)); refine blk_far ?_ NB156_161.out _; (with_reducible repeat (first | refine blk_drewN ?_ _ | refine blk_drew ?_ | refine blk_alloc ?_ _)); exact BK156.out⟩, ⟨by (with_reducible repeat (first | refine blk_drewN ?_ _ | refine blk_drew ?_ | refine blk_alloc ?_ _)); refine blk_put (cs := #[.string t158, .string (⟨#[]⟩ : ByteArray)]) ?_ 1 _ rfl; (with_reducible repeat (first | refine blk_drewN ?_ _ | refine blk_drew ?_ | refine blk_alloc ?_ _)); refine blk_put (cs := #[.string (⟨#[]⟩ : ByteArray), .string (⟨#[]⟩ : ByteArray)]) ?_ 0 _ rfl; (with_reducible repeat (first | refine blk_drewN ?_ _ | refine blk_drew ?_ | refine blk_alloc ?_ _)); exact BK161.out⟩, ⟨by repeat (first | (with_reducible first | exact HB.out | apply below_alloc | apply pw_below_drewN | apply below_drew1 | refine below_set ?_ GE156.out | refine below_set ?_ GE161.out) | exact HB.out)⟩⟩
            case rest =>
             clear HC21
             try clear c1
             try clear p1
             try clear q1
             try clear hx1
             try clear c2
             try clear c2b0
             try clear c2b1
             try clear p2
             try clear c4
             try clear p6
             try clear c7
             try clear c7b0
             try clear c8
             try clear c8b0
             try clear c9
             try clear c9b0
             try clear c14
             try clear c15
             try clear c15b0
             try clear c15b1
             try clear p15
             try clear q15
             try clear hx15
             try clear c17
             try clear c18
             try clear c18b0
             try clear c18b1
             try clear c25
             try clear c27
             try clear c28
             try clear c29
             try clear hcz13_0
             try clear hcz13_1
             try clear hcz16_0
             try clear hcz16_1
             try clear hcz19_0
             try clear hcz19_1
             try clear hcz22_0
             try clear hcz22_1
             try clear hcz26_0
             try clear hcz26_1
             try clear hcz30_0
             try clear hcz30_1
             try clear hfz13_0
             try clear hfz13_1
             try clear hfz16_0
             try clear hfz16_1
             try clear hfz19_0
             try clear hfz19_1
             try clear hfz22_0
             try clear hfz22_1
             try clear hfz26_0
             try clear hfz26_1
             try clear hfz30_0
             try clear hfz30_1
             try clear hx155_0
             try clear hx155_1
             try clear p1
             try clear p15
             try clear p155
             try clear p2
             try clear q1
             try clear q15
             try clear q155
             obtain ⟨kq, x70_20, rfl, HA, HJ20, HO_9, HO_34, BK156, BK161, HB⟩ := hcut
             cases kq with
             | zero => exact absurd HA.out (by simp [ldif_Parse.j2])
             | succ kj20 =>
              have H := HA.out
              clear HA
              simp only [ldif_Parse.j2] at H
              by_cases c31 : x70_20 = true
              ·
               subst c31
               rw [if_pos rfl] at H
               simp only [Option.some.injEq, Prod.mk.injEq] at H
               obtain ⟨rfl, rfl, rfl⟩ := H
               try go_wp2
               have n0_ := Aside0.mk (Kd.S_drew HO_9.out)
               have n1_ := Aside0.mk (Kd.R_drew HO_34.out)
               have n2_ := Aside0.mk (blk_drew BK156.out)
               have n3_ := Aside0.mk (blk_drew BK161.out)
               have n4_ := Aside0.mk (below_drew1 HB.out)
               clear HO_9
               clear HO_34
               clear BK156
               clear BK161
               clear HB
               have HO_9 := n0_
               have HO_34 := n1_
               have BK156 := n2_
               have BK161 := n3_
               have HB := n4_
               clear n0_ n1_ n2_ n3_ n4_
               refine start_ (n := 5) (S := fun w' => w'.cell? ⟨gb156, 0, none⟩ = some (.string ((rd_T49 t149 x36_1).f0)) ∧ w'.cell? ⟨gb156, 1, none⟩ = some (.int .i64 ((rd_T49 t149 x36_1).f1))) (ds := []) #[false, false, false, false, false] (by kernel_rfl) rfl rfl ⟨(blk_cell BK156.out 0).trans rfl, (blk_cell BK156.out 1).trans rfl⟩ (fun hHeld => ?_)
               generalize wc.drew = w32 at HO_9 HO_34 BK156 BK161 HB hHeld ⊢
               refine pure_ (i := 0) (N := some 71) (v := ?_) (a' := ?_) #[true, false, false, false, false] rfl rfl (by kernel_rfl) (fun _ _ _ h => h) (Or.inl ⟨by rfl, ?_⟩) ?_ ?_
               rotate_left
               ·
                intro w'
                go_simp
                with_reducible rfl
               rotate_left
               ·
                simp only [Act.put, List.setIfInBounds_toArray, List.set_cons_zero, List.set_cons_succ, i64_w, i32_w]
                rfl
               refine pure_ (i := 2) (N := some 2) (v := ?_) (a' := ?_) #[true, false, true, false, false] rfl rfl (by kernel_rfl) (fun _ _ _ h => h) (Or.inl ⟨by rfl, ?_⟩) ?_ ?_
               rotate_left
               ·
                intro w'
                go_simp
                with_reducible rfl
               rotate_left
               ·
                simp only [Act.put, List.setIfInBounds_toArray, List.set_cons_zero, List.set_cons_succ, i64_w, i32_w]
                rfl
               refine take_ (i := 1) (N := some 72) (v := ?_) (a' := ?_) #[true, true, true, false, false] rfl rfl (by kernel_rfl) (fun _ _ _ h => h) (Or.inl ⟨by rfl, ?_⟩) hHeld ?_ ?_
               rotate_left
               ·
                rintro w' ⟨s0, s1⟩
                go_simp
                with_reducible rfl
               rotate_left
               ·
                simp only [Act.put, List.setIfInBounds_toArray, List.set_cons_zero, List.set_cons_succ, i64_w, i32_w]
                rfl
               refine pure_ (i := 3) (N := some 3) (v := ?_) (a' := ?_) #[true, true, true, true, false] rfl rfl (by kernel_rfl) (fun _ _ _ h => h) (Or.inl ⟨by rfl, ?_⟩) ?_ ?_
               rotate_left
               ·
                intro w'
                go_simp
                with_reducible rfl
               rotate_left
               ·
                simp only [Act.put, List.setIfInBounds_toArray, List.set_cons_zero, List.set_cons_succ, i64_w, i32_w]
                rfl
               refine pure_ (i := 4) (N := some 4) (v := ?_) (a' := ?_) #[true, true, true, true, true] rfl rfl (by kernel_rfl) (fun _ _ _ h => h) (Or.inl ⟨by rfl, ?_⟩) ?_ ?_
               rotate_left
               ·
                intro w'
                go_simp
                with_reducible rfl
               rotate_left
               ·
                simp only [Act.put, List.setIfInBounds_toArray, List.set_cons_zero, List.set_cons_succ, i64_w, i32_w]
                rfl
               refine done_ (by kernel_rfl) ?_
               try go_wp2
               go_ret3
               exact ⟨_, by first | rfl | (simp [errW_none, errW_some, bne_nil8, beq_nil8]; done) | (simp [errW_none, errW_some] <;> rfl) | (simp [*, errW_none, errW_some] <;> rfl), by first | exact Kd.S_nil _ _ _ _ _ | exact Kd.N_nil _ _ _ _ _ | exact Kd.V_nil _ _ _ _ _ | exact Kd.Q_nil _ _ _ _ _ | exact Kd.R_nil _ _ _ _ _, by repeat (first | (with_reducible first | exact HB.out | apply below_alloc | apply pw_below_drewN | apply below_drew1 | refine below_set ?_ GE156.out | refine below_set ?_ GE161.out) | exact HB.out)⟩
              ·
               replace c31 := Bool.eq_false_iff.mpr c31
               subst c31
               rw [if_neg (show ¬ (false = true) by decide)] at H
               by_cases c33 : x10_1 = true
               ·
                subst c33
                rw [if_pos rfl] at H
                obtain ⟨ji34, hji34⟩ : ∃ j_ : Int, (wrap64 ((x9_1.length : Int) - 1)) = j_ := ⟨_, rfl⟩
                replace H : (if 0 ≤ (ji34) then (if (ji34) < (x9_1.length : Int) then (if ((rd_T43 x9_1 (ji34)).f1).length < 4398046511104 then (ldif_Parse.l0 kj20 (x9_1.set ((ji34) : Int).toNat (⟨(rd_T43 x9_1 (ji34)).f0, (((rd_T43 x9_1 (ji34)).f1) ++ [(⟨t158, t159⟩ : S40)])⟩ : S43)) true t149 (t149.length : Int) (wrap64 (x36_1 + 1))) else (none)) else (none)) else (none)) = some (r1, r2, r3) := by first | (rw [hji34] at H; exact H) | (simp only [hji34] at H ⊢; exact H)
                have hji34w : (IntKind.i64.wrap ((x9_1.length : Int) - 1)) = ji34 := (i64_w _).trans hji34
                by_cases c35 : 0 ≤ (ji34)
                ·
                 rw [if_pos c35] at H
                 have c35b0 := decide_eq_true c35
                 clear c35
                 by_cases c36 : (ji34) < (x9_1.length : Int)
                 ·
                  rw [if_pos c36] at H
                  have c36b0 := decide_eq_true c36
                  clear c36
                  by_cases c37 : ((rd_T43 x9_1 (ji34)).f1).length < 4398046511104
                  ·
                   rw [if_pos c37] at H
                   have LMc37 := Aside0.mk c37
                   clear c37
                   obtain ⟨y164, hy164⟩ : ∃ y_ : List (S40), y_ = (((rd_T43 x9_1 (ji34)).f1) ++ [(⟨t158, t159⟩ : S40)]) := ⟨_, rfl⟩
                   replace H : (ldif_Parse.l0 kj20 (x9_1.set ((ji34) : Int).toNat (⟨(rd_T43 x9_1 (ji34)).f0, y164⟩ : S43)) true t149 (t149.length : Int) (wrap64 (x36_1 + 1))) = some (r1, r2, r3) := by first | (rw [hy164]; with_reducible exact H) | (have H2_ := (Option.bind_some _ _).symm.trans H; rw [hy164]; with_reducible exact H2_) | (have H2_ := (Option.bind_some _ _).symm.trans H; with_reducible exact H2_) | with_reducible exact H | (rw [hy164]; exact H) | exact H
                   have Ny164 := Aside0.mk hy164
                   clear hy164
                   obtain ⟨y167, hy167⟩ : ∃ y_ : List (S43), y_ = (x9_1.set ((ji34) : Int).toNat (⟨(rd_T43 x9_1 (ji34)).f0, y164⟩ : S43)) := ⟨_, rfl⟩
                   replace H : (ldif_Parse.l0 kj20 y167 true t149 (t149.length : Int) (wrap64 (x36_1 + 1))) = some (r1, r2, r3) := by first | (rw [hy167]; with_reducible exact H) | (have H2_ := (Option.bind_some _ _).symm.trans H; rw [hy167]; with_reducible exact H2_) | (have H2_ := (Option.bind_some _ _).symm.trans H; with_reducible exact H2_) | with_reducible exact H | (rw [hy167]; exact H) | exact H
                   have Ny167 := Aside0.mk hy167
                   clear hy167
                   have H' := Aside0.mk H
                   clear H
                   try go_wp2
                   have n0_ := Aside0.mk (Kd.S_drew HO_9.out)
                   have n1_ := Aside0.mk (Kd.R_drew HO_34.out)
                   have n2_ := Aside0.mk (blk_drew BK156.out)
                   have n3_ := Aside0.mk (blk_drew BK161.out)
                   have n4_ := Aside0.mk (below_drew1 HB.out)
                   clear HO_9
                   clear HO_34
                   clear BK156
                   clear BK161
                   clear HB
                   have HO_9 := n0_
                   have HO_34 := n1_
                   have BK156 := n2_
                   have BK161 := n3_
                   have HB := n4_
                   clear n0_ n1_ n2_ n3_ n4_
                   obtain ⟨Ao40, co40, eo40⟩ := Kd.S_slice HO_9.out
                   (first | subst eo40 | (injection eo40 with f1_ f2_ f3_; have f4_ := f1_.symm; have f5_ := f3_.symm; clear f1_ f2_ f3_; subst f4_; subst f5_))
                   have p163 : 0 ≤ ((ji34) : Int) := of_decide_eq_true ap0
                   have q163 : (ji34) < (x9_1.length : Int) := of_decide_eq_true ap0
                   obtain ⟨ad163, A163_1, c163_1, e163, hx163_0, hx163_1, hl163_1, hi163_1⟩ := at_T43 (Kd.S_reads' HO_9.out).2.2 (ji34) p163 q163
                   cases e163
                   obtain ⟨ce163, hce163, hMe163, hcc163⟩ := Kd.S_get HO_9.out z43 (ji34) p163 (by first | exact q163 | exact of_decide_eq_true ap0 | (have e_ := (Kd.S_reads' HO_9.out).1; omega))
                   obtain ⟨ve163_1, rfl, ge163_1⟩ := k43_openM hMe163
                   have hv163_1 := hcc163 1 _ rfl
                   rw [add_field _ _ 1 (by omega)] at hv163_1
                   replace hv163_1 := Option.some.inj (hv163_1.symm.trans hx163_1)
                   rw [hv163_1] at ge163_1
                   have HL163_1 := Aside0.mk (show Kd.R k40 40 _ _ _ _ ((rd_T43 x9_1 (ji34)).f1) from ge163_1)
                   clear hv163_1 ge163_1
                   have HX163_1 := Aside0.mk hx163_1
                   clear hcc163 hce163
                   have HR163_1 := Aside0.mk hi163_1
                   have HC163_1 := Aside0.mk hl163_1
                   clear hi163_1 hl163_1
                   replace p163 := eq_true p163
                   replace q163 := eq_true q163
                   obtain ⟨go41, co41, eo41, gb41, gl41, cl41, HG41⟩ := Kd.S_form HO_9.out (by have h_ : ((ji34) : Int) < ((x9_1.length : Int) : Int) := of_decide_eq_true ap0; have h2_ : 0 ≤ ((ji34) : Int) := (of_decide_eq_true ap0); omega)
                   (first | cases eo41 | (injection eo41 with ea_ en_ ec_; (first | subst ea_ | (injection ea_ with ea_; subst ea_)); subst ec_; clear en_))
                   have GB41 := Aside0.mk gb41
                   have GG41 := Aside0.mk HG41
                   clear gb41 gl41 HG41
                   (first | simp only [add_plain] at hx163_0 | skip)
                   (first | simp only [add_plain] at hx163_1 | skip)
                   obtain ⟨oki41, ce41, hcl41, hM41, hcc41, _, _, hH41⟩ := Kd.S_elem HO_9.out z43 ((ji34) : Int) (of_decide_eq_true ap0) (by have h_ : ((ji34) : Int) < ((x9_1.length : Int) : Int) := of_decide_eq_true ap0; first | exact h_ | (have e_ := (Kd.S_reads' HO_9.out).1; omega) | simpa using h_)
                   obtain ⟨ve41_1, rfl, ge41_1⟩ := k43_openM hM41
                   have hv41 := hcc41 1 _ rfl
                   have hX41 := HX163_1.out
                   (try simp only [add_plain] at hX41)
                   (try simp only [Nat.add_zero] at hv41)
                   replace hv41 := Option.some.inj (hv41.symm.trans hX41)
                   subst hv41
                   clear hX41 hcc41 hcl41
                   have UU41 := Aside0.mk (show Kd.R k40 40 _ w.heap.size oki41 (.slice A163_1 ((rd_T43 x9_1 (ji34)).f1).length c163_1) ((rd_T43 x9_1 (ji34)).f1) from ge41_1)
                   have HH41 := Aside0.mk hH41
                   have HN41 := Aside0.mk (Kd.S_reads' HO_9.out).1
                   clear hH41 ge41_1
                   refine start_ (n := 17) (S := fun w' => w'.cell? ⟨gb161, 0, none⟩ = some (.string t158) ∧ w'.cell? ⟨gb161, 1, none⟩ = some (.string t159) ∧ w'.cell? ⟨go41, ((ji34)).toNat * 2, none⟩ = some (.string ((rd_T43 x9_1 (ji34)).f0)) ∧ w'.cell? ⟨go41, ((ji34)).toNat * 2 + 1, none⟩ = some (.slice A163_1 ((rd_T43 x9_1 (ji34)).f1).length c163_1)) (ds := [16]) #[false, false, false, false, false, false, false, false, false, false, false, false, false, false, false, false, false] (by kernel_rfl) rfl rfl ⟨(blk_cell BK161.out 0).trans rfl, (blk_cell BK161.out 1).trans rfl, hx163_0, hx163_1⟩ (fun hHeld => ?_); refine with_tabW ldif_Parse.tab22 ldif_Parse.bits22 (fun HT_ HW_ => ?_)
                   generalize wc.drew = w39 at HO_9 HO_34 BK156 BK161 HB GG41 HH41 HL163_1 HR163_1 HX163_1 UU41 hx163_0 hx163_1 hHeld ⊢
                   refine pure_ (i := 0) (N := some 74) (v := ?_) (a' := ?_) #[true, false, false, false, false, false, false, false, false, false, false, false, false, false, false, false, false] rfl rfl (any_of HT_.out (by kernel_rfl)) (fun _ _ _ h => h) (Or.inl ⟨by rfl, ?_⟩) ?_ ?_
                   rotate_left
                   ·
                    intro w'
                    go_simp
                    with_reducible rfl
                   rotate_left
                   ·
                    simp only [Act.put, List.setIfInBounds_toArray, List.set_cons_zero, List.set_cons_succ, i64_w, i32_w]
                    rfl
                   refine pure_ (i := 1) (N := some 75) (v := ?_) (a' := ?_) #[true, true, false, false, false, false, false, false, false, false, false, false, false, false, false, false, false] rfl rfl (any_of HT_.out (by kernel_rfl)) (fun _ _ _ h => h) (Or.inl ⟨by rfl, ?_⟩) ?_ ?_
                   rotate_left
                   ·
                    intro w'
                    go_simp
                    with_reducible rfl
                   rotate_left
                   ·
                    simp only [Act.put, List.setIfInBounds_toArray, List.set_cons_zero, List.set_cons_succ, i64_w, i32_w]
                    rfl
                   refine pure_ (i := 2) (N := some 76) (v := ?_) (a' := ?_) #[true, true, true, false, false, false, false, false, false, false, false, false, false, false, false, false, false] rfl rfl (any_of HT_.out (by kernel_rfl)) (fun _ _ _ h => h) (Or.inl ⟨by rfl, ?_⟩) ?_ ?_
                   rotate_left
                   ·
                    intro w'
                    go_simp
                    with_reducible rfl
                   rotate_left
                   ·
                    simp only [Act.put, List.setIfInBounds_toArray, List.set_cons_zero, List.set_cons_succ, i64_w, i32_w]
                    rfl
                   refine pure_ (i := 3) (N := some 77) (v := ?_) (a' := ?_) #[true, true, true, true, false, false, false, false, false, false, false, false, false, false, false, false, false] rfl rfl (any_of HT_.out (by kernel_rfl)) (fun _ _ _ h => h) (Or.inl ⟨by rfl, ?_⟩) ?_ ?_
                   rotate_left
                   ·
                    intro w'
                    go_simp
                    with_reducible rfl
                   rotate_left
                   ·
                    simp only [Act.put, List.setIfInBounds_toArray, List.set_cons_zero, List.set_cons_succ, i64_w, i32_w]
                    rfl
                   refine pure_ (i := 4) (N := some 78) (v := ?_) (a' := ?_) #[true, true, true, true, true, false, false, false, false, false, false, false, false, false, false, false, false] rfl rfl (any_of HT_.out (by kernel_rfl)) (fun _ _ _ h => h) (Or.inl ⟨by rfl, ?_⟩) ?_ ?_
                   rotate_left
                   ·
                    intro w'
                    go_simp
                    with_reducible rfl
                   rotate_left
                   ·
                    simp only [Act.put, List.setIfInBounds_toArray, List.set_cons_zero, List.set_cons_succ, i64_w, i32_w]
                    rfl
                   refine pure_ (i := 5) (N := some 79) (v := ?_) (a' := ?_) #[true, true, true, true, true, true, false, false, false, false, false, false, false, false, false, false, false] rfl rfl (any_of HT_.out (by kernel_rfl)) (fun _ _ _ h => h) (Or.inl ⟨by rfl, ?_⟩) ?_ ?_
                   rotate_left
                   ·
                    intro w'
                    go_simp
                    with_reducible rfl
                   rotate_left
                   ·
                    simp only [Act.put, List.setIfInBounds_toArray, List.set_cons_zero, List.set_cons_succ, i64_w, i32_w]
                    rfl
                   refine pure_ (i := 6) (N := some 80) (v := ?_) (a' := ?_) #[true, true, true, true, true, true, true, false, false, false, false, false, false, false, false, false, false] rfl rfl (any_of HT_.out (by kernel_rfl)) (fun _ _ _ h => h) (Or.inl ⟨by rfl, ?_⟩) ?_ ?_
                   rotate_left
                   ·
                    intro w'
                    go_simp
                    with_reducible rfl
                   rotate_left
                   ·
                    simp only [Act.put, List.setIfInBounds_toArray, List.set_cons_zero, List.set_cons_succ, i64_w, i32_w]
                    rfl
                   refine pure_ (i := 7) (N := some 81) (v := ?_) (a' := ?_) #[true, true, true, true, true, true, true, true, false, false, false, false, false, false, false, false, false] rfl rfl (any_of HT_.out (by kernel_rfl)) (fun _ _ _ h => h) (Or.inl ⟨by rfl, ?_⟩) ?_ ?_
                   rotate_left
                   ·
                    intro w'
                    go_simp
                    with_reducible rfl
                   rotate_left
                   ·
                    simp only [Act.put, List.setIfInBounds_toArray, List.set_cons_zero, List.set_cons_succ, i64_w, i32_w]
                    rfl
                   refine pure_ (i := 8) (N := some 82) (v := ?_) (a' := ?_) #[true, true, true, true, true, true, true, true, true, false, false, false, false, false, false, false, false] rfl rfl (any_of HT_.out (by kernel_rfl)) (fun _ _ _ h => h) (Or.inl ⟨by rfl, ?_⟩) ?_ ?_
                   rotate_left
                   ·
                    intro w'
                    go_simp
                    with_reducible rfl
                   rotate_left
                   ·
                    simp only [Act.put, List.setIfInBounds_toArray, List.set_cons_zero, List.set_cons_succ, i64_w, i32_w]
                    rfl
                   refine pure_ (i := 9) (N := some 83) (v := ?_) (a' := ?_) #[true, true, true, true, true, true, true, true, true, true, false, false, false, false, false, false, false] rfl rfl (any_of HT_.out (by kernel_rfl)) (fun _ _ _ h => h) (Or.inl ⟨by rfl, ?_⟩) ?_ ?_
                   rotate_left
                   ·
                    intro w'
                    go_simp
                    with_reducible rfl
                   rotate_left
                   ·
                    simp only [Act.put, List.setIfInBounds_toArray, List.set_cons_zero, List.set_cons_succ, i64_w, i32_w]
                    rfl
                   refine take_ (i := 10) (N := some 84) (v := ?_) (a' := ?_) #[true, true, true, true, true, true, true, true, true, true, true, false, false, false, false, false, false] rfl rfl (take_ofW HT_.out HW_.out (by kernel_rfl)) (fun _ _ _ h => h) (Or.inl ⟨by rfl, ?_⟩) hHeld ?_ ?_
                   rotate_left
                   ·
                    rintro w' ⟨s0, s1, s2, s3⟩
                    go_simp
                    with_reducible rfl
                   rotate_left
                   ·
                    simp only [Act.put, List.setIfInBounds_toArray, List.set_cons_zero, List.set_cons_succ, i64_w, i32_w]
                    rfl
                   refine take_ (i := 11) (N := some 85) (v := ?_) (a' := ?_) #[true, true, true, true, true, true, true, true, true, true, true, true, false, false, false, false, false] rfl rfl (take_ofW HT_.out HW_.out (by kernel_rfl)) (fun _ _ _ h => h) (Or.inl ⟨by rfl, ?_⟩) hHeld ?_ ?_
                   rotate_left
                   ·
                    rintro w' ⟨s0, s1, s2, s3⟩
                    go_simp
                    with_reducible rfl
                   rotate_left
                   ·
                    simp only [Act.put, List.setIfInBounds_toArray, List.set_cons_zero, List.set_cons_succ, i64_w, i32_w]
                    rfl
                   refine one_ (i := 12) (N := some 86) #[true, true, true, true, true, true, true, true, true, true, true, true, true, false, false, false, false] rfl rfl (one_of HT_.out (by kernel_rfl)) (by decide) (fun K hK => ?_)
                   refine value_ (w1 := ?_) (v := ?_) (by rfl) rfl ?_ ?_
                   rotate_left 2
                   ·
                    go_simp
                    constructor
                    ·
                     rfl
                    ·
                     rfl
                   refine hK.out _ _ ⟨(blk_cell (blk_alloc BK161.out _) 0).trans rfl, (blk_cell (blk_alloc BK161.out _) 1).trans rfl, (World.cell?_alloc_lt _ _ _ (World.block_lt_of_cell? _ _ (hHeld.2.2.1))).trans (hHeld.2.2.1), (World.cell?_alloc_lt _ _ _ (World.block_lt_of_cell? _ _ (hHeld.2.2.2))).trans (hHeld.2.2.2)⟩ (fun hHeld => ?_)
                   clear hK K
                   refine norm_ (a' := ?_) ?_ ?_
                   rotate_left
                   ·
                    show Act.put _ (some 86) _ = _
                    simp only [Act.put, List.setIfInBounds_toArray, List.set_cons_zero, List.set_cons_succ, i64_w, i32_w]
                    rfl
                   refine one_ (i := 13) (N := some 87) #[true, true, true, true, true, true, true, true, true, true, true, true, true, true, false, false, false] rfl rfl (one_of HT_.out (by kernel_rfl)) (by decide) (fun K hK => ?_)
                   refine Kd.R_append_step k40 (w0 := w) w.heap.size (by rfl) (.tmp 84) (.tmp 86) 37 40 (.agg #[(.string ⟨#[]⟩), (.string ⟨#[]⟩)]) 32 rfl Tryd.underlying37 info40 rfl (by decide) (by omega) (.slice A163_1 ((rd_T43 x9_1 (ji34)).f1).length c163_1) ((rd_T43 x9_1 (ji34)).f1) (⟨t158, t159⟩ : S40) [.string t158, .string t159] (fun k_ => oki41 k_ ∨ ((fun k_ => k_ ≠ gb161)) k_ ∧ w39.heap.size ≤ k_) (fun _ => False) rfl rfl ?aP (fun _ hk => hk.elim) ?aF ?aO ?aB ?aS ?aL ?_
                   (case aP => exact k40_mkM _ _ _ (⟨t158, t159⟩ : S40))
                   (case aB => exact (by repeat (first | (with_reducible first | exact HB.out | apply below_alloc | apply pw_below_drewN | apply below_drew1 | refine below_set ?_ GE156.out | refine below_set ?_ GE161.out) | exact HB.out)))
                   (case aF => exact (fun k_ hk => .inr ⟨Kd.freshB (g := gb161) (o := .cells #[.string t158, .string t159] 40 (0, 0)) (apB BK161.out) k_ hk, hk⟩))
                   (case aO => exact (by (with_reducible repeat (first | apply Kd.R_alloc | apply Kd.R_drewN | apply Kd.R_drew)); exact Kd.R_mono UU41.out (fun _ hk => .inl hk)))
                   (case aS => exact (below_size (by repeat (first | (with_reducible first | exact HB.out | apply below_alloc | apply pw_below_drewN | apply below_drew1 | refine below_set ?_ GE156.out | refine below_set ?_ GE161.out) | exact HB.out))))
                   (case aL => have := LMc37.out; omega)
                   intro v165 w42 ho hb hg hat
                   (first | have HS2_ := cell_grown hg (hHeld.2.2.1) (by first | (rw [add_block]; exact (fun e_ => ((HL163_1.out.1 _ e_.symm).2) rfl)) | (show some (Addr.add _ _).block ≠ _; rw [add_block]; exact (fun e_ => ((HL163_1.out.1 _ e_.symm).2) rfl)) | exact (fun e_ => ((HL163_1.out.1 _ e_.symm).2) rfl)) | have HS2_ := cell_grown hg (cell_unalloc (hHeld.2.2.1) (by first | (rw [add_block]; exact Kd.S_lt HO_9.out _ rfl) | (show (Addr.add _ _).block < _; rw [add_block]; exact Kd.S_lt HO_9.out _ rfl) | exact Kd.S_lt HO_9.out _ rfl)) (by first | (rw [add_block]; exact (fun e_ => ((HL163_1.out.1 _ e_.symm).2) rfl)) | (show some (Addr.add _ _).block ≠ _; rw [add_block]; exact (fun e_ => ((HL163_1.out.1 _ e_.symm).2) rfl)) | exact (fun e_ => ((HL163_1.out.1 _ e_.symm).2) rfl)))
                   (first | have HS3_ := cell_grown hg (hHeld.2.2.2) (by first | (rw [add_block]; exact (fun e_ => ((HL163_1.out.1 _ e_.symm).2) rfl)) | (show some (Addr.add _ _).block ≠ _; rw [add_block]; exact (fun e_ => ((HL163_1.out.1 _ e_.symm).2) rfl)) | exact (fun e_ => ((HL163_1.out.1 _ e_.symm).2) rfl)) | have HS3_ := cell_grown hg (cell_unalloc (hHeld.2.2.2) (by first | (rw [add_block]; exact Kd.S_lt HO_9.out _ rfl) | (show (Addr.add _ _).block < _; rw [add_block]; exact Kd.S_lt HO_9.out _ rfl) | exact Kd.S_lt HO_9.out _ rfl)) (by first | (rw [add_block]; exact (fun e_ => ((HL163_1.out.1 _ e_.symm).2) rfl)) | (show some (Addr.add _ _).block ≠ _; rw [add_block]; exact (fun e_ => ((HL163_1.out.1 _ e_.symm).2) rfl)) | exact (fun e_ => ((HL163_1.out.1 _ e_.symm).2) rfl)))
                   rw [← Ny164.out] at ho
                   have n0_ := Aside0.mk (Kd.R_over' (v := (.slice A163_1 ((rd_T43 x9_1 (ji34)).f1).length c163_1)) (apAR HO_34.out) (Kd.R_typed HL163_1.out) (by decide) hg)
                   have n1_ := Aside0.mk (blk_grown (g := gb156) (o := .cells #[.string ((rd_T49 t149 x36_1).f0), .int .i64 ((rd_T49 t149 x36_1).f1)] 49 (0, 0)) (apB BK156.out) hg (Kd.R_ne HL163_1.out BK156.out (by decide)))
                   have n2_ := Aside0.mk (blk_grown (g := gb161) (o := .cells #[.string t158, .string t159] 40 (0, 0)) (apB BK161.out) hg (Kd.R_away HL163_1.out (fun _ hk => hk.1)))
                   have n3_ := Aside0.mk (hb)
                   have n4_ := Aside0.mk (Kd.H_grown (Kd.H_widen (by repeat (first | exact HH41.out | refine Kd.H_alloc ?_ _ | refine Kd.H_drewN ?_ _ | refine Kd.H_drew ?_))) hg (fun k_ e_ => .inl (UU41.out.1 k_ e_)))
                   have n5_ := Aside0.mk (ho)
                   clear HO_34
                   clear BK156
                   clear BK161
                   clear HB
                   clear HH41
                   clear HO_9
                   clear UU41
                   clear HL163_1
                   have HO_34 := n0_
                   have BK156 := n1_
                   have BK161 := n2_
                   have HB := n3_
                   have HH41 := n4_
                   have HO166 := n5_
                   clear n0_ n1_ n2_ n3_ n4_ n5_
                   clear ho hb hg hat
                   have p38 : 0 ≤ ((ji34) : Int) := of_decide_eq_true ap0
                   have q38 : ((ji34) : Int) < ((x9_1.length : Int) : Int) := of_decide_eq_true ap0
                   replace p38 := eq_true p38
                   replace q38 := eq_true q38
                   obtain ⟨Ao45, co45, eo45⟩ := Kd.R_slice HO166.out
                   (first | subst eo45 | (injection eo45 with f1_ f2_ f3_; have f4_ := f1_.symm; have f5_ := f3_.symm; clear f1_ f2_ f3_; subst f4_; subst f5_))
                   obtain ⟨_, _, hraw43, _, _, hcc43, _⟩ := Kd.H_raw HH41.out (of_decide_eq_true ap0) (by have h_ : ((ji34) : Int) < ((x9_1.length : Int) : Int) := of_decide_eq_true ap0; first | exact h_ | (have e_ := (HN41.out); omega) | simpa using h_)
                   obtain ⟨_, hfr43⟩ := Kd.H_at HH41.out (of_decide_eq_true ap0) (by have h_ : ((ji34) : Int) < ((x9_1.length : Int) : Int) := of_decide_eq_true ap0; first | exact h_ | (have e_ := (HN41.out); omega) | simpa using h_)
                   have hx43_0 := hcc43 1 _ rfl
                   have hf43_0 := hfr43 1
                   (try rw [show (k43).sz = 2 from rfl] at hx43_0)
                   (try rw [show (k43).sz = 2 from rfl] at hf43_0)
                   have HP43 := Kd.S_seg0 HH41.out (of_decide_eq_true ap0) (by have h_ : ((ji34) : Int) < ((x9_1.length : Int) : Int) := of_decide_eq_true ap0; first | exact h_ | (have e_ := (HN41.out); omega) | simpa using h_) (seg := [.slice Ao45 y164.length co45]) (j := 1) (show 2 ≤ 2 from by decide) (x' := (⟨(rd_T43 x9_1 (ji34)).f0, y164⟩ : S43)) (k43_mkM _ _ _ (⟨(rd_T43 x9_1 (ji34)).f0, y164⟩ : S43) HO166.out) (fun _ hk => hk)
                   clear hcc43 hfr43
                   have HNB156_go41 := Aside0.mk (show gb156 ≠ go41 from by have h_ := Kd.R_ne hraw43 BK156.out (by decide); intro e_; exact h_ (by rw [e_]; rfl))
                   have HNB161_go41 := Aside0.mk (show gb161 ≠ go41 from by have h_ := Kd.R_ne hraw43 BK161.out (by decide); intro e_; exact h_ (by rw [e_]; rfl))
                   have HS43 := HP43.1
                   rw [← Ny167.out] at HS43
                   have HQ43 := Aside0.mk HS43
                   obtain ⟨_, hgg43⟩ := Kd.R_typed hraw43 go41 rfl
                   have GG43_ := Aside0.mk hgg43
                   clear HP43 HS43 hgg43
                   refine hK.out _ _ ⟨(blk_cell BK161.out 0).trans rfl, (blk_cell BK161.out 1).trans rfl, HS2_, HS3_⟩ (fun hHeld => ?_)
                   clear hK K
                   refine norm_ (a' := ?_) ?_ ?_
                   rotate_left
                   ·
                    show Act.put _ (some 87) _ = _
                    simp only [Act.put, List.setIfInBounds_toArray, List.set_cons_zero, List.set_cons_succ, i64_w, i32_w]
                    rfl
                   refine pure_ (i := 14) (N := some 88) (v := ?_) (a' := ?_) #[true, true, true, true, true, true, true, true, true, true, true, true, true, true, true, false, false] rfl rfl (any_of HT_.out (by kernel_rfl)) (fun _ _ _ h => h) (Or.inl ⟨by rfl, ?_⟩) ?_ ?_
                   rotate_left
                   ·
                    intro w'
                    go_simp
                    with_reducible rfl
                   rotate_left
                   ·
                    simp only [Act.put, List.setIfInBounds_toArray, List.set_cons_zero, List.set_cons_succ, i64_w, i32_w]
                    rfl
                   refine pure_ (i := 15) (N := some 89) (v := ?_) (a' := ?_) #[true, true, true, true, true, true, true, true, true, true, true, true, true, true, true, true, false] rfl rfl (any_of HT_.out (by kernel_rfl)) (fun _ _ _ h => h) (Or.inl ⟨by rfl, ?_⟩) ?_ ?_
                   rotate_left
                   ·
                    intro w'
                    go_simp
                    with_reducible rfl
                   rotate_left
                   ·
                    simp only [Act.put, List.setIfInBounds_toArray, List.set_cons_zero, List.set_cons_succ, i64_w, i32_w]
                    rfl
                   refine last_ (i := 16) (N := none) #[true, true, true, true, true, true, true, true, true, true, true, true, true, true, true, true, true] rfl rfl (one_of HT_.out (by kernel_rfl)) (by decide) (fun K hK => ?_)
                   refine skip_ (w1 := ?_) (by rfl) rfl ?_ ?_
                   rotate_left
                   ·
                    go_simp
                    rfl
                   refine hK.out _ _ ?_
                   clear hK K
                   refine done_ (done_of HT_.out (by kernel_rfl)) ?_
                   try go_wp2
                   go_roundg kj20
                   case measure => have := HK1.out; have := HJ10.out; have := HJ20.out; omega
                   case rel => exact ⟨(y167), (true), (wrap64 (x36_1 + 1)), ap2, ap2, H', ⟨by have := HK1.out; have := HJ10.out; have := HJ20.out; omega⟩, ⟨by (with_reducible repeat (first | apply Kd.S_alloc | apply Kd.S_drewN | apply Kd.S_drew)); exact Kd.S_mono HQ43.out (fun _ hk => trivial)⟩, ⟨by (with_reducible repeat (first | apply Kd.R_alloc | apply Kd.R_drewN | apply Kd.R_drew)); exact Kd.R_mono (Kd.R_far (p := ⟨go41, ((ji34) : Int).toNat * 2 + 1, none⟩) (Kd.R_types HO_34.out GG43_.out (by decide)) (fun _ hk => hk.2) (.slice Ao45 y164.length co45)) (fun _ hk => trivial)⟩, ⟨by repeat (first | (with_reducible first | exact HB.out | apply below_alloc | apply pw_below_drewN | apply below_drew1 | refine below_set ?_ GB41.out | refine below_set ?_ GE156.out | refine below_set ?_ GE161.out) | exact HB.out)⟩⟩
                  ·
                   rw [if_neg c37] at H
                   exact absurd H (by simp)
                 ·
                  rw [if_neg c36] at H
                  exact absurd H (by simp)
                ·
                 rw [if_neg c35] at H
                 exact absurd H (by simp)
               ·
                replace c33 := Bool.eq_false_iff.mpr c33
                subst c33
                rw [if_neg (show ¬ (false = true) by decide)] at H
                by_cases c46 : x9_1.length < 3518437208883
                ·
                 rw [if_pos c46] at H
                 have LMc46 := Aside0.mk c46
                 clear c46
                 obtain ⟨y168, hy168⟩ : ∃ y_ : List (S43), y_ = (x9_1 ++ [(⟨t159, ([] : List (S40))⟩ : S43)]) := ⟨_, rfl⟩
                 replace H : (ldif_Parse.l0 kj20 y168 true t149 (t149.length : Int) (wrap64 (x36_1 + 1))) = some (r1, r2, r3) := by first | (rw [hy168]; with_reducible exact H) | (have H2_ := (Option.bind_some _ _).symm.trans H; rw [hy168]; with_reducible exact H2_) | (have H2_ := (Option.bind_some _ _).symm.trans H; with_reducible exact H2_) | with_reducible exact H | (rw [hy168]; exact H) | exact H
                 have Ny168 := Aside0.mk hy168
                 clear hy168
                 have H' := Aside0.mk H
                 clear H
                 have hnb47 := NB161_156.out
                 have hnc47 := NB156_161.out
                 have hcz48_0 : wc.cell? ⟨gb161, 0, none⟩ = some (.string t158) := (blk_cell BK161.out 0).trans rfl
                 have hcz48_1 : wc.cell? ⟨gb161, 1, none⟩ = some (.string t159) := (blk_cell BK161.out 1).trans rfl
                 have hfz48_0 := blk_frozen BK161.out 0
                 have hfz48_1 := blk_frozen BK161.out 1
                 go_wp2_with (first | ((with_reducible refine gate_builtin (b := .append) (xs := #[.tmp 90, .tmp 94]) rfl ?_); at_builtin; refine Kd.S_append k43 (w0 := w) w.heap.size rfl (.tmp 90) (.tmp 94) 23 43 (.agg #[(.string ⟨#[]⟩), (.slice none 0 0)]) 40 rfl Tryd.underlying23 info43 rfl (by decide) (by omega) u9 x9_1 (⟨t159, ([] : List (S40))⟩ : S43) [.string t159, .slice none 0 0] (fun k_ => k_ ≠ gb161) (fun _ => False) rfl rfl ?aP (fun k_ hk_ => hk_.elim) ?aF ?aO ?aB ?aS ?aL ?_; (case aP => exact k43_mkM _ _ _ (⟨t159, ([] : List (S40))⟩ : S43) (Kd.R_nil _ _ _ _ _)); (case aB => exact (by repeat (first | (with_reducible first | exact HB.out | apply below_alloc | apply pw_below_drewN | apply below_drew1 | refine below_set ?_ GE156.out | refine below_set ?_ GE161.out) | exact HB.out))); (case aF => exact (fun k_ hk => Kd.freshB (g := gb161) (o := .cells #[.string t158, .string t159] 40 (0, 0)) (apB BK161.out) k_ hk)); (case aO => exact (by (with_reducible repeat (first | apply Kd.S_alloc | apply Kd.S_drewN | apply Kd.S_drew)); exact Kd.S_mono HO_9.out (fun k_ hk => ⟨hk, fun e_ => e_⟩))); (case aS => exact (below_size (by repeat (first | (with_reducible first | exact HB.out | apply below_alloc | apply pw_below_drewN | apply below_drew1 | refine below_set ?_ GE156.out | refine below_set ?_ GE161.out) | exact HB.out)))); (case aL => have := LMc46.out; omega); intro v169 w49 ho hb hg hat; rw [← Ny168.out] at ho; have n0_ := Aside0.mk (Kd.R_over' (apAR HO_34.out) (Kd.S_typed (apAS HO_9.out)) (by decide) hg); have n1_ := Aside0.mk (blk_grown (g := gb156) (o := .cells #[.string ((rd_T49 t149 x36_1).f0), .int .i64 ((rd_T49 t149 x36_1).f1)] 49 (0, 0)) (apB BK156.out) hg (Kd.S_ne HO_9.out BK156.out (by decide))); have n2_ := Aside0.mk (blk_grown (g := gb161) (o := .cells #[.string t158, .string t159] 40 (0, 0)) (apB BK161.out) hg (Kd.S_ne HO_9.out BK161.out (by decide))); have n3_ := Aside0.mk (hb); have n4_ := Aside0.mk (ho); clear HO_34; clear BK156; clear BK161; clear HB; clear HO_9; have HO_34 := n0_; have BK156 := n1_; have BK161 := n2_; have HB := n3_; have HO170 := n4_; clear n0_ n1_ n2_ n3_ n4_; clear ho hb hg hat))
                 go_roundg kj20
                 case measure => have := HK1.out; have := HJ10.out; have := HJ20.out; omega
                 case rel => exact ⟨(y168), (true), (wrap64 (x36_1 + 1)), ap2, ap2, H', ⟨by have := HK1.out; have := HJ10.out; have := HJ20.out; omega⟩, ⟨by (with_reducible repeat (first | apply Kd.S_alloc | apply Kd.S_drewN | apply Kd.S_drew)); exact Kd.S_mono HO170.out (fun _ hk => trivial)⟩, ⟨by (with_reducible repeat (first | apply Kd.R_alloc | apply Kd.R_drewN | apply Kd.R_drew)); exact Kd.R_mono HO_34.out (fun _ hk => trivial)⟩, ⟨by repeat (first | (with_reducible first | exact HB.out | apply below_alloc | apply pw_below_drewN | apply below_drew1 | refine below_set ?_ GE156.out | refine below_set ?_ GE161.out) | exact HB.out)⟩⟩
                ·
                 rw [if_neg c46] at H
                 exact absurd H (by simp)
       ·
        rw [if_neg c9] at H
        exact absurd H (by simp)
      ·
       rw [if_neg c8] at H
       exact absurd H (by simp)
     ·
      rw [if_neg c7] at H
      have c7b0 := decide_eq_false c7
      clear c7
      simp only [Option.some.injEq, Prod.mk.injEq] at H
      obtain ⟨rfl, rfl, rfl⟩ := H
      go_wp2
      go_ret3
      exact ⟨_, by first | rfl | (simp [errW_none, errW_some, bne_nil8, beq_nil8]; done) | (simp [errW_none, errW_some] <;> rfl) | (simp [*, errW_none, errW_some] <;> rfl), by (with_reducible repeat (first | apply Kd.S_alloc | apply Kd.S_drewN | apply Kd.S_drew)); exact HO_9.out, by repeat (first | (with_reducible first | exact HB.out | apply below_alloc | apply pw_below_drewN | apply below_drew1) | exact HB.out)⟩
  ·
   replace c4 := Bool.eq_false_iff.mpr c4
   subst c4
   rw [if_neg (show ¬ (false = true) by decide)] at H
   replace H := Option.bind_eq_some_iff.mp H
   obtain ⟨t154, A500, H⟩ := H
   replace H : (if t154 > 0 then (some (([] : List (S43)), t154, 4)) else (some (([] : List (S43)), t150, 4))) = some (r1, r2, r3) := H
   have A50 := Aside0.mk A500
   clear A500
   by_cases c51 : t154 > 0
   ·
    rw [if_pos c51] at H
    have c51b0 := decide_eq_true c51
    clear c51
    simp only [Option.some.injEq, Prod.mk.injEq] at H
    obtain ⟨rfl, rfl, rfl⟩ := H
    go_enter Tryd.func8, Tryd.ntmps8
    go_wp2_with (first | ((with_reducible refine gate_callee (f := 25) rfl ?_); refine goesL_ (some 20) rfl rfl Tryd.func25 (by kernel_rfl) rfl #[.string a0] rfl ap3 ?_; (with_reducible refine (ldif_lines.calls k a0 t149 t150 false _ ?side1 A3.out).mono ?_); (case side1 => exact ap6); rintro e w52 ⟨v152, rfl, ho0, hb⟩; refine ⟨_, rfl, ?_⟩; have n0_ := Aside0.mk (Kd.R_lower ho0 (below_size ap1)); have n1_ := Aside0.mk (below_step ap1 hb); clear HB; have HO153 := n0_; have HB := n1_; clear n0_ n1_; (try clear hb); (try clear hb2); (try clear hk); (try clear hi); (try clear ho0); obtain ⟨Ao53, co53, eo53⟩ := Kd.R_slice HO153.out; subst eo53) | ((with_reducible refine gate_callee (f := 26) rfl ?_); refine goesL_ (some 29) rfl rfl Tryd.func26 (by kernel_rfl) rfl #[.slice Ao53 t149.length co53, .string a0, .int .i64 t150] rfl ap3 ?_; (with_reducible refine (ldif_first.calls k _ _ t149 a0 t150 t154 _ ?side1 ?side2 ?side3 A50.out).mono ?_); (case side1 => repeat (first | exact (Kd.R_reads' HO153.out).2.2 | (with_reducible refine Kd.C_alloc ?_ _) | (with_reducible refine Kd.C_drewN ?_ _) | (with_reducible refine Kd.C_drew ?_))); (case side2 => exact (Kd.R_reads' HO153.out).2.1); (case side3 => exact ap6); rintro e w54 ⟨rfl, hb⟩; refine ⟨_, rfl, ?_⟩; have n0_ := Aside0.mk (Kd.R_below (apAR HO153.out) hb); have n1_ := Aside0.mk (below_step ap1 hb); clear HO153; clear HB; have HO153 := n0_; have HB := n1_; clear n0_ n1_; (try clear hb); (try clear hb2); (try clear hk); (try clear hi)))
    go_ret3
    exact ⟨_, by first | rfl | (simp [errW_none, errW_some, bne_nil8, beq_nil8]; done) | (simp [errW_none, errW_some] <;> rfl) | (simp [*, errW_none, errW_some] <;> rfl), by first | exact Kd.S_nil _ _ _ _ _ | exact Kd.N_nil _ _ _ _ _ | exact Kd.V_nil _ _ _ _ _ | exact Kd.Q_nil _ _ _ _ _ | exact Kd.R_nil _ _ _ _ _, by repeat (first | (with_reducible first | exact HB.out | apply below_alloc | apply pw_below_drewN | apply below_drew1) | exact HB.out)⟩
   ·
    rw [if_neg c51] at H
    have c51b0 := decide_eq_false c51
    clear c51
    simp only [Option.some.injEq, Prod.mk.injEq] at H
    obtain ⟨rfl, rfl, rfl⟩ := H
    go_enter Tryd.func8, Tryd.ntmps8
    go_wp2_with (first | ((with_reducible refine gate_callee (f := 25) rfl ?_); refine goesL_ (some 20) rfl rfl Tryd.func25 (by kernel_rfl) rfl #[.string a0] rfl ap3 ?_; (with_reducible refine (ldif_lines.calls k a0 t149 t150 false _ ?side1 A3.out).mono ?_); (case side1 => exact ap6); rintro e w55 ⟨v152, rfl, ho0, hb⟩; refine ⟨_, rfl, ?_⟩; have n0_ := Aside0.mk (Kd.R_lower ho0 (below_size ap1)); have n1_ := Aside0.mk (below_step ap1 hb); clear HB; have HO153 := n0_; have HB := n1_; clear n0_ n1_; (try clear hb); (try clear hb2); (try clear hk); (try clear hi); (try clear ho0); obtain ⟨Ao56, co56, eo56⟩ := Kd.R_slice HO153.out; subst eo56) | ((with_reducible refine gate_callee (f := 26) rfl ?_); refine goesL_ (some 29) rfl rfl Tryd.func26 (by kernel_rfl) rfl #[.slice Ao56 t149.length co56, .string a0, .int .i64 t150] rfl ap3 ?_; (with_reducible refine (ldif_first.calls k _ _ t149 a0 t150 t154 _ ?side1 ?side2 ?side3 A50.out).mono ?_); (case side1 => repeat (first | exact (Kd.R_reads' HO153.out).2.2 | (with_reducible refine Kd.C_alloc ?_ _) | (with_reducible refine Kd.C_drewN ?_ _) | (with_reducible refine Kd.C_drew ?_))); (case side2 => exact (Kd.R_reads' HO153.out).2.1); (case side3 => exact ap6); rintro e w57 ⟨rfl, hb⟩; refine ⟨_, rfl, ?_⟩; have n0_ := Aside0.mk (Kd.R_below (apAR HO153.out) hb); have n1_ := Aside0.mk (below_step ap1 hb); clear HO153; clear HB; have HO153 := n0_; have HB := n1_; clear n0_ n1_; (try clear hb); (try clear hb2); (try clear hk); (try clear hi)))
    go_ret3
    exact ⟨_, by first | rfl | (simp [errW_none, errW_some, bne_nil8, beq_nil8]; done) | (simp [errW_none, errW_some] <;> rfl) | (simp [*, errW_none, errW_some] <;> rfl), by first | exact Kd.S_nil _ _ _ _ _ | exact Kd.N_nil _ _ _ _ _ | exact Kd.V_nil _ _ _ _ _ | exact Kd.Q_nil _ _ _ _ _ | exact Kd.R_nil _ _ _ _ _, by repeat (first | (with_reducible first | exact HB.out | apply below_alloc | apply pw_below_drewN | apply below_drew1) | exact HB.out)⟩
def rollbookref16_Small.l0 : Nat → ByteArray → List Int → Int → Option (ByteArray)
 | 0, _, _, _ => none
 | k + 1, x0, x3, x4 => if x4 < (x0.size : Int) then (if 0 ≤ x4 then (if (bt x0 x4) ≥ 65 then (if (bt x0 x4) ≤ 90 then (if x3.length < 140737488355328 then (rollbookref16_Small.l0 k x0 (x3 ++ [((bt x0 x4) + 32) % 256]) (wrap64 (x4 + 1))) else (none)) else (if x3.length < 140737488355328 then (rollbookref16_Small.l0 k x0 (x3 ++ [bt x0 x4]) (wrap64 (x4 + 1))) else (none))) else (if x3.length < 140737488355328 then (rollbookref16_Small.l0 k x0 (x3 ++ [bt x0 x4]) (wrap64 (x4 + 1))) else (none))) else (none)) else (some (strOfNums x3))
def rollbookref16_Small.f (k : Nat) (a0 : ByteArray) : Option (ByteArray) := rollbookref16_Small.l0 k a0 (([] : List Int)) 0
set_option maxHeartbeats 8000000 in
set_option maxRecDepth 100000 in
theorem rollbookref16_Small.calls (k : Nat) (a0 : ByteArray) (r : ByteArray) (w : World) (h : rollbookref16_Small.f k a0 = some r) :
  Calls Tryd.prog 59 #[.string a0] w fun e w' => e = .returned (.string r) ∧ Below w.heap.size w w' := by
 have HB := Aside0.mk (Below.refl w.heap.size w)
 have H : (rollbookref16_Small.l0 k a0 (([] : List Int)) 0) = some r := h
 clear h
 obtain ⟨y224, hy224⟩ : ∃ y_ : List Int, y_ = (([] : List Int)) := ⟨_, rfl⟩
 replace H : (rollbookref16_Small.l0 k a0 y224 0) = some r := by first | (rw [hy224]; with_reducible exact H) | (have H2_ := (Option.bind_some _ _).symm.trans H; rw [hy224]; with_reducible exact H2_) | (have H2_ := (Option.bind_some _ _).symm.trans H; with_reducible exact H2_) | with_reducible exact H | (rw [hy224]; exact H) | exact H
 have Ny224 := Aside0.mk hy224
 clear hy224
 have H' := Aside0.mk H
 clear H
 go_enter Tryd.func59, Tryd.ntmps59
 go_wp2_with (first | ((with_reducible refine gate_dst (N := 6) rfl ?_); refine Kd.R_lit (Kd.int .u8) _ 5 ?hg (N := 6) ?hd (xs := ([] : List Int)) (inner := []) (ok := fun _ => True) (okp := fun _ => True) ?hr ?hp (fun _ hk => hk) trivial (Below.refl _ _) (Nat.le_refl _) (by simp) ?_; (case hd => rfl); (case hg => rfl); (case hr => first | (go_simp; done) | (go_simp; rfl)); (case hp => exact (Reps.none _ _)); intro v225 w2 ho3 hb hg_ hnew_; clear hg_ hnew_; (first | rw [← Ny224.out] at ho3 | (simp only [Int.reduceToNat] at ho3; rw [← Ny224.out] at ho3)); have n0_ := Aside0.mk (Kd.R_lower ho3 (below_size ap1)); have n1_ := Aside0.mk (below_step ap1 hb); clear HB; have HO226 := n0_; have HB := n1_; clear n0_ n1_; clear hb ho3))
 go_loopg [3, 4] k (fun kq v3 v4 w' => ∃ (x3_1 : List Int) (x4_1 : Int), v4 = .int .i64 x4_1 ∧ Aside0 (rollbookref16_Small.l0 kq a0 x3_1 x4_1 = some r) ∧ Aside0 (kq ≤ k) ∧ Aside0 (Kd.R (Kd.int .u8) 5 w' w.heap.size (fun _ => True) v3 x3_1) ∧ Aside0 (Below w.heap.size w w'))
 case atStart => exact ⟨(y224), (0), ap2, H', ⟨Nat.le_refl _⟩, ⟨by (with_reducible repeat (first | apply Kd.R_alloc | apply Kd.R_drewN | apply Kd.R_drew)); exact HO226.out⟩, ⟨by repeat (first | (with_reducible first | exact HB.out | apply below_alloc | apply pw_below_drewN | apply below_drew1) | exact HB.out)⟩⟩
 case round =>
  clear H'
  try clear p2
  obtain ⟨x3_1, x4_1, rfl, HA, HK1, HO_3, HB⟩ := hrel
  cases gk with
  | zero => exact absurd HA.out (by simp [rollbookref16_Small.l0])
  | succ k1 =>
   have H := HA.out
   clear HA
   simp only [rollbookref16_Small.l0] at H
   by_cases c4 : x4_1 < (a0.size : Int)
   ·
    rw [if_pos c4] at H
    have c4b0 := decide_eq_true c4
    clear c4
    by_cases c5 : 0 ≤ x4_1
    ·
     rw [if_pos c5] at H
     have c5b0 := decide_eq_true c5
     clear c5
     by_cases c7 : (bt a0 x4_1) ≥ 65
     ·
      rw [if_pos c7] at H
      have c7b0 := decide_eq_true c7
      clear c7
      by_cases c8 : (bt a0 x4_1) ≤ 90
      ·
       rw [if_pos c8] at H
       have c8b0 := decide_eq_true c8
       clear c8
       by_cases c9 : x3_1.length < 140737488355328
       ·
        rw [if_pos c9] at H
        have LMc9 := Aside0.mk c9
        clear c9
        obtain ⟨y227, hy227⟩ : ∃ y_ : List Int, y_ = (x3_1 ++ [((bt a0 x4_1) + 32) % 256]) := ⟨_, rfl⟩
        replace H : (rollbookref16_Small.l0 k1 a0 y227 (wrap64 (x4_1 + 1))) = some r := by first | (rw [hy227]; with_reducible exact H) | (have H2_ := (Option.bind_some _ _).symm.trans H; rw [hy227]; with_reducible exact H2_) | (have H2_ := (Option.bind_some _ _).symm.trans H; with_reducible exact H2_) | with_reducible exact H | (rw [hy227]; exact H) | exact H
        have Ny227 := Aside0.mk hy227
        clear hy227
        have H' := Aside0.mk H
        clear H
        have p6 : 0 ≤ (x4_1 : Int) := of_decide_eq_true ap0
        have q6 : x4_1 < (a0.size : Int) := of_decide_eq_true ap0
        have hx6 := bt_at a0 x4_1
        replace p6 := eq_true p6
        replace q6 := eq_true q6
        go_wp2_with (first | ((with_reducible refine gate_builtin (b := .append) (xs := #[.tmp 24, .tmp 26]) rfl ?_); at_builtin; refine Kd.R_append (Kd.int .u8) (w0 := w) w.heap.size rfl (.tmp 24) (.tmp 26) 72 5 (.int .u8 0) 1 rfl Tryd.underlying72 info5 rfl (by decide) (by omega) u3 x3_1 (((bt a0 x4_1) + 32) % 256) [.int .u8 (((bt a0 x4_1) + 32) % 256)] (fun _ => True) (fun _ => False) rfl rfl ?aP (fun _ hk => hk.elim) ?aF ?aO ?aB ?aS ?aL ?_; (case aP => exact rfl); (case aB => exact ap1); (case aF => exact (fun _ _ => trivial)); (case aO => exact (apAR HO_3.out)); (case aS => exact (below_size ap1)); (case aL => have := LMc9.out; omega); intro v228 w10 ho hb hg hat; rw [← Ny227.out] at ho; have n0_ := Aside0.mk (hb); have n1_ := Aside0.mk (ho); clear HB; clear HO_3; have HB := n0_; have HO229 := n1_; clear n0_ n1_; clear ho hb hg hat))
        go_roundg k1
        case measure => have := HK1.out; omega
        case rel => exact ⟨(y227), (wrap64 (x4_1 + 1)), ap2, H', ⟨by have := HK1.out; omega⟩, ⟨by (with_reducible repeat (first | apply Kd.R_alloc | apply Kd.R_drewN | apply Kd.R_drew)); exact HO229.out⟩, ⟨by repeat (first | (with_reducible first | exact HB.out | apply below_alloc | apply pw_below_drewN | apply below_drew1) | exact HB.out)⟩⟩
       ·
        rw [if_neg c9] at H
        exact absurd H (by simp)
      ·
       rw [if_neg c8] at H
       have c8b0 := decide_eq_false c8
       clear c8
       by_cases c11 : x3_1.length < 140737488355328
       ·
        rw [if_pos c11] at H
        have LMc11 := Aside0.mk c11
        clear c11
        obtain ⟨y230, hy230⟩ : ∃ y_ : List Int, y_ = (x3_1 ++ [bt a0 x4_1]) := ⟨_, rfl⟩
        replace H : (rollbookref16_Small.l0 k1 a0 y230 (wrap64 (x4_1 + 1))) = some r := by first | (rw [hy230]; with_reducible exact H) | (have H2_ := (Option.bind_some _ _).symm.trans H; rw [hy230]; with_reducible exact H2_) | (have H2_ := (Option.bind_some _ _).symm.trans H; with_reducible exact H2_) | with_reducible exact H | (rw [hy230]; exact H) | exact H
        have Ny230 := Aside0.mk hy230
        clear hy230
        have H' := Aside0.mk H
        clear H
        have p6 : 0 ≤ (x4_1 : Int) := of_decide_eq_true ap0
        have q6 : x4_1 < (a0.size : Int) := of_decide_eq_true ap0
        have hx6 := bt_at a0 x4_1
        replace p6 := eq_true p6
        replace q6 := eq_true q6
        go_wp2_with (first | ((with_reducible refine gate_builtin (b := .append) (xs := #[.tmp 24, .tmp 26]) rfl ?_); at_builtin; refine Kd.R_append (Kd.int .u8) (w0 := w) w.heap.size rfl (.tmp 24) (.tmp 26) 72 5 (.int .u8 0) 1 rfl Tryd.underlying72 info5 rfl (by decide) (by omega) u3 x3_1 (bt a0 x4_1) [.int .u8 (bt a0 x4_1)] (fun _ => True) (fun _ => False) rfl rfl ?aP (fun _ hk => hk.elim) ?aF ?aO ?aB ?aS ?aL ?_; (case aP => exact rfl); (case aB => exact ap1); (case aF => exact (fun _ _ => trivial)); (case aO => exact (apAR HO_3.out)); (case aS => exact (below_size ap1)); (case aL => have := LMc11.out; omega); intro v231 w12 ho hb hg hat; rw [← Ny230.out] at ho; have n0_ := Aside0.mk (hb); have n1_ := Aside0.mk (ho); clear HB; clear HO_3; have HB := n0_; have HO232 := n1_; clear n0_ n1_; clear ho hb hg hat))
        go_roundg k1
        case measure => have := HK1.out; omega
        case rel => exact ⟨(y230), (wrap64 (x4_1 + 1)), ap2, H', ⟨by have := HK1.out; omega⟩, ⟨by (with_reducible repeat (first | apply Kd.R_alloc | apply Kd.R_drewN | apply Kd.R_drew)); exact HO232.out⟩, ⟨by repeat (first | (with_reducible first | exact HB.out | apply below_alloc | apply pw_below_drewN | apply below_drew1) | exact HB.out)⟩⟩
       ·
        rw [if_neg c11] at H
        exact absurd H (by simp)
     ·
      rw [if_neg c7] at H
      have c7b0 := decide_eq_false c7
      clear c7
      by_cases c13 : x3_1.length < 140737488355328
      ·
       rw [if_pos c13] at H
       have LMc13 := Aside0.mk c13
       clear c13
       obtain ⟨y233, hy233⟩ : ∃ y_ : List Int, y_ = (x3_1 ++ [bt a0 x4_1]) := ⟨_, rfl⟩
       replace H : (rollbookref16_Small.l0 k1 a0 y233 (wrap64 (x4_1 + 1))) = some r := by first | (rw [hy233]; with_reducible exact H) | (have H2_ := (Option.bind_some _ _).symm.trans H; rw [hy233]; with_reducible exact H2_) | (have H2_ := (Option.bind_some _ _).symm.trans H; with_reducible exact H2_) | with_reducible exact H | (rw [hy233]; exact H) | exact H
       have Ny233 := Aside0.mk hy233
       clear hy233
       have H' := Aside0.mk H
       clear H
       have p6 : 0 ≤ (x4_1 : Int) := of_decide_eq_true ap0
       have q6 : x4_1 < (a0.size : Int) := of_decide_eq_true ap0
       have hx6 := bt_at a0 x4_1
       replace p6 := eq_true p6
       replace q6 := eq_true q6
       go_wp2_with (first | ((with_reducible refine gate_builtin (b := .append) (xs := #[.tmp 24, .tmp 26]) rfl ?_); at_builtin; refine Kd.R_append (Kd.int .u8) (w0 := w) w.heap.size rfl (.tmp 24) (.tmp 26) 72 5 (.int .u8 0) 1 rfl Tryd.underlying72 info5 rfl (by decide) (by omega) u3 x3_1 (bt a0 x4_1) [.int .u8 (bt a0 x4_1)] (fun _ => True) (fun _ => False) rfl rfl ?aP (fun _ hk => hk.elim) ?aF ?aO ?aB ?aS ?aL ?_; (case aP => exact rfl); (case aB => exact ap1); (case aF => exact (fun _ _ => trivial)); (case aO => exact (apAR HO_3.out)); (case aS => exact (below_size ap1)); (case aL => have := LMc13.out; omega); intro v234 w14 ho hb hg hat; rw [← Ny233.out] at ho; have n0_ := Aside0.mk (hb); have n1_ := Aside0.mk (ho); clear HB; clear HO_3; have HB := n0_; have HO235 := n1_; clear n0_ n1_; clear ho hb hg hat))
       go_roundg k1
       case measure => have := HK1.out; omega
       case rel => exact ⟨(y233), (wrap64 (x4_1 + 1)), ap2, H', ⟨by have := HK1.out; omega⟩, ⟨by (with_reducible repeat (first | apply Kd.R_alloc | apply Kd.R_drewN | apply Kd.R_drew)); exact HO235.out⟩, ⟨by repeat (first | (with_reducible first | exact HB.out | apply below_alloc | apply pw_below_drewN | apply below_drew1) | exact HB.out)⟩⟩
      ·
       rw [if_neg c13] at H
       exact absurd H (by simp)
    ·
     rw [if_neg c5] at H
     exact absurd H (by simp)
   ·
    rw [if_neg c4] at H
    have c4b0 := decide_eq_false c4
    clear c4
    obtain rfl := Option.some.inj H
    have hcv15 := own_string (P := Tryd.prog) Tryd.underlying72 Tryd.underlying5 Tryd.underlying9 (Kd.own_of_R HO_3.out)
    go_wp2
    go_ret
    exact ⟨by first | rfl | (simp [errW_none, errW_some, bne_nil8, beq_nil8]; done) | (simp [errW_none, errW_some] <;> rfl) | (simp [*, errW_none, errW_some] <;> rfl), by repeat (first | (with_reducible first | exact HB.out | apply below_alloc | apply pw_below_drewN | apply below_drew1) | exact HB.out)⟩
def R21Name.f (k : Nat) (a0 : ByteArray) : Option (Bool) := (rollbookref16_Small.f k a0).bind fun t236 => (some (t236.toList == ([100, 110] : List UInt8)))
set_option maxHeartbeats 8000000 in
set_option maxRecDepth 100000 in
theorem R21Name.calls (k : Nat) (a0 : ByteArray) (r : Bool) (w : World) (h : R21Name.f k a0 = some r) :
  Calls Tryd.prog 32 #[.string a0] w fun e w' => e = .returned (.bool r) ∧ Below w.heap.size w w' := by
 have HB := Aside0.mk (Below.refl w.heap.size w)
 have H : ((rollbookref16_Small.f k a0).bind fun t236 => (some (t236.toList == ([100, 110] : List UInt8)))) = some r := h
 clear h
 replace H := Option.bind_eq_some_iff.mp H
 obtain ⟨t236, A20, H⟩ := H
 replace H : (some (t236.toList == ([100, 110] : List UInt8))) = some r := H
 have A2 := Aside0.mk A20
 clear A20
 obtain rfl := Option.some.inj H
 go_enter Tryd.func32, Tryd.ntmps32
 go_wp2_with (first | ((with_reducible refine gate_callee (f := 59) rfl ?_); refine goesL_ (some 4) rfl rfl Tryd.func59 (by kernel_rfl) rfl #[.string a0] rfl ap3 ?_; (with_reducible refine (rollbookref16_Small.calls k a0 t236 _ A2.out).mono ?_); rintro e w3 ⟨rfl, hb⟩; refine ⟨_, rfl, ?_⟩; have n0_ := Aside0.mk (below_step ap1 hb); clear HB; have HB := n0_; clear n0_; (try clear hb); (try clear hb2); (try clear hk); (try clear hi)))
 go_ret
 exact ⟨by first | rfl | (simp [errW_none, errW_some, bne_nil8, beq_nil8]; done) | (simp [errW_none, errW_some] <;> rfl) | (simp [*, errW_none, errW_some] <;> rfl), by repeat (first | (with_reducible first | exact HB.out | apply below_alloc | apply pw_below_drewN | apply below_drew1) | exact HB.out)⟩
def R21Plain.l0 : Nat → ByteArray → Int → Option (Bool)
 | 0, _, _ => none
 | k + 1, x0, x3 => if x3 < (x0.size : Int) then (if 0 ≤ x3 then (if (bt x0 x3) = 0 then (some false) else (if (bt x0 x3) > 127 then (some false) else (if (bt x0 x3) = 10 then (some false) else (if (bt x0 x3) = 13 then (some false) else (R21Plain.l0 k x0 (wrap64 (x3 + 1))))))) else (none)) else (if (x0.size : Int) = 0 then (some true) else (if 0 < (x0.size : Int) then (if (bt x0 0) = 32 then (some false) else (if (bt x0 0) = 58 then (some false) else (some ((bt x0 0) != 60)))) else (none)))
def R21Plain.f (k : Nat) (a0 : ByteArray) : Option (Bool) := R21Plain.l0 k a0 0
set_option maxHeartbeats 8000000 in
set_option maxRecDepth 100000 in
theorem R21Plain.calls (k : Nat) (a0 : ByteArray) (r : Bool) (w : World) (h : R21Plain.f k a0 = some r) :
  Calls Tryd.prog 58 #[.string a0] w fun e w' => e = .returned (.bool r) ∧ Drawn0 w w' := by
 have H : (R21Plain.l0 k a0 0) = some r := h
 clear h
 have H' := Aside0.mk H
 clear H
 go_enter Tryd.func58, Tryd.ntmps58
 go_wp2
 go_loopg [3] k (fun kq v3 w' => ∃ (x3_1 : Int), v3 = .int .i64 x3_1 ∧ Aside0 (R21Plain.l0 kq a0 x3_1 = some r) ∧ Aside0 (kq ≤ k) ∧ Drawn0 w w')
 case atStart => exact ⟨(0), ap2, H', ⟨Nat.le_refl _⟩, by repeat (first | exact Drawn0.refl _ | apply Drawn0.step)⟩
 case round =>
  clear H'
  obtain ⟨x3_1, rfl, HA, HK1, ⟨m1, rfl⟩⟩ := hrel
  cases gk with
  | zero => exact absurd HA.out (by simp [R21Plain.l0])
  | succ k1 =>
   have H := HA.out
   clear HA
   simp only [R21Plain.l0] at H
   by_cases c2 : x3_1 < (a0.size : Int)
   ·
    rw [if_pos c2] at H
    have c2b0 := decide_eq_true c2
    clear c2
    by_cases c3 : 0 ≤ x3_1
    ·
     rw [if_pos c3] at H
     have c3b0 := decide_eq_true c3
     clear c3
     by_cases c5 : (bt a0 x3_1) = 0
     ·
      rw [if_pos c5] at H
      have c5b0 : ((bt a0 x3_1) == 0) = true := beq_iff_eq.mpr c5
      have c5b1 : ((bt a0 x3_1) != 0) = false := bne_eq_false_iff_eq.mpr c5
      clear c5
      obtain rfl := Option.some.inj H
      have p4 : 0 ≤ (x3_1 : Int) := of_decide_eq_true ap0
      have q4 : x3_1 < (a0.size : Int) := of_decide_eq_true ap0
      have hx4 := bt_at a0 x3_1
      replace p4 := eq_true p4
      replace q4 := eq_true q4
      go_wp2
      go_ret
      exact ⟨ap2, ap7⟩
     ·
      rw [if_neg c5] at H
      have c5b0 : ((bt a0 x3_1) == 0) = false := beq_eq_false_iff_ne.mpr c5
      have c5b1 : ((bt a0 x3_1) != 0) = true := bne_iff_ne.mpr c5
      by_cases c7 : (bt a0 x3_1) > 127
      ·
       rw [if_pos c7] at H
       have c7b0 := decide_eq_true c7
       clear c7
       obtain rfl := Option.some.inj H
       have p4 : 0 ≤ (x3_1 : Int) := of_decide_eq_true ap0
       have q4 : x3_1 < (a0.size : Int) := of_decide_eq_true ap0
       have hx4 := bt_at a0 x3_1
       replace p4 := eq_true p4
       replace q4 := eq_true q4
       have p6 : 0 ≤ (x3_1 : Int) := of_decide_eq_true ap0
       have q6 : x3_1 < (a0.size : Int) := of_decide_eq_true ap0
       have hx6 := bt_at a0 x3_1
       replace p6 := eq_true p6
       replace q6 := eq_true q6
       go_wp2
       go_ret
       exact ⟨ap2, ap7⟩
      ·
       rw [if_neg c7] at H
       have c7b0 := decide_eq_false c7
       clear c7
       by_cases c9 : (bt a0 x3_1) = 10
       ·
        rw [if_pos c9] at H
        have c9b0 : ((bt a0 x3_1) == 10) = true := beq_iff_eq.mpr c9
        have c9b1 : ((bt a0 x3_1) != 10) = false := bne_eq_false_iff_eq.mpr c9
        clear c9
        obtain rfl := Option.some.inj H
        have p4 : 0 ≤ (x3_1 : Int) := of_decide_eq_true ap0
        have q4 : x3_1 < (a0.size : Int) := of_decide_eq_true ap0
        have hx4 := bt_at a0 x3_1
        replace p4 := eq_true p4
        replace q4 := eq_true q4
        have p6 : 0 ≤ (x3_1 : Int) := of_decide_eq_true ap0
        have q6 : x3_1 < (a0.size : Int) := of_decide_eq_true ap0
        have hx6 := bt_at a0 x3_1
        replace p6 := eq_true p6
        replace q6 := eq_true q6
        have p8 : 0 ≤ (x3_1 : Int) := of_decide_eq_true ap0
        have q8 : x3_1 < (a0.size : Int) := of_decide_eq_true ap0
        have hx8 := bt_at a0 x3_1
        replace p8 := eq_true p8
        replace q8 := eq_true q8
        go_wp2
        go_ret
        exact ⟨ap2, ap7⟩
       ·
        rw [if_neg c9] at H
        have c9b0 : ((bt a0 x3_1) == 10) = false := beq_eq_false_iff_ne.mpr c9
        have c9b1 : ((bt a0 x3_1) != 10) = true := bne_iff_ne.mpr c9
        by_cases c11 : (bt a0 x3_1) = 13
        ·
         rw [if_pos c11] at H
         have c11b0 : ((bt a0 x3_1) == 13) = true := beq_iff_eq.mpr c11
         have c11b1 : ((bt a0 x3_1) != 13) = false := bne_eq_false_iff_eq.mpr c11
         clear c11
         obtain rfl := Option.some.inj H
         have p4 : 0 ≤ (x3_1 : Int) := of_decide_eq_true ap0
         have q4 : x3_1 < (a0.size : Int) := of_decide_eq_true ap0
         have hx4 := bt_at a0 x3_1
         replace p4 := eq_true p4
         replace q4 := eq_true q4
         have p6 : 0 ≤ (x3_1 : Int) := of_decide_eq_true ap0
         have q6 : x3_1 < (a0.size : Int) := of_decide_eq_true ap0
         have hx6 := bt_at a0 x3_1
         replace p6 := eq_true p6
         replace q6 := eq_true q6
         have p8 : 0 ≤ (x3_1 : Int) := of_decide_eq_true ap0
         have q8 : x3_1 < (a0.size : Int) := of_decide_eq_true ap0
         have hx8 := bt_at a0 x3_1
         replace p8 := eq_true p8
         replace q8 := eq_true q8
         have p10 : 0 ≤ (x3_1 : Int) := of_decide_eq_true ap0
         have q10 : x3_1 < (a0.size : Int) := of_decide_eq_true ap0
         have hx10 := bt_at a0 x3_1
         replace p10 := eq_true p10
         replace q10 := eq_true q10
         go_wp2
         go_ret
         exact ⟨ap2, ap7⟩
        ·
         rw [if_neg c11] at H
         have c11b0 : ((bt a0 x3_1) == 13) = false := beq_eq_false_iff_ne.mpr c11
         have c11b1 : ((bt a0 x3_1) != 13) = true := bne_iff_ne.mpr c11
         have H' := Aside0.mk H
         clear H
         have p4 : 0 ≤ (x3_1 : Int) := of_decide_eq_true ap0
         have q4 : x3_1 < (a0.size : Int) := of_decide_eq_true ap0
         have hx4 := bt_at a0 x3_1
         replace p4 := eq_true p4
         replace q4 := eq_true q4
         have p6 : 0 ≤ (x3_1 : Int) := of_decide_eq_true ap0
         have q6 : x3_1 < (a0.size : Int) := of_decide_eq_true ap0
         have hx6 := bt_at a0 x3_1
         replace p6 := eq_true p6
         replace q6 := eq_true q6
         have p8 : 0 ≤ (x3_1 : Int) := of_decide_eq_true ap0
         have q8 : x3_1 < (a0.size : Int) := of_decide_eq_true ap0
         have hx8 := bt_at a0 x3_1
         replace p8 := eq_true p8
         replace q8 := eq_true q8
         have p10 : 0 ≤ (x3_1 : Int) := of_decide_eq_true ap0
         have q10 : x3_1 < (a0.size : Int) := of_decide_eq_true ap0
         have hx10 := bt_at a0 x3_1
         replace p10 := eq_true p10
         replace q10 := eq_true q10
         go_wp2
         go_roundg k1
         case measure => have := HK1.out; omega
         case rel => exact ⟨(wrap64 (x3_1 + 1)), ap2, H', ⟨by have := HK1.out; omega⟩, by repeat (first | exact Drawn0.refl _ | apply Drawn0.step)⟩
    ·
     rw [if_neg c3] at H
     exact absurd H (by simp)
   ·
    rw [if_neg c2] at H
    have c2b0 := decide_eq_false c2
    clear c2
    by_cases c12 : (a0.size : Int) = 0
    ·
     rw [if_pos c12] at H
     have c12b0 : ((a0.size : Int) == 0) = true := beq_iff_eq.mpr c12
     have c12b1 : ((a0.size : Int) != 0) = false := bne_eq_false_iff_eq.mpr c12
     clear c12
     obtain rfl := Option.some.inj H
     go_wp2
     go_ret
     exact ⟨ap2, ap7⟩
    ·
     rw [if_neg c12] at H
     have c12b0 : ((a0.size : Int) == 0) = false := beq_eq_false_iff_ne.mpr c12
     have c12b1 : ((a0.size : Int) != 0) = true := bne_iff_ne.mpr c12
     by_cases c13 : 0 < (a0.size : Int)
     ·
      rw [if_pos c13] at H
      have c13b0 := decide_eq_true c13
      have c13b1 : decide (0 < a0.size) = true := decide_eq_true (by omega)
      clear c13
      by_cases c15 : (bt a0 0) = 32
      ·
       rw [if_pos c15] at H
       have c15b0 : ((bt a0 0) == 32) = true := beq_iff_eq.mpr c15
       have c15b1 : ((bt a0 0) != 32) = false := bne_eq_false_iff_eq.mpr c15
       clear c15
       obtain rfl := Option.some.inj H
       have p14 : 0 ≤ (0 : Int) := (by omega)
       have q14 : 0 < a0.size := (by have : (0 : Int) < (a0.size : Int) := of_decide_eq_true ap0; omega)
       have hx14 : ∀ h : 0 < a0.size, ((a0[0]'h).toNat : Int) = bt a0 0 := bt_at a0 0
       clear p14
       have qi14 : (0 < (a0.size : Int)) = True := eq_true (of_decide_eq_true ap0)
       replace q14 := eq_true q14
       go_wp2
       go_ret
       exact ⟨ap2, ap7⟩
      ·
       rw [if_neg c15] at H
       have c15b0 : ((bt a0 0) == 32) = false := beq_eq_false_iff_ne.mpr c15
       have c15b1 : ((bt a0 0) != 32) = true := bne_iff_ne.mpr c15
       by_cases c17 : (bt a0 0) = 58
       ·
        rw [if_pos c17] at H
        have c17b0 : ((bt a0 0) == 58) = true := beq_iff_eq.mpr c17
        have c17b1 : ((bt a0 0) != 58) = false := bne_eq_false_iff_eq.mpr c17
        clear c17
        obtain rfl := Option.some.inj H
        have p14 : 0 ≤ (0 : Int) := (by omega)
        have q14 : 0 < a0.size := (by have : (0 : Int) < (a0.size : Int) := of_decide_eq_true ap0; omega)
        have hx14 : ∀ h : 0 < a0.size, ((a0[0]'h).toNat : Int) = bt a0 0 := bt_at a0 0
        clear p14
        have qi14 : (0 < (a0.size : Int)) = True := eq_true (of_decide_eq_true ap0)
        replace q14 := eq_true q14
        have p16 : 0 ≤ (0 : Int) := (by omega)
        have q16 : 0 < a0.size := (by have : (0 : Int) < (a0.size : Int) := of_decide_eq_true ap0; omega)
        have hx16 : ∀ h : 0 < a0.size, ((a0[0]'h).toNat : Int) = bt a0 0 := bt_at a0 0
        clear p16
        have qi16 : (0 < (a0.size : Int)) = True := eq_true (of_decide_eq_true ap0)
        replace q16 := eq_true q16
        go_wp2
        go_ret
        exact ⟨ap2, ap7⟩
       ·
        rw [if_neg c17] at H
        have c17b0 : ((bt a0 0) == 58) = false := beq_eq_false_iff_ne.mpr c17
        have c17b1 : ((bt a0 0) != 58) = true := bne_iff_ne.mpr c17
        obtain rfl := Option.some.inj H
        have p14 : 0 ≤ (0 : Int) := (by omega)
        have q14 : 0 < a0.size := (by have : (0 : Int) < (a0.size : Int) := of_decide_eq_true ap0; omega)
        have hx14 : ∀ h : 0 < a0.size, ((a0[0]'h).toNat : Int) = bt a0 0 := bt_at a0 0
        clear p14
        have qi14 : (0 < (a0.size : Int)) = True := eq_true (of_decide_eq_true ap0)
        replace q14 := eq_true q14
        have p16 : 0 ≤ (0 : Int) := (by omega)
        have q16 : 0 < a0.size := (by have : (0 : Int) < (a0.size : Int) := of_decide_eq_true ap0; omega)
        have hx16 : ∀ h : 0 < a0.size, ((a0[0]'h).toNat : Int) = bt a0 0 := bt_at a0 0
        clear p16
        have qi16 : (0 < (a0.size : Int)) = True := eq_true (of_decide_eq_true ap0)
        replace q16 := eq_true q16
        have p18 : 0 ≤ (0 : Int) := (by omega)
        have q18 : 0 < a0.size := (by have : (0 : Int) < (a0.size : Int) := of_decide_eq_true ap0; omega)
        have hx18 : ∀ h : 0 < a0.size, ((a0[0]'h).toNat : Int) = bt a0 0 := bt_at a0 0
        clear p18
        have qi18 : (0 < (a0.size : Int)) = True := eq_true (of_decide_eq_true ap0)
        replace q18 := eq_true q18
        go_wp2
        go_ret
        exact ⟨ap2, ap7⟩
     ·
      rw [if_neg c13] at H
      exact absurd H (by simp)
mutual
def R21Type.j0 : Nat → ByteArray → Bool → Option (Bool)
 | 0, _, _ => none
 | k + 1, x0, x27 => if x27 = true then (some false) else (R21Type.l0 k x0 0)
def R21Type.l0 : Nat → ByteArray → Int → Option (Bool)
 | 0, _, _ => none
 | k + 1, x0, x3 => if x3 < (x0.size : Int) then (if 0 ≤ x3 then (if (bt x0 x3) ≥ 65 then (if ((bt x0 x3) ≤ 90) then (R21Type.l0 k x0 (wrap64 (x3 + 1))) else (if (bt x0 x3) ≥ 97 then (if ((bt x0 x3) ≤ 122) then (R21Type.l0 k x0 (wrap64 (x3 + 1))) else (if (bt x0 x3) ≥ 48 then (if ((bt x0 x3) ≤ 57) then (R21Type.l0 k x0 (wrap64 (x3 + 1))) else (if (bt x0 x3) = 45 then (R21Type.l0 k x0 (wrap64 (x3 + 1))) else (some false))) else (if (bt x0 x3) = 45 then (R21Type.l0 k x0 (wrap64 (x3 + 1))) else (some false)))) else (if (bt x0 x3) ≥ 48 then (if ((bt x0 x3) ≤ 57) then (R21Type.l0 k x0 (wrap64 (x3 + 1))) else (if (bt x0 x3) = 45 then (R21Type.l0 k x0 (wrap64 (x3 + 1))) else (some false))) else (if (bt x0 x3) = 45 then (R21Type.l0 k x0 (wrap64 (x3 + 1))) else (some false))))) else (if (bt x0 x3) ≥ 97 then (if ((bt x0 x3) ≤ 122) then (R21Type.l0 k x0 (wrap64 (x3 + 1))) else (if (bt x0 x3) ≥ 48 then (if ((bt x0 x3) ≤ 57) then (R21Type.l0 k x0 (wrap64 (x3 + 1))) else (if (bt x0 x3) = 45 then (R21Type.l0 k x0 (wrap64 (x3 + 1))) else (some false))) else (if (bt x0 x3) = 45 then (R21Type.l0 k x0 (wrap64 (x3 + 1))) else (some false)))) else (if (bt x0 x3) ≥ 48 then (if ((bt x0 x3) ≤ 57) then (R21Type.l0 k x0 (wrap64 (x3 + 1))) else (if (bt x0 x3) = 45 then (R21Type.l0 k x0 (wrap64 (x3 + 1))) else (some false))) else (if (bt x0 x3) = 45 then (R21Type.l0 k x0 (wrap64 (x3 + 1))) else (some false))))) else (none)) else (some true)
end
def R21Type.f (k : Nat) (a0 : ByteArray) : Option (Bool) := if (a0.size : Int) < 1 then (R21Type.j0 k a0 true) else (if (a0.size : Int) > 64 then (R21Type.j0 k a0 true) else (if 0 < (a0.size : Int) then (if (bt a0 0) = 45 then (R21Type.j0 k a0 true) else (if (bt a0 0) ≥ 48 then (R21Type.j0 k a0 (decide ((bt a0 0) ≤ 57))) else (R21Type.j0 k a0 false))) else (none)))
set_option maxHeartbeats 8000000 in
set_option maxRecDepth 100000 in
theorem R21Type.calls (k : Nat) (a0 : ByteArray) (r : Bool) (w : World) (h : R21Type.f k a0 = some r) :
  Calls Tryd.prog 56 #[.string a0] w fun e w' => e = .returned (.bool r) ∧ Drawn0 w w' := by
 have H : (if (a0.size : Int) < 1 then (R21Type.j0 k a0 true) else (if (a0.size : Int) > 64 then (R21Type.j0 k a0 true) else (if 0 < (a0.size : Int) then (if (bt a0 0) = 45 then (R21Type.j0 k a0 true) else (if (bt a0 0) ≥ 48 then (R21Type.j0 k a0 (decide ((bt a0 0) ≤ 57))) else (R21Type.j0 k a0 false))) else (none)))) = some r := h
 clear h
 have HC2 := Aside0.mk H
 clear H
 go_enter Tryd.func56, Tryd.ntmps56
 go_upto_region 1 with (fail)
 go_cut [27] (fun v27 wc => ∃ (kq : Nat) (x27_1 : Bool), v27 = .bool x27_1 ∧ Aside0 (R21Type.j0 kq a0 x27_1 = some r) ∧ Aside0 (kq ≤ k) ∧ Drawn0 w wc)
 case first =>
  have H := HC2.out
  clear HC2
  by_cases c3 : (a0.size : Int) < 1
  ·
   rw [if_pos c3] at H
   have c3b0 := decide_eq_true c3
   have c3b1 : decide (a0.size < 1) = true := decide_eq_true (by omega)
   clear c3
   (first | rw [c3b0] | (simp only [i64_w, i32_w]; rw [c3b0]) | skip)
   have H' := Aside0.mk H
   clear H
   go_wp2
   go_meet
   case rel => exact ⟨_, (true), ap2, H', ⟨by first | omega | exact Nat.le_refl _⟩, by repeat (first | exact Drawn0.refl _ | apply Drawn0.step)⟩
  ·
   rw [if_neg c3] at H
   have c3b0 := decide_eq_false c3
   have c3b1 : decide (a0.size < 1) = false := decide_eq_false (by omega)
   clear c3
   (first | rw [c3b0] | (simp only [i64_w, i32_w]; rw [c3b0]) | skip)
   by_cases c4 : (a0.size : Int) > 64
   ·
    rw [if_pos c4] at H
    have c4b0 := decide_eq_true c4
    have c4b1 : decide (64 < a0.size) = true := decide_eq_true (by omega)
    clear c4
    have H' := Aside0.mk H
    clear H
    go_wp2
    go_meet
    case rel => exact ⟨_, (true), ap2, H', ⟨by first | omega | exact Nat.le_refl _⟩, by repeat (first | exact Drawn0.refl _ | apply Drawn0.step)⟩
   ·
    rw [if_neg c4] at H
    have c4b0 := decide_eq_false c4
    have c4b1 : decide (64 < a0.size) = false := decide_eq_false (by omega)
    clear c4
    by_cases c5 : 0 < (a0.size : Int)
    ·
     rw [if_pos c5] at H
     have c5b0 := decide_eq_true c5
     have c5b1 : decide (0 < a0.size) = true := decide_eq_true (by omega)
     clear c5
     by_cases c7 : (bt a0 0) = 45
     ·
      rw [if_pos c7] at H
      have c7b0 : ((bt a0 0) == 45) = true := beq_iff_eq.mpr c7
      have c7b1 : ((bt a0 0) != 45) = false := bne_eq_false_iff_eq.mpr c7
      clear c7
      have H' := Aside0.mk H
      clear H
      have p6 : 0 ≤ (0 : Int) := (by omega)
      have q6 : 0 < a0.size := (by have : (0 : Int) < (a0.size : Int) := of_decide_eq_true ap0; omega)
      have hx6 : ∀ h : 0 < a0.size, ((a0[0]'h).toNat : Int) = bt a0 0 := bt_at a0 0
      clear p6
      have qi6 : (0 < (a0.size : Int)) = True := eq_true (of_decide_eq_true ap0)
      replace q6 := eq_true q6
      go_wp2
      first | go_meet | (simp only [c7b0] at *; go_meet)
      case rel => exact ⟨_, (true), ap2, H', ⟨by first | omega | exact Nat.le_refl _⟩, by repeat (first | exact Drawn0.refl _ | apply Drawn0.step)⟩
     ·
      rw [if_neg c7] at H
      have c7b0 : ((bt a0 0) == 45) = false := beq_eq_false_iff_ne.mpr c7
      have c7b1 : ((bt a0 0) != 45) = true := bne_iff_ne.mpr c7
      by_cases c9 : (bt a0 0) ≥ 48
      ·
       rw [if_pos c9] at H
       have c9b0 := decide_eq_true c9
       clear c9
       have H' := Aside0.mk H
       clear H
       have p6 : 0 ≤ (0 : Int) := (by omega)
       have q6 : 0 < a0.size := (by have : (0 : Int) < (a0.size : Int) := of_decide_eq_true ap0; omega)
       have hx6 : ∀ h : 0 < a0.size, ((a0[0]'h).toNat : Int) = bt a0 0 := bt_at a0 0
       clear p6
       have qi6 : (0 < (a0.size : Int)) = True := eq_true (of_decide_eq_true ap0)
       replace q6 := eq_true q6
       have p8 : 0 ≤ (0 : Int) := (by omega)
       have q8 : 0 < a0.size := (by have : (0 : Int) < (a0.size : Int) := of_decide_eq_true ap0; omega)
       have hx8 : ∀ h : 0 < a0.size, ((a0[0]'h).toNat : Int) = bt a0 0 := bt_at a0 0
       clear p8
       have qi8 : (0 < (a0.size : Int)) = True := eq_true (of_decide_eq_true ap0)
       replace q8 := eq_true q8
       have p10 : 0 ≤ (0 : Int) := (by omega)
       have q10 : 0 < a0.size := (by have : (0 : Int) < (a0.size : Int) := of_decide_eq_true ap0; omega)
       have hx10 : ∀ h : 0 < a0.size, ((a0[0]'h).toNat : Int) = bt a0 0 := bt_at a0 0
       clear p10
       have qi10 : (0 < (a0.size : Int)) = True := eq_true (of_decide_eq_true ap0)
       replace q10 := eq_true q10
       go_wp2
       first | go_meet | (simp only [c7b0] at *; go_meet) | (simp only [c7b0] at *; go_meet)
       case rel => exact ⟨_, (decide ((bt a0 0) ≤ 57)), ap2, H', ⟨by first | omega | exact Nat.le_refl _⟩, by repeat (first | exact Drawn0.refl _ | apply Drawn0.step)⟩
      ·
       rw [if_neg c9] at H
       have c9b0 := decide_eq_false c9
       clear c9
       have H' := Aside0.mk H
       clear H
       have p6 : 0 ≤ (0 : Int) := (by omega)
       have q6 : 0 < a0.size := (by have : (0 : Int) < (a0.size : Int) := of_decide_eq_true ap0; omega)
       have hx6 : ∀ h : 0 < a0.size, ((a0[0]'h).toNat : Int) = bt a0 0 := bt_at a0 0
       clear p6
       have qi6 : (0 < (a0.size : Int)) = True := eq_true (of_decide_eq_true ap0)
       replace q6 := eq_true q6
       have p8 : 0 ≤ (0 : Int) := (by omega)
       have q8 : 0 < a0.size := (by have : (0 : Int) < (a0.size : Int) := of_decide_eq_true ap0; omega)
       have hx8 : ∀ h : 0 < a0.size, ((a0[0]'h).toNat : Int) = bt a0 0 := bt_at a0 0
       clear p8
       have qi8 : (0 < (a0.size : Int)) = True := eq_true (of_decide_eq_true ap0)
       replace q8 := eq_true q8
       go_wp2
       first | go_meet | (simp only [c7b0] at *; go_meet) | (simp only [c7b0] at *; go_meet)
       case rel => exact ⟨_, (false), ap2, H', ⟨by first | omega | exact Nat.le_refl _⟩, by repeat (first | exact Drawn0.refl _ | apply Drawn0.step)⟩
    ·
     rw [if_neg c5] at H
     exact absurd H (by simp)
 case rest =>
  clear HC2
  try clear p1
  try clear q1
  try clear hx1
  try clear qi1
  try clear p2
  try clear c3
  try clear c3b0
  try clear c3b1
  try clear c4
  try clear c4b0
  try clear c4b1
  try clear c5
  try clear c5b0
  try clear c5b1
  try clear p6
  try clear q6
  try clear hx6
  try clear qi6
  try clear c7
  try clear c7b0
  try clear c7b1
  try clear p8
  try clear q8
  try clear hx8
  try clear qi8
  try clear c9
  try clear c9b0
  try clear p10
  try clear q10
  try clear hx10
  try clear qi10
  try clear p10
  try clear p6
  try clear p8
  try clear q10
  try clear q6
  try clear q8
  obtain ⟨kq, x27_1, rfl, HA, HJ1, ⟨mc1, rfl⟩⟩ := hcut
  cases kq with
  | zero => exact absurd HA.out (by simp [R21Type.j0])
  | succ kj1 =>
   have H := HA.out
   clear HA
   simp only [R21Type.j0] at H
   by_cases c11 : x27_1 = true
   ·
    subst c11
    rw [if_pos rfl] at H
    obtain rfl := Option.some.inj H
    go_wp2
    go_ret
    exact ⟨ap2, ap7⟩
   ·
    replace c11 := Bool.eq_false_iff.mpr c11
    subst c11
    rw [if_neg (show ¬ (false = true) by decide)] at H
    have H' := Aside0.mk H
    clear H
    go_wp2
    go_loopg [3] kj1 (fun kq v3 w' => ∃ (x3_2 : Int), v3 = .int .i64 x3_2 ∧ Aside0 (R21Type.l0 kq a0 x3_2 = some r) ∧ Aside0 (kq ≤ kj1) ∧ Drawn0 w w')
    case atStart => exact ⟨(0), ap2, H', ⟨Nat.le_refl _⟩, by repeat (first | exact Drawn0.refl _ | apply Drawn0.step)⟩
    case round =>
     clear H'
     try clear c1
     try clear p1
     try clear q1
     try clear hx1
     try clear qi1
     try clear p2
     try clear c3
     try clear c3b0
     try clear c3b1
     try clear c4
     try clear c4b0
     try clear c4b1
     try clear c5
     try clear c5b0
     try clear c5b1
     try clear p6
     try clear q6
     try clear hx6
     try clear qi6
     try clear c7
     try clear c7b0
     try clear c7b1
     try clear p8
     try clear q8
     try clear hx8
     try clear qi8
     try clear c9
     try clear c9b0
     try clear p10
     try clear q10
     try clear hx10
     try clear qi10
     try clear c11
     try clear p1
     try clear p10
     try clear p2
     try clear p6
     try clear p8
     try clear q1
     try clear q10
     try clear q6
     try clear q8
     obtain ⟨x3_2, rfl, HA, HK2, ⟨m2, rfl⟩⟩ := hrel
     cases gk with
     | zero => exact absurd HA.out (by simp [R21Type.l0])
     | succ k2 =>
      have H := HA.out
      clear HA
      simp only [R21Type.l0] at H
      by_cases c12 : x3_2 < (a0.size : Int)
      ·
       rw [if_pos c12] at H
       have c12b0 := decide_eq_true c12
       clear c12
       by_cases c13 : 0 ≤ x3_2
       ·
        rw [if_pos c13] at H
        have c13b0 := decide_eq_true c13
        clear c13
        by_cases c15 : (bt a0 x3_2) ≥ 65
        ·
         rw [if_pos c15] at H
         have c15b0 := decide_eq_true c15
         clear c15
         by_cases c16 : ((bt a0 x3_2) ≤ 90)
         ·
          rw [if_pos c16] at H
          have c16b0 := decide_eq_true c16
          clear c16
          have H' := Aside0.mk H
          clear H
          have p14 : 0 ≤ (x3_2 : Int) := of_decide_eq_true ap0
          have q14 : x3_2 < (a0.size : Int) := of_decide_eq_true ap0
          have hx14 := bt_at a0 x3_2
          replace p14 := eq_true p14
          replace q14 := eq_true q14
          go_wp2
          go_roundg k2
          case measure => have := HJ1.out; have := HK2.out; omega
          case rel => exact ⟨(wrap64 (x3_2 + 1)), ap2, H', ⟨by have := HJ1.out; have := HK2.out; omega⟩, by repeat (first | exact Drawn0.refl _ | apply Drawn0.step)⟩
         ·
          rw [if_neg c16] at H
          have c16b0 := decide_eq_false c16
          clear c16
          by_cases c17 : (bt a0 x3_2) ≥ 97
          ·
           rw [if_pos c17] at H
           have c17b0 := decide_eq_true c17
           clear c17
           by_cases c18 : ((bt a0 x3_2) ≤ 122)
           ·
            rw [if_pos c18] at H
            have c18b0 := decide_eq_true c18
            clear c18
            have H' := Aside0.mk H
            clear H
            have p14 : 0 ≤ (x3_2 : Int) := of_decide_eq_true ap0
            have q14 : x3_2 < (a0.size : Int) := of_decide_eq_true ap0
            have hx14 := bt_at a0 x3_2
            replace p14 := eq_true p14
            replace q14 := eq_true q14
            go_wp2
            go_roundg k2
            case measure => have := HJ1.out; have := HK2.out; omega
            case rel => exact ⟨(wrap64 (x3_2 + 1)), ap2, H', ⟨by have := HJ1.out; have := HK2.out; omega⟩, by repeat (first | exact Drawn0.refl _ | apply Drawn0.step)⟩
           ·
            rw [if_neg c18] at H
            have c18b0 := decide_eq_false c18
            clear c18
            by_cases c19 : (bt a0 x3_2) ≥ 48
            ·
             rw [if_pos c19] at H
             have c19b0 := decide_eq_true c19
             clear c19
             by_cases c20 : ((bt a0 x3_2) ≤ 57)
             ·
              rw [if_pos c20] at H
              have c20b0 := decide_eq_true c20
              clear c20
              have H' := Aside0.mk H
              clear H
              have p14 : 0 ≤ (x3_2 : Int) := of_decide_eq_true ap0
              have q14 : x3_2 < (a0.size : Int) := of_decide_eq_true ap0
              have hx14 := bt_at a0 x3_2
              replace p14 := eq_true p14
              replace q14 := eq_true q14
              go_wp2
              go_roundg k2
              case measure => have := HJ1.out; have := HK2.out; omega
              case rel => exact ⟨(wrap64 (x3_2 + 1)), ap2, H', ⟨by have := HJ1.out; have := HK2.out; omega⟩, by repeat (first | exact Drawn0.refl _ | apply Drawn0.step)⟩
             ·
              rw [if_neg c20] at H
              have c20b0 := decide_eq_false c20
              clear c20
              by_cases c21 : (bt a0 x3_2) = 45
              ·
               rw [if_pos c21] at H
               have c21b0 : ((bt a0 x3_2) == 45) = true := beq_iff_eq.mpr c21
               have c21b1 : ((bt a0 x3_2) != 45) = false := bne_eq_false_iff_eq.mpr c21
               clear c21
               have H' := Aside0.mk H
               clear H
               have p14 : 0 ≤ (x3_2 : Int) := of_decide_eq_true ap0
               have q14 : x3_2 < (a0.size : Int) := of_decide_eq_true ap0
               have hx14 := bt_at a0 x3_2
               replace p14 := eq_true p14
               replace q14 := eq_true q14
               go_wp2
               go_roundg k2
               case measure => have := HJ1.out; have := HK2.out; omega
               case rel => exact ⟨(wrap64 (x3_2 + 1)), ap2, H', ⟨by have := HJ1.out; have := HK2.out; omega⟩, by repeat (first | exact Drawn0.refl _ | apply Drawn0.step)⟩
              ·
               rw [if_neg c21] at H
               have c21b0 : ((bt a0 x3_2) == 45) = false := beq_eq_false_iff_ne.mpr c21
               have c21b1 : ((bt a0 x3_2) != 45) = true := bne_iff_ne.mpr c21
               obtain rfl := Option.some.inj H
               have p14 : 0 ≤ (x3_2 : Int) := of_decide_eq_true ap0
               have q14 : x3_2 < (a0.size : Int) := of_decide_eq_true ap0
               have hx14 := bt_at a0 x3_2
               replace p14 := eq_true p14
               replace q14 := eq_true q14
               go_wp2
               go_ret
               exact ⟨ap2, ap7⟩
            ·
             rw [if_neg c19] at H
             have c19b0 := decide_eq_false c19
             clear c19
             by_cases c22 : (bt a0 x3_2) = 45
             ·
              rw [if_pos c22] at H
              have c22b0 : ((bt a0 x3_2) == 45) = true := beq_iff_eq.mpr c22
              have c22b1 : ((bt a0 x3_2) != 45) = false := bne_eq_false_iff_eq.mpr c22
              clear c22
              have H' := Aside0.mk H
              clear H
              have p14 : 0 ≤ (x3_2 : Int) := of_decide_eq_true ap0
              have q14 : x3_2 < (a0.size : Int) := of_decide_eq_true ap0
              have hx14 := bt_at a0 x3_2
              replace p14 := eq_true p14
              replace q14 := eq_true q14
              go_wp2
              go_roundg k2
              case measure => have := HJ1.out; have := HK2.out; omega
              case rel => exact ⟨(wrap64 (x3_2 + 1)), ap2, H', ⟨by have := HJ1.out; have := HK2.out; omega⟩, by repeat (first | exact Drawn0.refl _ | apply Drawn0.step)⟩
             ·
              rw [if_neg c22] at H
              have c22b0 : ((bt a0 x3_2) == 45) = false := beq_eq_false_iff_ne.mpr c22
              have c22b1 : ((bt a0 x3_2) != 45) = true := bne_iff_ne.mpr c22
              obtain rfl := Option.some.inj H
              have p14 : 0 ≤ (x3_2 : Int) := of_decide_eq_true ap0
              have q14 : x3_2 < (a0.size : Int) := of_decide_eq_true ap0
              have hx14 := bt_at a0 x3_2
              replace p14 := eq_true p14
              replace q14 := eq_true q14
              go_wp2
              go_ret
              exact ⟨ap2, ap7⟩
          ·
           rw [if_neg c17] at H
           have c17b0 := decide_eq_false c17
           clear c17
           by_cases c23 : (bt a0 x3_2) ≥ 48
           ·
            rw [if_pos c23] at H
            have c23b0 := decide_eq_true c23
            clear c23
            by_cases c24 : ((bt a0 x3_2) ≤ 57)
            ·
             rw [if_pos c24] at H
             have c24b0 := decide_eq_true c24
             clear c24
             have H' := Aside0.mk H
             clear H
             have p14 : 0 ≤ (x3_2 : Int) := of_decide_eq_true ap0
             have q14 : x3_2 < (a0.size : Int) := of_decide_eq_true ap0
             have hx14 := bt_at a0 x3_2
             replace p14 := eq_true p14
             replace q14 := eq_true q14
             go_wp2
             go_roundg k2
             case measure => have := HJ1.out; have := HK2.out; omega
             case rel => exact ⟨(wrap64 (x3_2 + 1)), ap2, H', ⟨by have := HJ1.out; have := HK2.out; omega⟩, by repeat (first | exact Drawn0.refl _ | apply Drawn0.step)⟩
            ·
             rw [if_neg c24] at H
             have c24b0 := decide_eq_false c24
             clear c24
             by_cases c25 : (bt a0 x3_2) = 45
             ·
              rw [if_pos c25] at H
              have c25b0 : ((bt a0 x3_2) == 45) = true := beq_iff_eq.mpr c25
              have c25b1 : ((bt a0 x3_2) != 45) = false := bne_eq_false_iff_eq.mpr c25
              clear c25
              have H' := Aside0.mk H
              clear H
              have p14 : 0 ≤ (x3_2 : Int) := of_decide_eq_true ap0
              have q14 : x3_2 < (a0.size : Int) := of_decide_eq_true ap0
              have hx14 := bt_at a0 x3_2
              replace p14 := eq_true p14
              replace q14 := eq_true q14
              go_wp2
              go_roundg k2
              case measure => have := HJ1.out; have := HK2.out; omega
              case rel => exact ⟨(wrap64 (x3_2 + 1)), ap2, H', ⟨by have := HJ1.out; have := HK2.out; omega⟩, by repeat (first | exact Drawn0.refl _ | apply Drawn0.step)⟩
             ·
              rw [if_neg c25] at H
              have c25b0 : ((bt a0 x3_2) == 45) = false := beq_eq_false_iff_ne.mpr c25
              have c25b1 : ((bt a0 x3_2) != 45) = true := bne_iff_ne.mpr c25
              obtain rfl := Option.some.inj H
              have p14 : 0 ≤ (x3_2 : Int) := of_decide_eq_true ap0
              have q14 : x3_2 < (a0.size : Int) := of_decide_eq_true ap0
              have hx14 := bt_at a0 x3_2
              replace p14 := eq_true p14
              replace q14 := eq_true q14
              go_wp2
              go_ret
              exact ⟨ap2, ap7⟩
           ·
            rw [if_neg c23] at H
            have c23b0 := decide_eq_false c23
            clear c23
            by_cases c26 : (bt a0 x3_2) = 45
            ·
             rw [if_pos c26] at H
             have c26b0 : ((bt a0 x3_2) == 45) = true := beq_iff_eq.mpr c26
             have c26b1 : ((bt a0 x3_2) != 45) = false := bne_eq_false_iff_eq.mpr c26
             clear c26
             have H' := Aside0.mk H
             clear H
             have p14 : 0 ≤ (x3_2 : Int) := of_decide_eq_true ap0
             have q14 : x3_2 < (a0.size : Int) := of_decide_eq_true ap0
             have hx14 := bt_at a0 x3_2
             replace p14 := eq_true p14
             replace q14 := eq_true q14
             go_wp2
             go_roundg k2
             case measure => have := HJ1.out; have := HK2.out; omega
             case rel => exact ⟨(wrap64 (x3_2 + 1)), ap2, H', ⟨by have := HJ1.out; have := HK2.out; omega⟩, by repeat (first | exact Drawn0.refl _ | apply Drawn0.step)⟩
            ·
             rw [if_neg c26] at H
             have c26b0 : ((bt a0 x3_2) == 45) = false := beq_eq_false_iff_ne.mpr c26
             have c26b1 : ((bt a0 x3_2) != 45) = true := bne_iff_ne.mpr c26
             obtain rfl := Option.some.inj H
             have p14 : 0 ≤ (x3_2 : Int) := of_decide_eq_true ap0
             have q14 : x3_2 < (a0.size : Int) := of_decide_eq_true ap0
             have hx14 := bt_at a0 x3_2
             replace p14 := eq_true p14
             replace q14 := eq_true q14
             go_wp2
             go_ret
             exact ⟨ap2, ap7⟩
        ·
         rw [if_neg c15] at H
         have c15b0 := decide_eq_false c15
         clear c15
         by_cases c27 : (bt a0 x3_2) ≥ 97
         ·
          rw [if_pos c27] at H
          have c27b0 := decide_eq_true c27
          clear c27
          by_cases c28 : ((bt a0 x3_2) ≤ 122)
          ·
           rw [if_pos c28] at H
           have c28b0 := decide_eq_true c28
           clear c28
           have H' := Aside0.mk H
           clear H
           have p14 : 0 ≤ (x3_2 : Int) := of_decide_eq_true ap0
           have q14 : x3_2 < (a0.size : Int) := of_decide_eq_true ap0
           have hx14 := bt_at a0 x3_2
           replace p14 := eq_true p14
           replace q14 := eq_true q14
           go_wp2
           go_roundg k2
           case measure => have := HJ1.out; have := HK2.out; omega
           case rel => exact ⟨(wrap64 (x3_2 + 1)), ap2, H', ⟨by have := HJ1.out; have := HK2.out; omega⟩, by repeat (first | exact Drawn0.refl _ | apply Drawn0.step)⟩
          ·
           rw [if_neg c28] at H
           have c28b0 := decide_eq_false c28
           clear c28
           by_cases c29 : (bt a0 x3_2) ≥ 48
           ·
            rw [if_pos c29] at H
            have c29b0 := decide_eq_true c29
            clear c29
            by_cases c30 : ((bt a0 x3_2) ≤ 57)
            ·
             rw [if_pos c30] at H
             have c30b0 := decide_eq_true c30
             clear c30
             have H' := Aside0.mk H
             clear H
             have p14 : 0 ≤ (x3_2 : Int) := of_decide_eq_true ap0
             have q14 : x3_2 < (a0.size : Int) := of_decide_eq_true ap0
             have hx14 := bt_at a0 x3_2
             replace p14 := eq_true p14
             replace q14 := eq_true q14
             go_wp2
             go_roundg k2
             case measure => have := HJ1.out; have := HK2.out; omega
             case rel => exact ⟨(wrap64 (x3_2 + 1)), ap2, H', ⟨by have := HJ1.out; have := HK2.out; omega⟩, by repeat (first | exact Drawn0.refl _ | apply Drawn0.step)⟩
            ·
             rw [if_neg c30] at H
             have c30b0 := decide_eq_false c30
             clear c30
             by_cases c31 : (bt a0 x3_2) = 45
             ·
              rw [if_pos c31] at H
              have c31b0 : ((bt a0 x3_2) == 45) = true := beq_iff_eq.mpr c31
              have c31b1 : ((bt a0 x3_2) != 45) = false := bne_eq_false_iff_eq.mpr c31
              clear c31
              have H' := Aside0.mk H
              clear H
              have p14 : 0 ≤ (x3_2 : Int) := of_decide_eq_true ap0
              have q14 : x3_2 < (a0.size : Int) := of_decide_eq_true ap0
              have hx14 := bt_at a0 x3_2
              replace p14 := eq_true p14
              replace q14 := eq_true q14
              go_wp2
              go_roundg k2
              case measure => have := HJ1.out; have := HK2.out; omega
              case rel => exact ⟨(wrap64 (x3_2 + 1)), ap2, H', ⟨by have := HJ1.out; have := HK2.out; omega⟩, by repeat (first | exact Drawn0.refl _ | apply Drawn0.step)⟩
             ·
              rw [if_neg c31] at H
              have c31b0 : ((bt a0 x3_2) == 45) = false := beq_eq_false_iff_ne.mpr c31
              have c31b1 : ((bt a0 x3_2) != 45) = true := bne_iff_ne.mpr c31
              obtain rfl := Option.some.inj H
              have p14 : 0 ≤ (x3_2 : Int) := of_decide_eq_true ap0
              have q14 : x3_2 < (a0.size : Int) := of_decide_eq_true ap0
              have hx14 := bt_at a0 x3_2
              replace p14 := eq_true p14
              replace q14 := eq_true q14
              go_wp2
              go_ret
              exact ⟨ap2, ap7⟩
           ·
            rw [if_neg c29] at H
            have c29b0 := decide_eq_false c29
            clear c29
            by_cases c32 : (bt a0 x3_2) = 45
            ·
             rw [if_pos c32] at H
             have c32b0 : ((bt a0 x3_2) == 45) = true := beq_iff_eq.mpr c32
             have c32b1 : ((bt a0 x3_2) != 45) = false := bne_eq_false_iff_eq.mpr c32
             clear c32
             have H' := Aside0.mk H
             clear H
             have p14 : 0 ≤ (x3_2 : Int) := of_decide_eq_true ap0
             have q14 : x3_2 < (a0.size : Int) := of_decide_eq_true ap0
             have hx14 := bt_at a0 x3_2
             replace p14 := eq_true p14
             replace q14 := eq_true q14
             go_wp2
             go_roundg k2
             case measure => have := HJ1.out; have := HK2.out; omega
             case rel => exact ⟨(wrap64 (x3_2 + 1)), ap2, H', ⟨by have := HJ1.out; have := HK2.out; omega⟩, by repeat (first | exact Drawn0.refl _ | apply Drawn0.step)⟩
            ·
             rw [if_neg c32] at H
             have c32b0 : ((bt a0 x3_2) == 45) = false := beq_eq_false_iff_ne.mpr c32
             have c32b1 : ((bt a0 x3_2) != 45) = true := bne_iff_ne.mpr c32
             obtain rfl := Option.some.inj H
             have p14 : 0 ≤ (x3_2 : Int) := of_decide_eq_true ap0
             have q14 : x3_2 < (a0.size : Int) := of_decide_eq_true ap0
             have hx14 := bt_at a0 x3_2
             replace p14 := eq_true p14
             replace q14 := eq_true q14
             go_wp2
             go_ret
             exact ⟨ap2, ap7⟩
         ·
          rw [if_neg c27] at H
          have c27b0 := decide_eq_false c27
          clear c27
          by_cases c33 : (bt a0 x3_2) ≥ 48
          ·
           rw [if_pos c33] at H
           have c33b0 := decide_eq_true c33
           clear c33
           by_cases c34 : ((bt a0 x3_2) ≤ 57)
           ·
            rw [if_pos c34] at H
            have c34b0 := decide_eq_true c34
            clear c34
            have H' := Aside0.mk H
            clear H
            have p14 : 0 ≤ (x3_2 : Int) := of_decide_eq_true ap0
            have q14 : x3_2 < (a0.size : Int) := of_decide_eq_true ap0
            have hx14 := bt_at a0 x3_2
            replace p14 := eq_true p14
            replace q14 := eq_true q14
            go_wp2
            go_roundg k2
            case measure => have := HJ1.out; have := HK2.out; omega
            case rel => exact ⟨(wrap64 (x3_2 + 1)), ap2, H', ⟨by have := HJ1.out; have := HK2.out; omega⟩, by repeat (first | exact Drawn0.refl _ | apply Drawn0.step)⟩
           ·
            rw [if_neg c34] at H
            have c34b0 := decide_eq_false c34
            clear c34
            by_cases c35 : (bt a0 x3_2) = 45
            ·
             rw [if_pos c35] at H
             have c35b0 : ((bt a0 x3_2) == 45) = true := beq_iff_eq.mpr c35
             have c35b1 : ((bt a0 x3_2) != 45) = false := bne_eq_false_iff_eq.mpr c35
             clear c35
             have H' := Aside0.mk H
             clear H
             have p14 : 0 ≤ (x3_2 : Int) := of_decide_eq_true ap0
             have q14 : x3_2 < (a0.size : Int) := of_decide_eq_true ap0
             have hx14 := bt_at a0 x3_2
             replace p14 := eq_true p14
             replace q14 := eq_true q14
             go_wp2
             go_roundg k2
             case measure => have := HJ1.out; have := HK2.out; omega
             case rel => exact ⟨(wrap64 (x3_2 + 1)), ap2, H', ⟨by have := HJ1.out; have := HK2.out; omega⟩, by repeat (first | exact Drawn0.refl _ | apply Drawn0.step)⟩
            ·
             rw [if_neg c35] at H
             have c35b0 : ((bt a0 x3_2) == 45) = false := beq_eq_false_iff_ne.mpr c35
             have c35b1 : ((bt a0 x3_2) != 45) = true := bne_iff_ne.mpr c35
             obtain rfl := Option.some.inj H
             have p14 : 0 ≤ (x3_2 : Int) := of_decide_eq_true ap0
             have q14 : x3_2 < (a0.size : Int) := of_decide_eq_true ap0
             have hx14 := bt_at a0 x3_2
             replace p14 := eq_true p14
             replace q14 := eq_true q14
             go_wp2
             go_ret
             exact ⟨ap2, ap7⟩
          ·
           rw [if_neg c33] at H
           have c33b0 := decide_eq_false c33
           clear c33
           by_cases c36 : (bt a0 x3_2) = 45
           ·
            rw [if_pos c36] at H
            have c36b0 : ((bt a0 x3_2) == 45) = true := beq_iff_eq.mpr c36
            have c36b1 : ((bt a0 x3_2) != 45) = false := bne_eq_false_iff_eq.mpr c36
            clear c36
            have H' := Aside0.mk H
            clear H
            have p14 : 0 ≤ (x3_2 : Int) := of_decide_eq_true ap0
            have q14 : x3_2 < (a0.size : Int) := of_decide_eq_true ap0
            have hx14 := bt_at a0 x3_2
            replace p14 := eq_true p14
            replace q14 := eq_true q14
            go_wp2
            go_roundg k2
            case measure => have := HJ1.out; have := HK2.out; omega
            case rel => exact ⟨(wrap64 (x3_2 + 1)), ap2, H', ⟨by have := HJ1.out; have := HK2.out; omega⟩, by repeat (first | exact Drawn0.refl _ | apply Drawn0.step)⟩
           ·
            rw [if_neg c36] at H
            have c36b0 : ((bt a0 x3_2) == 45) = false := beq_eq_false_iff_ne.mpr c36
            have c36b1 : ((bt a0 x3_2) != 45) = true := bne_iff_ne.mpr c36
            obtain rfl := Option.some.inj H
            have p14 : 0 ≤ (x3_2 : Int) := of_decide_eq_true ap0
            have q14 : x3_2 < (a0.size : Int) := of_decide_eq_true ap0
            have hx14 := bt_at a0 x3_2
            replace p14 := eq_true p14
            replace q14 := eq_true q14
            go_wp2
            go_ret
            exact ⟨ap2, ap7⟩
       ·
        rw [if_neg c13] at H
        exact absurd H (by simp)
      ·
       rw [if_neg c12] at H
       have c12b0 := decide_eq_false c12
       clear c12
       obtain rfl := Option.some.inj H
       go_wp2
       go_ret
       exact ⟨ap2, ap7⟩
mutual
def R21Pair.j1 : Nat → ByteArray → Int → Option (ByteArray × ByteArray × Bool)
 | 0, _, _ => none
 | k + 1, x0, x4 => if x4 = (x0.size : Int) then (R21Pair.j2 k x0 x4 true) else (if 0 ≤ x4 then (if x4 ≤ (x0.size : Int) then ((R21Type.f k (x0.extract 0 (x4 : Int).toNat)).bind fun t220 => (R21Pair.j2 k x0 x4 (!t220))) else (none)) else (none))
def R21Pair.j2 : Nat → ByteArray → Int → Bool → Option (ByteArray × ByteArray × Bool)
 | 0, _, _, _ => none
 | k + 1, x0, x4, x31 => if x31 = true then (some ((⟨#[]⟩ : ByteArray), (⟨#[]⟩ : ByteArray), false)) else (if 0 ≤ (wrap64 (x4 + 1)) then (if (wrap64 (x4 + 1)) ≤ (x0.size : Int) then (if ((x0.extract ((wrap64 (x4 + 1)) : Int).toNat x0.size).size : Int) > 0 then (if 0 < ((x0.extract ((wrap64 (x4 + 1)) : Int).toNat x0.size).size : Int) then (R21Pair.j3 k x0 x4 (x0.extract ((wrap64 (x4 + 1)) : Int).toNat x0.size) ((bt (x0.extract ((wrap64 (x4 + 1)) : Int).toNat x0.size) 0) == 58)) else (none)) else (R21Pair.j3 k x0 x4 (x0.extract ((wrap64 (x4 + 1)) : Int).toNat x0.size) false)) else (none)) else (none))
def R21Pair.j3 : Nat → ByteArray → Int → ByteArray → Bool → Option (ByteArray × ByteArray × Bool)
 | 0, _, _, _, _ => none
 | k + 1, x0, x4, x5, x6 => if x6 = true then (if 1 ≤ (x5.size : Int) then (R21Pair.j4 k x0 x4 (x5.extract 1 x5.size) x6) else (none)) else (R21Pair.j4 k x0 x4 x5 x6)
def R21Pair.j4 : Nat → ByteArray → Int → ByteArray → Bool → Option (ByteArray × ByteArray × Bool)
 | 0, _, _, _, _ => none
 | k + 1, x0, x4, x5, x6 => R21Pair.l1 k x0 x4 x5 x6
def R21Pair.j6 : Nat → ByteArray → Int → ByteArray → Bool → Option (ByteArray × ByteArray × Bool)
 | 0, _, _, _, _ => none
 | k + 1, x0, x4, x5, x6 => if x6 = true then ((R14Decode.f k x5).bind fun bt221 => (if 0 ≤ x4 then (if x4 ≤ (x0.size : Int) then (some (x0.extract 0 (x4 : Int).toNat, bt221.1, (bt221.2 == 0))) else (none)) else (none))) else (if 0 ≤ x4 then (if x4 ≤ (x0.size : Int) then ((R21Plain.f k x5).bind fun t223 => (some (x0.extract 0 (x4 : Int).toNat, x5, t223))) else (none)) else (none))
def R21Pair.l1 : Nat → ByteArray → Int → ByteArray → Bool → Option (ByteArray × ByteArray × Bool)
 | 0, _, _, _, _ => none
 | k + 1, x0, x4, x5, x6 => if (x5.size : Int) > 0 then (if 0 < (x5.size : Int) then (if (bt x5 0) = 32 then (if 1 ≤ (x5.size : Int) then (R21Pair.l1 k x0 x4 (x5.extract 1 x5.size) x6) else (none)) else (R21Pair.j6 k x0 x4 x5 x6)) else (none)) else (R21Pair.j6 k x0 x4 x5 x6)
def R21Pair.l0 : Nat → ByteArray → Int → Option (ByteArray × ByteArray × Bool)
 | 0, _, _ => none
 | k + 1, x0, x4 => if x4 < (x0.size : Int) then (if 0 ≤ x4 then (if (bt x0 x4) = 58 then (R21Pair.j1 k x0 x4) else (R21Pair.l0 k x0 (wrap64 (x4 + 1)))) else (none)) else (R21Pair.j1 k x0 x4)
end
def R21Pair.f (k : Nat) (a0 : ByteArray) : Option (ByteArray × ByteArray × Bool) := R21Pair.l0 k a0 0
def R21Pair.T15 : Bool × List (List Nat × List Nat) := (true, [([], []), ([], []), ([0, 1], [0, 1]), ([], []), ([2, 3], [2, 3]), ([], []), ([5], [5]), ([4, 6, 0, 1, 2, 3, 4], [4]), ([6, 7, 0, 1, 2, 3, 4, 5, 6, 7], [6])])
def R21Pair.B15 : List Nat := [0, 0, 3, 0, 15, 0, 32, 127, 255]
theorem R21Pair.tab15 : rtab .any (opsOf Tryd.f31 15) = R21Pair.T15 := by kernel_rfl
theorem R21Pair.bits15 : waitsOk R21Pair.T15.2 R21Pair.B15 = true := by kernel_rfl
set_option maxHeartbeats 8000000 in
set_option maxRecDepth 100000 in
theorem R21Pair.calls (k : Nat) (a0 : ByteArray) (r1 : ByteArray) (r2 : ByteArray) (r3 : Bool) (w : World) (h : R21Pair.f k a0 = some (r1, r2, r3)) :
  Calls Tryd.prog 31 #[.string a0] w fun e w' => e = .returned (.tuple #[.agg #[.string r1, .string r2], .bool r3]) ∧ Below w.heap.size w w' := by
 have hu40 := Tryd.underlying40
 have HB := Aside0.mk (Below.refl w.heap.size w)
 have H : (R21Pair.l0 k a0 0) = some (r1, r2, r3) := h
 clear h
 have HC2 := Aside0.mk H
 clear H
 go_enter Tryd.func31, Tryd.ntmps31
 go_upto_block 0 with (first | ((with_reducible refine gate_dst (N := 2) rfl ?_); refine box_event ?hg (N := 2) ?hd (cs := #[.string (⟨#[]⟩ : ByteArray), .string (⟨#[]⟩ : ByteArray)]) (t := 40) ?hr ?_; (case hd => rfl); (case hg => rfl); (case hr => first | (go_simp; done) | (go_simp; rfl)); intro gb219 hg w3 hbox hb; have n0_ := Aside0.mk (below_step ap1 hb); have n1_ := Aside0.mk (hbox); have n2_ := Aside0.mk ((by rw [hg]; exact (below_size ap1) : w.heap.size ≤ gb219)); have n3_ := Aside0.mk ((by rw [hg]; exact (below_size ap1) : w.heap.size ≤ gb219)); clear HB; have HB := n0_; have BK219 := n1_; have GW219 := n2_; have GE219 := n3_; clear n0_ n1_ n2_ n3_; clear hb hbox hg))
 (try simp only [Act.put, List.setIfInBounds_toArray, List.set_cons_zero, List.set_cons_succ])
 go_cut [4] (fun v4 wc => ∃ (kq : Nat) (x4_1 : Int), v4 = .int .i64 x4_1 ∧ Aside0 (R21Pair.j1 kq a0 x4_1 = some (r1, r2, r3)) ∧ Aside0 (kq ≤ k) ∧ Aside0 (wc.heap[gb219]? = some (.cells #[.string (⟨#[]⟩ : ByteArray), .string (⟨#[]⟩ : ByteArray)] 40 (0, 0))) ∧ Aside0 (Below w.heap.size w wc))
 case first =>
  have H := HC2.out
  clear HC2
  have H' := Aside0.mk H
  clear H
  go_wp2
  go_loopg [4] k (fun kq v4 w' => ∃ (x4_1 : Int), v4 = .int .i64 x4_1 ∧ Aside0 (R21Pair.l0 kq a0 x4_1 = some (r1, r2, r3)) ∧ Aside0 (kq ≤ k) ∧ Aside0 (w'.heap[gb219]? = some (.cells #[.string (⟨#[]⟩ : ByteArray), .string (⟨#[]⟩ : ByteArray)] 40 (0, 0))) ∧ Aside0 (Below w.heap.size w w'))
  case atStart => exact ⟨(0), ap2, H', ⟨Nat.le_refl _⟩, ⟨by (with_reducible repeat (first | refine blk_drewN ?_ _ | refine blk_drew ?_ | refine blk_alloc ?_ _)); exact BK219.out⟩, ⟨by repeat (first | (with_reducible first | exact HB.out | apply below_alloc | apply pw_below_drewN | apply below_drew1 | refine below_set ?_ GE219.out) | exact HB.out)⟩⟩
  case round =>
   clear H'
   try clear p2
   try clear c3
   obtain ⟨x4_1, rfl, HA, HK1, BK219, HB⟩ := hrel
   cases gk with
   | zero => exact absurd HA.out (by simp [R21Pair.l0])
   | succ k1 =>
    have H := HA.out
    clear HA
    simp only [R21Pair.l0] at H
    by_cases c4 : x4_1 < (a0.size : Int)
    ·
     rw [if_pos c4] at H
     have c4b0 := decide_eq_true c4
     clear c4
     (first | rw [c4b0] | (simp only [i64_w, i32_w]; rw [c4b0]) | skip)
     by_cases c5 : 0 ≤ x4_1
     ·
      rw [if_pos c5] at H
      have c5b0 := decide_eq_true c5
      clear c5
      by_cases c7 : (bt a0 x4_1) = 58
      ·
       rw [if_pos c7] at H
       have c7b0 : ((bt a0 x4_1) == 58) = true := beq_iff_eq.mpr c7
       have c7b1 : ((bt a0 x4_1) != 58) = false := bne_eq_false_iff_eq.mpr c7
       clear c7
       have H' := Aside0.mk H
       clear H
       have p6 : 0 ≤ (x4_1 : Int) := of_decide_eq_true ap0
       have q6 : x4_1 < (a0.size : Int) := of_decide_eq_true ap0
       have hx6 := bt_at a0 x4_1
       replace p6 := eq_true p6
       replace q6 := eq_true q6
       go_wp2
       first | go_meet | (simp only [c7b0] at *; go_meet)
       case rel => exact ⟨_, (x4_1), ap2, H', ⟨by have := HK1.out; first | omega | exact Nat.le_refl _⟩, ⟨by (with_reducible repeat (first | refine blk_drewN ?_ _ | refine blk_drew ?_ | refine blk_alloc ?_ _)); exact BK219.out⟩, ⟨by repeat (first | (with_reducible first | exact HB.out | apply below_alloc | apply pw_below_drewN | apply below_drew1 | refine below_set ?_ GE219.out) | exact HB.out)⟩⟩
      ·
       rw [if_neg c7] at H
       have c7b0 : ((bt a0 x4_1) == 58) = false := beq_eq_false_iff_ne.mpr c7
       have c7b1 : ((bt a0 x4_1) != 58) = true := bne_iff_ne.mpr c7
       have H' := Aside0.mk H
       clear H
       have p6 : 0 ≤ (x4_1 : Int) := of_decide_eq_true ap0
       have q6 : x4_1 < (a0.size : Int) := of_decide_eq_true ap0
       have hx6 := bt_at a0 x4_1
       replace p6 := eq_true p6
       replace q6 := eq_true q6
       go_wp2
       go_roundg k1
       case measure => have := HK1.out; omega
       case rel => exact ⟨(wrap64 (x4_1 + 1)), ap2, H', ⟨by have := HK1.out; omega⟩, ⟨by (with_reducible repeat (first | refine blk_drewN ?_ _ | refine blk_drew ?_ | refine blk_alloc ?_ _)); exact BK219.out⟩, ⟨by repeat (first | (with_reducible first | exact HB.out | apply below_alloc | apply pw_below_drewN | apply below_drew1 | refine below_set ?_ GE219.out) | exact HB.out)⟩⟩
     ·
      rw [if_neg c5] at H
      exact absurd H (by simp)
    ·
     rw [if_neg c4] at H
     have c4b0 := decide_eq_false c4
     clear c4
     (first | rw [c4b0] | (simp only [i64_w, i32_w]; rw [c4b0]) | skip)
     have H' := Aside0.mk H
     clear H
     go_wp2
     first | go_meet | (simp only [c7b0] at *; go_meet) | (simp only [c7b0] at *; go_meet)
     case rel => exact ⟨_, (x4_1), ap2, H', ⟨by have := HK1.out; first | omega | exact Nat.le_refl _⟩, ⟨by (with_reducible repeat (first | refine blk_drewN ?_ _ | refine blk_drew ?_ | refine blk_alloc ?_ _)); exact BK219.out⟩, ⟨by repeat (first | (with_reducible first | exact HB.out | apply below_alloc | apply pw_below_drewN | apply below_drew1 | refine below_set ?_ GE219.out) | exact HB.out)⟩⟩
 case rest =>
  clear HC2
  try clear p2
  try clear c3
  try clear c4
  try clear c4b0
  try clear c5
  try clear c5b0
  try clear p6
  try clear q6
  try clear hx6
  try clear c7
  try clear c7b0
  try clear c7b1
  try clear p2
  try clear p6
  try clear q6
  obtain ⟨kq, x4_1, rfl, HA, HJ1, BK219, HB⟩ := hcut
  cases kq with
  | zero => exact absurd HA.out (by simp [R21Pair.j1])
  | succ kj1 =>
   have H := HA.out
   clear HA
   simp only [R21Pair.j1] at H
   have HC8 := Aside0.mk H
   clear H
   go_upto_region 4 with (fail)
   go_cut [31] (fun v31 wc => ∃ (kq : Nat) (x31_7 : Bool), v31 = .bool x31_7 ∧ Aside0 (R21Pair.j2 kq a0 x4_1 x31_7 = some (r1, r2, r3)) ∧ Aside0 (kq ≤ kj1) ∧ Aside0 (wc.heap[gb219]? = some (.cells #[.string (⟨#[]⟩ : ByteArray), .string (⟨#[]⟩ : ByteArray)] 40 (0, 0))) ∧ Aside0 (Below w.heap.size w wc))
   case first =>
    have H := HC8.out
    clear HC8
    by_cases c9 : x4_1 = (a0.size : Int)
    ·
     rw [if_pos c9] at H
     have c9b0 : (x4_1 == (a0.size : Int)) = true := beq_iff_eq.mpr c9
     have c9b1 : (x4_1 != (a0.size : Int)) = false := bne_eq_false_iff_eq.mpr c9
     clear c9
     (first | rw [c9b0] | (simp only [i64_w, i32_w]; rw [c9b0]) | skip)
     have H' := Aside0.mk H
     clear H
     go_wp2
     first | go_meet | (simp only [c9b0] at *; go_meet) | (simp only [c7b0] at *; go_meet) | (simp only [c7b0] at *; go_meet)
     case rel => exact ⟨_, (true), ap2, H', ⟨by have := HJ1.out; first | omega | exact Nat.le_refl _⟩, ⟨by (with_reducible repeat (first | refine blk_drewN ?_ _ | refine blk_drew ?_ | refine blk_alloc ?_ _)); exact BK219.out⟩, ⟨by repeat (first | (with_reducible first | exact HB.out | apply below_alloc | apply pw_below_drewN | apply below_drew1 | refine below_set ?_ GE219.out) | exact HB.out)⟩⟩
    ·
     rw [if_neg c9] at H
     have c9b0 : (x4_1 == (a0.size : Int)) = false := beq_eq_false_iff_ne.mpr c9
     have c9b1 : (x4_1 != (a0.size : Int)) = true := bne_iff_ne.mpr c9
     (first | rw [c9b0] | (simp only [i64_w, i32_w]; rw [c9b0]) | skip)
     by_cases c10 : 0 ≤ x4_1
     ·
      rw [if_pos c10] at H
      have c10b0 := eq_true c10
      have c10b1 := decide_eq_true c10
      clear c10
      by_cases c11 : x4_1 ≤ (a0.size : Int)
      ·
       rw [if_pos c11] at H
       have c11b0 := eq_true c11
       have c11b1 := decide_eq_true c11
       clear c11
       replace H := Option.bind_eq_some_iff.mp H
       obtain ⟨t220, A120, H⟩ := H
       replace H : (R21Pair.j2 kj1 a0 x4_1 (!t220)) = some (r1, r2, r3) := H
       have A12 := Aside0.mk A120
       clear A120
       have H' := Aside0.mk H
       clear H
       go_wp2_with (first | (go_at_call 56; (with_reducible refine (R21Type.calls kj1 (a0.extract 0 (x4_1 : Int).toNat) t220 _ A12.out).mono ?_); rintro e w' ⟨rfl, ⟨nd, rfl⟩⟩))
       first | go_meet | (simp only [c9b0] at *; go_meet) | (simp only [c9b0] at *; go_meet) | (simp only [c7b0] at *; go_meet)
       case rel => exact ⟨_, (!t220), ap2, H', ⟨by have := HJ1.out; first | omega | exact Nat.le_refl _⟩, ⟨by (with_reducible repeat (first | refine blk_drewN ?_ _ | refine blk_drew ?_ | refine blk_alloc ?_ _)); exact BK219.out⟩, ⟨by repeat (first | (with_reducible first | exact HB.out | apply below_alloc | apply pw_below_drewN | apply below_drew1 | refine below_set ?_ GE219.out) | exact HB.out)⟩⟩
      ·
       rw [if_neg c11] at H
       exact absurd H (by simp)
     ·
      rw [if_neg c10] at H
      exact absurd H (by simp)
   case rest =>
    clear HC8
    try clear c1
    try clear p2
    try clear c3
    try clear c4
    try clear c4b0
    try clear c5
    try clear c5b0
    try clear p6
    try clear q6
    try clear hx6
    try clear c7
    try clear c7b0
    try clear c7b1
    try clear c9
    try clear c9b0
    try clear c9b1
    try clear c10
    try clear c10b0
    try clear c10b1
    try clear c11
    try clear c11b0
    try clear c11b1
    try clear p2
    try clear p6
    try clear q6
    obtain ⟨kq, x31_7, rfl, HA, HJ7, BK219, HB⟩ := hcut
    cases kq with
    | zero => exact absurd HA.out (by simp [R21Pair.j2])
    | succ kj7 =>
     have H := HA.out
     clear HA
     simp only [R21Pair.j2] at H
     by_cases c13 : x31_7 = true
     ·
      subst c13
      rw [if_pos rfl] at H
      simp only [Option.some.injEq, Prod.mk.injEq] at H
      obtain ⟨rfl, rfl, rfl⟩ := H
      have hcz14_0 : wc.cell? ⟨gb219, 0, none⟩ = some (.string (⟨#[]⟩ : ByteArray)) := (blk_cell BK219.out 0).trans rfl
      have hcz14_1 : wc.cell? ⟨gb219, 1, none⟩ = some (.string (⟨#[]⟩ : ByteArray)) := (blk_cell BK219.out 1).trans rfl
      have hfz14_0 := blk_frozen BK219.out 0
      have hfz14_1 := blk_frozen BK219.out 1
      go_wp2
      refine bodyPost_ret (results_ct rfl _ _ gb219 40 #[.string (⟨#[]⟩ : ByteArray), .string (⟨#[]⟩ : ByteArray)] (0, 0) _ rfl (by (with_reducible repeat (first | refine blk_drewN ?_ _ | refine blk_drew ?_ | refine blk_alloc ?_ _)); refine blk_put (cs := #[.string (⟨#[]⟩ : ByteArray), .string (⟨#[]⟩ : ByteArray)]) ?_ 1 _ rfl; (with_reducible repeat (first | refine blk_drewN ?_ _ | refine blk_drew ?_ | refine blk_alloc ?_ _)); refine blk_put (cs := #[.string (⟨#[]⟩ : ByteArray), .string (⟨#[]⟩ : ByteArray)]) ?_ 0 _ rfl; (with_reducible repeat (first | refine blk_drewN ?_ _ | refine blk_drew ?_ | refine blk_alloc ?_ _)); exact BK219.out) Tryd.underlying40 rfl (by kernel_rfl)) rfl ?_
      exact ⟨by first | rfl | (simp [errW_none, errW_some, bne_nil8, beq_nil8]; done) | (simp [errW_none, errW_some] <;> rfl) | (simp [*, errW_none, errW_some] <;> rfl), by repeat (first | (with_reducible first | exact HB.out | apply below_alloc | apply pw_below_drewN | apply below_drew1 | refine below_set ?_ GE219.out) | exact HB.out)⟩
     ·
      replace c13 := Bool.eq_false_iff.mpr c13
      subst c13
      rw [if_neg (show ¬ (false = true) by decide)] at H
      obtain ⟨ji15, hji15⟩ : ∃ j_ : Int, (wrap64 (x4_1 + 1)) = j_ := ⟨_, rfl⟩
      replace H : (if 0 ≤ (ji15) then (if (ji15) ≤ (a0.size : Int) then (if ((a0.extract ((ji15) : Int).toNat a0.size).size : Int) > 0 then (if 0 < ((a0.extract ((ji15) : Int).toNat a0.size).size : Int) then (R21Pair.j3 kj7 a0 x4_1 (a0.extract ((ji15) : Int).toNat a0.size) ((bt (a0.extract ((ji15) : Int).toNat a0.size) 0) == 58)) else (none)) else (R21Pair.j3 kj7 a0 x4_1 (a0.extract ((ji15) : Int).toNat a0.size) false)) else (none)) else (none)) = some (r1, r2, r3) := by first | (rw [hji15] at H; exact H) | (simp only [hji15] at H ⊢; exact H)
      have hji15w : (IntKind.i64.wrap (x4_1 + 1)) = ji15 := (i64_w _).trans hji15
      by_cases c16 : 0 ≤ (ji15)
      ·
       rw [if_pos c16] at H
       have c16b0 := eq_true c16
       have c16b1 := decide_eq_true c16
       clear c16
       by_cases c17 : (ji15) ≤ (a0.size : Int)
       ·
        rw [if_pos c17] at H
        have c17b0 := eq_true c17
        have c17b1 := decide_eq_true c17
        clear c17
        have HC18 := Aside0.mk H
        clear H
        go_upto_region 7 with (fail)
        go_cut [6] (fun v6 wc => ∃ (kq : Nat) (x6_17 : Bool), v6 = .bool x6_17 ∧ Aside0 (R21Pair.j3 kq a0 x4_1 (a0.extract ((ji15) : Int).toNat a0.size) x6_17 = some (r1, r2, r3)) ∧ Aside0 (kq ≤ kj7) ∧ Aside0 (wc.heap[gb219]? = some (.cells #[.string (⟨#[]⟩ : ByteArray), .string (⟨#[]⟩ : ByteArray)] 40 (0, 0))) ∧ Aside0 (Below w.heap.size w wc))
        case first =>
         have H := HC18.out
         clear HC18
         by_cases c19 : ((a0.extract ((ji15) : Int).toNat a0.size).size : Int) > 0
         ·
          rw [if_pos c19] at H
          have c19b0 := decide_eq_true c19
          have c19b1 : decide (0 < (a0.extract ((ji15) : Int).toNat a0.size).size) = true := decide_eq_true (by omega)
          have c19e := c19
          (try simp only [ByteArray.size_extract, Nat.min_self] at c19e)
          clear c19
          (first | rw [c19b0] | (simp only [i64_w, i32_w]; rw [c19b0]) | skip)
          by_cases c20 : 0 < ((a0.extract ((ji15) : Int).toNat a0.size).size : Int)
          ·
           rw [if_pos c20] at H
           have c20b0 := decide_eq_true c20
           have c20b1 : decide (0 < (a0.extract ((ji15) : Int).toNat a0.size).size) = true := decide_eq_true (by omega)
           have c20e := c20
           (try simp only [ByteArray.size_extract, Nat.min_self] at c20e)
           clear c20
           have H' := Aside0.mk H
           clear H
           have p21 : 0 ≤ (0 : Int) := (by omega)
           have q21 : 0 < (a0.extract ((ji15) : Int).toNat a0.size).size := (by have : (0 : Int) < ((a0.extract ((ji15) : Int).toNat a0.size).size : Int) := of_decide_eq_true ap0; omega)
           have hx21 : ∀ h : 0 < (a0.extract ((ji15) : Int).toNat a0.size).size, (((a0.extract ((ji15) : Int).toNat a0.size)[0]'h).toNat : Int) = bt (a0.extract ((ji15) : Int).toNat a0.size) 0 := bt_at (a0.extract ((ji15) : Int).toNat a0.size) 0
           clear p21
           have qi21 : (0 < ((a0.extract ((ji15) : Int).toNat a0.size).size : Int)) = True := eq_true (of_decide_eq_true ap0)
           replace q21 := eq_true q21
           go_wp2
           first | go_meet | (simp only [c9b0] at *; go_meet) | (simp only [c9b0] at *; go_meet) | (simp only [c7b0] at *; go_meet)
           case rel => exact ⟨_, (((bt (a0.extract ((ji15) : Int).toNat a0.size) 0) == 58)), (by first | rfl | (simp; done) | (simp only [← hji15] <;> (first | rfl | simp)) | (simp [*]; done)), H', ⟨by have := HJ1.out; have := HJ7.out; first | omega | exact Nat.le_refl _⟩, ⟨by (with_reducible repeat (first | refine blk_drewN ?_ _ | refine blk_drew ?_ | refine blk_alloc ?_ _)); exact BK219.out⟩, ⟨by repeat (first | (with_reducible first | exact HB.out | apply below_alloc | apply pw_below_drewN | apply below_drew1 | refine below_set ?_ GE219.out) | exact HB.out)⟩⟩
          ·
           rw [if_neg c20] at H
           exact absurd H (by simp)
         ·
          rw [if_neg c19] at H
          have c19b0 := decide_eq_false c19
          have c19b1 : decide (0 < (a0.extract ((ji15) : Int).toNat a0.size).size) = false := decide_eq_false (by omega)
          have c19e := c19
          (try simp only [ByteArray.size_extract, Nat.min_self] at c19e)
          clear c19
          (first | rw [c19b0] | (simp only [i64_w, i32_w]; rw [c19b0]) | skip)
          have H' := Aside0.mk H
          clear H
          go_wp2
          first | go_meet | (simp only [c9b0] at *; go_meet) | (simp only [c9b0] at *; go_meet) | (simp only [c7b0] at *; go_meet)
          case rel => exact ⟨_, (false), ap2, H', ⟨by have := HJ1.out; have := HJ7.out; first | omega | exact Nat.le_refl _⟩, ⟨by (with_reducible repeat (first | refine blk_drewN ?_ _ | refine blk_drew ?_ | refine blk_alloc ?_ _)); exact BK219.out⟩, ⟨by repeat (first | (with_reducible first | exact HB.out | apply below_alloc | apply pw_below_drewN | apply below_drew1 | refine below_set ?_ GE219.out) | exact HB.out)⟩⟩
        case rest =>
         clear HC18
         try clear c1
         try clear c2
         try clear p2
         try clear q2
         try clear hx2
         try clear qi2
         try clear c3
         try clear c4
         try clear c4b0
         try clear c5
         try clear c5b0
         try clear p6
         try clear q6
         try clear hx6
         try clear c7
         try clear c7b0
         try clear c7b1
         try clear c9
         try clear c9b0
         try clear c9b1
         try clear c10
         try clear c10b0
         try clear c10b1
         try clear c11
         try clear c11b0
         try clear c11b1
         try clear c13
         try clear c16
         try clear c16b0
         try clear c16b1
         try clear c17
         try clear c17b0
         try clear c17b1
         try clear c19
         try clear c19b0
         try clear c19b1
         try clear c20
         try clear c20b0
         try clear c20b1
         try clear p21
         try clear q21
         try clear hx21
         try clear qi21
         try clear hcz14_0
         try clear hcz14_1
         try clear hfz14_0
         try clear hfz14_1
         try clear p2
         try clear p21
         try clear p6
         try clear q21
         try clear q6
         obtain ⟨kq, x6_17, rfl, HA, HJ17, BK219, HB⟩ := hcut
         cases kq with
         | zero => exact absurd HA.out (by simp [R21Pair.j3])
         | succ kj17 =>
          have H := HA.out
          clear HA
          simp only [R21Pair.j3] at H
          have HC22 := Aside0.mk H
          clear H
          go_upto_if 45 with (fail)
          go_cut [5] (fun v5 wc => ∃ (kq : Nat) (x5_21 : ByteArray), v5 = .string x5_21 ∧ Aside0 (R21Pair.j4 kq a0 x4_1 x5_21 x6_17 = some (r1, r2, r3)) ∧ Aside0 (kq ≤ kj17) ∧ Aside0 (wc.heap[gb219]? = some (.cells #[.string (⟨#[]⟩ : ByteArray), .string (⟨#[]⟩ : ByteArray)] 40 (0, 0))) ∧ Aside0 (Below w.heap.size w wc))
          case first =>
           have H := HC22.out
           clear HC22
           by_cases c23 : x6_17 = true
           ·
            subst c23
            rw [if_pos rfl] at H
            by_cases c24 : 1 ≤ ((a0.extract ((ji15) : Int).toNat a0.size).size : Int)
            ·
             rw [if_pos c24] at H
             have c24b0 := eq_true c24
             have c24b1 := decide_eq_true c24
             have c24e := c24
             (try simp only [ByteArray.size_extract, Nat.min_self] at c24e)
             clear c24
             have H' := Aside0.mk H
             clear H
             go_wp2
             first | go_meet | (simp only [c9b0] at *; go_meet) | (simp only [c9b0] at *; go_meet) | (simp only [c7b0] at *; go_meet)
             case rel => exact ⟨_, ((a0.extract ((ji15) : Int).toNat a0.size).extract 1 (a0.extract ((ji15) : Int).toNat a0.size).size), (by first | rfl | (simp; done) | (simp only [← hji15] <;> (first | rfl | simp)) | (simp [*]; done)), H', ⟨by have := HJ1.out; have := HJ7.out; have := HJ17.out; first | omega | exact Nat.le_refl _⟩, ⟨by (with_reducible repeat (first | refine blk_drewN ?_ _ | refine blk_drew ?_ | refine blk_alloc ?_ _)); exact BK219.out⟩, ⟨by repeat (first | (with_reducible first | exact HB.out | apply below_alloc | apply pw_below_drewN | apply below_drew1 | refine below_set ?_ GE219.out) | exact HB.out)⟩⟩
            ·
             rw [if_neg c24] at H
             exact absurd H (by simp)
           ·
            replace c23 := Bool.eq_false_iff.mpr c23
            subst c23
            rw [if_neg (show ¬ (false = true) by decide)] at H
            have H' := Aside0.mk H
            clear H
            go_wp2
            first | go_meet | (simp only [c9b0] at *; go_meet) | (simp only [c9b0] at *; go_meet) | (simp only [c7b0] at *; go_meet)
            case rel => exact ⟨_, ((a0.extract ((ji15) : Int).toNat a0.size)), (by first | rfl | (simp; done) | (simp only [← hji15] <;> (first | rfl | simp)) | (simp [*]; done)), H', ⟨by have := HJ1.out; have := HJ7.out; have := HJ17.out; first | omega | exact Nat.le_refl _⟩, ⟨by (with_reducible repeat (first | refine blk_drewN ?_ _ | refine blk_drew ?_ | refine blk_alloc ?_ _)); exact BK219.out⟩, ⟨by repeat (first | (with_reducible first | exact HB.out | apply below_alloc | apply pw_below_drewN | apply below_drew1 | refine below_set ?_ GE219.out) | exact HB.out)⟩⟩
          case rest =>
           clear HC22
           try clear c1
           try clear c2
           try clear p2
           try clear q2
           try clear hx2
           try clear qi2
           try clear c3
           try clear c4
           try clear c4b0
           try clear c5
           try clear c5b0
           try clear p6
           try clear q6
           try clear hx6
           try clear c7
           try clear c7b0
           try clear c7b1
           try clear c9
           try clear c9b0
           try clear c9b1
           try clear c10
           try clear c10b0
           try clear c10b1
           try clear c11
           try clear c11b0
           try clear c11b1
           try clear c13
           try clear c16
           try clear c16b0
           try clear c16b1
           try clear c17
           try clear c17b0
           try clear c17b1
           try clear c19
           try clear c19b0
           try clear c19b1
           try clear c20
           try clear c20b0
           try clear c20b1
           try clear p21
           try clear q21
           try clear hx21
           try clear qi21
           try clear c23
           try clear c24
           try clear c24b0
           try clear c24b1
           try clear hcz14_0
           try clear hcz14_1
           try clear hfz14_0
           try clear hfz14_1
           try clear p2
           try clear p21
           try clear p6
           try clear q2
           try clear q21
           try clear q6
           obtain ⟨kq, x5_21, rfl, HA, HJ21, BK219, HB⟩ := hcut
           cases kq with
           | zero => exact absurd HA.out (by simp [R21Pair.j4])
           | succ kj21 =>
            have H := HA.out
            clear HA
            simp only [R21Pair.j4] at H
            have HC25 := Aside0.mk H
            clear H
            go_upto_block 2 with (fail)
            go_cut [5] (fun v5 wc => ∃ (kq : Nat) (x5_24 : ByteArray), v5 = .string x5_24 ∧ Aside0 (R21Pair.j6 kq a0 x4_1 x5_24 x6_17 = some (r1, r2, r3)) ∧ Aside0 (kq ≤ kj21) ∧ Aside0 (wc.heap[gb219]? = some (.cells #[.string (⟨#[]⟩ : ByteArray), .string (⟨#[]⟩ : ByteArray)] 40 (0, 0))) ∧ Aside0 (Below w.heap.size w wc))
            case first =>
             have H := HC25.out
             clear HC25
             have H' := Aside0.mk H
             clear H
             go_wp2
             go_loopg [5] kj21 (fun kq v5 w' => ∃ (x5_5 : ByteArray), v5 = .string x5_5 ∧ Aside0 (R21Pair.l1 kq a0 x4_1 x5_5 x6_17 = some (r1, r2, r3)) ∧ Aside0 (kq ≤ kj21) ∧ Aside0 (w'.heap[gb219]? = some (.cells #[.string (⟨#[]⟩ : ByteArray), .string (⟨#[]⟩ : ByteArray)] 40 (0, 0))) ∧ Aside0 (Below w.heap.size w w'))
             case atStart => exact ⟨(x5_21), ap2, H', ⟨Nat.le_refl _⟩, ⟨by (with_reducible repeat (first | refine blk_drewN ?_ _ | refine blk_drew ?_ | refine blk_alloc ?_ _)); exact BK219.out⟩, ⟨by repeat (first | (with_reducible first | exact HB.out | apply below_alloc | apply pw_below_drewN | apply below_drew1 | refine below_set ?_ GE219.out) | exact HB.out)⟩⟩
             case round =>
              clear H'
              try clear c1
              try clear c2
              try clear p2
              try clear q2
              try clear hx2
              try clear qi2
              try clear c3
              try clear c4
              try clear c4b0
              try clear c5
              try clear c5b0
              try clear p6
              try clear q6
              try clear hx6
              try clear c7
              try clear c7b0
              try clear c7b1
              try clear c9
              try clear c9b0
              try clear c9b1
              try clear c10
              try clear c10b0
              try clear c10b1
              try clear c11
              try clear c11b0
              try clear c11b1
              try clear c13
              try clear c16
              try clear c16b0
              try clear c16b1
              try clear c17
              try clear c17b0
              try clear c17b1
              try clear c19
              try clear c19b0
              try clear c19b1
              try clear c20
              try clear c20b0
              try clear c20b1
              try clear p21
              try clear q21
              try clear hx21
              try clear qi21
              try clear c23
              try clear c24
              try clear c24b0
              try clear c24b1
              try clear hcz14_0
              try clear hcz14_1
              try clear hfz14_0
              try clear hfz14_1
              try clear p2
              try clear p21
              try clear p6
              try clear q2
              try clear q21
              try clear q6
              obtain ⟨x5_5, rfl, HA, HK5, BK219, HB⟩ := hrel
              cases gk with
              | zero => exact absurd HA.out (by simp [R21Pair.l1])
              | succ k5 =>
               have H := HA.out
               clear HA
               simp only [R21Pair.l1] at H
               by_cases c26 : (x5_5.size : Int) > 0
               ·
                rw [if_pos c26] at H
                have c26b0 := decide_eq_true c26
                have c26b1 : decide (0 < x5_5.size) = true := decide_eq_true (by omega)
                clear c26
                (first | rw [c26b0] | (simp only [i64_w, i32_w]; rw [c26b0]) | skip)
                by_cases c27 : 0 < (x5_5.size : Int)
                ·
                 rw [if_pos c27] at H
                 have c27b0 := decide_eq_true c27
                 have c27b1 : decide (0 < x5_5.size) = true := decide_eq_true (by omega)
                 clear c27
                 by_cases c29 : (bt x5_5 0) = 32
                 ·
                  rw [if_pos c29] at H
                  have c29b0 : ((bt x5_5 0) == 32) = true := beq_iff_eq.mpr c29
                  have c29b1 : ((bt x5_5 0) != 32) = false := bne_eq_false_iff_eq.mpr c29
                  clear c29
                  by_cases c30 : 1 ≤ (x5_5.size : Int)
                  ·
                   rw [if_pos c30] at H
                   have c30b0 := eq_true c30
                   have c30b1 := decide_eq_true c30
                   clear c30
                   have H' := Aside0.mk H
                   clear H
                   have p28 : 0 ≤ (0 : Int) := (by omega)
                   have q28 : 0 < x5_5.size := (by have : (0 : Int) < (x5_5.size : Int) := of_decide_eq_true ap0; omega)
                   have hx28 : ∀ h : 0 < x5_5.size, ((x5_5[0]'h).toNat : Int) = bt x5_5 0 := bt_at x5_5 0
                   clear p28
                   have qi28 : (0 < (x5_5.size : Int)) = True := eq_true (of_decide_eq_true ap0)
                   replace q28 := eq_true q28
                   go_wp2
                   go_roundg k5
                   case measure => have := HJ1.out; have := HJ7.out; have := HJ17.out; have := HJ21.out; have := HK5.out; omega
                   case rel => exact ⟨(x5_5.extract 1 x5_5.size), ap2, H', ⟨by have := HJ1.out; have := HJ7.out; have := HJ17.out; have := HJ21.out; have := HK5.out; omega⟩, ⟨by (with_reducible repeat (first | refine blk_drewN ?_ _ | refine blk_drew ?_ | refine blk_alloc ?_ _)); exact BK219.out⟩, ⟨by repeat (first | (with_reducible first | exact HB.out | apply below_alloc | apply pw_below_drewN | apply below_drew1 | refine below_set ?_ GE219.out) | exact HB.out)⟩⟩
                  ·
                   rw [if_neg c30] at H
                   exact absurd H (by simp)
                 ·
                  rw [if_neg c29] at H
                  have c29b0 : ((bt x5_5 0) == 32) = false := beq_eq_false_iff_ne.mpr c29
                  have c29b1 : ((bt x5_5 0) != 32) = true := bne_iff_ne.mpr c29
                  have H' := Aside0.mk H
                  clear H
                  have p28 : 0 ≤ (0 : Int) := (by omega)
                  have q28 : 0 < x5_5.size := (by have : (0 : Int) < (x5_5.size : Int) := of_decide_eq_true ap0; omega)
                  have hx28 : ∀ h : 0 < x5_5.size, ((x5_5[0]'h).toNat : Int) = bt x5_5 0 := bt_at x5_5 0
                  clear p28
                  have qi28 : (0 < (x5_5.size : Int)) = True := eq_true (of_decide_eq_true ap0)
                  replace q28 := eq_true q28
                  go_wp2
                  first | go_meet | (simp only [c29b0] at *; go_meet) | (simp only [c29b0] at *; go_meet) | (simp only [c9b0] at *; go_meet)
                  case rel => exact ⟨_, (x5_5), ap2, H', ⟨by have := HJ1.out; have := HJ7.out; have := HJ17.out; have := HJ21.out; have := HK5.out; first | omega | exact Nat.le_refl _⟩, ⟨by (with_reducible repeat (first | refine blk_drewN ?_ _ | refine blk_drew ?_ | refine blk_alloc ?_ _)); exact BK219.out⟩, ⟨by repeat (first | (with_reducible first | exact HB.out | apply below_alloc | apply pw_below_drewN | apply below_drew1 | refine below_set ?_ GE219.out) | exact HB.out)⟩⟩
                ·
                 rw [if_neg c27] at H
                 exact absurd H (by simp)
               ·
                rw [if_neg c26] at H
                have c26b0 := decide_eq_false c26
                have c26b1 : decide (0 < x5_5.size) = false := decide_eq_false (by omega)
                clear c26
                (first | rw [c26b0] | (simp only [i64_w, i32_w]; rw [c26b0]) | skip)
                have H' := Aside0.mk H
                clear H
                go_wp2
                first | go_meet | (simp only [c29b0] at *; go_meet) | (simp only [c29b0] at *; go_meet) | (simp only [c9b0] at *; go_meet)
                case rel => exact ⟨_, (x5_5), ap2, H', ⟨by have := HJ1.out; have := HJ7.out; have := HJ17.out; have := HJ21.out; have := HK5.out; first | omega | exact Nat.le_refl _⟩, ⟨by (with_reducible repeat (first | refine blk_drewN ?_ _ | refine blk_drew ?_ | refine blk_alloc ?_ _)); exact BK219.out⟩, ⟨by repeat (first | (with_reducible first | exact HB.out | apply below_alloc | apply pw_below_drewN | apply below_drew1 | refine below_set ?_ GE219.out) | exact HB.out)⟩⟩
            case rest =>
             clear HC25
             try clear c1
             try clear c2
             try clear p2
             try clear q2
             try clear hx2
             try clear qi2
             try clear c3
             try clear c4
             try clear c4b0
             try clear c5
             try clear c5b0
             try clear p6
             try clear q6
             try clear hx6
             try clear c7
             try clear c7b0
             try clear c7b1
             try clear c9
             try clear c9b0
             try clear c9b1
             try clear c10
             try clear c10b0
             try clear c10b1
             try clear c11
             try clear c11b0
             try clear c11b1
             try clear c13
             try clear c16
             try clear c16b0
             try clear c16b1
             try clear c17
             try clear c17b0
             try clear c17b1
             try clear c19
             try clear c19b0
             try clear c19b1
             try clear c20
             try clear c20b0
             try clear c20b1
             try clear p21
             try clear q21
             try clear hx21
             try clear qi21
             try clear c23
             try clear c24
             try clear c24b0
             try clear c24b1
             try clear c26
             try clear c26b0
             try clear c26b1
             try clear c27
             try clear c27b0
             try clear c27b1
             try clear p28
             try clear q28
             try clear hx28
             try clear qi28
             try clear c29
             try clear c29b0
             try clear c29b1
             try clear c30
             try clear c30b0
             try clear c30b1
             try clear hcz14_0
             try clear hcz14_1
             try clear hfz14_0
             try clear hfz14_1
             try clear p2
             try clear p21
             try clear p28
             try clear p6
             try clear q2
             try clear q21
             try clear q28
             try clear q6
             obtain ⟨kq, x5_24, rfl, HA, HJ24, BK219, HB⟩ := hcut
             cases kq with
             | zero => exact absurd HA.out (by simp [R21Pair.j6])
             | succ kj24 =>
              have H := HA.out
              clear HA
              simp only [R21Pair.j6] at H
              by_cases c31 : x6_17 = true
              ·
               subst c31
               rw [if_pos rfl] at H
               replace H := Option.bind_eq_some_iff.mp H
               obtain ⟨⟨t221, t222⟩, A320, H⟩ := H
               replace H : (if 0 ≤ x4_1 then (if x4_1 ≤ (a0.size : Int) then (some (a0.extract 0 (x4_1 : Int).toNat, t221, (t222 == 0))) else (none)) else (none)) = some (r1, r2, r3) := H
               have A32 := Aside0.mk A320
               clear A320
               by_cases c33 : 0 ≤ x4_1
               ·
                rw [if_pos c33] at H
                have c33b0 := eq_true c33
                have c33b1 := decide_eq_true c33
                clear c33
                by_cases c34 : x4_1 ≤ (a0.size : Int)
                ·
                 rw [if_pos c34] at H
                 have c34b0 := eq_true c34
                 have c34b1 := decide_eq_true c34
                 clear c34
                 simp only [Option.some.injEq, Prod.mk.injEq] at H
                 obtain ⟨rfl, rfl, rfl⟩ := H
                 go_wp2_with (first | ((with_reducible refine gate_callee (f := 57) rfl ?_); refine goesL_ (some 61) rfl rfl Tryd.func57 (by kernel_rfl) rfl #[.string x5_24] rfl ap3 ?_; (with_reducible refine (R14Decode.calls kj24 x5_24 t221 t222 _ A32.out).mono ?_); rintro e w35 ⟨rfl, hb⟩; refine ⟨_, rfl, ?_⟩; have n0_ := Aside0.mk (blk_below (g := gb219) (o := .cells #[.string (⟨#[]⟩ : ByteArray), .string (⟨#[]⟩ : ByteArray)] 40 (0, 0)) (apB BK219.out) hb); have n1_ := Aside0.mk (below_step (apG GE219.out) hb); clear BK219; clear HB; have BK219 := n0_; have HB := n1_; clear n0_ n1_; (try clear hb); (try clear hb2); (try clear hk); (try clear hi); have hcz36_0 : w35.cell? ⟨gb219, 0, none⟩ = some (.string (⟨#[]⟩ : ByteArray)) := (blk_cell BK219.out 0).trans rfl; have hcz36_1 : w35.cell? ⟨gb219, 1, none⟩ = some (.string (⟨#[]⟩ : ByteArray)) := (blk_cell BK219.out 1).trans rfl; have hfz36_0 := blk_frozen BK219.out 0; have hfz36_1 := blk_frozen BK219.out 1))
                 refine bodyPost_ret (results_ct rfl _ _ gb219 40 #[.string (a0.extract 0 (x4_1 : Int).toNat), .string t221] (0, 0) _ rfl (by (with_reducible repeat (first | refine blk_drewN ?_ _ | refine blk_drew ?_ | refine blk_alloc ?_ _)); refine blk_put (cs := #[.string (a0.extract 0 (x4_1 : Int).toNat), .string (⟨#[]⟩ : ByteArray)]) ?_ 1 _ rfl; (with_reducible repeat (first | refine blk_drewN ?_ _ | refine blk_drew ?_ | refine blk_alloc ?_ _)); refine blk_put (cs := #[.string (⟨#[]⟩ : ByteArray), .string (⟨#[]⟩ : ByteArray)]) ?_ 0 _ rfl; (with_reducible repeat (first | refine blk_drewN ?_ _ | refine blk_drew ?_ | refine blk_alloc ?_ _)); exact BK219.out) Tryd.underlying40 rfl (by kernel_rfl)) rfl ?_
                 exact ⟨by first | rfl | (simp [errW_none, errW_some, bne_nil8, beq_nil8]; done) | (simp [errW_none, errW_some] <;> rfl) | (simp only [← hji15]; first | rfl | (simp [errW_none, errW_some] <;> rfl)) | (simp [*, errW_none, errW_some] <;> rfl), by repeat (first | (with_reducible first | exact HB.out | apply below_alloc | apply pw_below_drewN | apply below_drew1 | refine below_set ?_ GE219.out) | exact HB.out)⟩
                ·
                 rw [if_neg c34] at H
                 exact absurd H (by simp)
               ·
                rw [if_neg c33] at H
                exact absurd H (by simp)
              ·
               replace c31 := Bool.eq_false_iff.mpr c31
               subst c31
               rw [if_neg (show ¬ (false = true) by decide)] at H
               by_cases c37 : 0 ≤ x4_1
               ·
                rw [if_pos c37] at H
                have c37b0 := eq_true c37
                have c37b1 := decide_eq_true c37
                clear c37
                by_cases c38 : x4_1 ≤ (a0.size : Int)
                ·
                 rw [if_pos c38] at H
                 have c38b0 := eq_true c38
                 have c38b1 := decide_eq_true c38
                 clear c38
                 replace H := Option.bind_eq_some_iff.mp H
                 obtain ⟨t223, A390, H⟩ := H
                 replace H : (some (a0.extract 0 (x4_1 : Int).toNat, x5_24, t223)) = some (r1, r2, r3) := H
                 have A39 := Aside0.mk A390
                 clear A390
                 simp only [Option.some.injEq, Prod.mk.injEq] at H
                 obtain ⟨rfl, rfl, rfl⟩ := H
                 try go_wp2
                 have n0_ := Aside0.mk (blk_drew BK219.out)
                 have n1_ := Aside0.mk (below_drew1 HB.out)
                 clear BK219
                 clear HB
                 have BK219 := n0_
                 have HB := n1_
                 clear n0_ n1_
                 refine start_ (n := 9) (S := fun w' => True) (ds := []) #[false, false, false, false, false, false, false, false, false] (by kernel_rfl) rfl rfl trivial (fun hHeld => ?_); refine with_tabW R21Pair.tab15 R21Pair.bits15 (fun HT_ HW_ => ?_)
                 generalize wc.drew = w40 at BK219 HB hHeld ⊢
                 refine pure_ (i := 0) (N := some 71) (v := ?_) (a' := ?_) #[true, false, false, false, false, false, false, false, false] rfl rfl (any_of HT_.out (by kernel_rfl)) (fun _ _ _ h => h) (Or.inl ⟨by rfl, ?_⟩) ?_ ?_
                 rotate_left
                 ·
                  intro w'
                  go_simp
                  with_reducible rfl
                 rotate_left
                 ·
                  simp only [Act.put, List.setIfInBounds_toArray, List.set_cons_zero, List.set_cons_succ, i64_w, i32_w]
                  rfl
                 refine pure_ (i := 1) (N := some 72) (v := ?_) (a' := ?_) #[true, true, false, false, false, false, false, false, false] rfl rfl (any_of HT_.out (by kernel_rfl)) (fun _ _ _ h => h) (Or.inl ⟨by rfl, ?_⟩) ?_ ?_
                 rotate_left
                 ·
                  intro w'
                  go_simp
                  with_reducible rfl
                 rotate_left
                 ·
                  simp only [Act.put, List.setIfInBounds_toArray, List.set_cons_zero, List.set_cons_succ, i64_w, i32_w]
                  rfl
                 refine pure_ (i := 2) (N := some 73) (v := ?_) (a' := ?_) #[true, true, true, false, false, false, false, false, false] rfl rfl (any_of HT_.out (by kernel_rfl)) (fun _ _ _ h => h) (Or.inl ⟨by rfl, ?_⟩) ?_ ?_
                 rotate_left
                 ·
                  intro w'
                  go_simp
                  with_reducible rfl
                 rotate_left
                 ·
                  simp only [Act.put, List.setIfInBounds_toArray, List.set_cons_zero, List.set_cons_succ, i64_w, i32_w]
                  rfl
                 refine pure_ (i := 3) (N := some 74) (v := ?_) (a' := ?_) #[true, true, true, true, false, false, false, false, false] rfl rfl (any_of HT_.out (by kernel_rfl)) (fun _ _ _ h => h) (Or.inl ⟨by rfl, ?_⟩) ?_ ?_
                 rotate_left
                 ·
                  intro w'
                  go_simp
                  with_reducible rfl
                 rotate_left
                 ·
                  simp only [Act.put, List.setIfInBounds_toArray, List.set_cons_zero, List.set_cons_succ, i64_w, i32_w]
                  rfl
                 refine pure_ (i := 4) (N := some 75) (v := ?_) (a' := ?_) #[true, true, true, true, true, false, false, false, false] rfl rfl (any_of HT_.out (by kernel_rfl)) (fun _ _ _ h => h) (Or.inl ⟨by rfl, ?_⟩) ?_ ?_
                 rotate_left
                 ·
                  intro w'
                  go_simp
                  with_reducible rfl
                 rotate_left
                 ·
                  simp only [Act.put, List.setIfInBounds_toArray, List.set_cons_zero, List.set_cons_succ, i64_w, i32_w]
                  rfl
                 refine pure_ (i := 5) (N := some 76) (v := ?_) (a' := ?_) #[true, true, true, true, true, true, false, false, false] rfl rfl (any_of HT_.out (by kernel_rfl)) (fun _ _ _ h => h) (Or.inl ⟨by rfl, ?_⟩) ?_ ?_
                 rotate_left
                 ·
                  intro w'
                  go_simp
                  with_reducible rfl
                 rotate_left
                 ·
                  simp only [Act.put, List.setIfInBounds_toArray, List.set_cons_zero, List.set_cons_succ, i64_w, i32_w]
                  rfl
                 refine one_ (i := 6) (N := some 77) #[true, true, true, true, true, true, true, false, false] rfl rfl (one_of HT_.out (by kernel_rfl)) (by decide) (fun K hK => ?_)
                 refine goes_ Tryd.func58 (by kernel_rfl) rfl #[.string x5_24] (by rfl) rfl rfl ap3 ?_
                 with_reducible refine (R21Plain.calls kj24 x5_24 t223 _ A39.out).mono ?_
                 rintro e w' ⟨rfl, ⟨nd, rfl⟩⟩
                 refine ⟨_, rfl, ?_⟩
                 refine hK.out _ _ trivial (fun hHeld => ?_)
                 clear hK K
                 refine norm_ (a' := ?_) ?_ ?_
                 rotate_left
                 ·
                  show Act.put _ (some 77) _ = _
                  simp only [Act.put, List.setIfInBounds_toArray, List.set_cons_zero, List.set_cons_succ, i64_w, i32_w]
                  rfl
                 refine one_ (i := 7) (N := none) #[true, true, true, true, true, true, true, true, false] rfl rfl (one_of HT_.out (by kernel_rfl)) (by decide) (fun K hK => ?_)
                 have hs41 : w40.cell? ⟨gb219, 0, none⟩ = some (.string (⟨#[]⟩ : ByteArray)) := (blk_cell BK219.out 0).trans rfl
                 have hfs41 := blk_frozen BK219.out 0
                 have hs42 : w40.cell? ⟨gb219, 1, none⟩ = some (.string (⟨#[]⟩ : ByteArray)) := (blk_cell BK219.out 1).trans rfl
                 have hfs42 := blk_frozen BK219.out 1
                 refine skip_ (w1 := ?_) (by rfl) rfl ?_ ?_
                 rotate_left
                 ·
                  go_simp
                  rfl
                 refine hK.out _ _ trivial (fun hHeld => ?_)
                 clear hK K
                 refine pure_ (i := 8) (N := some 3) (v := ?_) (a' := ?_) #[true, true, true, true, true, true, true, true, true] rfl rfl (any_of HT_.out (by kernel_rfl)) (fun _ _ _ h => h) (Or.inl ⟨by rfl, ?_⟩) ?_ ?_
                 rotate_left
                 ·
                  intro w'
                  go_simp
                  with_reducible rfl
                 rotate_left
                 ·
                  simp only [Act.put, List.setIfInBounds_toArray, List.set_cons_zero, List.set_cons_succ, i64_w, i32_w]
                  rfl
                 refine done_ (done_of HT_.out (by kernel_rfl)) ?_
                 try go_wp2
                 refine bodyPost_ret (results_ct rfl _ _ gb219 40 #[.string (a0.extract 0 (x4_1 : Int).toNat), .string x5_24] (0, 0) _ rfl (by (with_reducible repeat (first | refine blk_drewN ?_ _ | refine blk_drew ?_ | refine blk_alloc ?_ _)); refine blk_put (cs := #[.string (a0.extract 0 (x4_1 : Int).toNat), .string (⟨#[]⟩ : ByteArray)]) ?_ 1 _ rfl; (with_reducible repeat (first | refine blk_drewN ?_ _ | refine blk_drew ?_ | refine blk_alloc ?_ _)); refine blk_put (cs := #[.string (⟨#[]⟩ : ByteArray), .string (⟨#[]⟩ : ByteArray)]) ?_ 0 _ rfl; (with_reducible repeat (first | refine blk_drewN ?_ _ | refine blk_drew ?_ | refine blk_alloc ?_ _)); exact BK219.out) Tryd.underlying40 rfl (by kernel_rfl)) rfl ?_
                 exact ⟨by first | rfl | (simp [errW_none, errW_some, bne_nil8, beq_nil8]; done) | (simp [errW_none, errW_some] <;> rfl) | (simp only [← hji15]; first | rfl | (simp [errW_none, errW_some] <;> rfl)) | (simp [*, errW_none, errW_some] <;> rfl), by repeat (first | (with_reducible first | exact HB.out | apply below_alloc | apply pw_below_drewN | apply below_drew1 | refine below_set ?_ GE219.out) | exact HB.out)⟩
                ·
                 rw [if_neg c38] at H
                 exact absurd H (by simp)
               ·
                rw [if_neg c37] at H
                exact absurd H (by simp)
       ·
        rw [if_neg c17] at H
        exact absurd H (by simp)
      ·
       rw [if_neg c16] at H
       exact absurd H (by simp)
mutual
def R21Rows.l0 : Nat → ByteArray → List (S56) → Int → Int → Option ((List (S56)))
 | 0, _, _, _, _ => none
 | k + 1, x0, x3, x4, x5 => if x5 < (x0.size : Int) then (R21Rows.l1 k x0 x3 x4 x5 x5) else (some x3)
def R21Rows.j2 : Nat → ByteArray → List (S56) → Int → Int → Int → Option ((List (S56)))
 | 0, _, _, _, _, _ => none
 | k + 1, x0, x3, x4, x5, x6 => if 0 ≤ x5 then (if x5 ≤ x6 then (if x6 ≤ (x0.size : Int) then (if x6 < (x0.size : Int) then (if ((x0.extract (x5 : Int).toNat (x6 : Int).toNat).size : Int) > 0 then (if 0 ≤ (wrap64 (((x0.extract (x5 : Int).toNat (x6 : Int).toNat).size : Int) - 1)) then (if (wrap64 (((x0.extract (x5 : Int).toNat (x6 : Int).toNat).size : Int) - 1)) < ((x0.extract (x5 : Int).toNat (x6 : Int).toNat).size : Int) then (R21Rows.j3 k x0 x3 x4 x6 (x0.extract (x5 : Int).toNat (x6 : Int).toNat) ((bt (x0.extract (x5 : Int).toNat (x6 : Int).toNat) (wrap64 (((x0.extract (x5 : Int).toNat (x6 : Int).toNat).size : Int) - 1))) == 13)) else (none)) else (none)) else (R21Rows.j3 k x0 x3 x4 x6 (x0.extract (x5 : Int).toNat (x6 : Int).toNat) false)) else (R21Rows.j3 k x0 x3 x4 x6 (x0.extract (x5 : Int).toNat (x6 : Int).toNat) false)) else (none)) else (none)) else (none)
def R21Rows.j3 : Nat → ByteArray → List (S56) → Int → Int → ByteArray → Bool → Option ((List (S56)))
 | 0, _, _, _, _, _, _ => none
 | k + 1, x0, x3, x4, x6, x7, x46 => if x46 = true then (if 0 ≤ (wrap64 ((x7.size : Int) - 1)) then (if (wrap64 ((x7.size : Int) - 1)) ≤ (x7.size : Int) then (R21Rows.j4 k x0 x3 x4 x6 (x7.extract 0 ((wrap64 ((x7.size : Int) - 1)) : Int).toNat)) else (none)) else (none)) else (R21Rows.j4 k x0 x3 x4 x6 x7)
def R21Rows.j4 : Nat → ByteArray → List (S56) → Int → Int → ByteArray → Option ((List (S56)))
 | 0, _, _, _, _, _ => none
 | k + 1, x0, x3, x4, x6, x7 => if (x7.size : Int) = 0 then (R21Rows.j5 k x0 x3 (wrap64 (x4 + 1)) (wrap64 (x6 + 1)) x7 true) else (if 0 < (x7.size : Int) then (R21Rows.j5 k x0 x3 (wrap64 (x4 + 1)) (wrap64 (x6 + 1)) x7 ((bt x7 0) != 32)) else (none))
def R21Rows.j5 : Nat → ByteArray → List (S56) → Int → Int → ByteArray → Bool → Option ((List (S56)))
 | 0, _, _, _, _, _, _ => none
 | k + 1, x0, x3, x4, x5, x7, x63 => if x63 = true then (if x3.length < 4398046511104 then (R21Rows.l0 k x0 (x3 ++ [(⟨x7, x4, false⟩ : S56)]) x4 x5) else (none)) else (if (x3.length : Int) = 0 then (if x3.length < 4398046511104 then (R21Rows.l0 k x0 (x3 ++ [(⟨x7, x4, true⟩ : S56)]) x4 x5) else (none)) else (if 0 ≤ (wrap64 ((x3.length : Int) - 1)) then (if (wrap64 ((x3.length : Int) - 1)) < (x3.length : Int) then (if ((rd_T56 x3 (wrap64 ((x3.length : Int) - 1))).f0).toList = ([] : List UInt8) then (if x3.length < 4398046511104 then (R21Rows.l0 k x0 (x3 ++ [(⟨x7, x4, true⟩ : S56)]) x4 x5) else (none)) else (if (rd_T56 x3 (wrap64 ((x3.length : Int) - 1))).f2 = true then (if x3.length < 4398046511104 then (R21Rows.l0 k x0 (x3 ++ [(⟨x7, x4, true⟩ : S56)]) x4 x5) else (none)) else (if 1 ≤ (x7.size : Int) then (if ((rd_T56 x3 (wrap64 ((x3.length : Int) - 1))).f0).size + (x7.extract 1 x7.size).size ≤ 9223372036854775807 then (R21Rows.l0 k x0 (x3.set ((wrap64 ((x3.length : Int) - 1)) : Int).toNat (⟨((rd_T56 x3 (wrap64 ((x3.length : Int) - 1))).f0) ++ (x7.extract 1 x7.size), (rd_T56 x3 (wrap64 ((x3.length : Int) - 1))).f1, (rd_T56 x3 (wrap64 ((x3.length : Int) - 1))).f2⟩ : S56)) x4 x5) else (none)) else (none)))) else (none)) else (none)))
def R21Rows.l1 : Nat → ByteArray → List (S56) → Int → Int → Int → Option ((List (S56)))
 | 0, _, _, _, _, _ => none
 | k + 1, x0, x3, x4, x5, x6 => if x6 < (x0.size : Int) then (if 0 ≤ x6 then (if (bt x0 x6) = 10 then (R21Rows.j2 k x0 x3 x4 x5 x6) else (R21Rows.l1 k x0 x3 x4 x5 (wrap64 (x6 + 1)))) else (none)) else (R21Rows.j2 k x0 x3 x4 x5 x6)
end
def R21Rows.f (k : Nat) (a0 : ByteArray) : Option ((List (S56))) := R21Rows.l0 k a0 (([] : List (S56))) 0 0
def R21Rows.T17 : Bool × List (List Nat × List Nat) := (true, [([], []), ([], []), ([1], [1]), ([2], [2]), ([], []), ([], []), ([5], [5]), ([6], [6]), ([4, 7], [4, 7]), ([8], [8]), ([9], [9]), ([], []), ([11], [11]), ([10, 12], [10, 12]), ([0, 3, 0, 1, 2, 3, 4, 5, 6, 7, 8, 9, 10, 11, 12, 13], [0, 3]), ([14, 0, 1, 2, 3, 4, 5, 6, 7, 8, 9, 10, 11, 12, 13], [14]), ([15, 13, 0, 1, 2, 3, 4, 5, 6, 7, 8, 9, 10, 11, 12, 13], [13, 15])])
def R21Rows.B17 : List Nat := [0, 0, 2, 6, 0, 0, 32, 96, 240, 496, 1008, 0, 2048, 8176, 16383, 32767, 65535]
theorem R21Rows.tab17 : rtab .any (opsOf Tryd.f30 17) = R21Rows.T17 := by kernel_rfl
theorem R21Rows.bits17 : waitsOk R21Rows.T17.2 R21Rows.B17 = true := by kernel_rfl
end Go.Proofs.YtkklacijhmoopaaDoor.Print
