-- laid together by pack.py (a program of this session)
import Derived.Test.YtkklacijhmoopaaDoorADnParses4
namespace Go.Proofs.YtkklacijhmoopaaDoor.Print
open Go.RowKit Go.Proofs.YtkklacijhmoopaaDoorW.PrintWords Go.Proofs.YtkklacijhmoopaaDoorW.PrintLast Go.Proofs.YtkklacijhmoopaaDoorW.PrintMore
attribute [local go_sem] max2_int min2_int max_two min_two max_three min_three max_four min_four
set_option linter.unusedVariables false
set_option linter.unusedSimpArgs false
set_option maxHeartbeats 8000000 in
set_option maxRecDepth 100000 in
theorem dn_Print.calls (k : Nat) (A0 : Option Addr) (c0 : Nat) (l0 : List (List (S40))) (r1 : ByteArray) (r2 : Int) (w : World) (hr0 : Kd.C (Kd.slice 40 k40) w A0 l0.length l0) (hc0 : l0.length ≤ c0) (hG : Gw w) (h : dn_Print.f k l0 = some (r1, r2)) :
  Calls Tryd.prog 16 #[.slice A0 l0.length c0] w fun e w' => e = .returned (.tuple #[.string r1, .int .i64 r2]) ∧ Below w.heap.size w w' := by
 have hu40 := Tryd.underlying40
 have HR0 := Aside0.mk hr0
 have HC0 := Aside0.mk hc0
 clear hr0 hc0
 have HB := Aside0.mk (Below.refl w.heap.size w)
 have HG := Aside0.mk hG
 clear hG
 have H : ((dn_Right.f k l0).bind fun t340 => (if t340 = true then (dn_Print.l0 k ([] : List ByteArray) l0 (l0.length : Int) 0) else (some ((⟨#[]⟩ : ByteArray), 4)))) = some (r1, r2) := h
 clear h
 replace H := Option.bind_eq_some_iff.mp H
 obtain ⟨t340, A20, H⟩ := H
 replace H : (if t340 = true then (dn_Print.l0 k ([] : List ByteArray) l0 (l0.length : Int) 0) else (some ((⟨#[]⟩ : ByteArray), 4))) = some (r1, r2) := H
 have A2 := Aside0.mk A20
 clear A20
 by_cases c3 : t340 = true
 ·
  subst c3
  rw [if_pos rfl] at H
  have H' := Aside0.mk H
  clear H
  go_enter Tryd.func16, Tryd.ntmps16
  go_wp2_with (first | ((with_reducible refine gate_callee (f := 18) rfl ?_); refine goesL_ (some 12) rfl rfl Tryd.func18 (by kernel_rfl) rfl #[.slice A0 l0.length c0] rfl ap3 ?_; (with_reducible refine (dn_Right.calls k _ _ l0 true _ ?side1 ?side2 ?side3 A2.out).mono ?_); (case side1 => repeat (first | exact HR0.out | (with_reducible refine Kd.C_alloc ?_ _) | (with_reducible refine Kd.C_drewN ?_ _) | (with_reducible refine Kd.C_drew ?_))); (case side2 => exact HC0.out); (case side3 => exact ap6); rintro e w4 ⟨rfl, hb⟩; refine ⟨_, rfl, ?_⟩; have n0_ := Aside0.mk (below_step ap1 hb); clear HB; have HB := n0_; clear n0_; (try clear hb); (try clear hb2); (try clear hk); (try clear hi)))
  go_loopg [4, 16] k (fun kq v4 v16 w' => ∃ (x4_1 : List ByteArray) (x16_1 : Int), v16 = .int .i64 x16_1 ∧ Aside0 (dn_Print.l0 kq x4_1 l0 (l0.length : Int) x16_1 = some (r1, r2)) ∧ Aside0 (kq ≤ k) ∧ Aside0 (Kd.R Kd.string 9 w' w.heap.size (fun _ => True) v4 x4_1) ∧ Aside0 (Below w.heap.size w w'))
  case atStart => exact ⟨(([] : List ByteArray)), (0), ap2, H', ⟨Nat.le_refl _⟩, ⟨by first | exact Kd.R_nil _ _ _ _ _ | exact Kd.N_nil _ _ _ _ _ | exact Kd.V_nil _ _ _ _ _ | exact Kd.Q_nil _ _ _ _ _ | exact Kd.S_nil _ _ _ _ _⟩, ⟨by repeat (first | (with_reducible first | exact HB.out | apply below_alloc | apply pw_below_drewN | apply below_drew1) | exact HB.out)⟩⟩
  case round =>
   clear H'
   try clear c1
   try clear p2
   try clear c3
   obtain ⟨x4_1, x16_1, rfl, HA, HK1, HO_4, HB⟩ := hrel
   cases gk with
   | zero => exact absurd HA.out (by simp [dn_Print.l0])
   | succ k1 =>
    have H := HA.out
    clear HA
    simp only [dn_Print.l0] at H
    by_cases c5 : x16_1 < (l0.length : Int)
    ·
     rw [if_pos c5] at H
     have c5b0 := decide_eq_true c5
     clear c5
     by_cases c6 : 0 ≤ x16_1
     ·
      rw [if_pos c6] at H
      have c6b0 := decide_eq_true c6
      clear c6
      by_cases c7 : x16_1 < (l0.length : Int)
      ·
       rw [if_pos c7] at H
       have c7b0 := decide_eq_true c7
       clear c7
       have H' := Aside0.mk H
       clear H
       have p342 : 0 ≤ (x16_1 : Int) := of_decide_eq_true ap0
       have q342 : x16_1 < (l0.length : Int) := of_decide_eq_true ap0
       obtain ⟨ad342, A342_0, c342_0, e342, hx342_0, hl342_0, hi342_0⟩ := at_L7 HR0.out x16_1 p342 q342
       cases e342
       replace hx342_0 := (HB.out.cell (World.block_lt_of_cell? w _ hx342_0)).trans hx342_0
       have HR342_0 := Aside0.mk hi342_0
       have HC342_0 := Aside0.mk hl342_0
       clear hi342_0 hl342_0
       replace p342 := eq_true p342
       replace q342 := eq_true q342
       go_wp2
       go_loopg [7, 22] k1 (fun kq v7 v22 w' => ∃ (x7_2 : List ByteArray) (x22_2 : Int), v22 = .int .i64 x22_2 ∧ Aside0 (dn_Print.l1 kq x4_1 x7_2 l0 (l0.length : Int) x16_1 (rd_L7 l0 x16_1) ((rd_L7 l0 x16_1).length : Int) x22_2 = some (r1, r2)) ∧ Aside0 (kq ≤ k1) ∧ Aside0 (Kd.R Kd.string 9 w' w.heap.size (fun k_ => some k_ ≠ (v7 : Value).ownBlock) u4 x4_1) ∧ Aside0 (Kd.R Kd.string 9 w' w.heap.size (fun k_ => some k_ ≠ (u4 : Value).ownBlock) v7 x7_2) ∧ Aside0 (Below w.heap.size w w'))
       case atStart => exact ⟨(([] : List ByteArray)), (0), ap2, H', ⟨Nat.le_refl _⟩, ⟨by (with_reducible repeat (first | apply Kd.R_alloc | apply Kd.R_drewN | apply Kd.R_drew)); exact Kd.R_mono HO_4.out (fun _ hk => (by simp [Value.ownBlock]))⟩, ⟨by first | exact Kd.R_nil _ _ _ _ _ | exact Kd.N_nil _ _ _ _ _ | exact Kd.V_nil _ _ _ _ _ | exact Kd.Q_nil _ _ _ _ _ | exact Kd.S_nil _ _ _ _ _⟩, ⟨by repeat (first | (with_reducible first | exact HB.out | apply below_alloc | apply pw_below_drewN | apply below_drew1) | exact HB.out)⟩⟩
       case round =>
        clear H'
        try clear c1
        try clear p2
        try clear c3
        try clear p3
        try clear q3
        try clear hx3
        try clear c5
        try clear c5b0
        try clear c6
        try clear c6b0
        try clear c7
        try clear c7b0
        try clear hx342_0
        try clear p2
        try clear p342
        try clear q342
        obtain ⟨x7_2, x22_2, rfl, HA, HK2, HO_4, HO_7, HB⟩ := hrel
        cases gk with
        | zero => exact absurd HA.out (by simp [dn_Print.l1])
        | succ k2 =>
         have H := HA.out
         clear HA
         simp only [dn_Print.l1] at H
         by_cases c8 : x22_2 < ((rd_L7 l0 x16_1).length : Int)
         ·
          rw [if_pos c8] at H
          have c8b0 := decide_eq_true c8
          clear c8
          by_cases c9 : 0 ≤ x22_2
          ·
           rw [if_pos c9] at H
           have c9b0 := decide_eq_true c9
           clear c9
           by_cases c10 : x22_2 < ((rd_L7 l0 x16_1).length : Int)
           ·
            rw [if_pos c10] at H
            have c10b0 := decide_eq_true c10
            clear c10
            by_cases c11 : ((rd_T40 (rd_L7 l0 x16_1) x22_2).f0).size + 1 ≤ 9223372036854775807
            ·
             rw [if_pos c11] at H
             have c11b0 := eq_true c11
             have c11b1 := decide_eq_true c11
             try have c11b2 : (9223372036854775807 < ((rd_T40 (rd_L7 l0 x16_1) x22_2).f0).size + 1) = False := eq_false (Nat.not_lt.2 c11)
             replace H := Option.bind_eq_some_iff.mp H
             obtain ⟨t345, A120, H⟩ := H
             replace H : (if (((rd_T40 (rd_L7 l0 x16_1) x22_2).f0) ++ (⟨#[61]⟩ : ByteArray)).size + t345.size ≤ 9223372036854775807 then (if x7_2.length < 8796093022208 then (dn_Print.l1 k2 x4_1 (x7_2 ++ [(((rd_T40 (rd_L7 l0 x16_1) x22_2).f0) ++ (⟨#[61]⟩ : ByteArray)) ++ t345]) l0 (l0.length : Int) x16_1 (rd_L7 l0 x16_1) ((rd_L7 l0 x16_1).length : Int) (wrap64 (x22_2 + 1))) else (none)) else (none)) = some (r1, r2) := H
             have A12 := Aside0.mk A120
             clear A120
             by_cases c13 : (((rd_T40 (rd_L7 l0 x16_1) x22_2).f0) ++ (⟨#[61]⟩ : ByteArray)).size + t345.size ≤ 9223372036854775807
             ·
              rw [if_pos c13] at H
              have c13b0 := eq_true c13
              have c13b1 := decide_eq_true c13
              try have c13b2 : (9223372036854775807 < (((rd_T40 (rd_L7 l0 x16_1) x22_2).f0) ++ (⟨#[61]⟩ : ByteArray)).size + t345.size) = False := eq_false (Nat.not_lt.2 c13)
              try (have c13f := eq_false (Nat.not_lt.2 c13); simp only [ByteArray.size_append, sz_lit1, sz_lit2, sz_lit3] at c13f)
              by_cases c14 : x7_2.length < 8796093022208
              ·
               rw [if_pos c14] at H
               have LMc14 := Aside0.mk c14
               clear c14
               obtain ⟨y346, hy346⟩ : ∃ y_ : List ByteArray, y_ = (x7_2 ++ [(((rd_T40 (rd_L7 l0 x16_1) x22_2).f0) ++ (⟨#[61]⟩ : ByteArray)) ++ t345]) := ⟨_, rfl⟩
               replace H : (dn_Print.l1 k2 x4_1 y346 l0 (l0.length : Int) x16_1 (rd_L7 l0 x16_1) ((rd_L7 l0 x16_1).length : Int) (wrap64 (x22_2 + 1))) = some (r1, r2) := by first | (rw [hy346]; with_reducible exact H) | (have H2_ := (Option.bind_some _ _).symm.trans H; rw [hy346]; with_reducible exact H2_) | (have H2_ := (Option.bind_some _ _).symm.trans H; with_reducible exact H2_) | with_reducible exact H | (rw [hy346]; exact H) | exact H
               have Ny346 := Aside0.mk hy346
               clear hy346
               have H' := Aside0.mk H
               clear H
               have p343 : 0 ≤ (x22_2 : Int) := of_decide_eq_true ap0
               have q343 : x22_2 < ((rd_L7 l0 x16_1).length : Int) := of_decide_eq_true ap0
               obtain ⟨ad343, e343, hx343_0, hx343_1⟩ := at_T40 HR342_0.out x22_2 p343 q343
               cases e343
               replace hx343_0 := (HB.out.cell (World.block_lt_of_cell? w _ hx343_0)).trans hx343_0
               replace hx343_1 := (HB.out.cell (World.block_lt_of_cell? w _ hx343_1)).trans hx343_1
               replace p343 := eq_true p343
               replace q343 := eq_true q343
               try go_wp2_with (first | ((with_reducible refine gate_dst (N := 9) rfl ?_); refine box_event ?hg (N := 9) ?hd (cs := #[.string (⟨#[]⟩ : ByteArray), .string (⟨#[]⟩ : ByteArray)]) (t := 40) ?hr ?_; (case hd => rfl); (case hg => rfl); (case hr => first | (go_simp; done) | (go_simp; rfl)); intro gb344 hg w15 hbox hb; have n0_ := Aside0.mk (Kd.R_below (apAR HO_4.out) hb); have n1_ := Aside0.mk (Kd.R_below (apAR HO_7.out) hb); have n2_ := Aside0.mk (below_step ap1 hb); have n3_ := Aside0.mk (hbox); have n4_ := Aside0.mk ((by rw [hg]; exact (below_size ap1) : w.heap.size ≤ gb344)); have n5_ := Aside0.mk ((by rw [hg]; exact (below_size ap1) : w.heap.size ≤ gb344)); clear HO_4; clear HO_7; clear HB; have HO_4 := n0_; have HO_7 := n1_; have HB := n2_; have BK344 := n3_; have GW344 := n4_; have GE344 := n5_; clear n0_ n1_ n2_ n3_ n4_ n5_; clear hb hbox hg; have hcz16_0 : w15.cell? ⟨gb344, 0, none⟩ = some (.string (⟨#[]⟩ : ByteArray)) := (blk_cell BK344.out 0).trans rfl; have hcz16_1 : w15.cell? ⟨gb344, 1, none⟩ = some (.string (⟨#[]⟩ : ByteArray)) := (blk_cell BK344.out 1).trans rfl; have hfz16_0 := blk_frozen BK344.out 0; have hfz16_1 := blk_frozen BK344.out 1))
               have n0_ : Aside0 (Kd.R Kd.string 9 ((w15.setCell ⟨gb344, 0, none⟩ (.string ((rd_T40 (rd_L7 l0 x16_1) x22_2).f0))).setCell ⟨gb344, 1, none⟩ (.string ((rd_T40 (rd_L7 l0 x16_1) x22_2).f1))) w.heap.size (fun k_ => some k_ ≠ (u7 : Value).ownBlock) u4 x4_1) := ⟨by (with_reducible repeat (first | apply Kd.R_alloc | apply Kd.R_drewN | apply Kd.R_drew)); exact Kd.R_mono (Kd.R_far (p := ⟨gb344, 1, none⟩) (Kd.R_far (p := ⟨gb344, 0, none⟩) (Kd.R_types HO_4.out BK344.out (by decide)) (fun _ hk => hk.2) (.string ((rd_T40 (rd_L7 l0 x16_1) x22_2).f0))) (fun _ hk => hk.2) (.string ((rd_T40 (rd_L7 l0 x16_1) x22_2).f1))) (fun _ hk => hk.1)⟩
               have n1_ : Aside0 (Kd.R Kd.string 9 ((w15.setCell ⟨gb344, 0, none⟩ (.string ((rd_T40 (rd_L7 l0 x16_1) x22_2).f0))).setCell ⟨gb344, 1, none⟩ (.string ((rd_T40 (rd_L7 l0 x16_1) x22_2).f1))) w.heap.size (fun k_ => some k_ ≠ (u4 : Value).ownBlock) u7 x7_2) := ⟨by (with_reducible repeat (first | apply Kd.R_alloc | apply Kd.R_drewN | apply Kd.R_drew)); exact Kd.R_mono (Kd.R_far (p := ⟨gb344, 1, none⟩) (Kd.R_far (p := ⟨gb344, 0, none⟩) (Kd.R_types HO_7.out BK344.out (by decide)) (fun _ hk => hk.2) (.string ((rd_T40 (rd_L7 l0 x16_1) x22_2).f0))) (fun _ hk => hk.2) (.string ((rd_T40 (rd_L7 l0 x16_1) x22_2).f1))) (fun _ hk => hk.1)⟩
               have n2_ : Aside0 (((w15.setCell ⟨gb344, 0, none⟩ (.string ((rd_T40 (rd_L7 l0 x16_1) x22_2).f0))).setCell ⟨gb344, 1, none⟩ (.string ((rd_T40 (rd_L7 l0 x16_1) x22_2).f1))).heap[gb344]? = some (.cells #[.string ((rd_T40 (rd_L7 l0 x16_1) x22_2).f0), .string ((rd_T40 (rd_L7 l0 x16_1) x22_2).f1)] 40 (0, 0))) := ⟨by (with_reducible repeat (first | refine blk_drewN ?_ _ | refine blk_drew ?_ | refine blk_alloc ?_ _)); refine blk_put (cs := #[.string ((rd_T40 (rd_L7 l0 x16_1) x22_2).f0), .string (⟨#[]⟩ : ByteArray)]) ?_ 1 _ rfl; (with_reducible repeat (first | refine blk_drewN ?_ _ | refine blk_drew ?_ | refine blk_alloc ?_ _)); refine blk_put (cs := #[.string (⟨#[]⟩ : ByteArray), .string (⟨#[]⟩ : ByteArray)]) ?_ 0 _ rfl; (with_reducible repeat (first | refine blk_drewN ?_ _ | refine blk_drew ?_ | refine blk_alloc ?_ _)); exact BK344.out⟩
               have n3_ : Aside0 (Below w.heap.size w ((w15.setCell ⟨gb344, 0, none⟩ (.string ((rd_T40 (rd_L7 l0 x16_1) x22_2).f0))).setCell ⟨gb344, 1, none⟩ (.string ((rd_T40 (rd_L7 l0 x16_1) x22_2).f1)))) := ⟨by repeat (first | (with_reducible first | exact HB.out | apply below_alloc | apply pw_below_drewN | apply below_drew1 | refine below_set ?_ GE344.out) | exact HB.out)⟩
               (try clear HO_4)
               (try clear HO_7)
               (try clear BK344)
               (try clear HB)
               generalize ((w15.setCell ⟨gb344, 0, none⟩ (.string ((rd_T40 (rd_L7 l0 x16_1) x22_2).f0))).setCell ⟨gb344, 1, none⟩ (.string ((rd_T40 (rd_L7 l0 x16_1) x22_2).f1))) = w17 at n0_ n1_ n2_ n3_ ⊢
               have HO_4 := n0_
               have HO_7 := n1_
               have BK344 := n2_
               have HB := n3_
               clear n0_ n1_ n2_ n3_
               have n0_ := Aside0.mk (Kd.R_drew HO_4.out)
               have n1_ := Aside0.mk (Kd.R_drew HO_7.out)
               have n2_ := Aside0.mk (blk_drew BK344.out)
               have n3_ := Aside0.mk (below_drew1 HB.out)
               clear HO_4
               clear HO_7
               clear BK344
               clear HB
               have HO_4 := n0_
               have HO_7 := n1_
               have BK344 := n2_
               have HB := n3_
               clear n0_ n1_ n2_ n3_
               refine start_ (n := 11) (S := fun w' => w'.cell? ⟨gb344, 0, none⟩ = some (.string ((rd_T40 (rd_L7 l0 x16_1) x22_2).f0)) ∧ w'.cell? ⟨gb344, 1, none⟩ = some (.string ((rd_T40 (rd_L7 l0 x16_1) x22_2).f1))) (ds := []) #[false, false, false, false, false, false, false, false, false, false, false] (by kernel_rfl) rfl rfl ⟨(blk_cell BK344.out 0).trans rfl, (blk_cell BK344.out 1).trans rfl⟩ (fun hHeld => ?_); refine with_tabW dn_Print.tab11 dn_Print.bits11 (fun HT_ HW_ => ?_)
               generalize w17.drew = w18 at HO_4 HO_7 BK344 HB hHeld ⊢
               refine pure_ (i := 0) (N := some 26) (v := ?_) (a' := ?_) #[true, false, false, false, false, false, false, false, false, false, false] rfl rfl (any_of HT_.out (by kernel_rfl)) (fun _ _ _ h => h) (Or.inl ⟨by rfl, ?_⟩) ?_ ?_
               rotate_left
               ·
                intro w'
                go_simp
                with_reducible rfl
               rotate_left
               ·
                simp only [Act.put, List.setIfInBounds_toArray, List.set_cons_zero, List.set_cons_succ, i64_w, i32_w]
                rfl
               refine pure_ (i := 1) (N := some 27) (v := ?_) (a' := ?_) #[true, true, false, false, false, false, false, false, false, false, false] rfl rfl (any_of HT_.out (by kernel_rfl)) (fun _ _ _ h => h) (Or.inl ⟨by rfl, ?_⟩) ?_ ?_
               rotate_left
               ·
                intro w'
                go_simp
                with_reducible rfl
               rotate_left
               ·
                simp only [Act.put, List.setIfInBounds_toArray, List.set_cons_zero, List.set_cons_succ, i64_w, i32_w]
                rfl
               refine pure_ (i := 4) (N := some 30) (v := ?_) (a' := ?_) #[true, true, false, false, true, false, false, false, false, false, false] rfl rfl (any_of HT_.out (by kernel_rfl)) (fun _ _ _ h => h) (Or.inl ⟨by rfl, ?_⟩) ?_ ?_
               rotate_left
               ·
                intro w'
                go_simp
                with_reducible rfl
               rotate_left
               ·
                simp only [Act.put, List.setIfInBounds_toArray, List.set_cons_zero, List.set_cons_succ, i64_w, i32_w]
                rfl
               refine take_ (i := 2) (N := some 28) (v := ?_) (a' := ?_) #[true, true, true, false, true, false, false, false, false, false, false] rfl rfl (take_ofW HT_.out HW_.out (by kernel_rfl)) (fun _ _ _ h => h) (Or.inl ⟨by rfl, ?_⟩) hHeld ?_ ?_
               rotate_left
               ·
                rintro w' ⟨s0, s1⟩
                go_simp
                with_reducible rfl
               rotate_left
               ·
                simp only [Act.put, List.setIfInBounds_toArray, List.set_cons_zero, List.set_cons_succ, i64_w, i32_w]
                rfl
               refine pure_ (i := 3) (N := some 29) (v := ?_) (a' := ?_) #[true, true, true, true, true, false, false, false, false, false, false] rfl rfl (any_of HT_.out (by kernel_rfl)) (fun _ _ _ h => h) (Or.inl ⟨by rfl, ?_⟩) ?_ ?_
               rotate_left
               ·
                intro w'
                go_simp
                with_reducible rfl
               rotate_left
               ·
                simp only [Act.put, List.setIfInBounds_toArray, List.set_cons_zero, List.set_cons_succ, i64_w, i32_w]
                rfl
               refine take_ (i := 5) (N := some 31) (v := ?_) (a' := ?_) #[true, true, true, true, true, true, false, false, false, false, false] rfl rfl (take_ofW HT_.out HW_.out (by kernel_rfl)) (fun _ _ _ h => h) (Or.inl ⟨by rfl, ?_⟩) hHeld ?_ ?_
               rotate_left
               ·
                rintro w' ⟨s0, s1⟩
                go_simp
                with_reducible rfl
               rotate_left
               ·
                simp only [Act.put, List.setIfInBounds_toArray, List.set_cons_zero, List.set_cons_succ, i64_w, i32_w]
                rfl
               refine one_ (i := 6) (N := some 32) #[true, true, true, true, true, true, true, false, false, false, false] rfl rfl (one_of HT_.out (by kernel_rfl)) (by decide) (fun K hK => ?_)
               refine goes_ Tryd.func39 (by kernel_rfl) rfl #[.string ((rd_T40 (rd_L7 l0 x16_1) x22_2).f1)] (by rfl) rfl rfl ap3 ?_
               with_reducible refine (dn_value.calls ((rd_T40 (rd_L7 l0 x16_1) x22_2).f1) t345 _ A12.out).mono ?_
               rintro e w19 ⟨rfl, hb⟩
               refine ⟨_, rfl, ?_⟩
               have n0_ := Aside0.mk (Kd.R_below (apAR HO_4.out) hb)
               have n1_ := Aside0.mk (Kd.R_below (apAR HO_7.out) hb)
               have n2_ := Aside0.mk (blk_below (g := gb344) (o := .cells #[.string ((rd_T40 (rd_L7 l0 x16_1) x22_2).f0), .string ((rd_T40 (rd_L7 l0 x16_1) x22_2).f1)] 40 (0, 0)) (apB BK344.out) hb)
               have n3_ := Aside0.mk (below_step (apG GE344.out) hb)
               clear HO_4
               clear HO_7
               clear BK344
               clear HB
               have HO_4 := n0_
               have HO_7 := n1_
               have BK344 := n2_
               have HB := n3_
               clear n0_ n1_ n2_ n3_
               (try clear hb)
               (try clear hb2)
               (try clear hk)
               (try clear hi)
               refine hK.out _ _ ⟨(blk_cell BK344.out 0).trans rfl, (blk_cell BK344.out 1).trans rfl⟩ (fun hHeld => ?_)
               clear hK K
               refine norm_ (a' := ?_) ?_ ?_
               rotate_left
               ·
                show Act.put _ (some 32) _ = _
                simp only [Act.put, List.setIfInBounds_toArray, List.set_cons_zero, List.set_cons_succ, i64_w, i32_w]
                rfl
               refine pure_ (i := 7) (N := some 33) (v := ?_) (a' := ?_) #[true, true, true, true, true, true, true, true, false, false, false] rfl rfl (any_of HT_.out (by kernel_rfl)) (fun _ _ _ h => h) (Or.inl ⟨by rfl, ?_⟩) ?_ ?_
               rotate_left
               ·
                intro w'
                go_simp
                with_reducible rfl
               rotate_left
               ·
                simp only [Act.put, List.setIfInBounds_toArray, List.set_cons_zero, List.set_cons_succ, i64_w, i32_w]
                rfl
               refine one_ (i := 8) (N := some 34) #[true, true, true, true, true, true, true, true, true, false, false] rfl rfl (one_of HT_.out (by kernel_rfl)) (by decide) (fun K hK => ?_)
               refine value_ (w1 := ?_) (v := ?_) (by rfl) rfl ?_ ?_
               rotate_left 2
               ·
                go_simp
                constructor
                ·
                 rfl
                ·
                 rfl
               refine hK.out _ _ ⟨(blk_cell (blk_alloc BK344.out _) 0).trans rfl, (blk_cell (blk_alloc BK344.out _) 1).trans rfl⟩ (fun hHeld => ?_)
               clear hK K
               refine norm_ (a' := ?_) ?_ ?_
               rotate_left
               ·
                show Act.put _ (some 34) _ = _
                simp only [Act.put, List.setIfInBounds_toArray, List.set_cons_zero, List.set_cons_succ, i64_w, i32_w]
                rfl
               refine one_ (i := 9) (N := some 35) #[true, true, true, true, true, true, true, true, true, true, false] rfl rfl (one_of HT_.out (by kernel_rfl)) (by decide) (fun K hK => ?_)
               refine Kd.R_append_step Kd.string (w0 := w) w.heap.size (by rfl) (.tmp 26) (.tmp 34) 69 9 (.string ⟨#[]⟩) 16 rfl Tryd.underlying69 info9 rfl (by decide) (by omega) u7 x7_2 ((((rd_T40 (rd_L7 l0 x16_1) x22_2).f0) ++ (⟨#[61]⟩ : ByteArray)) ++ t345) [.string ((((rd_T40 (rd_L7 l0 x16_1) x22_2).f0) ++ (⟨#[61]⟩ : ByteArray)) ++ t345)] (fun k_ => some k_ ≠ (u4 : Value).ownBlock) (fun _ => False) rfl rfl ?aP (fun _ hk => hk.elim) ?aF ?aO ?aB ?aS ?aL ?_
               (case aP => exact rfl)
               (case aB => exact (apG GE344.out))
               (case aF => exact (fun k_ hk => Kd.fresh' (Kd.R_lt (apAR HO_4.out)) k_ hk))
               (case aO => exact (apAR HO_7.out))
               (case aS => exact (below_size (apG GE344.out)))
               (case aL => have := LMc14.out; omega)
               intro v347 w20 ho hb hg hat
               rw [← Ny346.out] at ho
               have n0_ := Aside0.mk (Kd.R_after (ok := (fun _ => True)) (by (with_reducible repeat (first | apply Kd.R_alloc | apply Kd.R_drewN | apply Kd.R_drew)); exact Kd.R_mono HO_4.out (fun _ hk => ⟨trivial, hk⟩)) hg hat)
               have n1_ := Aside0.mk (blk_grown (g := gb344) (o := .cells #[.string ((rd_T40 (rd_L7 l0 x16_1) x22_2).f0), .string ((rd_T40 (rd_L7 l0 x16_1) x22_2).f1)] 40 (0, 0)) (apB BK344.out) hg (Kd.R_ne HO_7.out BK344.out (by decide)))
               have n2_ := Aside0.mk (hb)
               have n3_ := Aside0.mk (ho)
               clear HO_4
               clear BK344
               clear HB
               clear HO_7
               have HO_4 := n0_
               have BK344 := n1_
               have HB := n2_
               have HO348 := n3_
               clear n0_ n1_ n2_ n3_
               clear ho hb hg hat
               refine hK.out _ _ ⟨(blk_cell BK344.out 0).trans rfl, (blk_cell BK344.out 1).trans rfl⟩ (fun hHeld => ?_)
               clear hK K
               refine norm_ (a' := ?_) ?_ ?_
               rotate_left
               ·
                show Act.put _ (some 35) _ = _
                simp only [Act.put, List.setIfInBounds_toArray, List.set_cons_zero, List.set_cons_succ, i64_w, i32_w]
                rfl
               refine pure_ (i := 10) (N := some 7) (v := ?_) (a' := ?_) #[true, true, true, true, true, true, true, true, true, true, true] rfl rfl (any_of HT_.out (by kernel_rfl)) (fun _ _ _ h => h) (Or.inl ⟨by rfl, ?_⟩) ?_ ?_
               rotate_left
               ·
                intro w'
                go_simp
                with_reducible rfl
               rotate_left
               ·
                simp only [Act.put, List.setIfInBounds_toArray, List.set_cons_zero, List.set_cons_succ, i64_w, i32_w]
                rfl
               refine done_ (done_of HT_.out (by kernel_rfl)) ?_
               try go_wp2
               go_roundg k2
               case measure => have := HK1.out; have := HK2.out; omega
               case rel => exact ⟨(y346), (wrap64 (x22_2 + 1)), ap2, H', ⟨by have := HK1.out; have := HK2.out; omega⟩, ⟨by (with_reducible repeat (first | apply Kd.R_alloc | apply Kd.R_drewN | apply Kd.R_drew)); exact Kd.R_mono HO_4.out (fun _ hk => hk.2)⟩, ⟨by (with_reducible repeat (first | apply Kd.R_alloc | apply Kd.R_drewN | apply Kd.R_drew)); exact HO348.out⟩, ⟨by repeat (first | (with_reducible first | exact HB.out | apply below_alloc | apply pw_below_drewN | apply below_drew1 | refine below_set ?_ GE344.out) | exact HB.out)⟩⟩
              ·
               rw [if_neg c14] at H
               exact absurd H (by simp)
             ·
              rw [if_neg c13] at H
              exact absurd H (by simp)
            ·
             rw [if_neg c11] at H
             exact absurd H (by simp)
           ·
            rw [if_neg c10] at H
            exact absurd H (by simp)
          ·
           rw [if_neg c9] at H
           exact absurd H (by simp)
         ·
          rw [if_neg c8] at H
          have c8b0 := decide_eq_false c8
          clear c8
          replace H := Option.bind_eq_some_iff.mp H
          obtain ⟨t349, A210, H⟩ := H
          replace H : (if x4_1.length < 8796093022208 then (dn_Print.l0 k2 (x4_1 ++ [t349]) l0 (l0.length : Int) (wrap64 (x16_1 + 1))) else (none)) = some (r1, r2) := H
          have A21 := Aside0.mk A210
          clear A210
          by_cases c22 : x4_1.length < 8796093022208
          ·
           rw [if_pos c22] at H
           have LMc22 := Aside0.mk c22
           clear c22
           obtain ⟨y350, hy350⟩ : ∃ y_ : List ByteArray, y_ = (x4_1 ++ [t349]) := ⟨_, rfl⟩
           replace H : (dn_Print.l0 k2 y350 l0 (l0.length : Int) (wrap64 (x16_1 + 1))) = some (r1, r2) := by first | (rw [hy350]; with_reducible exact H) | (have H2_ := (Option.bind_some _ _).symm.trans H; rw [hy350]; with_reducible exact H2_) | (have H2_ := (Option.bind_some _ _).symm.trans H; with_reducible exact H2_) | with_reducible exact H | (rw [hy350]; exact H) | exact H
           have Ny350 := Aside0.mk hy350
           clear hy350
           have H' := Aside0.mk H
           clear H
           obtain ⟨Ao23, co23, eo23⟩ := Kd.R_slice HO_7.out
           subst eo23
           go_wp2_with (first | ((with_reducible refine gate_callee (f := 40) rfl ?_); refine goesL_ (some 39) rfl rfl Tryd.func40 (by kernel_rfl) rfl #[.slice Ao23 x7_2.length co23, .string (⟨#[43]⟩ : ByteArray)] rfl ap3 ?_; (with_reducible refine (strings_Join.calls _ _ x7_2 (⟨#[43]⟩ : ByteArray) t349 _ ?side1 ?side2 A21.out).mono ?_); (case side1 => repeat (first | exact (Kd.R_reads' HO_7.out).2.2 | (with_reducible refine Kd.C_alloc ?_ _) | (with_reducible refine Kd.C_drewN ?_ _) | (with_reducible refine Kd.C_drew ?_))); (case side2 => exact (Kd.R_reads' HO_7.out).2.1); rintro e w24 ⟨rfl, hb⟩; refine ⟨_, rfl, ?_⟩; have n0_ := Aside0.mk (Kd.R_below (apAR HO_4.out) hb); have n1_ := Aside0.mk (Kd.R_below (apAR HO_7.out) hb); have n2_ := Aside0.mk (below_step ap1 hb); clear HO_4; clear HO_7; clear HB; have HO_4 := n0_; have HO_7 := n1_; have HB := n2_; clear n0_ n1_ n2_; (try clear hb); (try clear hb2); (try clear hk); (try clear hi)) | ((with_reducible refine gate_builtin (b := .append) (xs := #[.tmp 37, .tmp 40]) rfl ?_); at_builtin; refine Kd.R_append Kd.string (w0 := w) w.heap.size rfl (.tmp 37) (.tmp 40) 69 9 (.string ⟨#[]⟩) 16 rfl Tryd.underlying69 info9 rfl (by decide) (by omega) u4 x4_1 t349 [.string t349] (fun k_ => some k_ ≠ (.slice Ao23 x7_2.length co23 : Value).ownBlock) (fun _ => False) rfl rfl ?aP (fun _ hk => hk.elim) ?aF ?aO ?aB ?aS ?aL ?_; (case aP => exact rfl); (case aB => exact ap1); (case aF => exact (fun k_ hk => Kd.fresh' (Kd.R_lt (apAR HO_7.out)) k_ hk)); (case aO => exact (apAR HO_4.out)); (case aS => exact (below_size ap1)); (case aL => have := LMc22.out; omega); intro v351 w25 ho hb hg hat; rw [← Ny350.out] at ho; have n0_ := Aside0.mk (Kd.R_after (ok := (fun _ => True)) (by (with_reducible repeat (first | apply Kd.R_alloc | apply Kd.R_drewN | apply Kd.R_drew)); exact Kd.R_mono HO_7.out (fun _ hk => ⟨trivial, hk⟩)) hg hat); have n1_ := Aside0.mk (hb); have n2_ := Aside0.mk (ho); clear HO_7; clear HB; clear HO_4; have HO_7 := n0_; have HB := n1_; have HO352 := n2_; clear n0_ n1_ n2_; clear ho hb hg hat))
           go_roundg k2
           case measure => have := HK1.out; have := HK2.out; omega
           case rel => exact ⟨(y350), (wrap64 (x16_1 + 1)), ap2, H', ⟨by have := HK1.out; have := HK2.out; omega⟩, ⟨by (with_reducible repeat (first | apply Kd.R_alloc | apply Kd.R_drewN | apply Kd.R_drew)); exact Kd.R_mono HO352.out (fun _ hk => trivial)⟩, ⟨by repeat (first | (with_reducible first | exact HB.out | apply below_alloc | apply pw_below_drewN | apply below_drew1) | exact HB.out)⟩⟩
          ·
           rw [if_neg c22] at H
           exact absurd H (by simp)
      ·
       rw [if_neg c7] at H
       exact absurd H (by simp)
     ·
      rw [if_neg c6] at H
      exact absurd H (by simp)
    ·
     rw [if_neg c5] at H
     have c5b0 := decide_eq_false c5
     clear c5
     replace H := Option.bind_eq_some_iff.mp H
     obtain ⟨t341, A260, H⟩ := H
     replace H : (if (t341.size : Int) > 1000 then (some ((⟨#[]⟩ : ByteArray), 5)) else (some (t341, 0))) = some (r1, r2) := H
     have A26 := Aside0.mk A260
     clear A260
     by_cases c27 : (t341.size : Int) > 1000
     ·
      rw [if_pos c27] at H
      have c27b0 := decide_eq_true c27
      have c27b1 : decide (1000 < t341.size) = true := decide_eq_true (by omega)
      clear c27
      simp only [Option.some.injEq, Prod.mk.injEq] at H
      obtain ⟨rfl, rfl⟩ := H
      obtain ⟨Ao28, co28, eo28⟩ := Kd.R_slice HO_4.out
      subst eo28
      go_wp2_with (first | ((with_reducible refine gate_callee (f := 40) rfl ?_); refine goesL_ (some 44) rfl rfl Tryd.func40 (by kernel_rfl) rfl #[.slice Ao28 x4_1.length co28, .string (⟨#[44]⟩ : ByteArray)] rfl ap3 ?_; (with_reducible refine (strings_Join.calls _ _ x4_1 (⟨#[44]⟩ : ByteArray) t341 _ ?side1 ?side2 A26.out).mono ?_); (case side1 => repeat (first | exact (Kd.R_reads' HO_4.out).2.2 | (with_reducible refine Kd.C_alloc ?_ _) | (with_reducible refine Kd.C_drewN ?_ _) | (with_reducible refine Kd.C_drew ?_))); (case side2 => exact (Kd.R_reads' HO_4.out).2.1); rintro e w29 ⟨rfl, hb⟩; refine ⟨_, rfl, ?_⟩; have n0_ := Aside0.mk (Kd.R_below (apAR HO_4.out) hb); have n1_ := Aside0.mk (below_step ap1 hb); clear HO_4; clear HB; have HO_4 := n0_; have HB := n1_; clear n0_ n1_; (try clear hb); (try clear hb2); (try clear hk); (try clear hi)))
      go_ret2
      exact ⟨by first | rfl | (simp [errW_none, errW_some, bne_nil8, beq_nil8]; done) | (simp [errW_none, errW_some] <;> rfl) | (simp [*, errW_none, errW_some] <;> rfl), by repeat (first | (with_reducible first | exact HB.out | apply below_alloc | apply pw_below_drewN | apply below_drew1) | exact HB.out)⟩
     ·
      rw [if_neg c27] at H
      have c27b0 := decide_eq_false c27
      have c27b1 : decide (1000 < t341.size) = false := decide_eq_false (by omega)
      clear c27
      simp only [Option.some.injEq, Prod.mk.injEq] at H
      obtain ⟨rfl, rfl⟩ := H
      obtain ⟨Ao30, co30, eo30⟩ := Kd.R_slice HO_4.out
      subst eo30
      go_wp2_with (first | ((with_reducible refine gate_callee (f := 40) rfl ?_); refine goesL_ (some 44) rfl rfl Tryd.func40 (by kernel_rfl) rfl #[.slice Ao30 x4_1.length co30, .string (⟨#[44]⟩ : ByteArray)] rfl ap3 ?_; (with_reducible refine (strings_Join.calls _ _ x4_1 (⟨#[44]⟩ : ByteArray) t341 _ ?side1 ?side2 A26.out).mono ?_); (case side1 => repeat (first | exact (Kd.R_reads' HO_4.out).2.2 | (with_reducible refine Kd.C_alloc ?_ _) | (with_reducible refine Kd.C_drewN ?_ _) | (with_reducible refine Kd.C_drew ?_))); (case side2 => exact (Kd.R_reads' HO_4.out).2.1); rintro e w31 ⟨rfl, hb⟩; refine ⟨_, rfl, ?_⟩; have n0_ := Aside0.mk (Kd.R_below (apAR HO_4.out) hb); have n1_ := Aside0.mk (below_step ap1 hb); clear HO_4; clear HB; have HO_4 := n0_; have HB := n1_; clear n0_ n1_; (try clear hb); (try clear hb2); (try clear hk); (try clear hi)))
      go_ret2
      exact ⟨by first | rfl | (simp [errW_none, errW_some, bne_nil8, beq_nil8]; done) | (simp [errW_none, errW_some] <;> rfl) | (simp [*, errW_none, errW_some] <;> rfl), by repeat (first | (with_reducible first | exact HB.out | apply below_alloc | apply pw_below_drewN | apply below_drew1) | exact HB.out)⟩
 ·
  replace c3 := Bool.eq_false_iff.mpr c3
  subst c3
  rw [if_neg (show ¬ (false = true) by decide)] at H
  simp only [Option.some.injEq, Prod.mk.injEq] at H
  obtain ⟨rfl, rfl⟩ := H
  go_enter Tryd.func16, Tryd.ntmps16
  go_wp2_with (first | ((with_reducible refine gate_callee (f := 18) rfl ?_); refine goesL_ (some 12) rfl rfl Tryd.func18 (by kernel_rfl) rfl #[.slice A0 l0.length c0] rfl ap3 ?_; (with_reducible refine (dn_Right.calls k _ _ l0 false _ ?side1 ?side2 ?side3 A2.out).mono ?_); (case side1 => repeat (first | exact HR0.out | (with_reducible refine Kd.C_alloc ?_ _) | (with_reducible refine Kd.C_drewN ?_ _) | (with_reducible refine Kd.C_drew ?_))); (case side2 => exact HC0.out); (case side3 => exact ap6); rintro e w32 ⟨rfl, hb⟩; refine ⟨_, rfl, ?_⟩; have n0_ := Aside0.mk (below_step ap1 hb); clear HB; have HB := n0_; clear n0_; (try clear hb); (try clear hb2); (try clear hk); (try clear hi)))
  go_ret2
  exact ⟨by first | rfl | (simp [errW_none, errW_some, bne_nil8, beq_nil8]; done) | (simp [errW_none, errW_some] <;> rfl) | (simp [*, errW_none, errW_some] <;> rfl), by repeat (first | (with_reducible first | exact HB.out | apply below_alloc | apply pw_below_drewN | apply below_drew1) | exact HB.out)⟩
end Go.Proofs.YtkklacijhmoopaaDoor.Print
namespace Go.Proofs.YtkklacijhmoopaaDoor.Print
open Go.RowKit Go.Proofs.YtkklacijhmoopaaDoorW.PrintWords Go.Proofs.YtkklacijhmoopaaDoorW.PrintLast Go.Proofs.YtkklacijhmoopaaDoorW.PrintMore Go.Proofs.YtkklacijhmoopaaDoor.Pure
set_option linter.unusedVariables false
set_option linter.unusedSimpArgs false
theorem idx_all : ∀ n : Nat, n < 256 → decide (0 ≤ Lib.indexByte dnSigns (UInt8.ofNat n)) = special (UInt8.ofNat n) := by decide +kernel
theorem idx_is (c : UInt8) : (0 ≤ Lib.indexByte dnSigns c) ↔ special c = true := by
  have := idx_all c.toNat c.toNat_lt
  rw [ofNat_toNat8] at this
  rw [← this, decide_eq_true_iff]
theorem piece_is (n i : Nat) (c : UInt8) : dnPiece n i c = if c.toNat < 32 ∨ c.toNat = 127 then 92 :: hexOf [c] else if (c = 32 ∧ (i = 0 ∨ i + 1 = n)) ∨ (c = 35 ∧ i = 0) ∨ special c = true then [92, c] else [c] := by
  have h1 : (c.toNat = 32) ↔ c = 32 := ⟨fun h => UInt8.toNat_inj.1 h, fun h => by rw [h]; rfl⟩
  have h2 : (c.toNat = 35) ↔ c = 35 := ⟨fun h => UInt8.toNat_inj.1 h, fun h => by rw [h]; rfl⟩
  unfold dnPiece
  simp only [h1, h2, idx_is]
def textN (n : Nat) : Nat → List UInt8 → List UInt8
  | _, [] => []
  | i, c :: r => dnPiece n i c ++ textN n (i + 1) r
theorem textN_is (l : List UInt8) : ∀ (r : List UInt8) (i : Nat), l.drop i = r → ((List.range' i r.length).flatMap fun i => dnPiece l.length i (l.getD i 0)) = textN l.length i r
  | [], i, h => rfl
  | c :: r, i, h => by
    obtain ⟨h1, h2, h3⟩ := getD_at (d := (0 : UInt8)) h
    rw [Int.toNat_natCast] at h2
    rw [List.length_cons, List.range'_succ, List.flatMap_cons, h2, textN_is l r (i + 1) h3]; rfl
theorem dnText_is (l : List UInt8) : dnText l = textN l.length 0 l := by
  unfold dnText
  rw [List.range_eq_range']
  exact textN_is l l 0 rfl
def pairText (a : Pr) : List UInt8 := a.1 ++ 61 :: dnText a.2
def joinT (c : UInt8) : List (List UInt8) → List UInt8
  | [] => []
  | [x] => x
  | x :: y :: r => x ++ c :: joinT c (y :: r)
def rdnText (l : List Pr) : List UInt8 := joinT 43 (l.map pairText)
def nameText (n : List (List Pr)) : List UInt8 := joinT 44 (n.map rdnText)
end Go.Proofs.YtkklacijhmoopaaDoor.Print
namespace Go.Proofs.YtkklacijhmoopaaDoor.Print
open Go.RowKit Go.Proofs.YtkklacijhmoopaaDoorW.PrintWords Go.Proofs.YtkklacijhmoopaaDoorW.PrintLast Go.Proofs.YtkklacijhmoopaaDoorW.PrintMore
attribute [local go_sem] max2_int min2_int max_two min_two max_three min_three max_four min_four
set_option linter.unusedVariables false
set_option linter.unusedSimpArgs false
theorem eqA40 (d : Nat) (w : World) (x0 y0 : ByteArray) (x1 y1 : ByteArray) :
  (Op.equalIn (d + 2) 40 (.agg #[.string x0, .string x1]) (.agg #[.string y0, .string y1])).run Tryd.prog w = .ok (x0.toList == y0.toList && (x1.toList == y1.toList)) w := by
 refine eqA_of Tryd.underlying40 (by kernel_rfl) ?_
 refine eqf_cons (by rfl) (by go_simp; rfl) (by go_simp; rfl) (by go_simp) ?_
 exact eqf_last (by rfl) (by go_simp; rfl) (by go_simp; rfl) (by go_simp)
end Go.Proofs.YtkklacijhmoopaaDoor.Print
namespace Go.Proofs.YtkklacijhmoopaaDoor.Print
open Go.RowKit Go.Proofs.YtkklacijhmoopaaDoorW.PrintWords Go.Proofs.YtkklacijhmoopaaDoorW.PrintLast Go.Proofs.YtkklacijhmoopaaDoorW.PrintMore
attribute [local go_sem] max2_int min2_int max_two min_two max_three min_three max_four min_four
set_option linter.unusedVariables false
set_option linter.unusedSimpArgs false
attribute [local go_sem high] eqA40
mutual
def R15Equal.l0 : Nat → List (List (S40)) → List (List (S40)) → Int → Option (Bool)
 | 0, _, _, _ => none
 | k + 1, x0, x1, x5 => if x5 < (x0.length : Int) then (if 0 ≤ x5 then (if x5 < (x1.length : Int) then (if ((rd_L7 x0 x5).length : Int) = ((rd_L7 x1 x5).length : Int) then (R15Equal.l1 k x0 x1 x5 0) else (some false)) else (none)) else (none)) else (some true)
def R15Equal.l1 : Nat → List (List (S40)) → List (List (S40)) → Int → Int → Option (Bool)
 | 0, _, _, _, _ => none
 | k + 1, x0, x1, x5, x6 => if 0 ≤ x5 then (if x5 < (x0.length : Int) then (if x6 < ((rd_L7 x0 x5).length : Int) then (if 0 ≤ x6 then (if x5 < (x1.length : Int) then (if x6 < ((rd_L7 x1 x5).length : Int) then (if (!((((rd_T40 (rd_L7 x0 x5) x6).f0).toList) == (((rd_T40 (rd_L7 x1 x5) x6).f0).toList)) || (!((((rd_T40 (rd_L7 x0 x5) x6).f1).toList) == (((rd_T40 (rd_L7 x1 x5) x6).f1).toList)))) = true then (some false) else (R15Equal.l1 k x0 x1 x5 (wrap64 (x6 + 1)))) else (none)) else (none)) else (none)) else (R15Equal.l0 k x0 x1 (wrap64 (x5 + 1)))) else (none)) else (none)
end
def R15Equal.f (k : Nat) (l0 : List (List (S40))) (l1 : List (List (S40))) : Option (Bool) := if (l0.length : Int) = (l1.length : Int) then (R15Equal.l0 k l0 l1 0) else (some false)
set_option maxHeartbeats 8000000 in
set_option maxRecDepth 100000 in
theorem R15Equal.calls (k : Nat) (A0 : Option Addr) (c0 : Nat) (l0 : List (List (S40))) (A1 : Option Addr) (c1 : Nat) (l1 : List (List (S40))) (r : Bool) (w : World) (hr0 : Kd.C (Kd.slice 40 k40) w A0 l0.length l0) (hc0 : l0.length ≤ c0) (hr1 : Kd.C (Kd.slice 40 k40) w A1 l1.length l1) (hc1 : l1.length ≤ c1) (h : R15Equal.f k l0 l1 = some r) :
  Calls Tryd.prog 14 #[.slice A0 l0.length c0, .slice A1 l1.length c1] w fun e w' => e = .returned (.bool r) ∧ Drawn0 w w' := by
 have hu40 := Tryd.underlying40
 have HR0 := Aside0.mk hr0
 have HC0 := Aside0.mk hc0
 clear hr0 hc0
 have HR1 := Aside0.mk hr1
 have HC1 := Aside0.mk hc1
 clear hr1 hc1
 have H : (if (l0.length : Int) = (l1.length : Int) then (R15Equal.l0 k l0 l1 0) else (some false)) = some r := h
 clear h
 by_cases c3 : (l0.length : Int) = (l1.length : Int)
 ·
  rw [if_pos c3] at H
  have c3b0 : ((l0.length : Int) == (l1.length : Int)) = true := beq_iff_eq.mpr c3
  have c3b1 : ((l0.length : Int) != (l1.length : Int)) = false := bne_eq_false_iff_eq.mpr c3
  have c3b2 : (l0.length == l1.length) = true := by first | simpa using c3 | (simp at c3 ⊢; omega)
  clear c3
  have H' := Aside0.mk H
  clear H
  go_enter Tryd.func14, Tryd.ntmps14
  go_wp2
  repeat (go_quiet (fail); try go_wp2)
  go_loopg [5] k (fun kq v5 w' => ∃ (x5_1 : Int), v5 = .int .i64 x5_1 ∧ Aside0 (R15Equal.l0 kq l0 l1 x5_1 = some r) ∧ Aside0 (kq ≤ k) ∧ Drawn0 w w')
  case atStart => exact ⟨(0), ap2, H', ⟨Nat.le_refl _⟩, by repeat (first | exact Drawn0.refl _ | apply Drawn0.step)⟩
  case round =>
   clear H'
   try clear c1
   try clear p2
   try clear c3
   try clear c3b0
   try clear c3b1
   try clear c3b2
   obtain ⟨x5_1, rfl, HA, HK1, ⟨m1, rfl⟩⟩ := hrel
   cases gk with
   | zero => exact absurd HA.out (by simp [R15Equal.l0])
   | succ k1 =>
    have H := HA.out
    clear HA
    simp only [R15Equal.l0] at H
    by_cases c4 : x5_1 < (l0.length : Int)
    ·
     rw [if_pos c4] at H
     have c4b0 := decide_eq_true c4
     clear c4
     by_cases c5 : 0 ≤ x5_1
     ·
      rw [if_pos c5] at H
      have c5b0 := decide_eq_true c5
      clear c5
      by_cases c6 : x5_1 < (l1.length : Int)
      ·
       rw [if_pos c6] at H
       have c6b0 := decide_eq_true c6
       clear c6
       by_cases c7 : ((rd_L7 l0 x5_1).length : Int) = ((rd_L7 l1 x5_1).length : Int)
       ·
        rw [if_pos c7] at H
        have c7b0 : (((rd_L7 l0 x5_1).length : Int) == ((rd_L7 l1 x5_1).length : Int)) = true := beq_iff_eq.mpr c7
        have c7b1 : (((rd_L7 l0 x5_1).length : Int) != ((rd_L7 l1 x5_1).length : Int)) = false := bne_eq_false_iff_eq.mpr c7
        have c7b2 : ((rd_L7 l0 x5_1).length == (rd_L7 l1 x5_1).length) = true := by first | simpa using c7 | (simp at c7 ⊢; omega)
        clear c7
        have H' := Aside0.mk H
        clear H
        have p557 : 0 ≤ (x5_1 : Int) := of_decide_eq_true ap0
        have q557 : x5_1 < (l0.length : Int) := of_decide_eq_true ap0
        obtain ⟨ad557, A557_0, c557_0, e557, hx557_0, hl557_0, hi557_0⟩ := at_L7 HR0.out x5_1 p557 q557
        cases e557
        have HR557_0 := Aside0.mk hi557_0
        have HC557_0 := Aside0.mk hl557_0
        clear hi557_0 hl557_0
        replace p557 := eq_true p557
        replace q557 := eq_true q557
        have p558 : 0 ≤ (x5_1 : Int) := of_decide_eq_true ap0
        have q558 : x5_1 < (l1.length : Int) := of_decide_eq_true ap0
        obtain ⟨ad558, A558_0, c558_0, e558, hx558_0, hl558_0, hi558_0⟩ := at_L7 HR1.out x5_1 p558 q558
        cases e558
        have HR558_0 := Aside0.mk hi558_0
        have HC558_0 := Aside0.mk hl558_0
        clear hi558_0 hl558_0
        replace p558 := eq_true p558
        replace q558 := eq_true q558
        go_wp2
        repeat (go_quiet (fail); try go_wp2)
        go_loopg [6] k1 (fun kq v6 w' => ∃ (x6_2 : Int), v6 = .int .i64 x6_2 ∧ Aside0 (R15Equal.l1 kq l0 l1 x5_1 x6_2 = some r) ∧ Aside0 (kq ≤ k1) ∧ Drawn0 w w')
        case atStart => exact ⟨(0), ap2, H', ⟨Nat.le_refl _⟩, by repeat (first | exact Drawn0.refl _ | apply Drawn0.step)⟩
        case round =>
         clear H'
         try clear c1
         try clear p2
         try clear c3
         try clear c3b0
         try clear c3b1
         try clear c3b2
         try clear c4
         try clear c4b0
         try clear c5
         try clear c5b0
         try clear p5
         try clear q5
         try clear hx5
         try clear c6
         try clear c6b0
         try clear c7
         try clear c7b0
         try clear c7b1
         try clear c7b2
         try clear hx557_0
         try clear hx558_0
         try clear p2
         try clear p557
         try clear p558
         try clear q557
         try clear q558
         obtain ⟨x6_2, rfl, HA, HK2, ⟨m2, rfl⟩⟩ := hrel
         cases gk with
         | zero => exact absurd HA.out (by simp [R15Equal.l1])
         | succ k2 =>
          have H := HA.out
          clear HA
          simp only [R15Equal.l1] at H
          by_cases c8 : 0 ≤ x5_1
          ·
           rw [if_pos c8] at H
           have c8b0 := decide_eq_true c8
           clear c8
           by_cases c9 : x5_1 < (l0.length : Int)
           ·
            rw [if_pos c9] at H
            have c9b0 := decide_eq_true c9
            clear c9
            by_cases c10 : x6_2 < ((rd_L7 l0 x5_1).length : Int)
            ·
             rw [if_pos c10] at H
             have c10b0 := decide_eq_true c10
             clear c10
             by_cases c11 : 0 ≤ x6_2
             ·
              rw [if_pos c11] at H
              have c11b0 := decide_eq_true c11
              clear c11
              by_cases c12 : x5_1 < (l1.length : Int)
              ·
               rw [if_pos c12] at H
               have c12b0 := decide_eq_true c12
               clear c12
               by_cases c13 : x6_2 < ((rd_L7 l1 x5_1).length : Int)
               ·
                rw [if_pos c13] at H
                have c13b0 := decide_eq_true c13
                clear c13
                by_cases c14 : (!((((rd_T40 (rd_L7 l0 x5_1) x6_2).f0).toList) == (((rd_T40 (rd_L7 l1 x5_1) x6_2).f0).toList)) || (!((((rd_T40 (rd_L7 l0 x5_1) x6_2).f1).toList) == (((rd_T40 (rd_L7 l1 x5_1) x6_2).f1).toList)))) = true
                ·
                 rw [if_pos c14] at H
                 have c14b0 : (!((((rd_T40 (rd_L7 l0 x5_1) x6_2).f0).toList) == (((rd_T40 (rd_L7 l1 x5_1) x6_2).f0).toList)) || (!((((rd_T40 (rd_L7 l0 x5_1) x6_2).f1).toList) == (((rd_T40 (rd_L7 l1 x5_1) x6_2).f1).toList)))) = true := c14
                 clear c14
                 obtain rfl := Option.some.inj H
                 have p559 : 0 ≤ (x5_1 : Int) := of_decide_eq_true ap0
                 have q559 : x5_1 < (l0.length : Int) := of_decide_eq_true ap0
                 obtain ⟨ad559, A559_0, c559_0, e559, hx559_0, hl559_0, hi559_0⟩ := at_L7 HR0.out x5_1 p559 q559
                 obtain rfl : ad557 = ad559 := (by injection e559)
                 have HR559_0 := Aside0.mk hi559_0
                 have HC559_0 := Aside0.mk hl559_0
                 clear hi559_0 hl559_0
                 replace p559 := eq_true p559
                 replace q559 := eq_true q559
                 have p560 : 0 ≤ (x5_1 : Int) := of_decide_eq_true ap0
                 have q560 : x5_1 < (l0.length : Int) := of_decide_eq_true ap0
                 obtain ⟨ad560, A560_0, c560_0, e560, hx560_0, hl560_0, hi560_0⟩ := at_L7 HR0.out x5_1 p560 q560
                 obtain rfl : ad557 = ad560 := (by injection e560)
                 have HR560_0 := Aside0.mk hi560_0
                 have HC560_0 := Aside0.mk hl560_0
                 clear hi560_0 hl560_0
                 replace p560 := eq_true p560
                 replace q560 := eq_true q560
                 have ea_ := Option.some.inj (hx559_0.symm.trans hx560_0)
                 injection ea_ with ea_ en_ ec_
                 subst ea_
                 subst ec_
                 clear en_
                 have p561 : 0 ≤ (x6_2 : Int) := of_decide_eq_true ap0
                 have q561 : x6_2 < ((rd_L7 l0 x5_1).length : Int) := of_decide_eq_true ap0
                 obtain ⟨ad561, e561, hx561_0, hx561_1⟩ := at_T40 HR560_0.out x6_2 p561 q561
                 cases e561
                 replace p561 := eq_true p561
                 replace q561 := eq_true q561
                 have p562 : 0 ≤ (x5_1 : Int) := of_decide_eq_true ap0
                 have q562 : x5_1 < (l1.length : Int) := of_decide_eq_true ap0
                 obtain ⟨ad562, A562_0, c562_0, e562, hx562_0, hl562_0, hi562_0⟩ := at_L7 HR1.out x5_1 p562 q562
                 obtain rfl : ad558 = ad562 := (by injection e562)
                 have HR562_0 := Aside0.mk hi562_0
                 have HC562_0 := Aside0.mk hl562_0
                 clear hi562_0 hl562_0
                 replace p562 := eq_true p562
                 replace q562 := eq_true q562
                 have p563 : 0 ≤ (x6_2 : Int) := of_decide_eq_true ap0
                 have q563 : x6_2 < ((rd_L7 l1 x5_1).length : Int) := of_decide_eq_true ap0
                 obtain ⟨ad563, e563, hx563_0, hx563_1⟩ := at_T40 HR562_0.out x6_2 p563 q563
                 cases e563
                 replace p563 := eq_true p563
                 replace q563 := eq_true q563
                 go_wp2
                 repeat (go_quiet (fail); try go_wp2)
                 go_ret
                 exact ⟨ap2, ap7⟩
                ·
                 rw [if_neg c14] at H
                 have c14b0 : (!((((rd_T40 (rd_L7 l0 x5_1) x6_2).f0).toList) == (((rd_T40 (rd_L7 l1 x5_1) x6_2).f0).toList)) || (!((((rd_T40 (rd_L7 l0 x5_1) x6_2).f1).toList) == (((rd_T40 (rd_L7 l1 x5_1) x6_2).f1).toList)))) = false := by simpa using c14
                 clear c14
                 have H' := Aside0.mk H
                 clear H
                 have p559 : 0 ≤ (x5_1 : Int) := of_decide_eq_true ap0
                 have q559 : x5_1 < (l0.length : Int) := of_decide_eq_true ap0
                 obtain ⟨ad559, A559_0, c559_0, e559, hx559_0, hl559_0, hi559_0⟩ := at_L7 HR0.out x5_1 p559 q559
                 obtain rfl : ad557 = ad559 := (by injection e559)
                 have HR559_0 := Aside0.mk hi559_0
                 have HC559_0 := Aside0.mk hl559_0
                 clear hi559_0 hl559_0
                 replace p559 := eq_true p559
                 replace q559 := eq_true q559
                 have p560 : 0 ≤ (x5_1 : Int) := of_decide_eq_true ap0
                 have q560 : x5_1 < (l0.length : Int) := of_decide_eq_true ap0
                 obtain ⟨ad560, A560_0, c560_0, e560, hx560_0, hl560_0, hi560_0⟩ := at_L7 HR0.out x5_1 p560 q560
                 obtain rfl : ad557 = ad560 := (by injection e560)
                 have HR560_0 := Aside0.mk hi560_0
                 have HC560_0 := Aside0.mk hl560_0
                 clear hi560_0 hl560_0
                 replace p560 := eq_true p560
                 replace q560 := eq_true q560
                 have ea_ := Option.some.inj (hx559_0.symm.trans hx560_0)
                 injection ea_ with ea_ en_ ec_
                 subst ea_
                 subst ec_
                 clear en_
                 have p561 : 0 ≤ (x6_2 : Int) := of_decide_eq_true ap0
                 have q561 : x6_2 < ((rd_L7 l0 x5_1).length : Int) := of_decide_eq_true ap0
                 obtain ⟨ad561, e561, hx561_0, hx561_1⟩ := at_T40 HR560_0.out x6_2 p561 q561
                 cases e561
                 replace p561 := eq_true p561
                 replace q561 := eq_true q561
                 have p562 : 0 ≤ (x5_1 : Int) := of_decide_eq_true ap0
                 have q562 : x5_1 < (l1.length : Int) := of_decide_eq_true ap0
                 obtain ⟨ad562, A562_0, c562_0, e562, hx562_0, hl562_0, hi562_0⟩ := at_L7 HR1.out x5_1 p562 q562
                 obtain rfl : ad558 = ad562 := (by injection e562)
                 have HR562_0 := Aside0.mk hi562_0
                 have HC562_0 := Aside0.mk hl562_0
                 clear hi562_0 hl562_0
                 replace p562 := eq_true p562
                 replace q562 := eq_true q562
                 have p563 : 0 ≤ (x6_2 : Int) := of_decide_eq_true ap0
                 have q563 : x6_2 < ((rd_L7 l1 x5_1).length : Int) := of_decide_eq_true ap0
                 obtain ⟨ad563, e563, hx563_0, hx563_1⟩ := at_T40 HR562_0.out x6_2 p563 q563
                 cases e563
                 replace p563 := eq_true p563
                 replace q563 := eq_true q563
                 go_wp2
                 repeat (go_quiet (fail); try go_wp2)
                 go_roundg k2
                 case measure => have := HK1.out; have := HK2.out; omega
                 case rel => exact ⟨(wrap64 (x6_2 + 1)), ap2, H', ⟨by have := HK1.out; have := HK2.out; omega⟩, by repeat (first | exact Drawn0.refl _ | apply Drawn0.step)⟩
               ·
                rw [if_neg c13] at H
                exact absurd H (by simp)
              ·
               rw [if_neg c12] at H
               exact absurd H (by simp)
             ·
              rw [if_neg c11] at H
              exact absurd H (by simp)
            ·
             rw [if_neg c10] at H
             have c10b0 := decide_eq_false c10
             clear c10
             have H' := Aside0.mk H
             clear H
             have p559 : 0 ≤ (x5_1 : Int) := of_decide_eq_true ap0
             have q559 : x5_1 < (l0.length : Int) := of_decide_eq_true ap0
             obtain ⟨ad559, A559_0, c559_0, e559, hx559_0, hl559_0, hi559_0⟩ := at_L7 HR0.out x5_1 p559 q559
             obtain rfl : ad557 = ad559 := (by injection e559)
             have HR559_0 := Aside0.mk hi559_0
             have HC559_0 := Aside0.mk hl559_0
             clear hi559_0 hl559_0
             replace p559 := eq_true p559
             replace q559 := eq_true q559
             go_wp2
             repeat (go_quiet (fail); try go_wp2)
             go_roundg k2
             case measure => have := HK1.out; have := HK2.out; omega
             case rel => exact ⟨(wrap64 (x5_1 + 1)), ap2, H', ⟨by have := HK1.out; have := HK2.out; omega⟩, by repeat (first | exact Drawn0.refl _ | apply Drawn0.step)⟩
           ·
            rw [if_neg c9] at H
            exact absurd H (by simp)
          ·
           rw [if_neg c8] at H
           exact absurd H (by simp)
       ·
        rw [if_neg c7] at H
        have c7b0 : (((rd_L7 l0 x5_1).length : Int) == ((rd_L7 l1 x5_1).length : Int)) = false := beq_eq_false_iff_ne.mpr c7
        have c7b1 : (((rd_L7 l0 x5_1).length : Int) != ((rd_L7 l1 x5_1).length : Int)) = true := bne_iff_ne.mpr c7
        have c7b2 : ((rd_L7 l0 x5_1).length == (rd_L7 l1 x5_1).length) = false := by first | simpa using c7 | (simp at c7 ⊢; omega)
        obtain rfl := Option.some.inj H
        have p557 : 0 ≤ (x5_1 : Int) := of_decide_eq_true ap0
        have q557 : x5_1 < (l0.length : Int) := of_decide_eq_true ap0
        obtain ⟨ad557, A557_0, c557_0, e557, hx557_0, hl557_0, hi557_0⟩ := at_L7 HR0.out x5_1 p557 q557
        cases e557
        have HR557_0 := Aside0.mk hi557_0
        have HC557_0 := Aside0.mk hl557_0
        clear hi557_0 hl557_0
        replace p557 := eq_true p557
        replace q557 := eq_true q557
        have p558 : 0 ≤ (x5_1 : Int) := of_decide_eq_true ap0
        have q558 : x5_1 < (l1.length : Int) := of_decide_eq_true ap0
        obtain ⟨ad558, A558_0, c558_0, e558, hx558_0, hl558_0, hi558_0⟩ := at_L7 HR1.out x5_1 p558 q558
        cases e558
        have HR558_0 := Aside0.mk hi558_0
        have HC558_0 := Aside0.mk hl558_0
        clear hi558_0 hl558_0
        replace p558 := eq_true p558
        replace q558 := eq_true q558
        go_wp2
        repeat (go_quiet (fail); try go_wp2)
        go_ret
        exact ⟨ap2, ap7⟩
      ·
       rw [if_neg c6] at H
       exact absurd H (by simp)
     ·
      rw [if_neg c5] at H
      exact absurd H (by simp)
    ·
     rw [if_neg c4] at H
     have c4b0 := decide_eq_false c4
     clear c4
     obtain rfl := Option.some.inj H
     go_wp2
     repeat (go_quiet (fail); try go_wp2)
     go_ret
     exact ⟨ap2, ap7⟩
 ·
  rw [if_neg c3] at H
  have c3b0 : ((l0.length : Int) == (l1.length : Int)) = false := beq_eq_false_iff_ne.mpr c3
  have c3b1 : ((l0.length : Int) != (l1.length : Int)) = true := bne_iff_ne.mpr c3
  have c3b2 : (l0.length == l1.length) = false := by first | simpa using c3 | (simp at c3 ⊢; omega)
  obtain rfl := Option.some.inj H
  go_enter Tryd.func14, Tryd.ntmps14
  go_wp2
  repeat (go_quiet (fail); try go_wp2)
  go_ret
  exact ⟨ap2, ap7⟩
end Go.Proofs.YtkklacijhmoopaaDoor.Print
namespace Go.Proofs.YtkklacijhmoopaaDoor.Print
open Go.RowKit Go.Proofs.YtkklacijhmoopaaDoorW.PrintWords Go.Proofs.YtkklacijhmoopaaDoorW.PrintLast Go.Proofs.YtkklacijhmoopaaDoorW.PrintMore Go.Proofs.YtkklacijhmoopaaDoor.Pure
set_option linter.unusedVariables false
set_option linter.unusedSimpArgs false
theorem equal_l1 (n : List (List AvaS)) (hl : n.length ≤ 1000000) (h : ∀ l ∈ n, l.length ≤ 1000000) (i : Nat) (hi : i < n.length) (l : List AvaS) (r : List (List AvaS)) (hr : n.drop i = l :: r)
    (hnext : Ev (fun k => R15Equal.l0 k n n ((i + 1 : Nat) : Int)) true) : ∀ (m j : Nat), l.length - j = m → j ≤ l.length → Ev (fun k => R15Equal.l1 k n n (i : Int) (j : Int)) true := by
  have g2 := rdR_at hr
  have hll : l.length ≤ 1000000 := h l (by
    have : l ∈ n.drop i := by rw [hr]; simp
    exact List.mem_of_mem_drop this)
  intro m
  induction m with
  | zero =>
    intro j hm hj
    refine Ev.step (fun k => by rw [R15Equal.l1]) ?_
    rw [g2, wsucc (p := i) (by omega)]
    exact Ev.pos (by omega) (Ev.pos (by omega) (Ev.neg (by omega) hnext))
  | succ m ih =>
    intro j hm hj
    have hi2 := ih (j + 1) (by omega) (by omega)
    refine Ev.step (fun k => by rw [R15Equal.l1]) ?_
    rw [g2, wsucc (p := j) (by omega)]
    refine Ev.pos (by omega) (Ev.pos (by omega) (Ev.pos (by omega) (Ev.pos (by omega) (Ev.pos (by omega) (Ev.pos (by omega) (Ev.neg ?_ hi2))))))
    simp
theorem equal_ev (n : List (List AvaS)) (hl : n.length ≤ 1000000) (h : ∀ l ∈ n, l.length ≤ 1000000) : Ev (fun k => R15Equal.f k n n) true := by
  have hloop : ∀ (m i : Nat), n.length - i = m → i ≤ n.length → Ev (fun k => R15Equal.l0 k n n (i : Int)) true := by
    intro m
    induction m with
    | zero =>
      intro i hm hi
      exact Ev.step (fun k => by rw [R15Equal.l0]) (Ev.neg (by omega) Ev.rfl')
    | succ m ih =>
      intro i hm hi
      cases hr : n.drop i with
      | nil => have := List.drop_eq_nil_iff.1 hr; omega
      | cons l r =>
        have hi2 := ih (i + 1) (by omega) (by omega)
        have hin := equal_l1 n hl h i (by omega) l r hr hi2 _ 0 rfl (Nat.zero_le _)
        refine Ev.step (fun k => by rw [R15Equal.l0]) ?_
        exact Ev.pos (by omega) (Ev.pos (by omega) (Ev.pos (by omega) (Ev.pos rfl hin)))
  unfold R15Equal.f
  exact Ev.pos rfl (hloop _ 0 rfl (Nat.zero_le _))
theorem scanN_len : ∀ (n : Nat) (r b : List UInt8) (kept : Nat) (v r' : List UInt8), scanN n r b kept = some (v, r') → v.length + r'.length ≤ b.length + r.length
  | 0, r, b, kept, v, r', h => by simp [scanN] at h
  | n + 1, [], b, kept, v, r', h => by
    simp only [scanN, Option.some.injEq, Prod.mk.injEq] at h
    obtain ⟨rfl, rfl⟩ := h
    simp; omega
  | n + 1, c :: r, b, kept, v, r', h => by
    simp only [scanN] at h
    split at h
    · simp only [Option.some.injEq, Prod.mk.injEq] at h
      obtain ⟨rfl, rfl⟩ := h
      simp; omega
    · split at h
      · cases h
      · split at h
        · cases he : esc r with
          | none => rw [he] at h; simp at h
          | some x =>
            rw [he] at h
            simp only [Option.bind_some] at h
            have := scanN_len n _ _ _ _ _ h
            have := esc_lt (x := x.1) (r' := x.2) he
            simp at *; omega
        · have := scanN_len n _ _ _ _ _ h
          simp at *; omega
theorem dw_len {α : Type} (p : α → Bool) (l : List α) : (l.dropWhile p).length ≤ l.length := by
  have := congrArg List.length (split_dw p l)
  rw [List.length_append] at this; omega
theorem kindB_len {r t r' : List UInt8} (h : kindB r = some (t, r')) : t.length + r'.length < r.length ∧ typeOk t = true := by
  obtain ⟨b1, t0, b2, rfl, _, ht, _, rfl⟩ := kind_yes h
  refine ⟨by simp; omega, ht⟩
theorem valueB_len {r v r' : List UInt8} (h : valueB r = some (v, r')) : v.length + r'.length ≤ r.length := by
  unfold valueB at h
  have := dw_len (· == 32) r
  cases hr : r.dropWhile (· == 32) with
  | nil =>
    rw [hr] at h; simp at h; obtain ⟨rfl, rfl⟩ := h; simp
  | cons c r1 =>
    rw [hr] at h this
    dsimp only at h
    split at h
    · cases h
    · have := scanN_len _ _ _ _ _ _ h
      simp at *; omega
def shortN (B : Nat) (n : List (List Pr)) : Prop := n.length ≤ B ∧ ∀ l ∈ n, l.length ≤ B ∧ ∀ a ∈ l, a.1.length ≤ B ∧ a.2.length ≤ B
theorem goB_short (B : Nat) : ∀ (n : Nat) (r : List UInt8) (rdn : List Pr) (l N : List (List Pr)), goB n r rdn l = some N → l.length + r.length ≤ B → rdn.length + r.length ≤ B → (∀ a ∈ rdn, a.1.length ≤ B ∧ a.2.length ≤ B) → (∀ x ∈ l, x.length ≤ B ∧ ∀ a ∈ x, a.1.length ≤ B ∧ a.2.length ≤ B) → shortN B N
  | 0, r, rdn, l, N, h, _, _, _, _ => by simp [goB] at h
  | n + 1, r, rdn, l, N, h, h1, h2, h3, h4 => by
    rw [goB] at h
    cases hk : kindB r with
    | none => rw [hk] at h; simp at h
    | some x =>
      rw [hk] at h
      simp only [Option.bind_some] at h
      have hkl := (kindB_len (t := x.1) (r' := x.2) hk).1
      cases hv : valueB x.2 with
      | none => rw [hv] at h; simp at h
      | some y =>
        rw [hv] at h
        simp only [Option.bind_some] at h
        have hvl := valueB_len (v := y.1) (r' := y.2) hv
        have hnew : ∀ a ∈ rdn ++ [(x.1, y.1)], a.1.length ≤ B ∧ a.2.length ≤ B := by
          intro a ha
          rcases List.mem_append.1 ha with ha | ha
          · exact h3 a ha
          · simp only [List.mem_singleton] at ha; subst ha
            exact ⟨by dsimp only; omega, by dsimp only; omega⟩
        have hlen : (rdn ++ [(x.1, y.1)]).length ≤ B := by simp; omega
        have hl2 : ∀ z ∈ l ++ [rdn ++ [(x.1, y.1)]], z.length ≤ B ∧ ∀ a ∈ z, a.1.length ≤ B ∧ a.2.length ≤ B := by
          intro z hz
          rcases List.mem_append.1 hz with hz | hz
          · exact h4 z hz
          · simp only [List.mem_singleton] at hz; subst hz
            exact ⟨hlen, hnew⟩
        cases hr : y.2 with
        | nil =>
          rw [hr] at h
          simp only [Option.some.injEq] at h
          subst h
          exact ⟨by simp; omega, hl2⟩
        | cons c r3 =>
          rw [hr] at h hvl
          simp only [List.length_cons] at hvl
          dsimp only at h
          split at h
          · exact goB_short B n r3 _ _ N h (by omega) (by simp; omega) hnew h4
          · exact goB_short B n r3 _ _ N h (by simp; omega) (by simp; omega) (by simp) hl2
theorem sz_mk {B : Nat} (hB : B ≤ 100000) {n : List (List Pr)} (h : shortN B n) : (mkN n).length ≤ 1000000 ∧ szN (mkN n) ∧ ∀ l ∈ mkN n, l.length ≤ 1000000 := by
  have hs : szN (mkN n) := by
    intro l hl
    obtain ⟨x, hx, rfl⟩ := List.mem_map.1 hl
    obtain ⟨h1, h2⟩ := h.2 x hx
    refine ⟨by rw [mkR_len]; omega, ?_⟩
    intro a ha
    obtain ⟨p, hp, rfl⟩ := List.mem_map.1 ha
    obtain ⟨k1, k2⟩ := h2 p hp
    have e1 : (mkA p).f0.size = p.1.length := by rw [← bl_length]; rfl
    have e2 : (mkA p).f1.size = p.2.length := by rw [← bl_length]; rfl
    exact ⟨by omega, by omega⟩
  exact ⟨by rw [mkN_len]; have := h.1; omega, hs, fun l hl => (hs l hl).1⟩
theorem read_short {s : ByteArray} (hs : s.size ≤ 100000) {N : List (List Pr)} (h : ((signs (bl s)).bind fun L => goP L [] [] []) = some N) : shortN 100000 N := by
  rw [← goB_eq (s.size + 1) (bl s) [] [] (by rw [bl_length]; omega)] at h
  exact goB_short 100000 _ _ _ _ N h (by rw [bl_length]; simp; omega) (by rw [bl_length]; simp; omega) (by simp) (by simp)
theorem parse_both (s : ByteArray) (hs : s.size ≤ 100000) : ∃ (n : List (List AvaS)) (e : Int), Ev (fun k => dn_Parse.f k s) (n, e) ∧ Ev (fun k => R15Parse.f k s) (n, e) ∧ n.length ≤ 1000000 ∧ (∀ l ∈ n, l.length ≤ 1000000) := by
  obtain ⟨p1, p2, p3, p4⟩ := parse_ev s hs
  obtain ⟨q1, q2, q3, q4⟩ := refparse_ev s hs
  by_cases h : s.size ≤ 1000
  · by_cases hb : (bl s).dropWhile (· == 32) = []
    · exact ⟨_, _, p2 h hb, q2 h hb, by simp, by simp⟩
    · cases hg : ((signs (bl s)).bind fun L => goP L [] [] []) with
      | none => exact ⟨_, _, p3 h hb hg, q3 h hb hg, by simp, by simp⟩
      | some N =>
        obtain ⟨z1, z2, z3⟩ := sz_mk (Nat.le_refl _) (read_short hs hg)
        have hp := p4 h hb N _ hg (right_ev (mkN N) z1 z2)
        have hq := q4 h hb N _ hg (refRight_ev (mkN N) z1 z2)
        cases hn : nameOk (mkN N) with
        | true =>
          rw [hn] at hp hq
          exact ⟨_, _, hp, hq, z1, z3⟩
        | false =>
          rw [hn] at hp hq
          exact ⟨_, _, hp, hq, by simp, by simp⟩
  · exact ⟨_, _, p1 (by omega), q1 (by omega), by simp, by simp⟩
abbrev mkB (l : List UInt8) : ByteArray := ⟨l.toArray⟩
theorem mkB_size (l : List UInt8) : (mkB l).size = l.length := by rw [← bl_length]
theorem ba_app (a b : List UInt8) : mkB a ++ mkB b = mkB (a ++ b) := by
  apply ByteArray.ext
  apply Array.toList_inj.1
  rw [ByteArray.data_append]
  simp
theorem piece_len (n i : Nat) (c : UInt8) : (dnPiece n i c).length ≤ 3 := by
  rw [piece_is]
  split
  · show (92 :: hexOf [c]).length ≤ 3
    simp [hexOf]
  · split <;> simp
theorem textN_len (n : Nat) : ∀ (l : List UInt8) (i : Nat), (textN n i l).length ≤ 3 * l.length
  | [], i => by simp [textN]
  | c :: r, i => by
    have := piece_len n i c
    have := textN_len n r (i + 1)
    rw [textN, List.length_append, List.length_cons]; omega
theorem join_is (c : UInt8) : ∀ (l : List (List UInt8)), Lib.join l [c] = joinT c l
  | [] => rfl
  | [x] => by simp [Lib.join, joinT, List.intercalate]
  | x :: y :: r => by
    have ih := join_is c (y :: r)
    unfold Lib.join at ih ⊢
    rw [inter_cons] at ih ⊢
    rw [joinT, ← ih]; simp
theorem joinB_is (c : UInt8) (l : List (List UInt8)) : joinB (l.map mkB) (⟨#[c]⟩ : ByteArray) = joinT c l := by
  unfold joinB
  rw [List.map_map, ← join_is]
  congr 1
  conv => rhs; rw [← List.map_id l]
  exact List.map_congr_left fun x _ => rfl
theorem joinT_len (c : UInt8) (B : Nat) : ∀ (l : List (List UInt8)), (∀ x ∈ l, x.length ≤ B) → (joinT c l).length ≤ l.length * (B + 1)
  | [], _ => by simp [joinT]
  | [x], h => by have := h x (by simp); simp [joinT]; omega
  | x :: y :: r, h => by
    have ih := joinT_len c B (y :: r) fun z hz => h z (by simp at hz ⊢; exact .inr hz)
    have := h x (by simp)
    rw [joinT, List.length_append, List.length_cons]
    rw [List.length_cons (a := x), Nat.succ_mul]
    omega
theorem join_f (c : UInt8) (l : List (List UInt8)) (h1 : l.length ≤ 1000000) (h2 : (joinT c l).length ≤ 100000000) : strings_Join.f (l.map mkB) (⟨#[c]⟩ : ByteArray) = some (mkB (joinT c l)) := by
  unfold strings_Join.f
  rw [if_pos (by rw [List.length_map]; exact h1), joinB_is, if_pos h2]
def shortP (P : List (List Pr)) : Prop := P.length ≤ 30 ∧ ∀ l ∈ P, l.length ≤ 30 ∧ ∀ a ∈ l, a.1.length ≤ 600 ∧ a.2.length ≤ 600
theorem pairText_len {a : Pr} (h : a.1.length ≤ 600 ∧ a.2.length ≤ 600) : (pairText a).length ≤ 2401 := by
  have := textN_len a.2.length a.2 0
  unfold pairText
  rw [dnText_is, List.length_append, List.length_cons]; omega
theorem rdnText_len {l : List Pr} (h : l.length ≤ 30 ∧ ∀ a ∈ l, a.1.length ≤ 600 ∧ a.2.length ≤ 600) : (rdnText l).length ≤ 72060 := by
  have := joinT_len 43 2401 (l.map pairText) fun x hx => by
    obtain ⟨a, ha, rfl⟩ := List.mem_map.1 hx
    exact pairText_len (h.2 a ha)
  rw [List.length_map] at this
  unfold rdnText
  have h3 : l.length * 2402 ≤ 30 * 2402 := Nat.mul_le_mul_right _ h.1
  omega
theorem nameText_len {P : List (List Pr)} (h : shortP P) : (nameText P).length ≤ 2161830 := by
  have := joinT_len 44 72060 (P.map rdnText) fun x hx => by
    obtain ⟨l, hl, rfl⟩ := List.mem_map.1 hx
    exact rdnText_len (h.2 l hl)
  rw [List.length_map] at this
  unfold nameText
  have h3 : P.length * 72061 ≤ 30 * 72061 := Nat.mul_le_mul_right _ h.1
  omega
def fin (X : List UInt8) : ByteArray × Int := if X.length > 1000 then (⟨#[]⟩, 5) else (mkB X, 0)
theorem value_f (v : List UInt8) (h : v.length ≤ 600) : dn_value.f (mkB v) = some (mkB (dnText v)) := by
  unfold dn_value.f
  rw [if_pos (by rw [mkB_size]; omega)]
theorem drop_map' {α β : Type} (f : α → β) {l : List α} {i : Nat} {x : α} {r : List α} (h : l.drop i = x :: r) : (l.map f).drop i = f x :: r.map f := by
  rw [← List.map_drop, h]; rfl
theorem print_l1 (n : List (List AvaS)) (i : Nat) (l : List Pr) (hl : l.length ≤ 30 ∧ ∀ a ∈ l, a.1.length ≤ 600 ∧ a.2.length ≤ 600) (x4 : List ByteArray) (hx4 : x4.length ≤ 1000) (hi : i ≤ 1000) {o : ByteArray × Int}
    (hnext : Ev (fun k => dn_Print.l0 k (x4 ++ [mkB (rdnText l)]) n (n.length : Int) ((i + 1 : Nat) : Int)) o) : ∀ (m j : Nat), l.length - j = m → j ≤ l.length →
    Ev (fun k => dn_Print.l1 k x4 (((l.take j).map pairText).map mkB) n (n.length : Int) (i : Int) (mkR l) ((mkR l).length : Int) (j : Int)) o := by
  intro m
  induction m with
  | zero =>
    intro j hm hj
    refine Ev.step (fun k => by rw [dn_Print.l1]) ?_
    rw [List.take_of_length_le (by omega), wsucc (p := i) (by omega)]
    have := rdnText_len hl
    refine Ev.neg (by rw [mkR_len]; omega) (Ev.bindc (join_f 43 (l.map pairText) (by rw [List.length_map]; omega) (by unfold rdnText at this; omega)) (Ev.pos (by omega) ?_))
    exact hnext
  | succ m ih =>
    intro j hm hj
    cases hd : l.drop j with
    | nil => have := List.drop_eq_nil_iff.1 hd; omega
    | cons a r2 =>
      obtain ⟨f1, f0, f3⟩ := getD_at (d := (([], []) : Pr)) hd
      have hd' : (mkR l).drop j = mkA a :: mkR r2 := drop_map' mkA hd
      have f2 := rdA_at hd'
      have ha := hl.2 a (by
        have : a ∈ l.drop j := by rw [hd]; simp
        exact List.mem_of_mem_drop this)
      have hi2 := ih (j + 1) (by omega) (by omega)
      have htk : (l.take (j + 1)) = l.take j ++ [a] := by
        rw [List.take_succ_eq_append_getElem f1]
        congr 2
        rw [Int.toNat_natCast, List.getD_eq_getElem?_getD, List.getElem?_eq_getElem f1] at f0
        simpa using f0
      rw [htk, List.map_append, List.map_append] at hi2
      have htl := textN_len a.2.length a.2 0
      refine Ev.step (fun k => by rw [dn_Print.l1]) ?_
      rw [f2, wsucc (p := j) (by omega)]
      have e0 : (mkA a).f0 = mkB a.1 := rfl
      have e1 : (mkA a).f1 = mkB a.2 := rfl
      rw [e0, e1, show (⟨#[61]⟩ : ByteArray) = mkB [61] from rfl, ba_app]
      refine Ev.pos (by rw [mkR_len]; omega) (Ev.pos (by omega) (Ev.pos (by rw [mkR_len]; omega) (Ev.pos (by rw [mkB_size]; omega) (Ev.bindc (value_f a.2 ha.2) (Ev.pos ?_ (Ev.pos ?_ ?_))))))
      · rw [mkB_size, mkB_size, dnText_is, List.length_append]
        simp only [List.length_cons, List.length_nil]; omega
      · rw [List.length_map, List.length_map, List.length_take]; omega
      · rw [ba_app]
        have e : a.1 ++ [61] ++ dnText a.2 = pairText a := by unfold pairText; simp
        rw [e]; exact hi2
theorem print_loop (P : List (List Pr)) (hP : shortP P) : ∀ (m i : Nat), P.length - i = m → i ≤ P.length →
    Ev (fun k => dn_Print.l0 k (((P.take i).map rdnText).map mkB) (mkN P) ((mkN P).length : Int) (i : Int)) (fin (nameText P)) := by
  intro m
  induction m with
  | zero =>
    intro i hm hi
    refine Ev.step (fun k => by rw [dn_Print.l0]) ?_
    have hlen := nameText_len hP
    rw [List.take_of_length_le (by omega)]
    refine Ev.neg (by rw [mkN_len]; omega) (Ev.bindc (join_f 44 (P.map rdnText) (by rw [List.length_map]; have := hP.1; omega) (by unfold nameText at hlen; omega)) ?_)
    unfold fin
    rw [show joinT 44 (P.map rdnText) = nameText P from rfl]
    by_cases h : (nameText P).length > 1000
    · rw [if_pos h]; exact Ev.pos (by rw [mkB_size]; omega) Ev.rfl'
    · rw [if_neg h]; exact Ev.neg (by rw [mkB_size]; omega) Ev.rfl'
  | succ m ih =>
    intro i hm hi
    cases hr : P.drop i with
    | nil => have := List.drop_eq_nil_iff.1 hr; omega
    | cons l r =>
      obtain ⟨g1, g0, g3⟩ := getD_at (d := ([] : List Pr)) hr
      have hr' : (mkN P).drop i = mkR l :: mkN r := drop_map' mkR hr
      have g2 := rdR_at hr'
      have hl := hP.2 l (by
        have : l ∈ P.drop i := by rw [hr]; simp
        exact List.mem_of_mem_drop this)
      have hi2 := ih (i + 1) (by omega) (by omega)
      have htk : (P.take (i + 1)) = P.take i ++ [l] := by
        rw [List.take_succ_eq_append_getElem g1]
        congr 2
        rw [Int.toNat_natCast, List.getD_eq_getElem?_getD, List.getElem?_eq_getElem g1] at g0
        simpa using g0
      rw [htk, List.map_append, List.map_append] at hi2
      have h30 := hP.1
      have := print_l1 (mkN P) i l hl (((P.take i).map rdnText).map mkB) (by rw [List.length_map, List.length_map, List.length_take]; omega) (by omega) hi2 _ 0 rfl (Nat.zero_le _)
      refine Ev.step (fun k => by rw [dn_Print.l0]) ?_
      rw [g2]
      exact Ev.pos (by rw [mkN_len]; omega) (Ev.pos (by omega) (Ev.pos (by rw [mkN_len]; omega) this))
theorem sz_short {P : List (List Pr)} (h : shortP P) : (mkN P).length ≤ 1000000 ∧ szN (mkN P) ∧ ∀ l ∈ mkN P, l.length ≤ 1000000 :=
  sz_mk (B := 600) (by omega) ⟨by have := h.1; omega, fun l hl => ⟨by have := (h.2 l hl).1; omega, (h.2 l hl).2⟩⟩
theorem print_ev (P : List (List Pr)) (hP : shortP P) : Ev (fun k => dn_Print.f k (mkN P)) (if nameOk (mkN P) = true then fin (nameText P) else (⟨#[]⟩, 4)) := by
  obtain ⟨z1, z2, z3⟩ := sz_short hP
  unfold dn_Print.f
  refine Ev.bind (right_ev (mkN P) z1 z2) ?_
  cases nameOk (mkN P) with
  | true =>
    refine Ev.pos rfl ?_
    rw [if_pos rfl]
    exact print_loop P hP _ 0 rfl (Nat.zero_le _)
  | false => exact Ev.neg (by simp) (by simpa using Ev.rfl')
end Go.Proofs.YtkklacijhmoopaaDoor.Print
namespace Go.Proofs.YtkklacijhmoopaaDoor.Print
open Go.RowKit Go.Proofs.YtkklacijhmoopaaDoorW.PrintWords Go.Proofs.YtkklacijhmoopaaDoorW.PrintLast Go.Proofs.YtkklacijhmoopaaDoorW.PrintMore
attribute [local go_sem] max2_int min2_int max_two min_two max_three min_three max_four min_four
set_option linter.unusedVariables false
set_option linter.unusedSimpArgs false
def L15awake.f (k : Nat)  : Option (Bool) := (dn_Parse.f k (⟨#[67, 78, 61, 65, 110, 110, 32, 92, 44, 32, 66, 32, 43, 32, 115, 110, 61, 120, 32, 44, 32, 111, 117, 61, 80, 101, 111, 112, 108, 101]⟩ : ByteArray)).bind fun bt353 => ((dn_Print.f k bt353.1).bind fun bt357 => (if bt353.2 = 0 then (if bt357.2 = 0 then (if bt357.1.toList = ([99, 110, 61, 65, 110, 110, 32, 92, 44, 32, 66, 43, 115, 110, 61, 120, 44, 111, 117, 61, 80, 101, 111, 112, 108, 101] : List UInt8) then (if (bt353.1.length : Int) = 2 then (if 0 < (bt353.1.length : Int) then (some (((rd_L7 bt353.1 0).length : Int) == 2)) else (none)) else (some false)) else (some false)) else (some false)) else (some false)))
set_option maxHeartbeats 8000000 in
set_option maxRecDepth 100000 in
theorem L15awake.calls (k : Nat)  (r : Bool) (w : World) (hG : Gw w) (h : L15awake.f k  = some r) :
  Calls Tryd.prog 11 #[] w fun e w' => e = .returned (.bool r) ∧ Below w.heap.size w w' := by
 have HB := Aside0.mk (Below.refl w.heap.size w)
 have HG := Aside0.mk hG
 clear hG
 have H : ((dn_Parse.f k (⟨#[67, 78, 61, 65, 110, 110, 32, 92, 44, 32, 66, 32, 43, 32, 115, 110, 61, 120, 32, 44, 32, 111, 117, 61, 80, 101, 111, 112, 108, 101]⟩ : ByteArray)).bind fun bt353 => ((dn_Print.f k bt353.1).bind fun bt357 => (if bt353.2 = 0 then (if bt357.2 = 0 then (if bt357.1.toList = ([99, 110, 61, 65, 110, 110, 32, 92, 44, 32, 66, 43, 115, 110, 61, 120, 44, 111, 117, 61, 80, 101, 111, 112, 108, 101] : List UInt8) then (if (bt353.1.length : Int) = 2 then (if 0 < (bt353.1.length : Int) then (some (((rd_L7 bt353.1 0).length : Int) == 2)) else (none)) else (some false)) else (some false)) else (some false)) else (some false)))) = some r := h
 clear h
 replace H := Option.bind_eq_some_iff.mp H
 obtain ⟨⟨t353, t354⟩, A10, H⟩ := H
 replace H : ((dn_Print.f k t353).bind fun bt357 => (if t354 = 0 then (if bt357.2 = 0 then (if bt357.1.toList = ([99, 110, 61, 65, 110, 110, 32, 92, 44, 32, 66, 43, 115, 110, 61, 120, 44, 111, 117, 61, 80, 101, 111, 112, 108, 101] : List UInt8) then (if (t353.length : Int) = 2 then (if 0 < (t353.length : Int) then (some (((rd_L7 t353 0).length : Int) == 2)) else (none)) else (some false)) else (some false)) else (some false)) else (some false))) = some r := H
 have A1 := Aside0.mk A10
 clear A10
 replace H := Option.bind_eq_some_iff.mp H
 obtain ⟨⟨t357, t358⟩, A20, H⟩ := H
 replace H : (if t354 = 0 then (if t358 = 0 then (if t357.toList = ([99, 110, 61, 65, 110, 110, 32, 92, 44, 32, 66, 43, 115, 110, 61, 120, 44, 111, 117, 61, 80, 101, 111, 112, 108, 101] : List UInt8) then (if (t353.length : Int) = 2 then (if 0 < (t353.length : Int) then (some (((rd_L7 t353 0).length : Int) == 2)) else (none)) else (some false)) else (some false)) else (some false)) else (some false)) = some r := H
 have A2 := Aside0.mk A20
 clear A20
 by_cases c3 : t354 = 0
 ·
  rw [if_pos c3] at H
  have c3b0 : (t354 == 0) = true := beq_iff_eq.mpr c3
  have c3b1 : (t354 != 0) = false := bne_eq_false_iff_eq.mpr c3
  clear c3
  by_cases c4 : t358 = 0
  ·
   rw [if_pos c4] at H
   have c4b0 : (t358 == 0) = true := beq_iff_eq.mpr c4
   have c4b1 : (t358 != 0) = false := bne_eq_false_iff_eq.mpr c4
   clear c4
   by_cases c5 : t357.toList = ([99, 110, 61, 65, 110, 110, 32, 92, 44, 32, 66, 43, 115, 110, 61, 120, 44, 111, 117, 61, 80, 101, 111, 112, 108, 101] : List UInt8)
   ·
    rw [if_pos c5] at H
    have c5b0 : (t357.toList == ([99, 110, 61, 65, 110, 110, 32, 92, 44, 32, 66, 43, 115, 110, 61, 120, 44, 111, 117, 61, 80, 101, 111, 112, 108, 101] : List UInt8)) = true := beq_iff_eq.mpr c5
    have c5b1 : (t357.toList != ([99, 110, 61, 65, 110, 110, 32, 92, 44, 32, 66, 43, 115, 110, 61, 120, 44, 111, 117, 61, 80, 101, 111, 112, 108, 101] : List UInt8)) = false := bne_eq_false_iff_eq.mpr c5
    clear c5
    by_cases c6 : (t353.length : Int) = 2
    ·
     rw [if_pos c6] at H
     have c6b0 : ((t353.length : Int) == 2) = true := beq_iff_eq.mpr c6
     have c6b1 : ((t353.length : Int) != 2) = false := bne_eq_false_iff_eq.mpr c6
     clear c6
     by_cases c7 : 0 < (t353.length : Int)
     ·
      rw [if_pos c7] at H
      have c7b0 := decide_eq_true c7
      have c7b1 : decide (0 < t353.length) = true := decide_eq_true (by omega)
      clear c7
      obtain rfl := Option.some.inj H
      go_enter Tryd.func11, Tryd.ntmps11
      go_wp2_with (first | ((with_reducible refine gate_callee (f := 12) rfl ?_); refine goesL_ (some 6) rfl rfl Tryd.func12 (by kernel_rfl) rfl #[.string (⟨#[67, 78, 61, 65, 110, 110, 32, 92, 44, 32, 66, 32, 43, 32, 115, 110, 61, 120, 32, 44, 32, 111, 117, 61, 80, 101, 111, 112, 108, 101]⟩ : ByteArray)] rfl ap3 ?_; (with_reducible refine (dn_Parse.calls k (⟨#[67, 78, 61, 65, 110, 110, 32, 92, 44, 32, 66, 32, 43, 32, 115, 110, 61, 120, 32, 44, 32, 111, 117, 61, 80, 101, 111, 112, 108, 101]⟩ : ByteArray) t353 t354 _ ?side1 A1.out).mono ?_); (case side1 => exact ap6); rintro e w8 ⟨v355, rfl, ho0, hb⟩; refine ⟨_, rfl, ?_⟩; have n0_ := Aside0.mk (Kd.S_lower ho0 (below_size ap1)); have n1_ := Aside0.mk (below_step ap1 hb); clear HB; have HO356 := n0_; have HB := n1_; clear n0_ n1_; (try clear hb); (try clear hb2); (try clear hk); (try clear hi); (try clear ho0); obtain ⟨Ao9, co9, eo9⟩ := Kd.S_slice HO356.out; subst eo9) | ((with_reducible refine gate_callee (f := 16) rfl ?_); refine goesL_ (some 11) rfl rfl Tryd.func16 (by kernel_rfl) rfl #[.slice Ao9 t353.length co9] rfl ap3 ?_; (with_reducible refine (dn_Print.calls k _ _ t353 t357 t358 _ ?side1 ?side2 ?side3 A2.out).mono ?_); (case side1 => repeat (first | exact (Kd.S_reads' HO356.out).2.2 | (with_reducible refine Kd.C_alloc ?_ _) | (with_reducible refine Kd.C_drewN ?_ _) | (with_reducible refine Kd.C_drew ?_))); (case side2 => exact (Kd.S_reads' HO356.out).2.1); (case side3 => exact ap6); rintro e w10 ⟨rfl, hb⟩; refine ⟨_, rfl, ?_⟩; have n0_ := Aside0.mk (Kd.S_below (apAS HO356.out) hb); have n1_ := Aside0.mk (below_step ap1 hb); clear HO356; clear HB; have HO356 := n0_; have HB := n1_; clear n0_ n1_; (try clear hb); (try clear hb2); (try clear hk); (try clear hi); have p359 : 0 ≤ (0 : Int) := (by omega); have q359 : 0 < (t353.length : Int) := of_decide_eq_true ap0; obtain ⟨ad359, A359_0, c359_0, e359, hx359_0, hl359_0, hi359_0⟩ := at_L7 (Kd.S_reads' HO356.out).2.2 0 p359 q359; cases e359; obtain ⟨ce359, hce359, hMe359, hcc359⟩ := Kd.S_get HO356.out [] 0 p359 (by first | exact q359 | exact of_decide_eq_true ap0 | (have e_ := (Kd.S_reads' HO356.out).1; omega)); obtain ⟨ve359_0, rfl, ge359_0⟩ := hMe359; have hv359_0 := hcc359 0 _ rfl; rw [Nat.add_zero, show ((Kd.slice 40 k40)).sz = 1 from rfl, Nat.mul_one] at hv359_0; replace hv359_0 := Option.some.inj (hv359_0.symm.trans hx359_0); rw [hv359_0] at ge359_0; have HL359_0 := Aside0.mk (show Kd.R k40 40 _ _ _ _ (rd_L7 t353 0) from ge359_0); clear hv359_0 ge359_0; clear hcc359 hce359; have qi359 : (0 < t353.length) = True := eq_true (by omega); (try rw [show ((0 : Int)).toNat = 0 from rfl] at hx359_0); (try rw [Addr.add_zero'] at hx359_0); have HR359_0 := Aside0.mk hi359_0; have HC359_0 := Aside0.mk hl359_0; clear hi359_0 hl359_0; replace p359 := eq_true p359; replace q359 := eq_true q359))
      go_ret
      exact ⟨by first | rfl | (simp [errW_none, errW_some, bne_nil8, beq_nil8]; done) | (simp [errW_none, errW_some] <;> rfl) | (simp [*, errW_none, errW_some] <;> rfl), by repeat (first | (with_reducible first | exact HB.out | apply below_alloc | apply pw_below_drewN | apply below_drew1) | exact HB.out)⟩
     ·
      rw [if_neg c7] at H
      exact absurd H (by simp)
    ·
     rw [if_neg c6] at H
     have c6b0 : ((t353.length : Int) == 2) = false := beq_eq_false_iff_ne.mpr c6
     have c6b1 : ((t353.length : Int) != 2) = true := bne_iff_ne.mpr c6
     obtain rfl := Option.some.inj H
     go_enter Tryd.func11, Tryd.ntmps11
     go_wp2_with (first | ((with_reducible refine gate_callee (f := 12) rfl ?_); refine goesL_ (some 6) rfl rfl Tryd.func12 (by kernel_rfl) rfl #[.string (⟨#[67, 78, 61, 65, 110, 110, 32, 92, 44, 32, 66, 32, 43, 32, 115, 110, 61, 120, 32, 44, 32, 111, 117, 61, 80, 101, 111, 112, 108, 101]⟩ : ByteArray)] rfl ap3 ?_; (with_reducible refine (dn_Parse.calls k (⟨#[67, 78, 61, 65, 110, 110, 32, 92, 44, 32, 66, 32, 43, 32, 115, 110, 61, 120, 32, 44, 32, 111, 117, 61, 80, 101, 111, 112, 108, 101]⟩ : ByteArray) t353 t354 _ ?side1 A1.out).mono ?_); (case side1 => exact ap6); rintro e w11 ⟨v355, rfl, ho0, hb⟩; refine ⟨_, rfl, ?_⟩; have n0_ := Aside0.mk (Kd.S_lower ho0 (below_size ap1)); have n1_ := Aside0.mk (below_step ap1 hb); clear HB; have HO356 := n0_; have HB := n1_; clear n0_ n1_; (try clear hb); (try clear hb2); (try clear hk); (try clear hi); (try clear ho0); obtain ⟨Ao12, co12, eo12⟩ := Kd.S_slice HO356.out; subst eo12) | ((with_reducible refine gate_callee (f := 16) rfl ?_); refine goesL_ (some 11) rfl rfl Tryd.func16 (by kernel_rfl) rfl #[.slice Ao12 t353.length co12] rfl ap3 ?_; (with_reducible refine (dn_Print.calls k _ _ t353 t357 t358 _ ?side1 ?side2 ?side3 A2.out).mono ?_); (case side1 => repeat (first | exact (Kd.S_reads' HO356.out).2.2 | (with_reducible refine Kd.C_alloc ?_ _) | (with_reducible refine Kd.C_drewN ?_ _) | (with_reducible refine Kd.C_drew ?_))); (case side2 => exact (Kd.S_reads' HO356.out).2.1); (case side3 => exact ap6); rintro e w13 ⟨rfl, hb⟩; refine ⟨_, rfl, ?_⟩; have n0_ := Aside0.mk (Kd.S_below (apAS HO356.out) hb); have n1_ := Aside0.mk (below_step ap1 hb); clear HO356; clear HB; have HO356 := n0_; have HB := n1_; clear n0_ n1_; (try clear hb); (try clear hb2); (try clear hk); (try clear hi)))
     go_ret
     exact ⟨by first | rfl | (simp [errW_none, errW_some, bne_nil8, beq_nil8]; done) | (simp [errW_none, errW_some] <;> rfl) | (simp [*, errW_none, errW_some] <;> rfl), by repeat (first | (with_reducible first | exact HB.out | apply below_alloc | apply pw_below_drewN | apply below_drew1) | exact HB.out)⟩
   ·
    rw [if_neg c5] at H
    have c5b0 : (t357.toList == ([99, 110, 61, 65, 110, 110, 32, 92, 44, 32, 66, 43, 115, 110, 61, 120, 44, 111, 117, 61, 80, 101, 111, 112, 108, 101] : List UInt8)) = false := beq_eq_false_iff_ne.mpr c5
    have c5b1 : (t357.toList != ([99, 110, 61, 65, 110, 110, 32, 92, 44, 32, 66, 43, 115, 110, 61, 120, 44, 111, 117, 61, 80, 101, 111, 112, 108, 101] : List UInt8)) = true := bne_iff_ne.mpr c5
    obtain rfl := Option.some.inj H
    go_enter Tryd.func11, Tryd.ntmps11
    go_wp2_with (first | ((with_reducible refine gate_callee (f := 12) rfl ?_); refine goesL_ (some 6) rfl rfl Tryd.func12 (by kernel_rfl) rfl #[.string (⟨#[67, 78, 61, 65, 110, 110, 32, 92, 44, 32, 66, 32, 43, 32, 115, 110, 61, 120, 32, 44, 32, 111, 117, 61, 80, 101, 111, 112, 108, 101]⟩ : ByteArray)] rfl ap3 ?_; (with_reducible refine (dn_Parse.calls k (⟨#[67, 78, 61, 65, 110, 110, 32, 92, 44, 32, 66, 32, 43, 32, 115, 110, 61, 120, 32, 44, 32, 111, 117, 61, 80, 101, 111, 112, 108, 101]⟩ : ByteArray) t353 t354 _ ?side1 A1.out).mono ?_); (case side1 => exact ap6); rintro e w14 ⟨v355, rfl, ho0, hb⟩; refine ⟨_, rfl, ?_⟩; have n0_ := Aside0.mk (Kd.S_lower ho0 (below_size ap1)); have n1_ := Aside0.mk (below_step ap1 hb); clear HB; have HO356 := n0_; have HB := n1_; clear n0_ n1_; (try clear hb); (try clear hb2); (try clear hk); (try clear hi); (try clear ho0); obtain ⟨Ao15, co15, eo15⟩ := Kd.S_slice HO356.out; subst eo15) | ((with_reducible refine gate_callee (f := 16) rfl ?_); refine goesL_ (some 11) rfl rfl Tryd.func16 (by kernel_rfl) rfl #[.slice Ao15 t353.length co15] rfl ap3 ?_; (with_reducible refine (dn_Print.calls k _ _ t353 t357 t358 _ ?side1 ?side2 ?side3 A2.out).mono ?_); (case side1 => repeat (first | exact (Kd.S_reads' HO356.out).2.2 | (with_reducible refine Kd.C_alloc ?_ _) | (with_reducible refine Kd.C_drewN ?_ _) | (with_reducible refine Kd.C_drew ?_))); (case side2 => exact (Kd.S_reads' HO356.out).2.1); (case side3 => exact ap6); rintro e w16 ⟨rfl, hb⟩; refine ⟨_, rfl, ?_⟩; have n0_ := Aside0.mk (Kd.S_below (apAS HO356.out) hb); have n1_ := Aside0.mk (below_step ap1 hb); clear HO356; clear HB; have HO356 := n0_; have HB := n1_; clear n0_ n1_; (try clear hb); (try clear hb2); (try clear hk); (try clear hi)))
    go_ret
    exact ⟨by first | rfl | (simp [errW_none, errW_some, bne_nil8, beq_nil8]; done) | (simp [errW_none, errW_some] <;> rfl) | (simp [*, errW_none, errW_some] <;> rfl), by repeat (first | (with_reducible first | exact HB.out | apply below_alloc | apply pw_below_drewN | apply below_drew1) | exact HB.out)⟩
  ·
   rw [if_neg c4] at H
   have c4b0 : (t358 == 0) = false := beq_eq_false_iff_ne.mpr c4
   have c4b1 : (t358 != 0) = true := bne_iff_ne.mpr c4
   obtain rfl := Option.some.inj H
   go_enter Tryd.func11, Tryd.ntmps11
   go_wp2_with (first | ((with_reducible refine gate_callee (f := 12) rfl ?_); refine goesL_ (some 6) rfl rfl Tryd.func12 (by kernel_rfl) rfl #[.string (⟨#[67, 78, 61, 65, 110, 110, 32, 92, 44, 32, 66, 32, 43, 32, 115, 110, 61, 120, 32, 44, 32, 111, 117, 61, 80, 101, 111, 112, 108, 101]⟩ : ByteArray)] rfl ap3 ?_; (with_reducible refine (dn_Parse.calls k (⟨#[67, 78, 61, 65, 110, 110, 32, 92, 44, 32, 66, 32, 43, 32, 115, 110, 61, 120, 32, 44, 32, 111, 117, 61, 80, 101, 111, 112, 108, 101]⟩ : ByteArray) t353 t354 _ ?side1 A1.out).mono ?_); (case side1 => exact ap6); rintro e w17 ⟨v355, rfl, ho0, hb⟩; refine ⟨_, rfl, ?_⟩; have n0_ := Aside0.mk (Kd.S_lower ho0 (below_size ap1)); have n1_ := Aside0.mk (below_step ap1 hb); clear HB; have HO356 := n0_; have HB := n1_; clear n0_ n1_; (try clear hb); (try clear hb2); (try clear hk); (try clear hi); (try clear ho0); obtain ⟨Ao18, co18, eo18⟩ := Kd.S_slice HO356.out; subst eo18) | ((with_reducible refine gate_callee (f := 16) rfl ?_); refine goesL_ (some 11) rfl rfl Tryd.func16 (by kernel_rfl) rfl #[.slice Ao18 t353.length co18] rfl ap3 ?_; (with_reducible refine (dn_Print.calls k _ _ t353 t357 t358 _ ?side1 ?side2 ?side3 A2.out).mono ?_); (case side1 => repeat (first | exact (Kd.S_reads' HO356.out).2.2 | (with_reducible refine Kd.C_alloc ?_ _) | (with_reducible refine Kd.C_drewN ?_ _) | (with_reducible refine Kd.C_drew ?_))); (case side2 => exact (Kd.S_reads' HO356.out).2.1); (case side3 => exact ap6); rintro e w19 ⟨rfl, hb⟩; refine ⟨_, rfl, ?_⟩; have n0_ := Aside0.mk (Kd.S_below (apAS HO356.out) hb); have n1_ := Aside0.mk (below_step ap1 hb); clear HO356; clear HB; have HO356 := n0_; have HB := n1_; clear n0_ n1_; (try clear hb); (try clear hb2); (try clear hk); (try clear hi)))
   go_ret
   exact ⟨by first | rfl | (simp [errW_none, errW_some, bne_nil8, beq_nil8]; done) | (simp [errW_none, errW_some] <;> rfl) | (simp [*, errW_none, errW_some] <;> rfl), by repeat (first | (with_reducible first | exact HB.out | apply below_alloc | apply pw_below_drewN | apply below_drew1) | exact HB.out)⟩
 ·
  rw [if_neg c3] at H
  have c3b0 : (t354 == 0) = false := beq_eq_false_iff_ne.mpr c3
  have c3b1 : (t354 != 0) = true := bne_iff_ne.mpr c3
  obtain rfl := Option.some.inj H
  go_enter Tryd.func11, Tryd.ntmps11
  go_wp2_with (first | ((with_reducible refine gate_callee (f := 12) rfl ?_); refine goesL_ (some 6) rfl rfl Tryd.func12 (by kernel_rfl) rfl #[.string (⟨#[67, 78, 61, 65, 110, 110, 32, 92, 44, 32, 66, 32, 43, 32, 115, 110, 61, 120, 32, 44, 32, 111, 117, 61, 80, 101, 111, 112, 108, 101]⟩ : ByteArray)] rfl ap3 ?_; (with_reducible refine (dn_Parse.calls k (⟨#[67, 78, 61, 65, 110, 110, 32, 92, 44, 32, 66, 32, 43, 32, 115, 110, 61, 120, 32, 44, 32, 111, 117, 61, 80, 101, 111, 112, 108, 101]⟩ : ByteArray) t353 t354 _ ?side1 A1.out).mono ?_); (case side1 => exact ap6); rintro e w20 ⟨v355, rfl, ho0, hb⟩; refine ⟨_, rfl, ?_⟩; have n0_ := Aside0.mk (Kd.S_lower ho0 (below_size ap1)); have n1_ := Aside0.mk (below_step ap1 hb); clear HB; have HO356 := n0_; have HB := n1_; clear n0_ n1_; (try clear hb); (try clear hb2); (try clear hk); (try clear hi); (try clear ho0); obtain ⟨Ao21, co21, eo21⟩ := Kd.S_slice HO356.out; subst eo21) | ((with_reducible refine gate_callee (f := 16) rfl ?_); refine goesL_ (some 11) rfl rfl Tryd.func16 (by kernel_rfl) rfl #[.slice Ao21 t353.length co21] rfl ap3 ?_; (with_reducible refine (dn_Print.calls k _ _ t353 t357 t358 _ ?side1 ?side2 ?side3 A2.out).mono ?_); (case side1 => repeat (first | exact (Kd.S_reads' HO356.out).2.2 | (with_reducible refine Kd.C_alloc ?_ _) | (with_reducible refine Kd.C_drewN ?_ _) | (with_reducible refine Kd.C_drew ?_))); (case side2 => exact (Kd.S_reads' HO356.out).2.1); (case side3 => exact ap6); rintro e w22 ⟨rfl, hb⟩; refine ⟨_, rfl, ?_⟩; have n0_ := Aside0.mk (Kd.S_below (apAS HO356.out) hb); have n1_ := Aside0.mk (below_step ap1 hb); clear HO356; clear HB; have HO356 := n0_; have HB := n1_; clear n0_ n1_; (try clear hb); (try clear hb2); (try clear hk); (try clear hi)))
  go_ret
  exact ⟨by first | rfl | (simp [errW_none, errW_some, bne_nil8, beq_nil8]; done) | (simp [errW_none, errW_some] <;> rfl) | (simp [*, errW_none, errW_some] <;> rfl), by repeat (first | (with_reducible first | exact HB.out | apply below_alloc | apply pw_below_drewN | apply below_drew1) | exact HB.out)⟩
end Go.Proofs.YtkklacijhmoopaaDoor.Print
namespace Go.Proofs.YtkklacijhmoopaaDoor.Print
open Go.RowKit Go.Proofs.YtkklacijhmoopaaDoorW.PrintWords Go.Proofs.YtkklacijhmoopaaDoorW.PrintLast Go.Proofs.YtkklacijhmoopaaDoorW.PrintMore Go.Proofs.YtkklacijhmoopaaDoor.Pure
def exT : List UInt8 := [67, 78, 61, 65, 110, 110, 32, 92, 44, 32, 66, 32, 43, 32, 115, 110, 61, 120, 32, 44, 32, 111, 117, 61, 80, 101, 111, 112, 108, 101]
def exN : List (List Pr) := [[([99, 110], [65, 110, 110, 32, 44, 32, 66]), ([115, 110], [120])], [([111, 117], [80, 101, 111, 112, 108, 101])]]
set_option maxRecDepth 100000 in
theorem exN_read : ((signs exT).bind fun L => goP L [] [] []) = some exN := by decide +kernel
set_option maxRecDepth 100000 in
theorem exN_ok : nameOk (mkN exN) = true := by decide +kernel
theorem exN_short : shortP exN := by unfold shortP exN; decide
theorem exN_text : nameText exN = [99, 110, 61, 65, 110, 110, 32, 92, 44, 32, 66, 43, 115, 110, 61, 120, 44, 111, 117, 61, 80, 101, 111, 112, 108, 101] := by decide +kernel
theorem awake15_ev : Ev (fun k => L15awake.f k) true := by
  obtain ⟨z1, z2, z3⟩ := sz_short exN_short
  obtain ⟨_, _, _, p4⟩ := parse_ev (mkB exT) (by rw [mkB_size]; decide)
  have hp := p4 (by rw [mkB_size]; decide) (by decide) exN _ exN_read (right_ev (mkN exN) z1 z2)
  have hq := print_ev exN exN_short
  rw [exN_ok, if_pos rfl] at hp hq
  have hf : fin (nameText exN) = (mkB [99, 110, 61, 65, 110, 110, 32, 92, 44, 32, 66, 43, 115, 110, 61, 120, 44, 111, 117, 61, 80, 101, 111, 112, 108, 101], 0) := by
    unfold fin; rw [exN_text, if_neg (by decide)]
  rw [hf] at hq
  unfold L15awake.f
  refine Ev.bind hp (Ev.bind hq (Ev.pos rfl (Ev.pos rfl (Ev.pos ?_ (Ev.pos rfl (Ev.pos (by decide) Ev.rfl'))))))
  rw [Lib.toList_data]
end Go.Proofs.YtkklacijhmoopaaDoor.Print
namespace Go.Proofs.YtkklacijhmoopaaDoor.Print
open Go.RowKit Go.Proofs.YtkklacijhmoopaaDoorW.PrintWords Go.Proofs.YtkklacijhmoopaaDoorW.PrintLast Go.Proofs.YtkklacijhmoopaaDoorW.PrintMore
attribute [local go_sem] max2_int min2_int max_two min_two max_three min_three max_four min_four
set_option linter.unusedVariables false
set_option linter.unusedSimpArgs false
def L15DnParses.f (k : Nat) (a0 : ByteArray) : Option (Bool) := (L15awake.f k).bind fun t564 => (if t564 = true then (if (a0.size : Int) > 3000 then (some true) else ((dn_Parse.f k a0).bind fun bt565 => ((R15Parse.f k a0).bind fun bt569 => (if bt565.2 = bt569.2 then ((R15Equal.f k bt565.1 bt569.1).bind fun t573 => (some t573)) else (some false))))) else (some false))
set_option maxHeartbeats 8000000 in
set_option maxRecDepth 100000 in
theorem L15DnParses.calls (k : Nat) (a0 : ByteArray) (r : Bool) (w : World) (hG : Gw w) (h : L15DnParses.f k a0 = some r) :
  Calls Tryd.prog 4 #[.string a0] w fun e w' => e = .returned (.bool r) ∧ Below w.heap.size w w' := by
 have HB := Aside0.mk (Below.refl w.heap.size w)
 have HG := Aside0.mk hG
 clear hG
 have H : ((L15awake.f k).bind fun t564 => (if t564 = true then (if (a0.size : Int) > 3000 then (some true) else ((dn_Parse.f k a0).bind fun bt565 => ((R15Parse.f k a0).bind fun bt569 => (if bt565.2 = bt569.2 then ((R15Equal.f k bt565.1 bt569.1).bind fun t573 => (some t573)) else (some false))))) else (some false))) = some r := h
 clear h
 replace H := Option.bind_eq_some_iff.mp H
 obtain ⟨t564, A20, H⟩ := H
 replace H : (if t564 = true then (if (a0.size : Int) > 3000 then (some true) else ((dn_Parse.f k a0).bind fun bt565 => ((R15Parse.f k a0).bind fun bt569 => (if bt565.2 = bt569.2 then ((R15Equal.f k bt565.1 bt569.1).bind fun t573 => (some t573)) else (some false))))) else (some false)) = some r := H
 have A2 := Aside0.mk A20
 clear A20
 by_cases c3 : t564 = true
 ·
  subst c3
  rw [if_pos rfl] at H
  by_cases c4 : (a0.size : Int) > 3000
  ·
   rw [if_pos c4] at H
   have c4b0 := decide_eq_true c4
   have c4b1 : decide (3000 < a0.size) = true := decide_eq_true (by omega)
   clear c4
   obtain rfl := Option.some.inj H
   go_enter Tryd.func4, Tryd.ntmps4
   go_wp2_with (first | ((with_reducible refine gate_callee (f := 11) rfl ?_); refine goesL_ (some 7) rfl rfl Tryd.func11 (by kernel_rfl) rfl #[] rfl ap3 ?_; (with_reducible refine (L15awake.calls k  true _ ?side1 A2.out).mono ?_); (case side1 => exact ap6); rintro e w5 ⟨rfl, hb⟩; refine ⟨_, rfl, ?_⟩; have n0_ := Aside0.mk (below_step ap1 hb); clear HB; have HB := n0_; clear n0_; (try clear hb); (try clear hb2); (try clear hk); (try clear hi)))
   go_ret
   exact ⟨by first | rfl | (simp [errW_none, errW_some, bne_nil8, beq_nil8]; done) | (simp [errW_none, errW_some] <;> rfl) | (simp [*, errW_none, errW_some] <;> rfl), by repeat (first | (with_reducible first | exact HB.out | apply below_alloc | apply pw_below_drewN | apply below_drew1) | exact HB.out)⟩
  ·
   rw [if_neg c4] at H
   have c4b0 := decide_eq_false c4
   have c4b1 : decide (3000 < a0.size) = false := decide_eq_false (by omega)
   clear c4
   replace H := Option.bind_eq_some_iff.mp H
   obtain ⟨⟨t565, t566⟩, A60, H⟩ := H
   replace H : ((R15Parse.f k a0).bind fun bt569 => (if t566 = bt569.2 then ((R15Equal.f k t565 bt569.1).bind fun t573 => (some t573)) else (some false))) = some r := H
   have A6 := Aside0.mk A60
   clear A60
   replace H := Option.bind_eq_some_iff.mp H
   obtain ⟨⟨t569, t570⟩, A70, H⟩ := H
   replace H : (if t566 = t570 then ((R15Equal.f k t565 t569).bind fun t573 => (some t573)) else (some false)) = some r := H
   have A7 := Aside0.mk A70
   clear A70
   by_cases c8 : t566 = t570
   ·
    rw [if_pos c8] at H
    have c8b0 : (t566 == t570) = true := beq_iff_eq.mpr c8
    have c8b1 : (t566 != t570) = false := bne_eq_false_iff_eq.mpr c8
    clear c8
    replace H := Option.bind_eq_some_iff.mp H
    obtain ⟨t573, A90, H⟩ := H
    replace H : (some t573) = some r := H
    have A9 := Aside0.mk A90
    clear A90
    obtain rfl := Option.some.inj H
    go_enter Tryd.func4, Tryd.ntmps4
    go_wp2_with (first | ((with_reducible refine gate_callee (f := 11) rfl ?_); refine goesL_ (some 7) rfl rfl Tryd.func11 (by kernel_rfl) rfl #[] rfl ap3 ?_; (with_reducible refine (L15awake.calls k  true _ ?side1 A2.out).mono ?_); (case side1 => exact ap6); rintro e w10 ⟨rfl, hb⟩; refine ⟨_, rfl, ?_⟩; have n0_ := Aside0.mk (below_step ap1 hb); clear HB; have HB := n0_; clear n0_; (try clear hb); (try clear hb2); (try clear hk); (try clear hi)) | ((with_reducible refine gate_callee (f := 12) rfl ?_); refine goesL_ (some 14) rfl rfl Tryd.func12 (by kernel_rfl) rfl #[.string a0] rfl ap3 ?_; (with_reducible refine (dn_Parse.calls k a0 t565 t566 _ ?side1 A6.out).mono ?_); (case side1 => exact ap6); rintro e w11 ⟨v567, rfl, ho0, hb⟩; refine ⟨_, rfl, ?_⟩; have n0_ := Aside0.mk (Kd.S_lower ho0 (below_size ap1)); have n1_ := Aside0.mk (below_step ap1 hb); clear HB; have HO568 := n0_; have HB := n1_; clear n0_ n1_; (try clear hb); (try clear hb2); (try clear hk); (try clear hi); (try clear ho0)) | ((with_reducible refine gate_callee (f := 13) rfl ?_); refine goesL_ (some 19) rfl rfl Tryd.func13 (by kernel_rfl) rfl #[.string a0] rfl ap3 ?_; (with_reducible refine (R15Parse.calls k a0 t569 t570 _ A7.out).mono ?_); rintro e w12 ⟨v571, rfl, ho0, hb⟩; refine ⟨_, rfl, ?_⟩; have n0_ := Aside0.mk (Kd.S_elder' (apAS HO568.out) (Kd.S_base ho0) hb); have n1_ := Aside0.mk (Kd.S_lower (Kd.S_new' ho0 (Kd.S_lt (apAS HO568.out))) (below_size ap1)); have n2_ := Aside0.mk (below_step ap1 hb); clear HO568; clear HB; have HO568 := n0_; have HO572 := n1_; have HB := n2_; clear n0_ n1_ n2_; (try clear hb); (try clear hb2); (try clear hk); (try clear hi); (try clear ho0); obtain ⟨Ao13, co13, eo13⟩ := Kd.S_slice HO568.out; subst eo13; obtain ⟨Ao14, co14, eo14⟩ := Kd.S_slice HO572.out; subst eo14) | (go_at_call 14; (with_reducible refine (R15Equal.calls k _ _ t565 _ _ t569 t573 _ ?side1 ?side2 ?side3 ?side4 A9.out).mono ?_); (case side1 => repeat (first | exact (Kd.S_reads' HO568.out).2.2 | (with_reducible refine Kd.C_alloc ?_ _) | (with_reducible refine Kd.C_drewN ?_ _) | (with_reducible refine Kd.C_drew ?_))); (case side2 => exact (Kd.S_reads' HO568.out).2.1); (case side3 => repeat (first | exact (Kd.S_reads' HO572.out).2.2 | (with_reducible refine Kd.C_alloc ?_ _) | (with_reducible refine Kd.C_drewN ?_ _) | (with_reducible refine Kd.C_drew ?_))); (case side4 => exact (Kd.S_reads' HO572.out).2.1); rintro e w' ⟨rfl, ⟨nd, rfl⟩⟩))
    go_ret
    exact ⟨by first | rfl | (simp [errW_none, errW_some, bne_nil8, beq_nil8]; done) | (simp [errW_none, errW_some] <;> rfl) | (simp [*, errW_none, errW_some] <;> rfl), by repeat (first | (with_reducible first | exact HB.out | apply below_alloc | apply pw_below_drewN | apply below_drew1) | exact HB.out)⟩
   ·
    rw [if_neg c8] at H
    have c8b0 : (t566 == t570) = false := beq_eq_false_iff_ne.mpr c8
    have c8b1 : (t566 != t570) = true := bne_iff_ne.mpr c8
    obtain rfl := Option.some.inj H
    go_enter Tryd.func4, Tryd.ntmps4
    go_wp2_with (first | ((with_reducible refine gate_callee (f := 11) rfl ?_); refine goesL_ (some 7) rfl rfl Tryd.func11 (by kernel_rfl) rfl #[] rfl ap3 ?_; (with_reducible refine (L15awake.calls k  true _ ?side1 A2.out).mono ?_); (case side1 => exact ap6); rintro e w15 ⟨rfl, hb⟩; refine ⟨_, rfl, ?_⟩; have n0_ := Aside0.mk (below_step ap1 hb); clear HB; have HB := n0_; clear n0_; (try clear hb); (try clear hb2); (try clear hk); (try clear hi)) | ((with_reducible refine gate_callee (f := 12) rfl ?_); refine goesL_ (some 14) rfl rfl Tryd.func12 (by kernel_rfl) rfl #[.string a0] rfl ap3 ?_; (with_reducible refine (dn_Parse.calls k a0 t565 t566 _ ?side1 A6.out).mono ?_); (case side1 => exact ap6); rintro e w16 ⟨v567, rfl, ho0, hb⟩; refine ⟨_, rfl, ?_⟩; have n0_ := Aside0.mk (Kd.S_lower ho0 (below_size ap1)); have n1_ := Aside0.mk (below_step ap1 hb); clear HB; have HO568 := n0_; have HB := n1_; clear n0_ n1_; (try clear hb); (try clear hb2); (try clear hk); (try clear hi); (try clear ho0)) | ((with_reducible refine gate_callee (f := 13) rfl ?_); refine goesL_ (some 19) rfl rfl Tryd.func13 (by kernel_rfl) rfl #[.string a0] rfl ap3 ?_; (with_reducible refine (R15Parse.calls k a0 t569 t570 _ A7.out).mono ?_); rintro e w17 ⟨v571, rfl, ho0, hb⟩; refine ⟨_, rfl, ?_⟩; have n0_ := Aside0.mk (Kd.S_elder' (apAS HO568.out) (Kd.S_base ho0) hb); have n1_ := Aside0.mk (Kd.S_lower (Kd.S_new' ho0 (Kd.S_lt (apAS HO568.out))) (below_size ap1)); have n2_ := Aside0.mk (below_step ap1 hb); clear HO568; clear HB; have HO568 := n0_; have HO572 := n1_; have HB := n2_; clear n0_ n1_ n2_; (try clear hb); (try clear hb2); (try clear hk); (try clear hi); (try clear ho0)))
    go_ret
    exact ⟨by first | rfl | (simp [errW_none, errW_some, bne_nil8, beq_nil8]; done) | (simp [errW_none, errW_some] <;> rfl) | (simp [*, errW_none, errW_some] <;> rfl), by repeat (first | (with_reducible first | exact HB.out | apply below_alloc | apply pw_below_drewN | apply below_drew1) | exact HB.out)⟩
 ·
  replace c3 := Bool.eq_false_iff.mpr c3
  subst c3
  rw [if_neg (show ¬ (false = true) by decide)] at H
  obtain rfl := Option.some.inj H
  go_enter Tryd.func4, Tryd.ntmps4
  go_wp2_with (first | ((with_reducible refine gate_callee (f := 11) rfl ?_); refine goesL_ (some 7) rfl rfl Tryd.func11 (by kernel_rfl) rfl #[] rfl ap3 ?_; (with_reducible refine (L15awake.calls k  false _ ?side1 A2.out).mono ?_); (case side1 => exact ap6); rintro e w18 ⟨rfl, hb⟩; refine ⟨_, rfl, ?_⟩; have n0_ := Aside0.mk (below_step ap1 hb); clear HB; have HB := n0_; clear n0_; (try clear hb); (try clear hb2); (try clear hk); (try clear hi)))
  go_ret
  exact ⟨by first | rfl | (simp [errW_none, errW_some, bne_nil8, beq_nil8]; done) | (simp [errW_none, errW_some] <;> rfl) | (simp [*, errW_none, errW_some] <;> rfl), by repeat (first | (with_reducible first | exact HB.out | apply below_alloc | apply pw_below_drewN | apply below_drew1) | exact HB.out)⟩
def L15DnParses.Pure : Prop := ∀ (a0 : ByteArray), a0.size ≤ 140737488351232 → ∃ k, L15DnParses.f k a0 = some true
theorem L15DnParses.walk (P : L15DnParses.Pure) (a0 : ByteArray) (w : World) (hG : Gw w) (w0 : a0.size ≤ 140737488351232) :
  Calls Tryd.prog 4 #[.string a0] w fun e w' => e = .returned (.bool true) ∧ Below w.heap.size w w' := by
 obtain ⟨k, h⟩ := P a0 w0
 refine (L15DnParses.calls k a0 true w hG h).mono ?_
 rintro e w' ⟨rfl, hd⟩
 exact ⟨rfl, hd⟩
end Go.Proofs.YtkklacijhmoopaaDoor.Print
namespace Go.Proofs.YtkklacijhmoopaaDoor.Print
open Go.RowKit Go.Proofs.YtkklacijhmoopaaDoorW.PrintWords Go.Proofs.YtkklacijhmoopaaDoorW.PrintLast Go.Proofs.YtkklacijhmoopaaDoorW.PrintMore Go.Proofs.YtkklacijhmoopaaDoor.Pure
theorem DnParses : L15DnParses.Pure := by
  intro s hs
  refine Ev.some' ?_
  unfold L15DnParses.f
  refine Ev.bind awake15_ev (Ev.pos rfl ?_)
  by_cases h : (s.size : Int) > 3000
  · exact Ev.pos h Ev.rfl'
  · refine Ev.neg h ?_
    obtain ⟨n, e, h1, h2, h3, h4⟩ := parse_both s (by omega)
    exact Ev.bind h1 (Ev.bind h2 (Ev.pos rfl (Ev.bind (equal_ev n h3 h4) Ev.rfl')))
end Go.Proofs.YtkklacijhmoopaaDoor.Print
namespace Go
variable {H : Type} {enc : TypeId × Value → H}
theorem handed_laid {a : Assume} {C : Checked} {os : Os} {f : FuncId} {fn : Func} {s : ChangeSpec} {conds : List PathCond} {apart fresh handsOn again : Bool} {X : World → Array Value → Prop}
    (hX : ∀ (w w' : World) (args : Array Value), w.heap = w'.heap → X w args → X w' args)
    (own : ownKnob C.prog.godebug = none) (started : os.Started) (noInit : C.prog.inits.idxOf? f = none) (hfn : C.prog.funcs[f]? = some fn)
    (witness : ∃ (w : World) (tape : Tape) (i : Input), w.os = os ∧ (w.forCall tape i).Shaped C.prog ∧ i.vars = [] ∧ Input.okWide C.prog (w.forCall tape i) .any w.heap.size f i ∧
      ((s.pre enc C.prog fn conds apart (w.forCall tape i).memory i.args ∧ X (w.forCall tape i).memory i.args) ∧ sizedMet enc C.prog fn (OpenSpec.ofChange s) apart (w.forCall tape i).memory i.args) ∧ a.holds C.prog (lone (Frame.enter C.prog f i.args .normal) [] (w.forCall tape i)))
    (contract : ∀ (W : World) (base : Nat) (args : Array Value) (ds gs : List (DataW H)) (before : List MemPlace),
      (∀ (j : Nat) t v, fn.params[j]? = some t → args[j]? = some v → Value.okWide C.prog W .any base t v) →
      DataW.Whole enc C.prog fn.params.toList s.vars apart W args.toList ds gs before →
      conds.all (PathCond.test C.prog ⟨fn.params.toList, ds, s.plain.varTypes C.prog, gs⟩) = true →
      (DataW.weightsEach C.prog (fn.params.toList ++ s.plain.varTypes C.prog) (ds ++ gs)).all (· ≤ reachBytes) = true → X W args →
      W.ShapedOpen C.prog →
      a.holds C.prog (lone (Frame.enter C.prog f args .normal) [] W) →
      Calls C.prog f args W fun e W' => ∃ v, e = .returned v ∧ s.post enc C.prog fn apart fresh handsOn again W args v W') :
    ReturnsInHanded a C os f .any (fun w args => (s.pre enc C.prog fn conds apart w args ∧ X w args) ∧ sizedMet enc C.prog fn (OpenSpec.ofChange s) apart w args) (s.post enc C.prog fn apart fresh handsOn again) := by
  refine returnsInHanded_of_calls own started noInit witness ?_
  intro w tape i _ hsh _ hok hpre hholds
  obtain ⟨_, _, _, fn', hfn', _, _, _, _, hval⟩ := hok
  have e : fn' = fn := Option.some.inj (hfn'.symm.trans hfn)
  subst e
  obtain ⟨⟨⟨ds, gs, before, hw, hc⟩, hx⟩, hz⟩ := hpre
  have hw' := DataW.Whole.of_heap (w' := w.forCall tape i) (by rfl) hw
  refine (contract (w.forCall tape i) w.heap.size i.args ds gs before hval hw' hc (hz.weights hw) (hX _ _ _ (by rfl) hx) hsh hholds).mono fun e W' ⟨v, he, hp⟩ => ?_
  subst he
  exact ChangeSpec.post_blind hp
end Go
namespace Go.Proofs.YtkklacijhmoopaaDoor
open Go.ChangeShapes Go.WideShapes Go.ChangeAt Go.RowKit
open Go.ChangeMaps (open_string shut_string)
set_option maxRecDepth 100000
theorem own : ownKnob Tryd.prog.godebug = none := by kernel_rfl
def laid2 : List (String × DataW Unit) := [("unicode/utf8.acceptRanges", Rows.laid_unicode_utf8_acceptRanges), ("unicode/utf8.first", Rows.laid_unicode_utf8_first)]
theorem first_is : (Rows.laid_unicode_utf8_first : DataW Unit) = Lib.firstData := by kernel_rfl
theorem accept_is : (Rows.laid_unicode_utf8_acceptRanges : DataW Unit) = Lib.acceptData := by kernel_rfl
def ren : Go.Shelf.Ren := ⟨fun n => n, fun | 5 => 5 | 119 => 158 | 138 => 160 | 139 => 161 | n => n, fun | 3 => 1 | 4 => 2 | n => n⟩
theorem u8types : U8Types Tryd.prog ren := { t5 := Tryd.underlying5, t119 := Tryd.underlying158, t138 := Tryd.underlying160, t139 := Tryd.underlying161 }
theorem u8extra : U8Extra Tryd.prog ren := { n3 := by kernel_rfl, n4 := by kernel_rfl, y3 := by kernel_rfl, y4 := by kernel_rfl, c5 := by kernel_rfl, c119 := by kernel_rfl, c138 := by kernel_rfl }
theorem gw_of {W : World} (hsh : W.ShapedOpen Tryd.prog) (hL : laidMetH Tryd.prog laid2 W) : Print.Gw W := by
  rw [MakeChecks.laidMetH_plain _ _ _ (by kernel_rfl)] at hL
  refine ⟨cell_of_shapedOpen_int (zero := #[.int .i64 0]) (t := 3) hsh (of_decide_eq_true (by kernel_rfl)) (by kernel_rfl) rfl (by kernel_rfl) (by kernel_rfl) Tryd.underlying3, ?_⟩
  refine utf8Tabs_of_readsT u8types u8extra ?_ ?_
  · rw [← first_is]; exact Lib.laidMet.reads hL (by simp [laid2])
  · rw [← accept_is]; exact Lib.laidMet.reads hL (by simp [laid2])
end Go.Proofs.YtkklacijhmoopaaDoor
