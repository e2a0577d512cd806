-- laid together by pack.py (a program of this session)
import Derived.Test.YtkklacijhmoopaaDoorALdifParses2
namespace Go.Proofs.YtkklacijhmoopaaDoor.Print
open Go.RowKit Go.Proofs.YtkklacijhmoopaaDoorW.PrintWords Go.Proofs.YtkklacijhmoopaaDoorW.PrintLast Go.Proofs.YtkklacijhmoopaaDoorW.PrintMore
attribute [local go_sem] max2_int min2_int max_two min_two max_three min_three max_four min_four
set_option linter.unusedVariables false
set_option linter.unusedSimpArgs false
set_option maxHeartbeats 8000000 in
set_option maxRecDepth 100000 in
theorem R21Rows.calls (k : Nat) (a0 : ByteArray) (r : List (S56)) (w : World) (h : R21Rows.f k a0 = some r) :
  Calls Tryd.prog 30 #[.string a0] w fun e w' => ∃ v0_ : Value, e = .returned (v0_) ∧ Kd.R k56 56 w' w.heap.size (fun _ => True) v0_ r ∧ Below w.heap.size w w' := by
 have hu56 := Tryd.underlying56
 have HB := Aside0.mk (Below.refl w.heap.size w)
 have H : (R21Rows.l0 k a0 (([] : List (S56))) 0 0) = some r := h
 clear h
 obtain ⟨y180, hy180⟩ : ∃ y_ : List (S56), y_ = (([] : List (S56))) := ⟨_, rfl⟩
 replace H : (R21Rows.l0 k a0 y180 0 0) = some r := by first | (rw [hy180]; with_reducible exact H) | (have H2_ := (Option.bind_some _ _).symm.trans H; rw [hy180]; with_reducible exact H2_) | (have H2_ := (Option.bind_some _ _).symm.trans H; with_reducible exact H2_) | with_reducible exact H | (rw [hy180]; exact H) | exact H
 have Ny180 := Aside0.mk hy180
 clear hy180
 have H' := Aside0.mk H
 clear H
 go_enter Tryd.func30, Tryd.ntmps30
 go_wp2_with (first | ((with_reducible refine gate_dst (N := 8) rfl ?_); (try (refine gate_guard (by rfl) ?_; dsimp only)); refine Kd.R_lit k56 _ 56 ?hg (N := 8) ?hd (xs := ([] : List (S56))) (inner := []) (ok := fun _ => True) (okp := fun _ => True) ?hr ?hp (fun _ hk => hk) trivial (Below.refl _ _) (Nat.le_refl _) (by simp) ?_; (case hd => rfl); (case hg => rfl); (case hr => first | (go_simp; done) | (go_simp; rfl)); (case hp => exact (Reps.none _ _)); intro v181 w2 ho3 hb hg_ hnew_; clear hg_ hnew_; (first | rw [← Ny180.out] at ho3 | (simp only [Int.reduceToNat] at ho3; rw [← Ny180.out] at ho3)); have n0_ := Aside0.mk (Kd.R_lower ho3 (below_size ap1)); have n1_ := Aside0.mk (below_step ap1 hb); clear HB; have HO182 := n0_; have HB := n1_; clear n0_ n1_; clear hb ho3))
 go_loopg [3, 4, 5] k (fun kq v3 v4 v5 w' => ∃ (x3_1 : List (S56)) (x4_1 : Int) (x5_1 : Int), v4 = .int .i64 x4_1 ∧ v5 = .int .i64 x5_1 ∧ Aside0 (R21Rows.l0 kq a0 x3_1 x4_1 x5_1 = some r) ∧ Aside0 (kq ≤ k) ∧ Aside0 (Kd.R k56 56 w' w.heap.size (fun _ => True) v3 x3_1) ∧ Aside0 (Below w.heap.size w w'))
 case atStart => exact ⟨(y180), (0), (0), ap2, ap2, H', ⟨Nat.le_refl _⟩, ⟨by (with_reducible repeat (first | apply Kd.R_alloc | apply Kd.R_drewN | apply Kd.R_drew)); exact HO182.out⟩, ⟨by repeat (first | (with_reducible first | exact HB.out | apply below_alloc | apply pw_below_drewN | apply below_drew1) | exact HB.out)⟩⟩
 case round =>
  clear H'
  try clear p2
  try clear c3
  obtain ⟨x3_1, x4_1, x5_1, rfl, rfl, HA, HK1, HO_3, HB⟩ := hrel
  cases gk with
  | zero => exact absurd HA.out (by simp [R21Rows.l0])
  | succ k1 =>
   have H := HA.out
   clear HA
   simp only [R21Rows.l0] at H
   by_cases c4 : x5_1 < (a0.size : Int)
   ·
    rw [if_pos c4] at H
    have c4b0 := decide_eq_true c4
    clear c4
    have HC5 := Aside0.mk H
    clear H
    go_upto_block 2 with (fail)
    go_cut [6] (fun v6 wc => ∃ (kq : Nat) (x6_4 : Int), v6 = .int .i64 x6_4 ∧ Aside0 (R21Rows.j2 kq a0 x3_1 x4_1 x5_1 x6_4 = some r) ∧ Aside0 (kq ≤ k1) ∧ Aside0 (Kd.R k56 56 wc w.heap.size (fun _ => True) u3 x3_1) ∧ Aside0 (Below w.heap.size w wc))
    case first =>
     have H := HC5.out
     clear HC5
     have H' := Aside0.mk H
     clear H
     go_wp2
     go_loopg [6] k1 (fun kq v6 w' => ∃ (x6_2 : Int), v6 = .int .i64 x6_2 ∧ Aside0 (R21Rows.l1 kq a0 x3_1 x4_1 x5_1 x6_2 = some r) ∧ Aside0 (kq ≤ k1) ∧ Aside0 (Kd.R k56 56 w' w.heap.size (fun _ => True) u3 x3_1) ∧ Aside0 (Below w.heap.size w w'))
     case atStart => exact ⟨(x5_1), ap2, H', ⟨Nat.le_refl _⟩, ⟨by (with_reducible repeat (first | apply Kd.R_alloc | apply Kd.R_drewN | apply Kd.R_drew)); exact HO_3.out⟩, ⟨by repeat (first | (with_reducible first | exact HB.out | apply below_alloc | apply pw_below_drewN | apply below_drew1) | exact HB.out)⟩⟩
     case round =>
      clear H'
      try clear p2
      try clear c3
      try clear c4
      try clear c4b0
      try clear p2
      obtain ⟨x6_2, rfl, HA, HK2, HO_3, HB⟩ := hrel
      cases gk with
      | zero => exact absurd HA.out (by simp [R21Rows.l1])
      | succ k2 =>
       have H := HA.out
       clear HA
       simp only [R21Rows.l1] at H
       by_cases c6 : x6_2 < (a0.size : Int)
       ·
        rw [if_pos c6] at H
        have c6b0 := decide_eq_true c6
        clear c6
        (first | rw [c6b0] | (simp only [i64_w, i32_w]; rw [c6b0]) | skip)
        by_cases c7 : 0 ≤ x6_2
        ·
         rw [if_pos c7] at H
         have c7b0 := decide_eq_true c7
         clear c7
         by_cases c9 : (bt a0 x6_2) = 10
         ·
          rw [if_pos c9] at H
          have c9b0 : ((bt a0 x6_2) == 10) = true := beq_iff_eq.mpr c9
          have c9b1 : ((bt a0 x6_2) != 10) = false := bne_eq_false_iff_eq.mpr c9
          clear c9
          have H' := Aside0.mk H
          clear H
          have p8 : 0 ≤ (x6_2 : Int) := of_decide_eq_true ap0
          have q8 : x6_2 < (a0.size : Int) := of_decide_eq_true ap0
          have hx8 := bt_at a0 x6_2
          replace p8 := eq_true p8
          replace q8 := eq_true q8
          go_wp2
          first | go_meet | (simp only [c9b0] at *; go_meet)
          case rel => exact ⟨_, (x6_2), ap2, H', ⟨by have := HK1.out; have := HK2.out; first | omega | exact Nat.le_refl _⟩, ⟨by (with_reducible repeat (first | apply Kd.R_alloc | apply Kd.R_drewN | apply Kd.R_drew)); exact HO_3.out⟩, ⟨by repeat (first | (with_reducible first | exact HB.out | apply below_alloc | apply pw_below_drewN | apply below_drew1) | exact HB.out)⟩⟩
         ·
          rw [if_neg c9] at H
          have c9b0 : ((bt a0 x6_2) == 10) = false := beq_eq_false_iff_ne.mpr c9
          have c9b1 : ((bt a0 x6_2) != 10) = true := bne_iff_ne.mpr c9
          have H' := Aside0.mk H
          clear H
          have p8 : 0 ≤ (x6_2 : Int) := of_decide_eq_true ap0
          have q8 : x6_2 < (a0.size : Int) := of_decide_eq_true ap0
          have hx8 := bt_at a0 x6_2
          replace p8 := eq_true p8
          replace q8 := eq_true q8
          go_wp2
          go_roundg k2
          case measure => have := HK1.out; have := HK2.out; omega
          case rel => exact ⟨(wrap64 (x6_2 + 1)), ap2, H', ⟨by have := HK1.out; have := HK2.out; omega⟩, ⟨by (with_reducible repeat (first | apply Kd.R_alloc | apply Kd.R_drewN | apply Kd.R_drew)); exact HO_3.out⟩, ⟨by repeat (first | (with_reducible first | exact HB.out | apply below_alloc | apply pw_below_drewN | apply below_drew1) | exact HB.out)⟩⟩
        ·
         rw [if_neg c7] at H
         exact absurd H (by simp)
       ·
        rw [if_neg c6] at H
        have c6b0 := decide_eq_false c6
        clear c6
        (first | rw [c6b0] | (simp only [i64_w, i32_w]; rw [c6b0]) | skip)
        have H' := Aside0.mk H
        clear H
        go_wp2
        first | go_meet | (simp only [c9b0] at *; go_meet) | (simp only [c9b0] at *; go_meet)
        case rel => exact ⟨_, (x6_2), ap2, H', ⟨by have := HK1.out; have := HK2.out; first | omega | exact Nat.le_refl _⟩, ⟨by (with_reducible repeat (first | apply Kd.R_alloc | apply Kd.R_drewN | apply Kd.R_drew)); exact HO_3.out⟩, ⟨by repeat (first | (with_reducible first | exact HB.out | apply below_alloc | apply pw_below_drewN | apply below_drew1) | exact HB.out)⟩⟩
    case rest =>
     clear HC5
     try clear p2
     try clear c3
     try clear c4
     try clear c4b0
     try clear c6
     try clear c6b0
     try clear p6
     try clear c7
     try clear c7b0
     try clear p8
     try clear q8
     try clear hx8
     try clear c9
     try clear c9b0
     try clear c9b1
     try clear p2
     try clear p8
     try clear q8
     obtain ⟨kq, x6_4, rfl, HA, HJ4, HO_3, HB⟩ := hcut
     cases kq with
     | zero => exact absurd HA.out (by simp [R21Rows.j2])
     | succ kj4 =>
      have H := HA.out
      clear HA
      simp only [R21Rows.j2] at H
      by_cases c10 : 0 ≤ x5_1
      ·
       rw [if_pos c10] at H
       have c10b0 := eq_true c10
       have c10b1 := decide_eq_true c10
       clear c10
       by_cases c11 : x5_1 ≤ x6_4
       ·
        rw [if_pos c11] at H
        have c11b0 := eq_true c11
        have c11b1 := decide_eq_true c11
        clear c11
        by_cases c12 : x6_4 ≤ (a0.size : Int)
        ·
         rw [if_pos c12] at H
         have c12b0 := eq_true c12
         have c12b1 := decide_eq_true c12
         clear c12
         obtain ⟨cx_, hcx_⟩ : ∃ c_ : ByteArray, (a0.extract (x5_1 : Int).toNat (x6_4 : Int).toNat) = c_ := ⟨_, rfl⟩
         rw [hcx_] at H
         have HC13 := Aside0.mk H
         clear H
         go_upto_region 9 with (fail)
         go_cut [46] (fun v46 wc => ∃ (kq : Nat) (x46_12 : Bool), v46 = .bool x46_12 ∧ Aside0 (R21Rows.j3 kq a0 x3_1 x4_1 x6_4 cx_ x46_12 = some r) ∧ Aside0 (kq ≤ kj4) ∧ Aside0 (Kd.R k56 56 wc w.heap.size (fun _ => True) u3 x3_1) ∧ Aside0 (Below w.heap.size w wc))
         case first =>
          have H := HC13.out
          clear HC13
          by_cases c14 : x6_4 < (a0.size : Int)
          ·
           rw [if_pos c14] at H
           have c14b0 := decide_eq_true c14
           clear c14
           (first | rw [c14b0] | (simp only [i64_w, i32_w]; rw [c14b0]) | skip)
           by_cases c15 : (cx_.size : Int) > 0
           ·
            rw [if_pos c15] at H
            have c15b0 := decide_eq_true c15
            have c15b1 : decide (0 < cx_.size) = true := decide_eq_true (by omega)
            have c15e := c15
            (try simp only [ByteArray.size_extract, Nat.min_self] at c15e)
            clear c15
            obtain ⟨ji16, hji16⟩ : ∃ j_ : Int, (wrap64 ((cx_.size : Int) - 1)) = j_ := ⟨_, rfl⟩
            replace H : (if 0 ≤ (ji16) then (if (ji16) < (cx_.size : Int) then (R21Rows.j3 kj4 a0 x3_1 x4_1 x6_4 cx_ ((bt cx_ (ji16)) == 13)) else (none)) else (none)) = some r := by first | (rw [hji16] at H; exact H) | (simp only [hji16] at H ⊢; exact H)
            have hji16w : (IntKind.i64.wrap ((cx_.size : Int) - 1)) = ji16 := (i64_w _).trans hji16
            by_cases c17 : 0 ≤ (ji16)
            ·
             rw [if_pos c17] at H
             have c17b0 := decide_eq_true c17
             clear c17
             by_cases c18 : (ji16) < (cx_.size : Int)
             ·
              rw [if_pos c18] at H
              have c18b0 := decide_eq_true c18
              have c18e := c18
              (try simp only [ByteArray.size_extract, Nat.min_self] at c18e)
              clear c18
              have H' := Aside0.mk H
              clear H
              have p19 : 0 ≤ ((ji16) : Int) := of_decide_eq_true ap0
              have q19 : (ji16) < (cx_.size : Int) := of_decide_eq_true ap0
              have hx19 := bt_at cx_ (ji16)
              replace p19 := eq_true p19
              replace q19 := eq_true q19
              go_wp2
              first | go_meet | (simp only [c9b0] at *; go_meet) | (simp only [c9b0] at *; go_meet)
              case rel => exact ⟨_, (((bt cx_ (ji16)) == 13)), (by first | rfl | (simp; done) | (simp only [← hji16] <;> (first | rfl | simp)) | (simp [*]; done)), H', ⟨by have := HK1.out; have := HJ4.out; first | omega | exact Nat.le_refl _⟩, ⟨by (with_reducible repeat (first | apply Kd.R_alloc | apply Kd.R_drewN | apply Kd.R_drew)); exact HO_3.out⟩, ⟨by repeat (first | (with_reducible first | exact HB.out | apply below_alloc | apply pw_below_drewN | apply below_drew1) | exact HB.out)⟩⟩
             ·
              rw [if_neg c18] at H
              exact absurd H (by simp)
            ·
             rw [if_neg c17] at H
             exact absurd H (by simp)
           ·
            rw [if_neg c15] at H
            have c15b0 := decide_eq_false c15
            have c15b1 : decide (0 < cx_.size) = false := decide_eq_false (by omega)
            have c15e := c15
            (try simp only [ByteArray.size_extract, Nat.min_self] at c15e)
            clear c15
            have H' := Aside0.mk H
            clear H
            go_wp2
            first | go_meet | (simp only [c9b0] at *; go_meet) | (simp only [c9b0] at *; go_meet)
            case rel => exact ⟨_, (false), ap2, H', ⟨by have := HK1.out; have := HJ4.out; first | omega | exact Nat.le_refl _⟩, ⟨by (with_reducible repeat (first | apply Kd.R_alloc | apply Kd.R_drewN | apply Kd.R_drew)); exact HO_3.out⟩, ⟨by repeat (first | (with_reducible first | exact HB.out | apply below_alloc | apply pw_below_drewN | apply below_drew1) | exact HB.out)⟩⟩
          ·
           rw [if_neg c14] at H
           have c14b0 := decide_eq_false c14
           clear c14
           (first | rw [c14b0] | (simp only [i64_w, i32_w]; rw [c14b0]) | skip)
           have H' := Aside0.mk H
           clear H
           go_wp2
           first | go_meet | (simp only [c9b0] at *; go_meet) | (simp only [c9b0] at *; go_meet)
           case rel => exact ⟨_, (false), ap2, H', ⟨by have := HK1.out; have := HJ4.out; first | omega | exact Nat.le_refl _⟩, ⟨by (with_reducible repeat (first | apply Kd.R_alloc | apply Kd.R_drewN | apply Kd.R_drew)); exact HO_3.out⟩, ⟨by repeat (first | (with_reducible first | exact HB.out | apply below_alloc | apply pw_below_drewN | apply below_drew1) | exact HB.out)⟩⟩
         case rest =>
          clear HC13
          try clear c1
          try clear p1
          try clear q1
          try clear hx1
          try clear p2
          try clear c3
          try clear c4
          try clear c4b0
          try clear c6
          try clear c6b0
          try clear p6
          try clear c7
          try clear c7b0
          try clear p8
          try clear q8
          try clear hx8
          try clear c9
          try clear c9b0
          try clear c9b1
          try clear c10
          try clear c10b0
          try clear c10b1
          try clear c11
          try clear c11b0
          try clear c11b1
          try clear c12
          try clear c12b0
          try clear c12b1
          try clear c14
          try clear c14b0
          try clear c15
          try clear c15b0
          try clear c15b1
          try clear c17
          try clear c17b0
          try clear c18
          try clear c18b0
          try clear p19
          try clear q19
          try clear hx19
          try clear p19
          try clear p2
          try clear p6
          try clear p8
          try clear q19
          try clear q8
          obtain ⟨kq, x46_12, rfl, HA, HJ12, HO_3, HB⟩ := hcut
          cases kq with
          | zero => exact absurd HA.out (by simp [R21Rows.j3])
          | succ kj12 =>
           have H := HA.out
           clear HA
           simp only [R21Rows.j3] at H
           have HC20 := Aside0.mk H
           clear H
           go_upto_if 46 with (fail)
           go_cut [7] (fun v7 wc => ∃ (kq : Nat) (x7_19 : ByteArray), v7 = .string x7_19 ∧ Aside0 (R21Rows.j4 kq a0 x3_1 x4_1 x6_4 x7_19 = some r) ∧ Aside0 (kq ≤ kj12) ∧ Aside0 (Kd.R k56 56 wc w.heap.size (fun _ => True) u3 x3_1) ∧ Aside0 (Below w.heap.size w wc))
           case first =>
            have H := HC20.out
            clear HC20
            by_cases c21 : x46_12 = true
            ·
             subst c21
             rw [if_pos rfl] at H
             obtain ⟨ji22, hji22⟩ : ∃ j_ : Int, (wrap64 ((cx_.size : Int) - 1)) = j_ := ⟨_, rfl⟩
             replace H : (if 0 ≤ (ji22) then (if (ji22) ≤ (cx_.size : Int) then (R21Rows.j4 kj12 a0 x3_1 x4_1 x6_4 (cx_.extract 0 ((ji22) : Int).toNat)) else (none)) else (none)) = some r := by first | (rw [hji22] at H; exact H) | (simp only [hji22] at H ⊢; exact H)
             have hji22w : (IntKind.i64.wrap ((cx_.size : Int) - 1)) = ji22 := (i64_w _).trans hji22
             by_cases c23 : 0 ≤ (ji22)
             ·
              rw [if_pos c23] at H
              have c23b0 := eq_true c23
              have c23b1 := decide_eq_true c23
              clear c23
              by_cases c24 : (ji22) ≤ (cx_.size : Int)
              ·
               rw [if_pos c24] at H
               have c24b0 := eq_true c24
               have c24b1 := decide_eq_true c24
               have c24e := c24
               (try simp only [ByteArray.size_extract, Nat.min_self] at c24e)
               clear c24
               have H' := Aside0.mk H
               clear H
               go_wp2
               first | go_meet | (simp only [c9b0] at *; go_meet) | (simp only [c9b0] at *; go_meet)
               case rel => exact ⟨_, (cx_.extract 0 ((ji22) : Int).toNat), (by first | rfl | (simp; done) | (simp only [← hji22] <;> (first | rfl | simp)) | (simp [*]; done)), H', ⟨by have := HK1.out; have := HJ4.out; have := HJ12.out; first | omega | exact Nat.le_refl _⟩, ⟨by (with_reducible repeat (first | apply Kd.R_alloc | apply Kd.R_drewN | apply Kd.R_drew)); exact HO_3.out⟩, ⟨by repeat (first | (with_reducible first | exact HB.out | apply below_alloc | apply pw_below_drewN | apply below_drew1) | exact HB.out)⟩⟩
              ·
               rw [if_neg c24] at H
               exact absurd H (by simp)
             ·
              rw [if_neg c23] at H
              exact absurd H (by simp)
            ·
             replace c21 := Bool.eq_false_iff.mpr c21
             subst c21
             rw [if_neg (show ¬ (false = true) by decide)] at H
             have H' := Aside0.mk H
             clear H
             go_wp2
             first | go_meet | (simp only [c9b0] at *; go_meet) | (simp only [c9b0] at *; go_meet)
             case rel => exact ⟨_, (cx_), ap2, H', ⟨by have := HK1.out; have := HJ4.out; have := HJ12.out; first | omega | exact Nat.le_refl _⟩, ⟨by (with_reducible repeat (first | apply Kd.R_alloc | apply Kd.R_drewN | apply Kd.R_drew)); exact HO_3.out⟩, ⟨by repeat (first | (with_reducible first | exact HB.out | apply below_alloc | apply pw_below_drewN | apply below_drew1) | exact HB.out)⟩⟩
           case rest =>
            clear HC20
            try clear c1
            try clear p1
            try clear q1
            try clear hx1
            try clear c2
            try clear p2
            try clear c3
            try clear c4
            try clear c4b0
            try clear c6
            try clear c6b0
            try clear p6
            try clear c7
            try clear c7b0
            try clear p8
            try clear q8
            try clear hx8
            try clear c9
            try clear c9b0
            try clear c9b1
            try clear c10
            try clear c10b0
            try clear c10b1
            try clear c11
            try clear c11b0
            try clear c11b1
            try clear c12
            try clear c12b0
            try clear c12b1
            try clear c14
            try clear c14b0
            try clear c15
            try clear c15b0
            try clear c15b1
            try clear c17
            try clear c17b0
            try clear c18
            try clear c18b0
            try clear p19
            try clear q19
            try clear hx19
            try clear c21
            try clear c23
            try clear c23b0
            try clear c23b1
            try clear c24
            try clear c24b0
            try clear c24b1
            try clear p1
            try clear p19
            try clear p2
            try clear p6
            try clear p8
            try clear q1
            try clear q19
            try clear q8
            obtain ⟨kq, x7_19, rfl, HA, HJ19, HO_3, HB⟩ := hcut
            cases kq with
            | zero => exact absurd HA.out (by simp [R21Rows.j4])
            | succ kj19 =>
             have H := HA.out
             clear HA
             simp only [R21Rows.j4] at H
             have HC25 := Aside0.mk H
             clear H
             go_upto_region 13 with (fail)
             go_cut [63] (fun v63 wc => ∃ (kq : Nat) (x63_24 : Bool), v63 = .bool x63_24 ∧ Aside0 (R21Rows.j5 kq a0 x3_1 (wrap64 (x4_1 + 1)) (wrap64 (x6_4 + 1)) x7_19 x63_24 = some r) ∧ Aside0 (kq ≤ kj19) ∧ Aside0 (Kd.R k56 56 wc w.heap.size (fun _ => True) u3 x3_1) ∧ Aside0 (Below w.heap.size w wc))
             case first =>
              have H := HC25.out
              clear HC25
              by_cases c26 : (x7_19.size : Int) = 0
              ·
               rw [if_pos c26] at H
               have c26b0 : ((x7_19.size : Int) == 0) = true := beq_iff_eq.mpr c26
               have c26b1 : ((x7_19.size : Int) != 0) = false := bne_eq_false_iff_eq.mpr c26
               clear c26
               (first | rw [c26b0] | (simp only [i64_w, i32_w]; rw [c26b0]) | skip)
               have H' := Aside0.mk H
               clear H
               go_wp2
               first | go_meet | (simp only [c26b0] at *; go_meet) | (simp only [c9b0] at *; go_meet) | (simp only [c9b0] at *; go_meet)
               case rel => exact ⟨_, (true), ap2, H', ⟨by have := HK1.out; have := HJ4.out; have := HJ12.out; have := HJ19.out; first | omega | exact Nat.le_refl _⟩, ⟨by (with_reducible repeat (first | apply Kd.R_alloc | apply Kd.R_drewN | apply Kd.R_drew)); exact HO_3.out⟩, ⟨by repeat (first | (with_reducible first | exact HB.out | apply below_alloc | apply pw_below_drewN | apply below_drew1) | exact HB.out)⟩⟩
              ·
               rw [if_neg c26] at H
               have c26b0 : ((x7_19.size : Int) == 0) = false := beq_eq_false_iff_ne.mpr c26
               have c26b1 : ((x7_19.size : Int) != 0) = true := bne_iff_ne.mpr c26
               (first | rw [c26b0] | (simp only [i64_w, i32_w]; rw [c26b0]) | skip)
               by_cases c27 : 0 < (x7_19.size : Int)
               ·
                rw [if_pos c27] at H
                have c27b0 := decide_eq_true c27
                have c27b1 : decide (0 < x7_19.size) = true := decide_eq_true (by omega)
                clear c27
                have H' := Aside0.mk H
                clear H
                have p28 : 0 ≤ (0 : Int) := (by omega)
                have q28 : 0 < x7_19.size := (by have : (0 : Int) < (x7_19.size : Int) := of_decide_eq_true ap0; omega)
                have hx28 : ∀ h : 0 < x7_19.size, ((x7_19[0]'h).toNat : Int) = bt x7_19 0 := bt_at x7_19 0
                clear p28
                have qi28 : (0 < (x7_19.size : Int)) = True := eq_true (of_decide_eq_true ap0)
                replace q28 := eq_true q28
                go_wp2
                first | go_meet | (simp only [c26b0] at *; go_meet) | (simp only [c26b0] at *; go_meet) | (simp only [c9b0] at *; go_meet)
                case rel => exact ⟨_, (((bt x7_19 0) != 32)), ap2, H', ⟨by have := HK1.out; have := HJ4.out; have := HJ12.out; have := HJ19.out; first | omega | exact Nat.le_refl _⟩, ⟨by (with_reducible repeat (first | apply Kd.R_alloc | apply Kd.R_drewN | apply Kd.R_drew)); exact HO_3.out⟩, ⟨by repeat (first | (with_reducible first | exact HB.out | apply below_alloc | apply pw_below_drewN | apply below_drew1) | exact HB.out)⟩⟩
               ·
                rw [if_neg c27] at H
                exact absurd H (by simp)
             case rest =>
              clear HC25
              try clear c1
              try clear p1
              try clear q1
              try clear hx1
              try clear c2
              try clear p2
              try clear q2
              try clear hx2
              try clear qi2
              try clear c3
              try clear c4
              try clear c4b0
              try clear c6
              try clear c6b0
              try clear p6
              try clear c7
              try clear c7b0
              try clear p8
              try clear q8
              try clear hx8
              try clear c9
              try clear c9b0
              try clear c9b1
              try clear c10
              try clear c10b0
              try clear c10b1
              try clear c11
              try clear c11b0
              try clear c11b1
              try clear c12
              try clear c12b0
              try clear c12b1
              try clear c14
              try clear c14b0
              try clear c15
              try clear c15b0
              try clear c15b1
              try clear c17
              try clear c17b0
              try clear c18
              try clear c18b0
              try clear p19
              try clear q19
              try clear hx19
              try clear c21
              try clear c23
              try clear c23b0
              try clear c23b1
              try clear c24
              try clear c24b0
              try clear c24b1
              try clear c26
              try clear c26b0
              try clear c26b1
              try clear c27
              try clear c27b0
              try clear c27b1
              try clear p28
              try clear q28
              try clear hx28
              try clear qi28
              try clear p1
              try clear p19
              try clear p2
              try clear p28
              try clear p6
              try clear p8
              try clear q1
              try clear q19
              try clear q28
              try clear q8
              obtain ⟨kq, x63_24, rfl, HA, HJ24, HO_3, HB⟩ := hcut
              cases kq with
              | zero => exact absurd HA.out (by simp [R21Rows.j5])
              | succ kj24 =>
               have H := HA.out
               clear HA
               simp only [R21Rows.j5] at H
               by_cases c29 : x63_24 = true
               ·
                subst c29
                rw [if_pos rfl] at H
                by_cases c30 : x3_1.length < 4398046511104
                ·
                 rw [if_pos c30] at H
                 have LMc30 := Aside0.mk c30
                 clear c30
                 obtain ⟨y183, hy183⟩ : ∃ y_ : List (S56), y_ = (x3_1 ++ [(⟨x7_19, (wrap64 (x4_1 + 1)), false⟩ : S56)]) := ⟨_, rfl⟩
                 replace H : (R21Rows.l0 kj24 a0 y183 (wrap64 (x4_1 + 1)) (wrap64 (x6_4 + 1))) = some r := by first | (rw [hy183]; with_reducible exact H) | (have H2_ := (Option.bind_some _ _).symm.trans H; rw [hy183]; with_reducible exact H2_) | (have H2_ := (Option.bind_some _ _).symm.trans H; with_reducible exact H2_) | with_reducible exact H | (rw [hy183]; exact H) | exact H
                 have Ny183 := Aside0.mk hy183
                 clear hy183
                 have H' := Aside0.mk H
                 clear H
                 go_wp2_with (first | ((with_reducible refine gate_builtin (b := .append) (xs := #[.tmp 64, .tmp 68]) rfl ?_); (try (refine gate_guard (by rfl) ?_; dsimp only)); at_builtin; refine Kd.R_append k56 (w0 := w) w.heap.size rfl (.tmp 64) (.tmp 68) 53 56 (.agg #[(.string ⟨#[]⟩), (.int .i64 0), (.bool false)]) 32 rfl Tryd.underlying53 info56 rfl (by decide) (by omega) u3 x3_1 (⟨x7_19, (wrap64 (x4_1 + 1)), false⟩ : S56) [.string x7_19, .int .i64 (wrap64 (x4_1 + 1)), .bool false] (fun _ => True) (fun _ => False) rfl rfl ?aP (fun _ hk => hk.elim) ?aF ?aO ?aB ?aS ?aL ?_; (case aP => exact k56_mkM _ _ _ (⟨x7_19, (wrap64 (x4_1 + 1)), false⟩ : S56)); (case aB => exact ap1); (case aF => exact (fun _ _ => trivial)); (case aO => exact (apAR HO_3.out)); (case aS => exact (below_size ap1)); (case aL => have := LMc30.out; omega); intro v184 w31 ho hb hg hat; rw [← Ny183.out] at ho; have n0_ := Aside0.mk (hb); have n1_ := Aside0.mk (ho); clear HB; clear HO_3; have HB := n0_; have HO185 := n1_; clear n0_ n1_; clear ho hb hg hat))
                 go_roundg kj24
                 case measure => have := HK1.out; have := HJ4.out; have := HJ12.out; have := HJ19.out; have := HJ24.out; omega
                 case rel => exact ⟨(y183), ((wrap64 (x4_1 + 1))), ((wrap64 (x6_4 + 1))), ap2, ap2, H', ⟨by have := HK1.out; have := HJ4.out; have := HJ12.out; have := HJ19.out; have := HJ24.out; omega⟩, ⟨by (with_reducible repeat (first | apply Kd.R_alloc | apply Kd.R_drewN | apply Kd.R_drew)); exact HO185.out⟩, ⟨by repeat (first | (with_reducible first | exact HB.out | apply below_alloc | apply pw_below_drewN | apply below_drew1) | exact HB.out)⟩⟩
                ·
                 rw [if_neg c30] at H
                 exact absurd H (by simp)
               ·
                replace c29 := Bool.eq_false_iff.mpr c29
                subst c29
                rw [if_neg (show ¬ (false = true) by decide)] at H
                by_cases c32 : (x3_1.length : Int) = 0
                ·
                 rw [if_pos c32] at H
                 have c32b0 : ((x3_1.length : Int) == 0) = true := beq_iff_eq.mpr c32
                 have c32b1 : ((x3_1.length : Int) != 0) = false := bne_eq_false_iff_eq.mpr c32
                 clear c32
                 by_cases c33 : x3_1.length < 4398046511104
                 ·
                  rw [if_pos c33] at H
                  have LMc33 := Aside0.mk c33
                  clear c33
                  obtain ⟨y186, hy186⟩ : ∃ y_ : List (S56), y_ = (x3_1 ++ [(⟨x7_19, (wrap64 (x4_1 + 1)), true⟩ : S56)]) := ⟨_, rfl⟩
                  replace H : (R21Rows.l0 kj24 a0 y186 (wrap64 (x4_1 + 1)) (wrap64 (x6_4 + 1))) = some r := by first | (rw [hy186]; with_reducible exact H) | (have H2_ := (Option.bind_some _ _).symm.trans H; rw [hy186]; with_reducible exact H2_) | (have H2_ := (Option.bind_some _ _).symm.trans H; with_reducible exact H2_) | with_reducible exact H | (rw [hy186]; exact H) | exact H
                  have Ny186 := Aside0.mk hy186
                  clear hy186
                  have H' := Aside0.mk H
                  clear H
                  obtain ⟨Ao34, co34, eo34⟩ := Kd.R_slice HO_3.out
                  subst eo34
                  go_wp2_with (first | ((with_reducible refine gate_builtin (b := .append) (xs := #[.tmp 92, .tmp 96]) rfl ?_); (try (refine gate_guard (by rfl) ?_; dsimp only)); at_builtin; refine Kd.R_append k56 (w0 := w) w.heap.size rfl (.tmp 92) (.tmp 96) 53 56 (.agg #[(.string ⟨#[]⟩), (.int .i64 0), (.bool false)]) 32 rfl Tryd.underlying53 info56 rfl (by decide) (by omega) (.slice Ao34 x3_1.length co34) x3_1 (⟨x7_19, (wrap64 (x4_1 + 1)), true⟩ : S56) [.string x7_19, .int .i64 (wrap64 (x4_1 + 1)), .bool true] (fun _ => True) (fun _ => False) rfl rfl ?aP (fun _ hk => hk.elim) ?aF ?aO ?aB ?aS ?aL ?_; (case aP => exact k56_mkM _ _ _ (⟨x7_19, (wrap64 (x4_1 + 1)), true⟩ : S56)); (case aB => exact ap1); (case aF => exact (fun _ _ => trivial)); (case aO => exact (apAR HO_3.out)); (case aS => exact (below_size ap1)); (case aL => have := LMc33.out; omega); intro v187 w35 ho hb hg hat; rw [← Ny186.out] at ho; have n0_ := Aside0.mk (hb); have n1_ := Aside0.mk (ho); clear HB; clear HO_3; have HB := n0_; have HO188 := n1_; clear n0_ n1_; clear ho hb hg hat))
                  go_roundg kj24
                  case measure => have := HK1.out; have := HJ4.out; have := HJ12.out; have := HJ19.out; have := HJ24.out; omega
                  case rel => exact ⟨(y186), ((wrap64 (x4_1 + 1))), ((wrap64 (x6_4 + 1))), ap2, ap2, H', ⟨by have := HK1.out; have := HJ4.out; have := HJ12.out; have := HJ19.out; have := HJ24.out; omega⟩, ⟨by (with_reducible repeat (first | apply Kd.R_alloc | apply Kd.R_drewN | apply Kd.R_drew)); exact HO188.out⟩, ⟨by repeat (first | (with_reducible first | exact HB.out | apply below_alloc | apply pw_below_drewN | apply below_drew1) | exact HB.out)⟩⟩
                 ·
                  rw [if_neg c33] at H
                  exact absurd H (by simp)
                ·
                 rw [if_neg c32] at H
                 have c32b0 : ((x3_1.length : Int) == 0) = false := beq_eq_false_iff_ne.mpr c32
                 have c32b1 : ((x3_1.length : Int) != 0) = true := bne_iff_ne.mpr c32
                 have c32b2 : ¬ (x3_1 = []) := fun h_ => c32 (by rw [h_]; rfl)
                 obtain ⟨ji36, hji36⟩ : ∃ j_ : Int, (wrap64 ((x3_1.length : Int) - 1)) = j_ := ⟨_, rfl⟩
                 replace H : (if 0 ≤ (ji36) then (if (ji36) < (x3_1.length : Int) then (if ((rd_T56 x3_1 (ji36)).f0).toList = ([] : List UInt8) then (if x3_1.length < 4398046511104 then (R21Rows.l0 kj24 a0 (x3_1 ++ [(⟨x7_19, (wrap64 (x4_1 + 1)), true⟩ : S56)]) (wrap64 (x4_1 + 1)) (wrap64 (x6_4 + 1))) else (none)) else (if (rd_T56 x3_1 (ji36)).f2 = true then (if x3_1.length < 4398046511104 then (R21Rows.l0 kj24 a0 (x3_1 ++ [(⟨x7_19, (wrap64 (x4_1 + 1)), true⟩ : S56)]) (wrap64 (x4_1 + 1)) (wrap64 (x6_4 + 1))) else (none)) else (if 1 ≤ (x7_19.size : Int) then (if ((rd_T56 x3_1 (ji36)).f0).size + (x7_19.extract 1 x7_19.size).size ≤ 9223372036854775807 then (R21Rows.l0 kj24 a0 (x3_1.set ((ji36) : Int).toNat (⟨((rd_T56 x3_1 (ji36)).f0) ++ (x7_19.extract 1 x7_19.size), (rd_T56 x3_1 (ji36)).f1, (rd_T56 x3_1 (ji36)).f2⟩ : S56)) (wrap64 (x4_1 + 1)) (wrap64 (x6_4 + 1))) else (none)) else (none)))) else (none)) else (none)) = some r := by first | (rw [hji36] at H; exact H) | (simp only [hji36] at H ⊢; exact H)
                 have hji36w : (IntKind.i64.wrap ((x3_1.length : Int) - 1)) = ji36 := (i64_w _).trans hji36
                 by_cases c37 : 0 ≤ (ji36)
                 ·
                  rw [if_pos c37] at H
                  have c37b0 := decide_eq_true c37
                  clear c37
                  by_cases c38 : (ji36) < (x3_1.length : Int)
                  ·
                   rw [if_pos c38] at H
                   have c38b0 := decide_eq_true c38
                   clear c38
                   by_cases c39 : ((rd_T56 x3_1 (ji36)).f0).toList = ([] : List UInt8)
                   ·
                    rw [if_pos c39] at H
                    have c39b0 : (((rd_T56 x3_1 (ji36)).f0).toList == ([] : List UInt8)) = true := beq_iff_eq.mpr c39
                    have c39b1 : (((rd_T56 x3_1 (ji36)).f0).toList != ([] : List UInt8)) = false := bne_eq_false_iff_eq.mpr c39
                    clear c39
                    by_cases c40 : x3_1.length < 4398046511104
                    ·
                     rw [if_pos c40] at H
                     have LMc40 := Aside0.mk c40
                     clear c40
                     obtain ⟨y190, hy190⟩ : ∃ y_ : List (S56), y_ = (x3_1 ++ [(⟨x7_19, (wrap64 (x4_1 + 1)), true⟩ : S56)]) := ⟨_, rfl⟩
                     replace H : (R21Rows.l0 kj24 a0 y190 (wrap64 (x4_1 + 1)) (wrap64 (x6_4 + 1))) = some r := by first | (rw [hy190]; with_reducible exact H) | (have H2_ := (Option.bind_some _ _).symm.trans H; rw [hy190]; with_reducible exact H2_) | (have H2_ := (Option.bind_some _ _).symm.trans H; with_reducible exact H2_) | with_reducible exact H | (rw [hy190]; exact H) | exact H
                     have Ny190 := Aside0.mk hy190
                     clear hy190
                     have H' := Aside0.mk H
                     clear H
                     obtain ⟨Ao41, co41, eo41⟩ := Kd.R_slice HO_3.out
                     subst eo41
                     have p189 : 0 ≤ ((ji36) : Int) := of_decide_eq_true ap0
                     have q189 : (ji36) < (x3_1.length : Int) := of_decide_eq_true ap0
                     obtain ⟨ad189, e189, hx189_0, hx189_1, hx189_2⟩ := at_T56 (Kd.R_reads' HO_3.out).2.2 (ji36) p189 q189
                     cases e189
                     replace p189 := eq_true p189
                     replace q189 := eq_true q189
                     go_wp2_with (first | ((with_reducible refine gate_builtin (b := .append) (xs := #[.tmp 92, .tmp 96]) rfl ?_); (try (refine gate_guard (by rfl) ?_; dsimp only)); at_builtin; refine Kd.R_append k56 (w0 := w) w.heap.size rfl (.tmp 92) (.tmp 96) 53 56 (.agg #[(.string ⟨#[]⟩), (.int .i64 0), (.bool false)]) 32 rfl Tryd.underlying53 info56 rfl (by decide) (by omega) (.slice (some ad189) x3_1.length co41) x3_1 (⟨x7_19, (wrap64 (x4_1 + 1)), true⟩ : S56) [.string x7_19, .int .i64 (wrap64 (x4_1 + 1)), .bool true] (fun _ => True) (fun _ => False) rfl rfl ?aP (fun _ hk => hk.elim) ?aF ?aO ?aB ?aS ?aL ?_; (case aP => exact k56_mkM _ _ _ (⟨x7_19, (wrap64 (x4_1 + 1)), true⟩ : S56)); (case aB => exact ap1); (case aF => exact (fun _ _ => trivial)); (case aO => exact (apAR HO_3.out)); (case aS => exact (below_size ap1)); (case aL => have := LMc40.out; omega); intro v191 w42 ho hb hg hat; rw [← Ny190.out] at ho; have n0_ := Aside0.mk (hb); have n1_ := Aside0.mk (ho); clear HB; clear HO_3; have HB := n0_; have HO192 := n1_; clear n0_ n1_; clear ho hb hg hat))
                     go_roundg kj24
                     case measure => have := HK1.out; have := HJ4.out; have := HJ12.out; have := HJ19.out; have := HJ24.out; omega
                     case rel => exact ⟨(y190), ((wrap64 (x4_1 + 1))), ((wrap64 (x6_4 + 1))), ap2, ap2, H', ⟨by have := HK1.out; have := HJ4.out; have := HJ12.out; have := HJ19.out; have := HJ24.out; omega⟩, ⟨by (with_reducible repeat (first | apply Kd.R_alloc | apply Kd.R_drewN | apply Kd.R_drew)); exact HO192.out⟩, ⟨by repeat (first | (with_reducible first | exact HB.out | apply below_alloc | apply pw_below_drewN | apply below_drew1) | exact HB.out)⟩⟩
                    ·
                     rw [if_neg c40] at H
                     exact absurd H (by simp)
                   ·
                    rw [if_neg c39] at H
                    have c39b0 : (((rd_T56 x3_1 (ji36)).f0).toList == ([] : List UInt8)) = false := beq_eq_false_iff_ne.mpr c39
                    have c39b1 : (((rd_T56 x3_1 (ji36)).f0).toList != ([] : List UInt8)) = true := bne_iff_ne.mpr c39
                    obtain ⟨bq43, hbq43⟩ : ∃ b_ : Bool, b_ = ((rd_T56 x3_1 (ji36)).f2) := ⟨_, rfl⟩
                    replace H : (if bq43 = true then (if x3_1.length < 4398046511104 then (R21Rows.l0 kj24 a0 (x3_1 ++ [(⟨x7_19, (wrap64 (x4_1 + 1)), true⟩ : S56)]) (wrap64 (x4_1 + 1)) (wrap64 (x6_4 + 1))) else (none)) else (if 1 ≤ (x7_19.size : Int) then (if ((rd_T56 x3_1 (ji36)).f0).size + (x7_19.extract 1 x7_19.size).size ≤ 9223372036854775807 then (R21Rows.l0 kj24 a0 (x3_1.set ((ji36) : Int).toNat (⟨((rd_T56 x3_1 (ji36)).f0) ++ (x7_19.extract 1 x7_19.size), (rd_T56 x3_1 (ji36)).f1, bq43⟩ : S56)) (wrap64 (x4_1 + 1)) (wrap64 (x6_4 + 1))) else (none)) else (none))) = some r := by rw [← hbq43] at H; exact H
                    have Nbq43 := Aside0.mk hbq43
                    clear hbq43
                    by_cases c44 : bq43 = true
                    ·
                     subst c44
                     rw [if_pos rfl] at H
                     by_cases c45 : x3_1.length < 4398046511104
                     ·
                      rw [if_pos c45] at H
                      have LMc45 := Aside0.mk c45
                      clear c45
                      obtain ⟨y194, hy194⟩ : ∃ y_ : List (S56), y_ = (x3_1 ++ [(⟨x7_19, (wrap64 (x4_1 + 1)), true⟩ : S56)]) := ⟨_, rfl⟩
                      replace H : (R21Rows.l0 kj24 a0 y194 (wrap64 (x4_1 + 1)) (wrap64 (x6_4 + 1))) = some r := by first | (rw [hy194]; with_reducible exact H) | (have H2_ := (Option.bind_some _ _).symm.trans H; rw [hy194]; with_reducible exact H2_) | (have H2_ := (Option.bind_some _ _).symm.trans H; with_reducible exact H2_) | with_reducible exact H | (rw [hy194]; exact H) | exact H
                      have Ny194 := Aside0.mk hy194
                      clear hy194
                      have H' := Aside0.mk H
                      clear H
                      obtain ⟨Ao46, co46, eo46⟩ := Kd.R_slice HO_3.out
                      subst eo46
                      have p189 : 0 ≤ ((ji36) : Int) := of_decide_eq_true ap0
                      have q189 : (ji36) < (x3_1.length : Int) := of_decide_eq_true ap0
                      obtain ⟨ad189, e189, hx189_0, hx189_1, hx189_2⟩ := at_T56 (Kd.R_reads' HO_3.out).2.2 (ji36) p189 q189
                      (try rw [← Nbq43.out] at hx189_2)
                      cases e189
                      replace p189 := eq_true p189
                      replace q189 := eq_true q189
                      have p193 : 0 ≤ ((ji36) : Int) := of_decide_eq_true ap0
                      have q193 : (ji36) < (x3_1.length : Int) := of_decide_eq_true ap0
                      obtain ⟨ad193, e193, hx193_0, hx193_1, hx193_2⟩ := at_T56 (Kd.R_reads' HO_3.out).2.2 (ji36) p193 q193
                      (try rw [← Nbq43.out] at hx193_2)
                      obtain rfl : ad189 = ad193 := (by injection e193)
                      replace p193 := eq_true p193
                      replace q193 := eq_true q193
                      go_wp2_with (first | ((with_reducible refine gate_builtin (b := .append) (xs := #[.tmp 92, .tmp 96]) rfl ?_); (try (refine gate_guard (by rfl) ?_; dsimp only)); at_builtin; refine Kd.R_append k56 (w0 := w) w.heap.size rfl (.tmp 92) (.tmp 96) 53 56 (.agg #[(.string ⟨#[]⟩), (.int .i64 0), (.bool false)]) 32 rfl Tryd.underlying53 info56 rfl (by decide) (by omega) (.slice (some ad189) x3_1.length co46) x3_1 (⟨x7_19, (wrap64 (x4_1 + 1)), true⟩ : S56) [.string x7_19, .int .i64 (wrap64 (x4_1 + 1)), .bool true] (fun _ => True) (fun _ => False) rfl rfl ?aP (fun _ hk => hk.elim) ?aF ?aO ?aB ?aS ?aL ?_; (case aP => exact k56_mkM _ _ _ (⟨x7_19, (wrap64 (x4_1 + 1)), true⟩ : S56)); (case aB => exact ap1); (case aF => exact (fun _ _ => trivial)); (case aO => exact (apAR HO_3.out)); (case aS => exact (below_size ap1)); (case aL => have := LMc45.out; omega); intro v195 w47 ho hb hg hat; rw [← Ny194.out] at ho; have n0_ := Aside0.mk (hb); have n1_ := Aside0.mk (ho); clear HB; clear HO_3; have HB := n0_; have HO196 := n1_; clear n0_ n1_; clear ho hb hg hat))
                      go_roundg kj24
                      case measure => have := HK1.out; have := HJ4.out; have := HJ12.out; have := HJ19.out; have := HJ24.out; omega
                      case rel => exact ⟨(y194), ((wrap64 (x4_1 + 1))), ((wrap64 (x6_4 + 1))), ap2, ap2, H', ⟨by have := HK1.out; have := HJ4.out; have := HJ12.out; have := HJ19.out; have := HJ24.out; omega⟩, ⟨by (with_reducible repeat (first | apply Kd.R_alloc | apply Kd.R_drewN | apply Kd.R_drew)); exact HO196.out⟩, ⟨by repeat (first | (with_reducible first | exact HB.out | apply below_alloc | apply pw_below_drewN | apply below_drew1) | exact HB.out)⟩⟩
                     ·
                      rw [if_neg c45] at H
                      exact absurd H (by simp)
                    ·
                     replace c44 := Bool.eq_false_iff.mpr c44
                     subst c44
                     rw [if_neg (show ¬ (false = true) by decide)] at H
                     by_cases c48 : 1 ≤ (x7_19.size : Int)
                     ·
                      rw [if_pos c48] at H
                      have c48b0 := eq_true c48
                      have c48b1 := decide_eq_true c48
                      clear c48
                      by_cases c49 : ((rd_T56 x3_1 (ji36)).f0).size + (x7_19.extract 1 x7_19.size).size ≤ 9223372036854775807
                      ·
                       rw [if_pos c49] at H
                       have c49b0 := eq_true c49
                       have c49b1 := decide_eq_true c49
                       try have c49b2 : (9223372036854775807 < ((rd_T56 x3_1 (ji36)).f0).size + (x7_19.extract 1 x7_19.size).size) = False := eq_false (Nat.not_lt.2 c49)
                       (try (have c49b3 := c49b2; simp only [ByteArray.size_extract, Nat.min_self] at c49b3))
                       obtain ⟨y198, hy198⟩ : ∃ y_ : List (S56), y_ = (x3_1.set ((ji36) : Int).toNat (⟨((rd_T56 x3_1 (ji36)).f0) ++ (x7_19.extract 1 x7_19.size), (rd_T56 x3_1 (ji36)).f1, false⟩ : S56)) := ⟨_, rfl⟩
                       replace H : (R21Rows.l0 kj24 a0 y198 (wrap64 (x4_1 + 1)) (wrap64 (x6_4 + 1))) = some r := by first | (rw [hy198]; with_reducible exact H) | (have H2_ := (Option.bind_some _ _).symm.trans H; rw [hy198]; with_reducible exact H2_) | (have H2_ := (Option.bind_some _ _).symm.trans H; with_reducible exact H2_) | with_reducible exact H | (rw [hy198]; exact H) | exact H
                       have Ny198 := Aside0.mk hy198
                       clear hy198
                       have H' := Aside0.mk H
                       clear H
                       obtain ⟨Ao51, co51, eo51⟩ := Kd.R_slice HO_3.out
                       subst eo51
                       have p189 : 0 ≤ ((ji36) : Int) := of_decide_eq_true ap0
                       have q189 : (ji36) < (x3_1.length : Int) := of_decide_eq_true ap0
                       obtain ⟨ad189, e189, hx189_0, hx189_1, hx189_2⟩ := at_T56 (Kd.R_reads' HO_3.out).2.2 (ji36) p189 q189
                       (try rw [← Nbq43.out] at hx189_2)
                       cases e189
                       replace p189 := eq_true p189
                       replace q189 := eq_true q189
                       have p193 : 0 ≤ ((ji36) : Int) := of_decide_eq_true ap0
                       have q193 : (ji36) < (x3_1.length : Int) := of_decide_eq_true ap0
                       obtain ⟨ad193, e193, hx193_0, hx193_1, hx193_2⟩ := at_T56 (Kd.R_reads' HO_3.out).2.2 (ji36) p193 q193
                       (try rw [← Nbq43.out] at hx193_2)
                       obtain rfl : ad189 = ad193 := (by injection e193)
                       replace p193 := eq_true p193
                       replace q193 := eq_true q193
                       try go_wp2
                       have n0_ := Aside0.mk (Kd.R_drew HO_3.out)
                       have n1_ := Aside0.mk (below_drew1 HB.out)
                       clear HO_3
                       clear HB
                       have HO_3 := n0_
                       have HB := n1_
                       clear n0_ n1_
                       have p197 : 0 ≤ ((ji36) : Int) := of_decide_eq_true ap0
                       have q197 : (ji36) < (x3_1.length : Int) := of_decide_eq_true ap0
                       obtain ⟨ad197, e197, hx197_0, hx197_1, hx197_2⟩ := at_T56 (Kd.R_reads' HO_3.out).2.2 (ji36) p197 q197
                       (try rw [← Nbq43.out] at hx197_2)
                       obtain rfl : ad189 = ad197 := (by injection e197)
                       replace p197 := eq_true p197
                       replace q197 := eq_true q197
                       have p50 : 0 ≤ ((ji36) : Int) := of_decide_eq_true ap0
                       have q50 : ((ji36) : Int) < ((x3_1.length : Int) : Int) := of_decide_eq_true ap0
                       obtain ⟨go50, co50, eo50, gb50, gl50, cl50, HG50⟩ := Kd.R_form HO_3.out (by omega)
                       (first | cases eo50 | (injection eo50 with ea_ en_ ec_; (first | subst ea_ | (injection ea_ with ea_; subst ea_)); subst ec_; clear en_))
                       have GB50 := Aside0.mk gb50
                       have GG50 := Aside0.mk HG50
                       clear gb50 gl50 HG50
                       (first | simp only [add_plain] at hx189_0 | skip)
                       (first | simp only [add_plain] at hx189_1 | skip)
                       (first | simp only [add_plain] at hx189_2 | skip)
                       (first | simp only [add_plain] at hx193_0 | skip)
                       (first | simp only [add_plain] at hx193_1 | skip)
                       (first | simp only [add_plain] at hx193_2 | skip)
                       (first | simp only [add_plain] at hx197_0 | skip)
                       (first | simp only [add_plain] at hx197_1 | skip)
                       (first | simp only [add_plain] at hx197_2 | skip)
                       obtain ⟨ce50, hcl50, hM50, hcc50, hfr50⟩ := Kd.R_elem HO_3.out z56 ((ji36) : Int) p50 q50
                       obtain rfl := k56_openM hM50
                       have hx50_0 : World.cell? _ ⟨go50, ((ji36) : Int).toNat * 3, none⟩ = some (.string ((rd_T56 x3_1 (ji36)).f0)) := hcc50 0 _ rfl
                       have hx50_1 : World.cell? _ ⟨go50, ((ji36) : Int).toNat * 3 + 1, none⟩ = some (.int .i64 ((rd_T56 x3_1 (ji36)).f1)) := hcc50 1 _ rfl
                       have hx50_2 : World.cell? _ ⟨go50, ((ji36) : Int).toNat * 3 + 2, none⟩ = some (.bool ((rd_T56 x3_1 (ji36)).f2)) := hcc50 2 _ rfl
                       have hf50_0 : World.frozen? _ ⟨go50, ((ji36) : Int).toNat * 3, none⟩ = false := hfr50 0
                       have hf50_1 : World.frozen? _ ⟨go50, ((ji36) : Int).toNat * 3 + 1, none⟩ = false := hfr50 1
                       have hf50_2 : World.frozen? _ ⟨go50, ((ji36) : Int).toNat * 3 + 2, none⟩ = false := hfr50 2
                       clear hcl50 hcc50 hfr50 hM50
                       replace p50 := eq_true p50
                       replace q50 := eq_true q50
                       obtain ⟨ce53, hcl53, hM53, hcc53, hfr53⟩ := Kd.R_elem HO_3.out z56 ((ji36) : Int) (of_decide_eq_true ap0) (by have h_ : ((ji36) : Int) < ((x3_1.length : Int) : Int) := of_decide_eq_true ap0; first | exact h_ | (have e_ := (Kd.R_reads' HO_3.out).1; omega) | simpa using h_)
                       obtain rfl := k56_openM hM53
                       have HP53 := (Kd.R_seg HO_3.out ((ji36) : Int) (of_decide_eq_true ap0) (by have h_ : ((ji36) : Int) < ((x3_1.length : Int) : Int) := of_decide_eq_true ap0; first | exact h_ | (have e_ := (Kd.R_reads' HO_3.out).1; omega) | simpa using h_) (seg := [.string (((rd_T56 x3_1 (ji36)).f0) ++ (x7_19.extract 1 x7_19.size))]) (j := 0) hcl53 hcc53 (show 1 ≤ 3 from by decide) (x' := (⟨((rd_T56 x3_1 (ji36)).f0) ++ (x7_19.extract 1 x7_19.size), (rd_T56 x3_1 (ji36)).f1, false⟩ : S56)) (by show k56.M _ _ _ _ [.string _, .int .i64 _, .bool (rd_T56 x3_1 (ji36)).f2]; rw [← Nbq43.out]; exact k56_mkM _ _ _ (⟨((rd_T56 x3_1 (ji36)).f0) ++ (x7_19.extract 1 x7_19.size), (rd_T56 x3_1 (ji36)).f1, false⟩ : S56)) (fun _ hk => hk)).1
                       rw [← Ny198.out] at HP53
                       have HQ53 := Aside0.mk HP53
                       clear hcl53 hcc53 hfr53 hM53 HP53
                       refine start_ (n := 17) (S := fun w' => w'.cell? ⟨go50, ((ji36)).toNat * 3, none⟩ = some (.string ((rd_T56 x3_1 (ji36)).f0)) ∧ w'.cell? ⟨go50, ((ji36)).toNat * 3 + 1, none⟩ = some (.int .i64 ((rd_T56 x3_1 (ji36)).f1)) ∧ w'.cell? ⟨go50, ((ji36)).toNat * 3 + 2, none⟩ = some (.bool (false))) (ds := [16]) #[false, false, false, false, false, false, false, false, false, false, false, false, false, false, false, false, false] (by kernel_rfl) rfl rfl ⟨hx197_0, hx197_1, hx197_2⟩ (fun hHeld => ?_); refine with_tabW R21Rows.tab17 R21Rows.bits17 (fun HT_ HW_ => ?_)
                       generalize wc.drew = w52 at HO_3 HB GG50 HQ53 hf50_0 hf50_1 hf50_2 hx189_0 hx189_1 hx189_2 hx193_0 hx193_1 hx193_2 hx197_0 hx197_1 hx197_2 hx50_0 hx50_1 hx50_2 hHeld ⊢
                       refine pure_ (i := 0) (N := some 98) (v := ?_) (a' := ?_) #[true, false, false, false, false, false, false, false, false, false, false, false, false, false, false, false, false] rfl rfl (any_of HT_.out (by kernel_rfl)) (fun _ _ _ h => h) (Or.inl ⟨by rfl, ?_⟩) ?_ ?_
                       rotate_left
                       ·
                        intro w'
                        go_simp
                        with_reducible rfl
                       rotate_left
                       ·
                        simp only [Act.put, List.setIfInBounds_toArray, List.set_cons_zero, List.set_cons_succ, i64_w, i32_w]
                        rfl
                       refine pure_ (i := 1) (N := some 99) (v := ?_) (a' := ?_) #[true, true, false, false, false, false, false, false, false, false, false, false, false, false, false, false, false] rfl rfl (any_of HT_.out (by kernel_rfl)) (fun _ _ _ h => h) (Or.inl ⟨by rfl, ?_⟩) ?_ ?_
                       rotate_left
                       ·
                        intro w'
                        go_simp
                        with_reducible rfl
                       rotate_left
                       ·
                        simp only [Act.put, List.setIfInBounds_toArray, List.set_cons_zero, List.set_cons_succ, i64_w, i32_w]
                        rfl
                       refine pure_ (i := 2) (N := some 100) (v := ?_) (a' := ?_) #[true, true, true, false, false, false, false, false, false, false, false, false, false, false, false, false, false] rfl rfl (any_of HT_.out (by kernel_rfl)) (fun _ _ _ h => h) (Or.inl ⟨by rfl, ?_⟩) ?_ ?_
                       rotate_left
                       ·
                        intro w'
                        go_simp
                        with_reducible rfl
                       rotate_left
                       ·
                        simp only [Act.put, List.setIfInBounds_toArray, List.set_cons_zero, List.set_cons_succ, i64_w, i32_w]
                        rfl
                       refine pure_ (i := 3) (N := some 101) (v := ?_) (a' := ?_) #[true, true, true, true, false, false, false, false, false, false, false, false, false, false, false, false, false] rfl rfl (any_of HT_.out (by kernel_rfl)) (fun _ _ _ h => h) (Or.inl ⟨by rfl, ?_⟩) ?_ ?_
                       rotate_left
                       ·
                        intro w'
                        go_simp
                        with_reducible rfl
                       rotate_left
                       ·
                        simp only [Act.put, List.setIfInBounds_toArray, List.set_cons_zero, List.set_cons_succ, i64_w, i32_w]
                        rfl
                       refine pure_ (i := 4) (N := some 102) (v := ?_) (a' := ?_) #[true, true, true, true, true, false, false, false, false, false, false, false, false, false, false, false, false] rfl rfl (any_of HT_.out (by kernel_rfl)) (fun _ _ _ h => h) (Or.inl ⟨by rfl, ?_⟩) ?_ ?_
                       rotate_left
                       ·
                        intro w'
                        go_simp
                        with_reducible rfl
                       rotate_left
                       ·
                        simp only [Act.put, List.setIfInBounds_toArray, List.set_cons_zero, List.set_cons_succ, i64_w, i32_w]
                        rfl
                       refine pure_ (i := 5) (N := some 103) (v := ?_) (a' := ?_) #[true, true, true, true, true, true, false, false, false, false, false, false, false, false, false, false, false] rfl rfl (any_of HT_.out (by kernel_rfl)) (fun _ _ _ h => h) (Or.inl ⟨by rfl, ?_⟩) ?_ ?_
                       rotate_left
                       ·
                        intro w'
                        go_simp
                        with_reducible rfl
                       rotate_left
                       ·
                        simp only [Act.put, List.setIfInBounds_toArray, List.set_cons_zero, List.set_cons_succ, i64_w, i32_w]
                        rfl
                       refine pure_ (i := 6) (N := some 104) (v := ?_) (a' := ?_) #[true, true, true, true, true, true, true, false, false, false, false, false, false, false, false, false, false] rfl rfl (any_of HT_.out (by kernel_rfl)) (fun _ _ _ h => h) (Or.inl ⟨by rfl, ?_⟩) ?_ ?_
                       rotate_left
                       ·
                        intro w'
                        go_simp
                        with_reducible rfl
                       rotate_left
                       ·
                        simp only [Act.put, List.setIfInBounds_toArray, List.set_cons_zero, List.set_cons_succ, i64_w, i32_w]
                        rfl
                       refine pure_ (i := 7) (N := some 105) (v := ?_) (a' := ?_) #[true, true, true, true, true, true, true, true, false, false, false, false, false, false, false, false, false] rfl rfl (any_of HT_.out (by kernel_rfl)) (fun _ _ _ h => h) (Or.inl ⟨by rfl, ?_⟩) ?_ ?_
                       rotate_left
                       ·
                        intro w'
                        go_simp
                        with_reducible rfl
                       rotate_left
                       ·
                        simp only [Act.put, List.setIfInBounds_toArray, List.set_cons_zero, List.set_cons_succ, i64_w, i32_w]
                        rfl
                       refine pure_ (i := 8) (N := some 106) (v := ?_) (a' := ?_) #[true, true, true, true, true, true, true, true, true, false, false, false, false, false, false, false, false] rfl rfl (any_of HT_.out (by kernel_rfl)) (fun _ _ _ h => h) (Or.inl ⟨by rfl, ?_⟩) ?_ ?_
                       rotate_left
                       ·
                        intro w'
                        go_simp
                        with_reducible rfl
                       rotate_left
                       ·
                        simp only [Act.put, List.setIfInBounds_toArray, List.set_cons_zero, List.set_cons_succ, i64_w, i32_w]
                        rfl
                       refine pure_ (i := 9) (N := some 107) (v := ?_) (a' := ?_) #[true, true, true, true, true, true, true, true, true, true, false, false, false, false, false, false, false] rfl rfl (any_of HT_.out (by kernel_rfl)) (fun _ _ _ h => h) (Or.inl ⟨by rfl, ?_⟩) ?_ ?_
                       rotate_left
                       ·
                        intro w'
                        go_simp
                        with_reducible rfl
                       rotate_left
                       ·
                        simp only [Act.put, List.setIfInBounds_toArray, List.set_cons_zero, List.set_cons_succ, i64_w, i32_w]
                        rfl
                       refine pure_ (i := 11) (N := some 109) (v := ?_) (a' := ?_) #[true, true, true, true, true, true, true, true, true, true, false, true, false, false, false, false, false] rfl rfl (any_of HT_.out (by kernel_rfl)) (fun _ _ _ h => h) (Or.inl ⟨by rfl, ?_⟩) ?_ ?_
                       rotate_left
                       ·
                        intro w'
                        go_simp
                        with_reducible rfl
                       rotate_left
                       ·
                        simp only [Act.put, List.setIfInBounds_toArray, List.set_cons_zero, List.set_cons_succ, i64_w, i32_w]
                        rfl
                       refine pure_ (i := 12) (N := some 110) (v := ?_) (a' := ?_) #[true, true, true, true, true, true, true, true, true, true, false, true, true, false, false, false, false] rfl rfl (any_of HT_.out (by kernel_rfl)) (fun _ _ _ h => h) (Or.inl ⟨by rfl, ?_⟩) ?_ ?_
                       rotate_left
                       ·
                        intro w'
                        go_simp
                        with_reducible rfl
                       rotate_left
                       ·
                        simp only [Act.put, List.setIfInBounds_toArray, List.set_cons_zero, List.set_cons_succ, i64_w, i32_w]
                        rfl
                       refine take_ (i := 10) (N := some 108) (v := ?_) (a' := ?_) #[true, true, true, true, true, true, true, true, true, true, true, true, true, false, false, false, false] rfl rfl (take_ofW HT_.out HW_.out (by kernel_rfl)) (fun _ _ _ h => h) (Or.inl ⟨by rfl, ?_⟩) hHeld ?_ ?_
                       rotate_left
                       ·
                        rintro w' ⟨s0, s1, s2⟩
                        go_simp
                        with_reducible rfl
                       rotate_left
                       ·
                        simp only [Act.put, List.setIfInBounds_toArray, List.set_cons_zero, List.set_cons_succ, i64_w, i32_w]
                        rfl
                       refine pure_ (i := 13) (N := some 111) (v := ?_) (a' := ?_) #[true, true, true, true, true, true, true, true, true, true, true, true, true, true, false, false, false] rfl rfl (any_of HT_.out (by kernel_rfl)) (fun _ _ _ h => h) (Or.inl ⟨by rfl, ?_⟩) ?_ ?_
                       rotate_left
                       ·
                        intro w'
                        go_simp
                        with_reducible rfl
                       rotate_left
                       ·
                        simp only [Act.put, List.setIfInBounds_toArray, List.set_cons_zero, List.set_cons_succ, i64_w, i32_w]
                        rfl
                       refine pure_ (i := 14) (N := some 112) (v := ?_) (a' := ?_) #[true, true, true, true, true, true, true, true, true, true, true, true, true, true, true, false, false] rfl rfl (any_of HT_.out (by kernel_rfl)) (fun _ _ _ h => h) (Or.inl ⟨by rfl, ?_⟩) ?_ ?_
                       rotate_left
                       ·
                        intro w'
                        go_simp
                        with_reducible rfl
                       rotate_left
                       ·
                        simp only [Act.put, List.setIfInBounds_toArray, List.set_cons_zero, List.set_cons_succ, i64_w, i32_w]
                        rfl
                       refine pure_ (i := 15) (N := some 113) (v := ?_) (a' := ?_) #[true, true, true, true, true, true, true, true, true, true, true, true, true, true, true, true, false] rfl rfl (any_of HT_.out (by kernel_rfl)) (fun _ _ _ h => h) (Or.inl ⟨by rfl, ?_⟩) ?_ ?_
                       rotate_left
                       ·
                        intro w'
                        go_simp
                        with_reducible rfl
                       rotate_left
                       ·
                        simp only [Act.put, List.setIfInBounds_toArray, List.set_cons_zero, List.set_cons_succ, i64_w, i32_w]
                        rfl
                       refine last_ (i := 16) (N := none) #[true, true, true, true, true, true, true, true, true, true, true, true, true, true, true, true, true] rfl rfl (one_of HT_.out (by kernel_rfl)) (by decide) (fun K hK => ?_)
                       refine skip_ (w1 := ?_) (by rfl) rfl ?_ ?_
                       rotate_left
                       ·
                        go_simp
                        rfl
                       refine hK.out _ _ ?_
                       clear hK K
                       refine done_ (done_of HT_.out (by kernel_rfl)) ?_
                       try go_wp2
                       go_roundg kj24
                       case measure => have := HK1.out; have := HJ4.out; have := HJ12.out; have := HJ19.out; have := HJ24.out; omega
                       case rel => exact ⟨(y198), ((wrap64 (x4_1 + 1))), ((wrap64 (x6_4 + 1))), ap2, ap2, H', ⟨by have := HK1.out; have := HJ4.out; have := HJ12.out; have := HJ19.out; have := HJ24.out; omega⟩, ⟨by (with_reducible repeat (first | apply Kd.R_alloc | apply Kd.R_drewN | apply Kd.R_drew)); exact HQ53.out⟩, ⟨by repeat (first | (with_reducible first | exact HB.out | apply below_alloc | apply pw_below_drewN | apply below_drew1 | refine below_set ?_ GB50.out) | exact HB.out)⟩⟩
                      ·
                       rw [if_neg c49] at H
                       exact absurd H (by simp)
                     ·
                      rw [if_neg c48] at H
                      exact absurd H (by simp)
                  ·
                   rw [if_neg c38] at H
                   exact absurd H (by simp)
                 ·
                  rw [if_neg c37] at H
                  exact absurd H (by simp)
        ·
         rw [if_neg c12] at H
         exact absurd H (by simp)
       ·
        rw [if_neg c11] at H
        exact absurd H (by simp)
      ·
       rw [if_neg c10] at H
       exact absurd H (by simp)
   ·
    rw [if_neg c4] at H
    have c4b0 := decide_eq_false c4
    clear c4
    obtain rfl := Option.some.inj H
    go_wp2
    go_ret
    exact ⟨_, by first | rfl | (simp [errW_none, errW_some, bne_nil8, beq_nil8]; done) | (simp [errW_none, errW_some] <;> rfl) | (simp [*, errW_none, errW_some] <;> rfl), by (with_reducible repeat (first | apply Kd.R_alloc | apply Kd.R_drewN | apply Kd.R_drew)); exact HO_3.out, by repeat (first | (with_reducible first | exact HB.out | apply below_alloc | apply pw_below_drewN | apply below_drew1) | exact HB.out)⟩
mutual
def R21Parse.l0 : Nat → List (S56) → List (S43) → Bool → Int → Option ((List (S43)) × Int × Int)
 | 0, _, _, _, _ => none
 | k + 1, x5, x6, x7, x8 => if x8 < (x5.length : Int) then (if 0 ≤ x8 then (if (rd_T56 x5 x8).f2 = true then (some (([] : List (S43)), (rd_T56 x5 x8).f1, 4)) else (if x8 = 0 then (if ((rd_T56 x5 x8).f0).toList = ([118, 101, 114, 115, 105, 111, 110, 58, 32, 49] : List UInt8) then (R21Parse.j1 k x5 x6 x7 x8 true ((rd_T56 x5 x8).f0) ((rd_T56 x5 x8).f1) ((rd_T56 x5 x8).f2)) else (if (((rd_T56 x5 x8).f0).size : Int) > 0 then (if 0 < (((rd_T56 x5 x8).f0).size : Int) then (R21Parse.j1 k x5 x6 x7 x8 ((bt ((rd_T56 x5 x8).f0) 0) == 35) ((rd_T56 x5 x8).f0) ((rd_T56 x5 x8).f1) ((rd_T56 x5 x8).f2)) else (none)) else (R21Parse.j1 k x5 x6 x7 x8 false ((rd_T56 x5 x8).f0) ((rd_T56 x5 x8).f1) ((rd_T56 x5 x8).f2)))) else (if (((rd_T56 x5 x8).f0).size : Int) > 0 then (if 0 < (((rd_T56 x5 x8).f0).size : Int) then (R21Parse.j1 k x5 x6 x7 x8 ((bt ((rd_T56 x5 x8).f0) 0) == 35) ((rd_T56 x5 x8).f0) ((rd_T56 x5 x8).f1) ((rd_T56 x5 x8).f2)) else (none)) else (R21Parse.j1 k x5 x6 x7 x8 false ((rd_T56 x5 x8).f0) ((rd_T56 x5 x8).f1) ((rd_T56 x5 x8).f2))))) else (none)) else (some (x6, 0, 0))
def R21Parse.j1 : Nat → List (S56) → List (S43) → Bool → Int → Bool → ByteArray → Int → Bool → Option ((List (S43)) × Int × Int)
 | 0, _, _, _, _, _, _, _, _ => none
 | k + 1, x5, x6, x7, x8, x50, x245000, x245001, x245002 => if x50 = true then (R21Parse.l0 k x5 x6 x7 (wrap64 (x8 + 1))) else (if x245000.toList = ([] : List UInt8) then (R21Parse.l0 k x5 x6 false (wrap64 (x8 + 1))) else ((R21Pair.f k x245000).bind fun bt245 => (if bt245.2.2 = true then ((R21Name.f k bt245.1).bind fun t249 => (if t249 = true then (if x7 = true then (R21Parse.j2 k x5 x6 x7 x8 true x245000 x245001 x245002 bt245.1 bt245.2.1) else ((R21Name.f k bt245.1).bind fun t250 => (if t250 = true then (R21Parse.j2 k x5 x6 x7 x8 false x245000 x245001 x245002 bt245.1 bt245.2.1) else (R21Parse.j2 k x5 x6 x7 x8 (!x7) x245000 x245001 x245002 bt245.1 bt245.2.1)))) else ((R21Name.f k bt245.1).bind fun t251 => (if t251 = true then (R21Parse.j2 k x5 x6 x7 x8 false x245000 x245001 x245002 bt245.1 bt245.2.1) else (R21Parse.j2 k x5 x6 x7 x8 (!x7) x245000 x245001 x245002 bt245.1 bt245.2.1))))) else (R21Parse.j2 k x5 x6 x7 x8 true x245000 x245001 x245002 bt245.1 bt245.2.1))))
def R21Parse.j2 : Nat → List (S56) → List (S43) → Bool → Int → Bool → ByteArray → Int → Bool → ByteArray → ByteArray → Option ((List (S43)) × Int × Int)
 | 0, _, _, _, _, _, _, _, _, _, _ => none
 | k + 1, x5, x6, x7, x8, x79, x245000, x245001, x245002, x249000, x249001 => if x79 = true then (some (([] : List (S43)), x245001, 4)) else (if x7 = true then (if 0 ≤ (wrap64 ((x6.length : Int) - 1)) then (if (wrap64 ((x6.length : Int) - 1)) < (x6.length : Int) then (if ((rd_T43 x6 (wrap64 ((x6.length : Int) - 1))).f1).length < 4398046511104 then (R21Parse.l0 k x5 (x6.set ((wrap64 ((x6.length : Int) - 1)) : Int).toNat (⟨(rd_T43 x6 (wrap64 ((x6.length : Int) - 1))).f0, (((rd_T43 x6 (wrap64 ((x6.length : Int) - 1))).f1) ++ [(⟨x249000, x249001⟩ : S40)])⟩ : S43)) x7 (wrap64 (x8 + 1))) else (none)) else (none)) else (none)) else (if x6.length < 3518437208883 then (R21Parse.l0 k x5 (x6 ++ [(⟨x249001, ([] : List (S40))⟩ : S43)]) true (wrap64 (x8 + 1))) else (none)))
end
def R21Parse.f (k : Nat) (a0 : ByteArray) : Option ((List (S43)) × Int × Int) := if (a0.size : Int) > 100000 then (some (([] : List (S43)), 0, 5)) else ((R21Rows.f k a0).bind fun t237 => (R21Parse.l0 k t237 (([] : List (S43))) false 0))
def R21Parse.T19 : Bool × List (List Nat × List Nat) := (true, [([], []), ([], []), ([1], [1]), ([2], [2]), ([], []), ([], []), ([5], [5]), ([6], [6]), ([4, 7], [4, 7]), ([8], [8]), ([9], [9]), ([], []), ([11], [11]), ([10, 12], [10, 12]), ([0, 3, 0, 1, 2, 3, 4, 5, 6, 7, 8, 9, 10, 11, 12, 13], [0, 3]), ([14, 0, 1, 2, 3, 4, 5, 6, 7, 8, 9, 10, 11, 12, 13], [14]), ([15, 13, 13, 0, 1, 2, 3, 4, 5, 6, 7, 8, 9, 10, 11, 12, 13], [13, 15])])
def R21Parse.B19 : List Nat := [0, 0, 2, 6, 0, 0, 32, 96, 240, 496, 1008, 0, 2048, 8176, 16383, 32767, 65535]
theorem R21Parse.tab19 : rtab .any (opsOf Tryd.f9 19) = R21Parse.T19 := by kernel_rfl
theorem R21Parse.bits19 : waitsOk R21Parse.T19.2 R21Parse.B19 = true := by kernel_rfl
set_option maxHeartbeats 8000000 in
set_option maxRecDepth 100000 in
theorem R21Parse.calls (k : Nat) (a0 : ByteArray) (r1 : List (S43)) (r2 : Int) (r3 : Int) (w : World) (h : R21Parse.f k a0 = some (r1, r2, r3)) :
  Calls Tryd.prog 9 #[.string a0] w fun e w' => ∃ v0_ : Value, e = .returned (.tuple #[v0_, .int .i64 r2, .int .i64 r3]) ∧ Kd.S k43 43 w' w.heap.size (fun _ => True) v0_ r1 ∧ Below w.heap.size w w' := by
 have hu56 := Tryd.underlying56
 have hu40 := Tryd.underlying40
 have hu43 := Tryd.underlying43
 have HB := Aside0.mk (Below.refl w.heap.size w)
 have H : (if (a0.size : Int) > 100000 then (some (([] : List (S43)), 0, 5)) else ((R21Rows.f k a0).bind fun t237 => (R21Parse.l0 k t237 (([] : List (S43))) false 0))) = some (r1, r2, r3) := h
 clear h
 by_cases c2 : (a0.size : Int) > 100000
 ·
  rw [if_pos c2] at H
  have c2b0 := decide_eq_true c2
  have c2b1 : decide (100000 < a0.size) = true := decide_eq_true (by omega)
  clear c2
  simp only [Option.some.injEq, Prod.mk.injEq] at H
  obtain ⟨rfl, rfl, rfl⟩ := H
  go_enter Tryd.func9, Tryd.ntmps9
  go_wp2
  go_ret3
  exact ⟨_, by first | rfl | (simp [errW_none, errW_some, bne_nil8, beq_nil8]; done) | (simp [errW_none, errW_some] <;> rfl) | (simp [*, errW_none, errW_some] <;> rfl), by first | exact Kd.S_nil _ _ _ _ _ | exact Kd.N_nil _ _ _ _ _ | exact Kd.V_nil _ _ _ _ _ | exact Kd.Q_nil _ _ _ _ _ | exact Kd.R_nil _ _ _ _ _, by repeat (first | (with_reducible first | exact HB.out | apply below_alloc | apply pw_below_drewN | apply below_drew1) | exact HB.out)⟩
 ·
  rw [if_neg c2] at H
  have c2b0 := decide_eq_false c2
  have c2b1 : decide (100000 < a0.size) = false := decide_eq_false (by omega)
  clear c2
  replace H := Option.bind_eq_some_iff.mp H
  obtain ⟨t237, A30, H⟩ := H
  replace H : (R21Parse.l0 k t237 (([] : List (S43))) false 0) = some (r1, r2, r3) := H
  have A3 := Aside0.mk A30
  clear A30
  obtain ⟨y240, hy240⟩ : ∃ y_ : List (S43), y_ = (([] : List (S43))) := ⟨_, rfl⟩
  replace H : (R21Parse.l0 k t237 y240 false 0) = some (r1, r2, r3) := by first | (rw [hy240]; with_reducible exact H) | (have H2_ := (Option.bind_some _ _).symm.trans H; rw [hy240]; with_reducible exact H2_) | (have H2_ := (Option.bind_some _ _).symm.trans H; with_reducible exact H2_) | with_reducible exact H | (rw [hy240]; exact H) | exact H
  have Ny240 := Aside0.mk hy240
  clear hy240
  have H' := Aside0.mk H
  clear H
  go_enter Tryd.func9, Tryd.ntmps9
  go_wp2_with (first | ((with_reducible refine gate_callee (f := 30) rfl ?_); refine goesL_ (some 16) rfl rfl Tryd.func30 (by kernel_rfl) rfl #[.string a0] rfl ap3 ?_; (with_reducible refine (R21Rows.calls k a0 t237 _ A3.out).mono ?_); rintro e w4 ⟨v238, rfl, ho0, hb⟩; refine ⟨_, rfl, ?_⟩; have n0_ := Aside0.mk (Kd.R_lower ho0 (below_size ap1)); have n1_ := Aside0.mk (below_step ap1 hb); clear HB; have HO239 := n0_; have HB := n1_; clear n0_ n1_; (try clear hb); (try clear hb2); (try clear hk); (try clear hi); (try clear ho0)) | ((with_reducible refine gate_dst (N := 17) rfl ?_); (try (refine gate_guard (by rfl) ?_; dsimp only)); refine Kd.S_lit k43 _ 43 ?hg (N := 17) ?hd (xs := ([] : List (S43))) (inner := []) (ok := fun _ => True) (okp := fun _ => True) ?hr ?hp (fun _ hk => hk) trivial (Below.refl _ _) (Nat.le_refl _) (by simp) ?_; (case hd => rfl); (case hg => rfl); (case hr => first | (go_simp; done) | (go_simp; rfl)); (case hp => exact (Reps.none _ _)); intro v241 w5 ho6 hb hg_ hnew_; clear hg_ hnew_; (first | rw [← Ny240.out] at ho6 | (simp only [Int.reduceToNat] at ho6; rw [← Ny240.out] at ho6)); have n0_ := Aside0.mk (Kd.R_below (apAR HO239.out) hb); have n1_ := Aside0.mk (Kd.S_lower ho6 (below_size ap1)); have n2_ := Aside0.mk (below_step ap1 hb); clear HO239; clear HB; have HO239 := n0_; have HO242 := n1_; have HB := n2_; clear n0_ n1_ n2_; clear hb ho6))
  go_loopg [6, 7, 8] k (fun kq v6 v7 v8 w' => ∃ (x6_1 : List (S43)) (x7_1 : Bool) (x8_1 : Int), v7 = .bool x7_1 ∧ v8 = .int .i64 x8_1 ∧ Aside0 (R21Parse.l0 kq t237 x6_1 x7_1 x8_1 = some (r1, r2, r3)) ∧ Aside0 (kq ≤ k) ∧ Aside0 (Kd.R k56 56 w' w.heap.size (fun _ => True) v238 t237) ∧ Aside0 (Kd.S k43 43 w' w.heap.size (fun _ => True) v6 x6_1) ∧ Aside0 (Below w.heap.size w w'))
  case atStart => exact ⟨(y240), (false), (0), ap2, ap2, H', ⟨Nat.le_refl _⟩, ⟨by (with_reducible repeat (first | apply Kd.R_alloc | apply Kd.R_drewN | apply Kd.R_drew)); exact HO239.out⟩, ⟨by (with_reducible repeat (first | apply Kd.S_alloc | apply Kd.S_drewN | apply Kd.S_drew)); exact HO242.out⟩, ⟨by repeat (first | (with_reducible first | exact HB.out | apply below_alloc | apply pw_below_drewN | apply below_drew1) | exact HB.out)⟩⟩
  case round =>
   clear H'
   try clear c2
   try clear c2b0
   try clear c2b1
   try clear p2
   try clear c3
   obtain ⟨x6_1, x7_1, x8_1, rfl, rfl, HA, HK1, HO_5, HO_6, HB⟩ := hrel
   cases gk with
   | zero => exact absurd HA.out (by simp [R21Parse.l0])
   | succ k1 =>
    have H := HA.out
    clear HA
    simp only [R21Parse.l0] at H
    by_cases c7 : x8_1 < (t237.length : Int)
    ·
     rw [if_pos c7] at H
     have c7b0 := decide_eq_true c7
     clear c7
     by_cases c8 : 0 ≤ x8_1
     ·
      rw [if_pos c8] at H
      have c8b0 := decide_eq_true c8
      clear c8
      obtain ⟨bq9, hbq9⟩ : ∃ b_ : Bool, b_ = ((rd_T56 t237 x8_1).f2) := ⟨_, rfl⟩
      replace H : (if bq9 = true then (some (([] : List (S43)), (rd_T56 t237 x8_1).f1, 4)) else (if x8_1 = 0 then (if ((rd_T56 t237 x8_1).f0).toList = ([118, 101, 114, 115, 105, 111, 110, 58, 32, 49] : List UInt8) then (R21Parse.j1 k1 t237 x6_1 x7_1 x8_1 true ((rd_T56 t237 x8_1).f0) ((rd_T56 t237 x8_1).f1) bq9) else (if (((rd_T56 t237 x8_1).f0).size : Int) > 0 then (if 0 < (((rd_T56 t237 x8_1).f0).size : Int) then (R21Parse.j1 k1 t237 x6_1 x7_1 x8_1 ((bt ((rd_T56 t237 x8_1).f0) 0) == 35) ((rd_T56 t237 x8_1).f0) ((rd_T56 t237 x8_1).f1) bq9) else (none)) else (R21Parse.j1 k1 t237 x6_1 x7_1 x8_1 false ((rd_T56 t237 x8_1).f0) ((rd_T56 t237 x8_1).f1) bq9))) else (if (((rd_T56 t237 x8_1).f0).size : Int) > 0 then (if 0 < (((rd_T56 t237 x8_1).f0).size : Int) then (R21Parse.j1 k1 t237 x6_1 x7_1 x8_1 ((bt ((rd_T56 t237 x8_1).f0) 0) == 35) ((rd_T56 t237 x8_1).f0) ((rd_T56 t237 x8_1).f1) bq9) else (none)) else (R21Parse.j1 k1 t237 x6_1 x7_1 x8_1 false ((rd_T56 t237 x8_1).f0) ((rd_T56 t237 x8_1).f1) bq9)))) = some (r1, r2, r3) := by rw [← hbq9] at H; exact H
      have Nbq9 := Aside0.mk hbq9
      clear hbq9
      by_cases c10 : bq9 = true
      ·
       subst c10
       rw [if_pos rfl] at H
       simp only [Option.some.injEq, Prod.mk.injEq] at H
       obtain ⟨rfl, rfl, rfl⟩ := H
       obtain ⟨Ao11, co11, eo11⟩ := Kd.R_slice HO_5.out
       subst eo11
       have p243 : 0 ≤ (x8_1 : Int) := of_decide_eq_true ap0
       have q243 : x8_1 < (t237.length : Int) := of_decide_eq_true ap0
       obtain ⟨ad243, e243, hx243_0, hx243_1, hx243_2⟩ := at_T56 (Kd.R_reads' HO_5.out).2.2 x8_1 p243 q243
       (try rw [← Nbq9.out] at hx243_2)
       cases e243
       replace p243 := eq_true p243
       replace q243 := eq_true q243
       try go_wp2_with (first | ((with_reducible refine gate_dst (N := 9) rfl ?_); (try (refine gate_guard (by rfl) ?_; dsimp only)); refine box_event ?hg (N := 9) ?hd (cs := #[.string (⟨#[]⟩ : ByteArray), .int .i64 0, .bool false]) (t := 56) ?hr ?_; (case hd => rfl); (case hg => rfl); (case hr => first | (go_simp; done) | (go_simp; rfl)); intro gb244 hg w12 hbox hb; have n0_ := Aside0.mk (Kd.R_below (Kd.R_elderB (apAR HO_5.out) gb244 (Nat.le_of_eq hg.symm)) hb); have n1_ := Aside0.mk (Kd.S_below (apAS HO_6.out) hb); have n2_ := Aside0.mk (below_step ap1 hb); have n3_ := Aside0.mk (hbox); have n4_ := Aside0.mk ((by rw [hg]; exact (below_size ap1) : w.heap.size ≤ gb244)); have n5_ := Aside0.mk ((by rw [hg]; exact (below_size ap1) : w.heap.size ≤ gb244)); clear HO_5; clear HO_6; clear HB; have HO_5 := n0_; have HO_6 := n1_; have HB := n2_; have BK244 := n3_; have GW244 := n4_; have GE244 := n5_; clear n0_ n1_ n2_ n3_ n4_ n5_; clear hb hbox hg; have hcz13_0 : w12.cell? ⟨gb244, 0, none⟩ = some (.string (⟨#[]⟩ : ByteArray)) := (blk_cell BK244.out 0).trans rfl; have hcz13_1 : w12.cell? ⟨gb244, 1, none⟩ = some (.int .i64 0) := (blk_cell BK244.out 1).trans rfl; have hcz13_2 : w12.cell? ⟨gb244, 2, none⟩ = some (.bool false) := (blk_cell BK244.out 2).trans rfl; have hfz13_0 := blk_frozen BK244.out 0; have hfz13_1 := blk_frozen BK244.out 1; have hfz13_2 := blk_frozen BK244.out 2))
       have n0_ : Aside0 (Kd.R k56 56 (((w12.setCell ⟨gb244, 0, none⟩ (.string ((rd_T56 t237 x8_1).f0))).setCell ⟨gb244, 1, none⟩ (.int .i64 ((rd_T56 t237 x8_1).f1))).setCell ⟨gb244, 2, none⟩ (.bool true)) w.heap.size (fun k_ => k_ ≠ gb244) (.slice (some ad243) t237.length co11) t237) := ⟨by (with_reducible repeat (first | apply Kd.R_alloc | apply Kd.R_drewN | apply Kd.R_drew)); exact Kd.R_mono (Kd.R_far (p := ⟨gb244, 2, none⟩) (Kd.R_far (p := ⟨gb244, 1, none⟩) (Kd.R_far (p := ⟨gb244, 0, none⟩) (Kd.R_mono HO_5.out (fun k_ hk => (⟨hk, hk.2⟩ : _ ∧ k_ ≠ gb244))) (fun _ hk => hk.2) (.string ((rd_T56 t237 x8_1).f0))) (fun _ hk => hk.2) (.int .i64 ((rd_T56 t237 x8_1).f1))) (fun _ hk => hk.2) (.bool true)) (fun _ hk => hk.1.2)⟩
       have n1_ : Aside0 (Kd.S k43 43 (((w12.setCell ⟨gb244, 0, none⟩ (.string ((rd_T56 t237 x8_1).f0))).setCell ⟨gb244, 1, none⟩ (.int .i64 ((rd_T56 t237 x8_1).f1))).setCell ⟨gb244, 2, none⟩ (.bool true)) w.heap.size (fun _ => True) u6 x6_1) := ⟨by (with_reducible repeat (first | apply Kd.S_alloc | apply Kd.S_drewN | apply Kd.S_drew)); exact Kd.S_mono (Kd.S_far (p := ⟨gb244, 2, none⟩) (Kd.S_far (p := ⟨gb244, 1, none⟩) (Kd.S_far (p := ⟨gb244, 0, none⟩) (Kd.S_types HO_6.out BK244.out (by decide)) (fun _ hk => hk.2) (.string ((rd_T56 t237 x8_1).f0))) (fun _ hk => hk.2) (.int .i64 ((rd_T56 t237 x8_1).f1))) (fun _ hk => hk.2) (.bool true)) (fun _ hk => trivial)⟩
       have n2_ : Aside0 ((((w12.setCell ⟨gb244, 0, none⟩ (.string ((rd_T56 t237 x8_1).f0))).setCell ⟨gb244, 1, none⟩ (.int .i64 ((rd_T56 t237 x8_1).f1))).setCell ⟨gb244, 2, none⟩ (.bool true)).heap[gb244]? = some (.cells #[.string ((rd_T56 t237 x8_1).f0), .int .i64 ((rd_T56 t237 x8_1).f1), .bool true] 56 (0, 0))) := ⟨by (with_reducible repeat (first | refine blk_drewN ?_ _ | refine blk_drew ?_ | refine blk_alloc ?_ _)); refine blk_put (cs := #[.string ((rd_T56 t237 x8_1).f0), .int .i64 ((rd_T56 t237 x8_1).f1), .bool false]) ?_ 2 _ rfl; (with_reducible repeat (first | refine blk_drewN ?_ _ | refine blk_drew ?_ | refine blk_alloc ?_ _)); refine blk_put (cs := #[.string ((rd_T56 t237 x8_1).f0), .int .i64 0, .bool false]) ?_ 1 _ rfl; (with_reducible repeat (first | refine blk_drewN ?_ _ | refine blk_drew ?_ | refine blk_alloc ?_ _)); refine blk_put (cs := #[.string (⟨#[]⟩ : ByteArray), .int .i64 0, .bool false]) ?_ 0 _ rfl; (with_reducible repeat (first | refine blk_drewN ?_ _ | refine blk_drew ?_ | refine blk_alloc ?_ _)); exact BK244.out⟩
       have n3_ : Aside0 (Below w.heap.size w (((w12.setCell ⟨gb244, 0, none⟩ (.string ((rd_T56 t237 x8_1).f0))).setCell ⟨gb244, 1, none⟩ (.int .i64 ((rd_T56 t237 x8_1).f1))).setCell ⟨gb244, 2, none⟩ (.bool true))) := ⟨by repeat (first | (with_reducible first | exact HB.out | apply below_alloc | apply pw_below_drewN | apply below_drew1 | refine below_set ?_ GE244.out) | exact HB.out)⟩
       (try clear HO_5)
       (try clear HO_6)
       (try clear BK244)
       (try clear HB)
       generalize (((w12.setCell ⟨gb244, 0, none⟩ (.string ((rd_T56 t237 x8_1).f0))).setCell ⟨gb244, 1, none⟩ (.int .i64 ((rd_T56 t237 x8_1).f1))).setCell ⟨gb244, 2, none⟩ (.bool true)) = w14 at n0_ n1_ n2_ n3_ ⊢
       have HO_5 := n0_
       have HO_6 := n1_
       have BK244 := n2_
       have HB := n3_
       clear n0_ n1_ n2_ n3_
       have n0_ := Aside0.mk (Kd.R_drew HO_5.out)
       have n1_ := Aside0.mk (Kd.S_drew HO_6.out)
       have n2_ := Aside0.mk (blk_drew BK244.out)
       have n3_ := Aside0.mk (below_drew1 HB.out)
       clear HO_5
       clear HO_6
       clear BK244
       clear HB
       have HO_5 := n0_
       have HO_6 := n1_
       have BK244 := n2_
       have HB := n3_
       clear n0_ n1_ n2_ n3_
       refine start_ (n := 5) (S := fun w' => w'.cell? ⟨gb244, 0, none⟩ = some (.string ((rd_T56 t237 x8_1).f0)) ∧ w'.cell? ⟨gb244, 1, none⟩ = some (.int .i64 ((rd_T56 t237 x8_1).f1)) ∧ w'.cell? ⟨gb244, 2, none⟩ = some (.bool true)) (ds := []) #[false, false, false, false, false] (by kernel_rfl) rfl rfl ⟨(blk_cell BK244.out 0).trans rfl, (blk_cell BK244.out 1).trans rfl, (blk_cell BK244.out 2).trans rfl⟩ (fun hHeld => ?_)
       generalize w14.drew = w15 at HO_5 HO_6 BK244 HB hHeld ⊢
       refine pure_ (i := 0) (N := some 30) (v := ?_) (a' := ?_) #[true, false, false, false, false] rfl rfl (by kernel_rfl) (fun _ _ _ h => h) (Or.inl ⟨by rfl, ?_⟩) ?_ ?_
       rotate_left
       ·
        intro w'
        go_simp
        with_reducible rfl
       rotate_left
       ·
        simp only [Act.put, List.setIfInBounds_toArray, List.set_cons_zero, List.set_cons_succ, i64_w, i32_w]
        rfl
       refine pure_ (i := 2) (N := some 2) (v := ?_) (a' := ?_) #[true, false, true, false, false] rfl rfl (by kernel_rfl) (fun _ _ _ h => h) (Or.inl ⟨by rfl, ?_⟩) ?_ ?_
       rotate_left
       ·
        intro w'
        go_simp
        with_reducible rfl
       rotate_left
       ·
        simp only [Act.put, List.setIfInBounds_toArray, List.set_cons_zero, List.set_cons_succ, i64_w, i32_w]
        rfl
       refine take_ (i := 1) (N := some 31) (v := ?_) (a' := ?_) #[true, true, true, false, false] rfl rfl (by kernel_rfl) (fun _ _ _ h => h) (Or.inl ⟨by rfl, ?_⟩) hHeld ?_ ?_
       rotate_left
       ·
        rintro w' ⟨s0, s1, s2⟩
        go_simp
        with_reducible rfl
       rotate_left
       ·
        simp only [Act.put, List.setIfInBounds_toArray, List.set_cons_zero, List.set_cons_succ, i64_w, i32_w]
        rfl
       refine pure_ (i := 3) (N := some 3) (v := ?_) (a' := ?_) #[true, true, true, true, false] rfl rfl (by kernel_rfl) (fun _ _ _ h => h) (Or.inl ⟨by rfl, ?_⟩) ?_ ?_
       rotate_left
       ·
        intro w'
        go_simp
        with_reducible rfl
       rotate_left
       ·
        simp only [Act.put, List.setIfInBounds_toArray, List.set_cons_zero, List.set_cons_succ, i64_w, i32_w]
        rfl
       refine pure_ (i := 4) (N := some 4) (v := ?_) (a' := ?_) #[true, true, true, true, true] rfl rfl (by kernel_rfl) (fun _ _ _ h => h) (Or.inl ⟨by rfl, ?_⟩) ?_ ?_
       rotate_left
       ·
        intro w'
        go_simp
        with_reducible rfl
       rotate_left
       ·
        simp only [Act.put, List.setIfInBounds_toArray, List.set_cons_zero, List.set_cons_succ, i64_w, i32_w]
        rfl
       refine done_ (by kernel_rfl) ?_
       try go_wp2
       go_ret3
       exact ⟨_, by first | rfl | (simp [errW_none, errW_some, bne_nil8, beq_nil8]; done) | (simp [errW_none, errW_some] <;> rfl) | (simp [*, errW_none, errW_some] <;> rfl), by first | exact Kd.S_nil _ _ _ _ _ | exact Kd.N_nil _ _ _ _ _ | exact Kd.V_nil _ _ _ _ _ | exact Kd.Q_nil _ _ _ _ _ | exact Kd.R_nil _ _ _ _ _, by repeat (first | (with_reducible first | exact HB.out | apply below_alloc | apply pw_below_drewN | apply below_drew1 | refine below_set ?_ GE244.out) | exact HB.out)⟩
      ·
       replace c10 := Bool.eq_false_iff.mpr c10
       subst c10
       rw [if_neg (show ¬ (false = true) by decide)] at H
       have HC16 := Aside0.mk H
       clear H
       obtain ⟨Ao17, co17, eo17⟩ := Kd.R_slice HO_5.out
       subst eo17
       have p243 : 0 ≤ (x8_1 : Int) := of_decide_eq_true ap0
       have q243 : x8_1 < (t237.length : Int) := of_decide_eq_true ap0
       obtain ⟨ad243, e243, hx243_0, hx243_1, hx243_2⟩ := at_T56 (Kd.R_reads' HO_5.out).2.2 x8_1 p243 q243
       (try rw [← Nbq9.out] at hx243_2)
       cases e243
       replace p243 := eq_true p243
       replace q243 := eq_true q243
       go_upto_region 12 with (first | ((with_reducible refine gate_dst (N := 9) rfl ?_); (try (refine gate_guard (by rfl) ?_; dsimp only)); refine box_event ?hg (N := 9) ?hd (cs := #[.string (⟨#[]⟩ : ByteArray), .int .i64 0, .bool false]) (t := 56) ?hr ?_; (case hd => rfl); (case hg => rfl); (case hr => first | (go_simp; done) | (go_simp; rfl)); intro gb244 hg w18 hbox hb; have n0_ := Aside0.mk (Kd.R_below (Kd.R_elderB (apAR HO_5.out) gb244 (Nat.le_of_eq hg.symm)) hb); have n1_ := Aside0.mk (Kd.S_below (apAS HO_6.out) hb); have n2_ := Aside0.mk (below_step ap1 hb); have n3_ := Aside0.mk (hbox); have n4_ := Aside0.mk ((by rw [hg]; exact (below_size ap1) : w.heap.size ≤ gb244)); have n5_ := Aside0.mk ((by rw [hg]; exact (below_size ap1) : w.heap.size ≤ gb244)); clear HO_5; clear HO_6; clear HB; have HO_5 := n0_; have HO_6 := n1_; have HB := n2_; have BK244 := n3_; have GW244 := n4_; have GE244 := n5_; clear n0_ n1_ n2_ n3_ n4_ n5_; clear hb hbox hg; have hcz19_0 : w18.cell? ⟨gb244, 0, none⟩ = some (.string (⟨#[]⟩ : ByteArray)) := (blk_cell BK244.out 0).trans rfl; have hcz19_1 : w18.cell? ⟨gb244, 1, none⟩ = some (.int .i64 0) := (blk_cell BK244.out 1).trans rfl; have hcz19_2 : w18.cell? ⟨gb244, 2, none⟩ = some (.bool false) := (blk_cell BK244.out 2).trans rfl; have hfz19_0 := blk_frozen BK244.out 0; have hfz19_1 := blk_frozen BK244.out 1; have hfz19_2 := blk_frozen BK244.out 2))
       (try simp only [Act.put, List.setIfInBounds_toArray, List.set_cons_zero, List.set_cons_succ])
       go_cut [50] (fun v50 wc => ∃ (kq : Nat) (x50_15 : Bool), v50 = .bool x50_15 ∧ Aside0 (R21Parse.j1 kq t237 x6_1 x7_1 x8_1 x50_15 ((rd_T56 t237 x8_1).f0) ((rd_T56 t237 x8_1).f1) false = some (r1, r2, r3)) ∧ Aside0 (kq ≤ k1) ∧ Aside0 (Kd.R k56 56 wc w.heap.size (fun k_ => k_ ≠ gb244) (.slice (some ad243) t237.length co17) t237) ∧ Aside0 (Kd.S k43 43 wc w.heap.size (fun _ => True) u6 x6_1) ∧ Aside0 (wc.heap[gb244]? = some (.cells #[.string ((rd_T56 t237 x8_1).f0), .int .i64 ((rd_T56 t237 x8_1).f1), .bool false] 56 (0, 0))) ∧ Aside0 (Below w.heap.size w wc))
       case first =>
        have H := HC16.out
        clear HC16
        by_cases c20 : x8_1 = 0
        ·
         rw [if_pos c20] at H
         have c20b0 : (x8_1 == 0) = true := beq_iff_eq.mpr c20
         have c20b1 : (x8_1 != 0) = false := bne_eq_false_iff_eq.mpr c20
         clear c20
         (first | rw [c20b0] | (simp only [i64_w, i32_w]; rw [c20b0]) | skip)
         by_cases c21 : ((rd_T56 t237 x8_1).f0).toList = ([118, 101, 114, 115, 105, 111, 110, 58, 32, 49] : List UInt8)
         ·
          rw [if_pos c21] at H
          have c21b0 : (((rd_T56 t237 x8_1).f0).toList == ([118, 101, 114, 115, 105, 111, 110, 58, 32, 49] : List UInt8)) = true := beq_iff_eq.mpr c21
          have c21b1 : (((rd_T56 t237 x8_1).f0).toList != ([118, 101, 114, 115, 105, 111, 110, 58, 32, 49] : List UInt8)) = false := bne_eq_false_iff_eq.mpr c21
          clear c21
          have H' := Aside0.mk H
          clear H
          have hcz22_0 : w18.cell? ⟨gb244, 0, none⟩ = some (.string (⟨#[]⟩ : ByteArray)) := (blk_cell BK244.out 0).trans rfl
          have hcz22_1 : w18.cell? ⟨gb244, 1, none⟩ = some (.int .i64 0) := (blk_cell BK244.out 1).trans rfl
          have hcz22_2 : w18.cell? ⟨gb244, 2, none⟩ = some (.bool false) := (blk_cell BK244.out 2).trans rfl
          have hfz22_0 := blk_frozen BK244.out 0
          have hfz22_1 := blk_frozen BK244.out 1
          have hfz22_2 := blk_frozen BK244.out 2
          go_wp2
          first | go_meet | (simp only [c21b0] at *; go_meet) | (simp only [c20b0] at *; go_meet)
          case rel => exact ⟨_, (true), ap2, H', ⟨by have := HK1.out; first | omega | exact Nat.le_refl _⟩, ⟨by (with_reducible repeat (first | apply Kd.R_alloc | apply Kd.R_drewN | apply Kd.R_drew)); exact Kd.R_mono (Kd.R_far (p := ⟨gb244, 2, none⟩) (Kd.R_far (p := ⟨gb244, 1, none⟩) (Kd.R_far (p := ⟨gb244, 0, none⟩) (Kd.R_mono HO_5.out (fun k_ hk => (⟨hk, hk.2⟩ : _ ∧ k_ ≠ gb244))) (fun _ hk => hk.2) (.string ((rd_T56 t237 x8_1).f0))) (fun _ hk => hk.2) (.int .i64 ((rd_T56 t237 x8_1).f1))) (fun _ hk => hk.2) (.bool false)) (fun _ hk => hk.1.2)⟩, ⟨by (with_reducible repeat (first | apply Kd.S_alloc | apply Kd.S_drewN | apply Kd.S_drew)); exact Kd.S_mono (Kd.S_far (p := ⟨gb244, 2, none⟩) (Kd.S_far (p := ⟨gb244, 1, none⟩) (Kd.S_far (p := ⟨gb244, 0, none⟩) (Kd.S_types HO_6.out BK244.out (by decide)) (fun _ hk => hk.2) (.string ((rd_T56 t237 x8_1).f0))) (fun _ hk => hk.2) (.int .i64 ((rd_T56 t237 x8_1).f1))) (fun _ hk => hk.2) (.bool false)) (fun _ hk => trivial)⟩, ⟨by (with_reducible repeat (first | refine blk_drewN ?_ _ | refine blk_drew ?_ | refine blk_alloc ?_ _)); refine blk_put (cs := #[.string ((rd_T56 t237 x8_1).f0), .int .i64 ((rd_T56 t237 x8_1).f1), .bool false]) ?_ 2 _ rfl; (with_reducible repeat (first | refine blk_drewN ?_ _ | refine blk_drew ?_ | refine blk_alloc ?_ _)); refine blk_put (cs := #[.string ((rd_T56 t237 x8_1).f0), .int .i64 0, .bool false]) ?_ 1 _ rfl; (with_reducible repeat (first | refine blk_drewN ?_ _ | refine blk_drew ?_ | refine blk_alloc ?_ _)); refine blk_put (cs := #[.string (⟨#[]⟩ : ByteArray), .int .i64 0, .bool false]) ?_ 0 _ rfl; (with_reducible repeat (first | refine blk_drewN ?_ _ | refine blk_drew ?_ | refine blk_alloc ?_ _)); exact BK244.out⟩, ⟨by repeat (first | (with_reducible first | exact HB.out | apply below_alloc | apply pw_below_drewN | apply below_drew1 | refine below_set ?_ GE244.out) | exact HB.out)⟩⟩
         ·
          rw [if_neg c21] at H
          have c21b0 : (((rd_T56 t237 x8_1).f0).toList == ([118, 101, 114, 115, 105, 111, 110, 58, 32, 49] : List UInt8)) = false := beq_eq_false_iff_ne.mpr c21
          have c21b1 : (((rd_T56 t237 x8_1).f0).toList != ([118, 101, 114, 115, 105, 111, 110, 58, 32, 49] : List UInt8)) = true := bne_iff_ne.mpr c21
          by_cases c23 : (((rd_T56 t237 x8_1).f0).size : Int) > 0
          ·
           rw [if_pos c23] at H
           have c23b0 := decide_eq_true c23
           have c23b1 : decide (0 < ((rd_T56 t237 x8_1).f0).size) = true := decide_eq_true (by omega)
           clear c23
           by_cases c24 : 0 < (((rd_T56 t237 x8_1).f0).size : Int)
           ·
            rw [if_pos c24] at H
            have c24b0 := decide_eq_true c24
            have c24b1 : decide (0 < ((rd_T56 t237 x8_1).f0).size) = true := decide_eq_true (by omega)
            clear c24
            have H' := Aside0.mk H
            clear H
            have hcz26_0 : w18.cell? ⟨gb244, 0, none⟩ = some (.string (⟨#[]⟩ : ByteArray)) := (blk_cell BK244.out 0).trans rfl
            have hcz26_1 : w18.cell? ⟨gb244, 1, none⟩ = some (.int .i64 0) := (blk_cell BK244.out 1).trans rfl
            have hcz26_2 : w18.cell? ⟨gb244, 2, none⟩ = some (.bool false) := (blk_cell BK244.out 2).trans rfl
            have hfz26_0 := blk_frozen BK244.out 0
            have hfz26_1 := blk_frozen BK244.out 1
            have hfz26_2 := blk_frozen BK244.out 2
            have p25 : 0 ≤ (0 : Int) := (by omega)
            have q25 : 0 < ((rd_T56 t237 x8_1).f0).size := (by have : (0 : Int) < (((rd_T56 t237 x8_1).f0).size : Int) := of_decide_eq_true ap0; omega)
            have hx25 : ∀ h : 0 < ((rd_T56 t237 x8_1).f0).size, ((((rd_T56 t237 x8_1).f0)[0]'h).toNat : Int) = bt ((rd_T56 t237 x8_1).f0) 0 := bt_at ((rd_T56 t237 x8_1).f0) 0
            clear p25
            have qi25 : (0 < (((rd_T56 t237 x8_1).f0).size : Int)) = True := eq_true (of_decide_eq_true ap0)
            replace q25 := eq_true q25
            go_wp2
            first | go_meet | (simp only [c21b0] at *; go_meet) | (simp only [c21b0] at *; go_meet) | (simp only [c20b0] at *; go_meet)
            case rel => exact ⟨_, (((bt ((rd_T56 t237 x8_1).f0) 0) == 35)), ap2, H', ⟨by have := HK1.out; first | omega | exact Nat.le_refl _⟩, ⟨by (with_reducible repeat (first | apply Kd.R_alloc | apply Kd.R_drewN | apply Kd.R_drew)); exact Kd.R_mono (Kd.R_far (p := ⟨gb244, 2, none⟩) (Kd.R_far (p := ⟨gb244, 1, none⟩) (Kd.R_far (p := ⟨gb244, 0, none⟩) (Kd.R_mono HO_5.out (fun k_ hk => (⟨hk, hk.2⟩ : _ ∧ k_ ≠ gb244))) (fun _ hk => hk.2) (.string ((rd_T56 t237 x8_1).f0))) (fun _ hk => hk.2) (.int .i64 ((rd_T56 t237 x8_1).f1))) (fun _ hk => hk.2) (.bool false)) (fun _ hk => hk.1.2)⟩, ⟨by (with_reducible repeat (first | apply Kd.S_alloc | apply Kd.S_drewN | apply Kd.S_drew)); exact Kd.S_mono (Kd.S_far (p := ⟨gb244, 2, none⟩) (Kd.S_far (p := ⟨gb244, 1, none⟩) (Kd.S_far (p := ⟨gb244, 0, none⟩) (Kd.S_types HO_6.out BK244.out (by decide)) (fun _ hk => hk.2) (.string ((rd_T56 t237 x8_1).f0))) (fun _ hk => hk.2) (.int .i64 ((rd_T56 t237 x8_1).f1))) (fun _ hk => hk.2) (.bool false)) (fun _ hk => trivial)⟩, ⟨by (with_reducible repeat (first | refine blk_drewN ?_ _ | refine blk_drew ?_ | refine blk_alloc ?_ _)); refine blk_put (cs := #[.string ((rd_T56 t237 x8_1).f0), .int .i64 ((rd_T56 t237 x8_1).f1), .bool false]) ?_ 2 _ rfl; (with_reducible repeat (first | refine blk_drewN ?_ _ | refine blk_drew ?_ | refine blk_alloc ?_ _)); refine blk_put (cs := #[.string ((rd_T56 t237 x8_1).f0), .int .i64 0, .bool false]) ?_ 1 _ rfl; (with_reducible repeat (first | refine blk_drewN ?_ _ | refine blk_drew ?_ | refine blk_alloc ?_ _)); refine blk_put (cs := #[.string (⟨#[]⟩ : ByteArray), .int .i64 0, .bool false]) ?_ 0 _ rfl; (with_reducible repeat (first | refine blk_drewN ?_ _ | refine blk_drew ?_ | refine blk_alloc ?_ _)); exact BK244.out⟩, ⟨by repeat (first | (with_reducible first | exact HB.out | apply below_alloc | apply pw_below_drewN | apply below_drew1 | refine below_set ?_ GE244.out) | exact HB.out)⟩⟩
           ·
            rw [if_neg c24] at H
            exact absurd H (by simp)
          ·
           rw [if_neg c23] at H
           have c23b0 := decide_eq_false c23
           have c23b1 : decide (0 < ((rd_T56 t237 x8_1).f0).size) = false := decide_eq_false (by omega)
           clear c23
           have H' := Aside0.mk H
           clear H
           have hcz27_0 : w18.cell? ⟨gb244, 0, none⟩ = some (.string (⟨#[]⟩ : ByteArray)) := (blk_cell BK244.out 0).trans rfl
           have hcz27_1 : w18.cell? ⟨gb244, 1, none⟩ = some (.int .i64 0) := (blk_cell BK244.out 1).trans rfl
           have hcz27_2 : w18.cell? ⟨gb244, 2, none⟩ = some (.bool false) := (blk_cell BK244.out 2).trans rfl
           have hfz27_0 := blk_frozen BK244.out 0
           have hfz27_1 := blk_frozen BK244.out 1
           have hfz27_2 := blk_frozen BK244.out 2
           go_wp2
           first | go_meet | (simp only [c21b0] at *; go_meet) | (simp only [c21b0] at *; go_meet) | (simp only [c20b0] at *; go_meet)
           case rel => exact ⟨_, (false), ap2, H', ⟨by have := HK1.out; first | omega | exact Nat.le_refl _⟩, ⟨by (with_reducible repeat (first | apply Kd.R_alloc | apply Kd.R_drewN | apply Kd.R_drew)); exact Kd.R_mono (Kd.R_far (p := ⟨gb244, 2, none⟩) (Kd.R_far (p := ⟨gb244, 1, none⟩) (Kd.R_far (p := ⟨gb244, 0, none⟩) (Kd.R_mono HO_5.out (fun k_ hk => (⟨hk, hk.2⟩ : _ ∧ k_ ≠ gb244))) (fun _ hk => hk.2) (.string ((rd_T56 t237 x8_1).f0))) (fun _ hk => hk.2) (.int .i64 ((rd_T56 t237 x8_1).f1))) (fun _ hk => hk.2) (.bool false)) (fun _ hk => hk.1.2)⟩, ⟨by (with_reducible repeat (first | apply Kd.S_alloc | apply Kd.S_drewN | apply Kd.S_drew)); exact Kd.S_mono (Kd.S_far (p := ⟨gb244, 2, none⟩) (Kd.S_far (p := ⟨gb244, 1, none⟩) (Kd.S_far (p := ⟨gb244, 0, none⟩) (Kd.S_types HO_6.out BK244.out (by decide)) (fun _ hk => hk.2) (.string ((rd_T56 t237 x8_1).f0))) (fun _ hk => hk.2) (.int .i64 ((rd_T56 t237 x8_1).f1))) (fun _ hk => hk.2) (.bool false)) (fun _ hk => trivial)⟩, ⟨by (with_reducible repeat (first | refine blk_drewN ?_ _ | refine blk_drew ?_ | refine blk_alloc ?_ _)); refine blk_put (cs := #[.string ((rd_T56 t237 x8_1).f0), .int .i64 ((rd_T56 t237 x8_1).f1), .bool false]) ?_ 2 _ rfl; (with_reducible repeat (first | refine blk_drewN ?_ _ | refine blk_drew ?_ | refine blk_alloc ?_ _)); refine blk_put (cs := #[.string ((rd_T56 t237 x8_1).f0), .int .i64 0, .bool false]) ?_ 1 _ rfl; (with_reducible repeat (first | refine blk_drewN ?_ _ | refine blk_drew ?_ | refine blk_alloc ?_ _)); refine blk_put (cs := #[.string (⟨#[]⟩ : ByteArray), .int .i64 0, .bool false]) ?_ 0 _ rfl; (with_reducible repeat (first | refine blk_drewN ?_ _ | refine blk_drew ?_ | refine blk_alloc ?_ _)); exact BK244.out⟩, ⟨by repeat (first | (with_reducible first | exact HB.out | apply below_alloc | apply pw_below_drewN | apply below_drew1 | refine below_set ?_ GE244.out) | exact HB.out)⟩⟩
        ·
         rw [if_neg c20] at H
         have c20b0 : (x8_1 == 0) = false := beq_eq_false_iff_ne.mpr c20
         have c20b1 : (x8_1 != 0) = true := bne_iff_ne.mpr c20
         (first | rw [c20b0] | (simp only [i64_w, i32_w]; rw [c20b0]) | skip)
         by_cases c28 : (((rd_T56 t237 x8_1).f0).size : Int) > 0
         ·
          rw [if_pos c28] at H
          have c28b0 := decide_eq_true c28
          have c28b1 : decide (0 < ((rd_T56 t237 x8_1).f0).size) = true := decide_eq_true (by omega)
          clear c28
          by_cases c29 : 0 < (((rd_T56 t237 x8_1).f0).size : Int)
          ·
           rw [if_pos c29] at H
           have c29b0 := decide_eq_true c29
           have c29b1 : decide (0 < ((rd_T56 t237 x8_1).f0).size) = true := decide_eq_true (by omega)
           clear c29
           have H' := Aside0.mk H
           clear H
           have hcz31_0 : w18.cell? ⟨gb244, 0, none⟩ = some (.string (⟨#[]⟩ : ByteArray)) := (blk_cell BK244.out 0).trans rfl
           have hcz31_1 : w18.cell? ⟨gb244, 1, none⟩ = some (.int .i64 0) := (blk_cell BK244.out 1).trans rfl
           have hcz31_2 : w18.cell? ⟨gb244, 2, none⟩ = some (.bool false) := (blk_cell BK244.out 2).trans rfl
           have hfz31_0 := blk_frozen BK244.out 0
           have hfz31_1 := blk_frozen BK244.out 1
           have hfz31_2 := blk_frozen BK244.out 2
           have p30 : 0 ≤ (0 : Int) := (by omega)
           have q30 : 0 < ((rd_T56 t237 x8_1).f0).size := (by have : (0 : Int) < (((rd_T56 t237 x8_1).f0).size : Int) := of_decide_eq_true ap0; omega)
           have hx30 : ∀ h : 0 < ((rd_T56 t237 x8_1).f0).size, ((((rd_T56 t237 x8_1).f0)[0]'h).toNat : Int) = bt ((rd_T56 t237 x8_1).f0) 0 := bt_at ((rd_T56 t237 x8_1).f0) 0
           clear p30
           have qi30 : (0 < (((rd_T56 t237 x8_1).f0).size : Int)) = True := eq_true (of_decide_eq_true ap0)
           replace q30 := eq_true q30
           go_wp2
           first | go_meet | (simp only [c20b0] at *; go_meet) | (simp only [c21b0] at *; go_meet) | (simp only [c21b0] at *; go_meet)
           case rel => exact ⟨_, (((bt ((rd_T56 t237 x8_1).f0) 0) == 35)), ap2, H', ⟨by have := HK1.out; first | omega | exact Nat.le_refl _⟩, ⟨by (with_reducible repeat (first | apply Kd.R_alloc | apply Kd.R_drewN | apply Kd.R_drew)); exact Kd.R_mono (Kd.R_far (p := ⟨gb244, 2, none⟩) (Kd.R_far (p := ⟨gb244, 1, none⟩) (Kd.R_far (p := ⟨gb244, 0, none⟩) (Kd.R_mono HO_5.out (fun k_ hk => (⟨hk, hk.2⟩ : _ ∧ k_ ≠ gb244))) (fun _ hk => hk.2) (.string ((rd_T56 t237 x8_1).f0))) (fun _ hk => hk.2) (.int .i64 ((rd_T56 t237 x8_1).f1))) (fun _ hk => hk.2) (.bool false)) (fun _ hk => hk.1.2)⟩, ⟨by (with_reducible repeat (first | apply Kd.S_alloc | apply Kd.S_drewN | apply Kd.S_drew)); exact Kd.S_mono (Kd.S_far (p := ⟨gb244, 2, none⟩) (Kd.S_far (p := ⟨gb244, 1, none⟩) (Kd.S_far (p := ⟨gb244, 0, none⟩) (Kd.S_types HO_6.out BK244.out (by decide)) (fun _ hk => hk.2) (.string ((rd_T56 t237 x8_1).f0))) (fun _ hk => hk.2) (.int .i64 ((rd_T56 t237 x8_1).f1))) (fun _ hk => hk.2) (.bool false)) (fun _ hk => trivial)⟩, ⟨by (with_reducible repeat (first | refine blk_drewN ?_ _ | refine blk_drew ?_ | refine blk_alloc ?_ _)); refine blk_put (cs := #[.string ((rd_T56 t237 x8_1).f0), .int .i64 ((rd_T56 t237 x8_1).f1), .bool false]) ?_ 2 _ rfl; (with_reducible repeat (first | refine blk_drewN ?_ _ | refine blk_drew ?_ | refine blk_alloc ?_ _)); refine blk_put (cs := #[.string ((rd_T56 t237 x8_1).f0), .int .i64 0, .bool false]) ?_ 1 _ rfl; (with_reducible repeat (first | refine blk_drewN ?_ _ | refine blk_drew ?_ | refine blk_alloc ?_ _)); refine blk_put (cs := #[.string (⟨#[]⟩ : ByteArray), .int .i64 0, .bool false]) ?_ 0 _ rfl; (with_reducible repeat (first | refine blk_drewN ?_ _ | refine blk_drew ?_ | refine blk_alloc ?_ _)); exact BK244.out⟩, ⟨by repeat (first | (with_reducible first | exact HB.out | apply below_alloc | apply pw_below_drewN | apply below_drew1 | refine below_set ?_ GE244.out) | exact HB.out)⟩⟩
          ·
           rw [if_neg c29] at H
           exact absurd H (by simp)
         ·
          rw [if_neg c28] at H
          have c28b0 := decide_eq_false c28
          have c28b1 : decide (0 < ((rd_T56 t237 x8_1).f0).size) = false := decide_eq_false (by omega)
          clear c28
          have H' := Aside0.mk H
          clear H
          have hcz32_0 : w18.cell? ⟨gb244, 0, none⟩ = some (.string (⟨#[]⟩ : ByteArray)) := (blk_cell BK244.out 0).trans rfl
          have hcz32_1 : w18.cell? ⟨gb244, 1, none⟩ = some (.int .i64 0) := (blk_cell BK244.out 1).trans rfl
          have hcz32_2 : w18.cell? ⟨gb244, 2, none⟩ = some (.bool false) := (blk_cell BK244.out 2).trans rfl
          have hfz32_0 := blk_frozen BK244.out 0
          have hfz32_1 := blk_frozen BK244.out 1
          have hfz32_2 := blk_frozen BK244.out 2
          go_wp2
          first | go_meet | (simp only [c20b0] at *; go_meet) | (simp only [c21b0] at *; go_meet) | (simp only [c21b0] at *; go_meet)
          case rel => exact ⟨_, (false), ap2, H', ⟨by have := HK1.out; first | omega | exact Nat.le_refl _⟩, ⟨by (with_reducible repeat (first | apply Kd.R_alloc | apply Kd.R_drewN | apply Kd.R_drew)); exact Kd.R_mono (Kd.R_far (p := ⟨gb244, 2, none⟩) (Kd.R_far (p := ⟨gb244, 1, none⟩) (Kd.R_far (p := ⟨gb244, 0, none⟩) (Kd.R_mono HO_5.out (fun k_ hk => (⟨hk, hk.2⟩ : _ ∧ k_ ≠ gb244))) (fun _ hk => hk.2) (.string ((rd_T56 t237 x8_1).f0))) (fun _ hk => hk.2) (.int .i64 ((rd_T56 t237 x8_1).f1))) (fun _ hk => hk.2) (.bool false)) (fun _ hk => hk.1.2)⟩, ⟨by (with_reducible repeat (first | apply Kd.S_alloc | apply Kd.S_drewN | apply Kd.S_drew)); exact Kd.S_mono (Kd.S_far (p := ⟨gb244, 2, none⟩) (Kd.S_far (p := ⟨gb244, 1, none⟩) (Kd.S_far (p := ⟨gb244, 0, none⟩) (Kd.S_types HO_6.out BK244.out (by decide)) (fun _ hk => hk.2) (.string ((rd_T56 t237 x8_1).f0))) (fun _ hk => hk.2) (.int .i64 ((rd_T56 t237 x8_1).f1))) (fun _ hk => hk.2) (.bool false)) (fun _ hk => trivial)⟩, ⟨by (with_reducible repeat (first | refine blk_drewN ?_ _ | refine blk_drew ?_ | refine blk_alloc ?_ _)); refine blk_put (cs := #[.string ((rd_T56 t237 x8_1).f0), .int .i64 ((rd_T56 t237 x8_1).f1), .bool false]) ?_ 2 _ rfl; (with_reducible repeat (first | refine blk_drewN ?_ _ | refine blk_drew ?_ | refine blk_alloc ?_ _)); refine blk_put (cs := #[.string ((rd_T56 t237 x8_1).f0), .int .i64 0, .bool false]) ?_ 1 _ rfl; (with_reducible repeat (first | refine blk_drewN ?_ _ | refine blk_drew ?_ | refine blk_alloc ?_ _)); refine blk_put (cs := #[.string (⟨#[]⟩ : ByteArray), .int .i64 0, .bool false]) ?_ 0 _ rfl; (with_reducible repeat (first | refine blk_drewN ?_ _ | refine blk_drew ?_ | refine blk_alloc ?_ _)); exact BK244.out⟩, ⟨by repeat (first | (with_reducible first | exact HB.out | apply below_alloc | apply pw_below_drewN | apply below_drew1 | refine below_set ?_ GE244.out) | exact HB.out)⟩⟩
       case rest =>
        clear HC16
        try clear c1
        try clear c2
        try clear c2b0
        try clear c2b1
        try clear p2
        try clear q2
        try clear hx2
        try clear qi2
        try clear c3
        try clear p3
        try clear q3
        try clear hx3
        try clear qi3
        try clear c7
        try clear c7b0
        try clear c8
        try clear c8b0
        try clear c9
        try clear q9
        try clear c10
        try clear c20
        try clear c20b0
        try clear c20b1
        try clear c21
        try clear c21b0
        try clear c21b1
        try clear c23
        try clear c23b0
        try clear c23b1
        try clear c24
        try clear c24b0
        try clear c24b1
        try clear p24
        try clear q24
        try clear hx24
        try clear p25
        try clear q25
        try clear hx25
        try clear qi25
        try clear c28
        try clear c28b0
        try clear c28b1
        try clear c29
        try clear c29b0
        try clear c29b1
        try clear c30
        try clear p30
        try clear q30
        try clear hx30
        try clear qi30
        try clear hcz13_0
        try clear hcz13_1
        try clear hcz13_2
        try clear hcz19_0
        try clear hcz19_1
        try clear hcz19_2
        try clear hcz22_0
        try clear hcz22_1
        try clear hcz22_2
        try clear hcz26_0
        try clear hcz26_1
        try clear hcz26_2
        try clear hcz27_0
        try clear hcz27_1
        try clear hcz27_2
        try clear hcz31_0
        try clear hcz31_1
        try clear hcz31_2
        try clear hcz32_0
        try clear hcz32_1
        try clear hcz32_2
        try clear hfz13_0
        try clear hfz13_1
        try clear hfz13_2
        try clear hfz19_0
        try clear hfz19_1
        try clear hfz19_2
        try clear hfz22_0
        try clear hfz22_1
        try clear hfz22_2
        try clear hfz26_0
        try clear hfz26_1
        try clear hfz26_2
        try clear hfz27_0
        try clear hfz27_1
        try clear hfz27_2
        try clear hfz31_0
        try clear hfz31_1
        try clear hfz31_2
        try clear hfz32_0
        try clear hfz32_1
        try clear hfz32_2
        try clear hx243_0
        try clear hx243_1
        try clear hx243_2
        try clear p2
        try clear p243
        try clear p25
        try clear p30
        try clear q243
        try clear q25
        try clear q30
        obtain ⟨kq, x50_15, rfl, HA, HJ15, HO_5, HO_6, BK244, HB⟩ := hcut
        cases kq with
        | zero => exact absurd HA.out (by simp [R21Parse.j1])
        | succ kj15 =>
         have H := HA.out
         clear HA
         simp only [R21Parse.j1] at H
         by_cases c33 : x50_15 = true
         ·
          subst c33
          rw [if_pos rfl] at H
          have H' := Aside0.mk H
          clear H
          go_wp2
          go_roundg kj15
          case measure => have := HK1.out; have := HJ15.out; omega
          case rel => exact ⟨(x6_1), (x7_1), (wrap64 (x8_1 + 1)), ap2, ap2, H', ⟨by have := HK1.out; have := HJ15.out; omega⟩, ⟨by (with_reducible repeat (first | apply Kd.R_alloc | apply Kd.R_drewN | apply Kd.R_drew)); exact Kd.R_mono HO_5.out (fun _ hk => trivial)⟩, ⟨by (with_reducible repeat (first | apply Kd.S_alloc | apply Kd.S_drewN | apply Kd.S_drew)); exact HO_6.out⟩, ⟨by repeat (first | (with_reducible first | exact HB.out | apply below_alloc | apply pw_below_drewN | apply below_drew1 | refine below_set ?_ GE244.out) | exact HB.out)⟩⟩
         ·
          replace c33 := Bool.eq_false_iff.mpr c33
          subst c33
          rw [if_neg (show ¬ (false = true) by decide)] at H
          by_cases c34 : ((rd_T56 t237 x8_1).f0).toList = ([] : List UInt8)
          ·
           rw [if_pos c34] at H
           have c34b0 : (((rd_T56 t237 x8_1).f0).toList == ([] : List UInt8)) = true := beq_iff_eq.mpr c34
           have c34b1 : (((rd_T56 t237 x8_1).f0).toList != ([] : List UInt8)) = false := bne_eq_false_iff_eq.mpr c34
           clear c34
           have H' := Aside0.mk H
           clear H
           have hcz35_0 : wc.cell? ⟨gb244, 0, none⟩ = some (.string ((rd_T56 t237 x8_1).f0)) := (blk_cell BK244.out 0).trans rfl
           have hcz35_1 : wc.cell? ⟨gb244, 1, none⟩ = some (.int .i64 ((rd_T56 t237 x8_1).f1)) := (blk_cell BK244.out 1).trans rfl
           have hcz35_2 : wc.cell? ⟨gb244, 2, none⟩ = some (.bool false) := (blk_cell BK244.out 2).trans rfl
           have hfz35_0 := blk_frozen BK244.out 0
           have hfz35_1 := blk_frozen BK244.out 1
           have hfz35_2 := blk_frozen BK244.out 2
           go_wp2
           go_roundg kj15
           case measure => have := HK1.out; have := HJ15.out; omega
           case rel => exact ⟨(x6_1), (false), (wrap64 (x8_1 + 1)), ap2, ap2, H', ⟨by have := HK1.out; have := HJ15.out; omega⟩, ⟨by (with_reducible repeat (first | apply Kd.R_alloc | apply Kd.R_drewN | apply Kd.R_drew)); exact Kd.R_mono HO_5.out (fun _ hk => trivial)⟩, ⟨by (with_reducible repeat (first | apply Kd.S_alloc | apply Kd.S_drewN | apply Kd.S_drew)); exact HO_6.out⟩, ⟨by repeat (first | (with_reducible first | exact HB.out | apply below_alloc | apply pw_below_drewN | apply below_drew1 | refine below_set ?_ GE244.out) | exact HB.out)⟩⟩
          ·
           rw [if_neg c34] at H
           have c34b0 : (((rd_T56 t237 x8_1).f0).toList == ([] : List UInt8)) = false := beq_eq_false_iff_ne.mpr c34
           have c34b1 : (((rd_T56 t237 x8_1).f0).toList != ([] : List UInt8)) = true := bne_iff_ne.mpr c34
           replace H := Option.bind_eq_some_iff.mp H
           obtain ⟨⟨t245, t246, t247⟩, A360, H⟩ := H
           replace H : (if t247 = true then ((R21Name.f kj15 t245).bind fun t249 => (if t249 = true then (if x7_1 = true then (R21Parse.j2 kj15 t237 x6_1 x7_1 x8_1 true ((rd_T56 t237 x8_1).f0) ((rd_T56 t237 x8_1).f1) false t245 t246) else ((R21Name.f kj15 t245).bind fun t250 => (if t250 = true then (R21Parse.j2 kj15 t237 x6_1 x7_1 x8_1 false ((rd_T56 t237 x8_1).f0) ((rd_T56 t237 x8_1).f1) false t245 t246) else (R21Parse.j2 kj15 t237 x6_1 x7_1 x8_1 (!x7_1) ((rd_T56 t237 x8_1).f0) ((rd_T56 t237 x8_1).f1) false t245 t246)))) else ((R21Name.f kj15 t245).bind fun t251 => (if t251 = true then (R21Parse.j2 kj15 t237 x6_1 x7_1 x8_1 false ((rd_T56 t237 x8_1).f0) ((rd_T56 t237 x8_1).f1) false t245 t246) else (R21Parse.j2 kj15 t237 x6_1 x7_1 x8_1 (!x7_1) ((rd_T56 t237 x8_1).f0) ((rd_T56 t237 x8_1).f1) false t245 t246))))) else (R21Parse.j2 kj15 t237 x6_1 x7_1 x8_1 true ((rd_T56 t237 x8_1).f0) ((rd_T56 t237 x8_1).f1) false t245 t246)) = some (r1, r2, r3) := H
           have A36 := Aside0.mk A360
           clear A360
           have HC37 := Aside0.mk H
           clear H
           have hcz38_0 : wc.cell? ⟨gb244, 0, none⟩ = some (.string ((rd_T56 t237 x8_1).f0)) := (blk_cell BK244.out 0).trans rfl
           have hcz38_1 : wc.cell? ⟨gb244, 1, none⟩ = some (.int .i64 ((rd_T56 t237 x8_1).f1)) := (blk_cell BK244.out 1).trans rfl
           have hcz38_2 : wc.cell? ⟨gb244, 2, none⟩ = some (.bool false) := (blk_cell BK244.out 2).trans rfl
           have hfz38_0 := blk_frozen BK244.out 0
           have hfz38_1 := blk_frozen BK244.out 1
           have hfz38_2 := blk_frozen BK244.out 2
           go_upto_region 16 with (first | ((with_reducible refine gate_callee (f := 31) rfl ?_); refine goesL_ (some 57) rfl rfl Tryd.func31 (by kernel_rfl) rfl #[.string ((rd_T56 t237 x8_1).f0)] rfl ap3 ?_; (with_reducible refine (R21Pair.calls kj15 ((rd_T56 t237 x8_1).f0) t245 t246 t247 _ A36.out).mono ?_); rintro e w39 ⟨rfl, hb⟩; refine ⟨_, rfl, ?_⟩; have n0_ := Aside0.mk (Kd.R_below (apAR HO_5.out) hb); have n1_ := Aside0.mk (Kd.S_below (apAS HO_6.out) hb); have n2_ := Aside0.mk (blk_below (g := gb244) (o := .cells #[.string ((rd_T56 t237 x8_1).f0), .int .i64 ((rd_T56 t237 x8_1).f1), .bool false] 56 (0, 0)) (apB BK244.out) hb); have n3_ := Aside0.mk (below_step (apG GE244.out) hb); clear HO_5; clear HO_6; clear BK244; clear HB; have HO_5 := n0_; have HO_6 := n1_; have BK244 := n2_; have HB := n3_; clear n0_ n1_ n2_ n3_; (try clear hb); (try clear hb2); (try clear hk); (try clear hi)) | ((with_reducible refine gate_dst (N := 10) rfl ?_); (try (refine gate_guard (by rfl) ?_; dsimp only)); refine box_event ?hg (N := 10) ?hd (cs := #[.string (⟨#[]⟩ : ByteArray), .string (⟨#[]⟩ : ByteArray)]) (t := 40) ?hr ?_; (case hd => rfl); (case hg => rfl); (case hr => first | (go_simp; done) | (go_simp; rfl)); intro gb248 hg w40 hbox hb; have n0_ := Aside0.mk (Kd.R_below (apAR HO_5.out) hb); have n1_ := Aside0.mk (Kd.S_below (Kd.S_elderB (apAS HO_6.out) gb248 (Nat.le_of_eq hg.symm)) hb); have n2_ := Aside0.mk (blk_below (g := gb244) (o := .cells #[.string ((rd_T56 t237 x8_1).f0), .int .i64 ((rd_T56 t237 x8_1).f1), .bool false] 56 (0, 0)) (apB BK244.out) hb); have n3_ := Aside0.mk (below_step (apG GE244.out) hb); have n4_ := Aside0.mk (hbox); have n5_ := Aside0.mk ((by rw [hg]; exact (below_size (apG GE244.out)) : w.heap.size ≤ gb248)); have n6_ := Aside0.mk ((by rw [hg]; exact (below_size (apG GE244.out)) : w.heap.size ≤ gb248)); have n7_ := Aside0.mk ((by rw [hg]; exact Nat.ne_of_lt (blk_lt (g := gb244) (o := .cells #[.string ((rd_T56 t237 x8_1).f0), .int .i64 ((rd_T56 t237 x8_1).f1), .bool false] 56 (0, 0)) (apB BK244.out)) : gb244 ≠ gb248)); have n8_ := Aside0.mk ((by rw [hg]; exact Nat.ne_of_gt (blk_lt (g := gb244) (o := .cells #[.string ((rd_T56 t237 x8_1).f0), .int .i64 ((rd_T56 t237 x8_1).f1), .bool false] 56 (0, 0)) (apB BK244.out)) : gb248 ≠ gb244)); clear HO_5; clear HO_6; clear BK244; clear HB; have HO_5 := n0_; have HO_6 := n1_; have BK244 := n2_; have HB := n3_; have BK248 := n4_; have GW248 := n5_; have GE248 := n6_; have NB244_248 := n7_; have NB248_244 := n8_; clear n0_ n1_ n2_ n3_ n4_ n5_ n6_ n7_ n8_; clear hb hbox hg; have hnb41 := NB248_244.out; have hnc41 := NB244_248.out; have hcz42_0 : w40.cell? ⟨gb248, 0, none⟩ = some (.string (⟨#[]⟩ : ByteArray)) := (blk_cell BK248.out 0).trans rfl; have hcz42_1 : w40.cell? ⟨gb248, 1, none⟩ = some (.string (⟨#[]⟩ : ByteArray)) := (blk_cell BK248.out 1).trans rfl; have hfz42_0 := blk_frozen BK248.out 0; have hfz42_1 := blk_frozen BK248.out 1))
           (try simp only [Act.put, List.setIfInBounds_toArray, List.set_cons_zero, List.set_cons_succ])
           go_cut [79] (fun v79 wc => ∃ (kq : Nat) (x79_36 : Bool), v79 = .bool x79_36 ∧ Aside0 (R21Parse.j2 kq t237 x6_1 x7_1 x8_1 x79_36 ((rd_T56 t237 x8_1).f0) ((rd_T56 t237 x8_1).f1) false t245 t246 = some (r1, r2, r3)) ∧ Aside0 (kq ≤ kj15) ∧ Aside0 (Kd.R k56 56 wc w.heap.size (fun k_ => k_ ≠ gb244) (.slice (some ad243) t237.length co17) t237) ∧ Aside0 (Kd.S k43 43 wc w.heap.size (fun k_ => k_ ≠ gb248) u6 x6_1) ∧ Aside0 (wc.heap[gb244]? = some (.cells #[.string ((rd_T56 t237 x8_1).f0), .int .i64 ((rd_T56 t237 x8_1).f1), .bool false] 56 (0, 0))) ∧ Aside0 (wc.heap[gb248]? = some (.cells #[.string t245, .string t246] 40 (0, 0))) ∧ Aside0 (Below w.heap.size w wc))
           case first =>
            have H := HC37.out
            clear HC37
            by_cases c43 : t247 = true
            ·
             subst c43
             rw [if_pos rfl] at H
             replace H := Option.bind_eq_some_iff.mp H
             obtain ⟨t249, A440, H⟩ := H
             replace H : (if t249 = true then (if x7_1 = true then (R21Parse.j2 kj15 t237 x6_1 x7_1 x8_1 true ((rd_T56 t237 x8_1).f0) ((rd_T56 t237 x8_1).f1) false t245 t246) else ((R21Name.f kj15 t245).bind fun t250 => (if t250 = true then (R21Parse.j2 kj15 t237 x6_1 x7_1 x8_1 false ((rd_T56 t237 x8_1).f0) ((rd_T56 t237 x8_1).f1) false t245 t246) else (R21Parse.j2 kj15 t237 x6_1 x7_1 x8_1 (!x7_1) ((rd_T56 t237 x8_1).f0) ((rd_T56 t237 x8_1).f1) false t245 t246)))) else ((R21Name.f kj15 t245).bind fun t251 => (if t251 = true then (R21Parse.j2 kj15 t237 x6_1 x7_1 x8_1 false ((rd_T56 t237 x8_1).f0) ((rd_T56 t237 x8_1).f1) false t245 t246) else (R21Parse.j2 kj15 t237 x6_1 x7_1 x8_1 (!x7_1) ((rd_T56 t237 x8_1).f0) ((rd_T56 t237 x8_1).f1) false t245 t246)))) = some (r1, r2, r3) := H
             have A44 := Aside0.mk A440
             clear A440
             by_cases c45 : t249 = true
             ·
              subst c45
              rw [if_pos rfl] at H
              by_cases c46 : x7_1 = true
              ·
               subst c46
               rw [if_pos rfl] at H
               have H' := Aside0.mk H
               clear H
               have hnb47 := NB248_244.out
               have hnc47 := NB244_248.out
               have hcz48_0 : w40.cell? ⟨gb248, 0, none⟩ = some (.string (⟨#[]⟩ : ByteArray)) := (blk_cell BK248.out 0).trans rfl
               have hcz48_1 : w40.cell? ⟨gb248, 1, none⟩ = some (.string (⟨#[]⟩ : ByteArray)) := (blk_cell BK248.out 1).trans rfl
               have hfz48_0 := blk_frozen BK248.out 0
               have hfz48_1 := blk_frozen BK248.out 1
               go_wp2_with (first | (go_at_call 32; (with_reducible refine (R21Name.calls kj15 t245 true _ A44.out).mono ?_); rintro e w49 ⟨rfl, hb⟩; have n0_ := Aside0.mk (Kd.R_below (by (with_reducible repeat (first | apply Kd.R_alloc | apply Kd.R_drewN | apply Kd.R_drew)); exact (Kd.R_mono (Kd.R_far (p := ⟨gb248, 1, none⟩) (Kd.R_far (p := ⟨gb248, 0, none⟩) (Kd.R_types HO_5.out BK248.out (by decide)) (fun _ hk => hk.2) (.string t245)) (fun _ hk => hk.2) (.string t246)) (fun _ h_ => h_.1))) hb); have n1_ := Aside0.mk (Kd.S_below (by (with_reducible repeat (first | apply Kd.S_alloc | apply Kd.S_drewN | apply Kd.S_drew)); exact (Kd.S_mono (Kd.S_far (p := ⟨gb248, 1, none⟩) (Kd.S_far (p := ⟨gb248, 0, none⟩) (Kd.S_mono HO_6.out (fun k_ hk => (⟨hk, hk.2⟩ : _ ∧ k_ ≠ gb248))) (fun _ hk => hk.2) (.string t245)) (fun _ hk => hk.2) (.string t246)) (fun _ h_ => h_.1))) hb); have n2_ := Aside0.mk (blk_below (g := gb244) (o := .cells #[.string ((rd_T56 t237 x8_1).f0), .int .i64 ((rd_T56 t237 x8_1).f1), .bool false] 56 (0, 0)) (by (with_reducible repeat (first | refine blk_drewN ?_ _ | refine blk_drew ?_ | refine blk_alloc ?_ _)); refine blk_far ?_ NB244_248.out _; (with_reducible repeat (first | refine blk_drewN ?_ _ | refine blk_drew ?_ | refine blk_alloc ?_ _)); refine blk_far ?_ NB244_248.out _; (with_reducible repeat (first | refine blk_drewN ?_ _ | refine blk_drew ?_ | refine blk_alloc ?_ _)); exact BK244.out) hb); have n3_ := Aside0.mk (blk_below (g := gb248) (o := .cells #[.string t245, .string t246] 40 (0, 0)) (by (with_reducible repeat (first | refine blk_drewN ?_ _ | refine blk_drew ?_ | refine blk_alloc ?_ _)); refine blk_put (cs := #[.string t245, .string (⟨#[]⟩ : ByteArray)]) ?_ 1 _ rfl; (with_reducible repeat (first | refine blk_drewN ?_ _ | refine blk_drew ?_ | refine blk_alloc ?_ _)); refine blk_put (cs := #[.string (⟨#[]⟩ : ByteArray), .string (⟨#[]⟩ : ByteArray)]) ?_ 0 _ rfl; (with_reducible repeat (first | refine blk_drewN ?_ _ | refine blk_drew ?_ | refine blk_alloc ?_ _)); exact BK248.out) hb); have n4_ := Aside0.mk (below_step (by repeat (first | (with_reducible first | exact HB.out | apply below_alloc | apply pw_below_drewN | apply below_drew1 | refine below_set ?_ GE244.out | refine below_set ?_ GE248.out) | exact HB.out)) hb); clear HO_5; clear HO_6; clear BK244; clear BK248; clear HB; have HO_5 := n0_; have HO_6 := n1_; have BK244 := n2_; have BK248 := n3_; have HB := n4_; clear n0_ n1_ n2_ n3_ n4_; (try clear hb); (try clear hb2); (try clear hk); (try clear hi)))
               first | go_meet | (simp only [c34b0] at *; go_meet) | (simp only [c34b0] at *; go_meet) | (simp only [c20b0] at *; go_meet)
               case rel => exact ⟨_, (true), ap2, H', ⟨by have := HK1.out; have := HJ15.out; first | omega | exact Nat.le_refl _⟩, ⟨by (with_reducible repeat (first | apply Kd.R_alloc | apply Kd.R_drewN | apply Kd.R_drew)); exact HO_5.out⟩, ⟨by (with_reducible repeat (first | apply Kd.S_alloc | apply Kd.S_drewN | apply Kd.S_drew)); exact Kd.S_mono HO_6.out (fun _ hk => hk.2)⟩, ⟨by (with_reducible repeat (first | refine blk_drewN ?_ _ | refine blk_drew ?_ | refine blk_alloc ?_ _)); exact BK244.out⟩, ⟨by (with_reducible repeat (first | refine blk_drewN ?_ _ | refine blk_drew ?_ | refine blk_alloc ?_ _)); exact BK248.out⟩, ⟨by repeat (first | (with_reducible first | exact HB.out | apply below_alloc | apply pw_below_drewN | apply below_drew1 | refine below_set ?_ GE244.out | refine below_set ?_ GE248.out) | exact HB.out)⟩⟩
              ·
               replace c46 := Bool.eq_false_iff.mpr c46
               subst c46
               rw [if_neg (show ¬ (false = true) by decide)] at H
               replace H := Option.bind_eq_some_iff.mp H
               obtain ⟨t250, A500, H⟩ := H
               replace H : (if t250 = true then (R21Parse.j2 kj15 t237 x6_1 false x8_1 false ((rd_T56 t237 x8_1).f0) ((rd_T56 t237 x8_1).f1) false t245 t246) else (R21Parse.j2 kj15 t237 x6_1 false x8_1 (!false) ((rd_T56 t237 x8_1).f0) ((rd_T56 t237 x8_1).f1) false t245 t246)) = some (r1, r2, r3) := H
               have A50 := Aside0.mk A500
               clear A500
               by_cases c51 : t250 = true
               ·
                subst c51
                rw [if_pos rfl] at H
                have H' := Aside0.mk H
                clear H
                have hnb52 := NB248_244.out
                have hnc52 := NB244_248.out
                have hcz53_0 : w40.cell? ⟨gb248, 0, none⟩ = some (.string (⟨#[]⟩ : ByteArray)) := (blk_cell BK248.out 0).trans rfl
                have hcz53_1 : w40.cell? ⟨gb248, 1, none⟩ = some (.string (⟨#[]⟩ : ByteArray)) := (blk_cell BK248.out 1).trans rfl
                have hfz53_0 := blk_frozen BK248.out 0
                have hfz53_1 := blk_frozen BK248.out 1
                go_wp2_with (first | (go_at_call 32; (with_reducible refine (R21Name.calls kj15 t245 true _ A44.out).mono ?_); rintro e w54 ⟨rfl, hb⟩; have n0_ := Aside0.mk (Kd.R_below (by (with_reducible repeat (first | apply Kd.R_alloc | apply Kd.R_drewN | apply Kd.R_drew)); exact (Kd.R_mono (Kd.R_far (p := ⟨gb248, 1, none⟩) (Kd.R_far (p := ⟨gb248, 0, none⟩) (Kd.R_types HO_5.out BK248.out (by decide)) (fun _ hk => hk.2) (.string t245)) (fun _ hk => hk.2) (.string t246)) (fun _ h_ => h_.1))) hb); have n1_ := Aside0.mk (Kd.S_below (by (with_reducible repeat (first | apply Kd.S_alloc | apply Kd.S_drewN | apply Kd.S_drew)); exact (Kd.S_mono (Kd.S_far (p := ⟨gb248, 1, none⟩) (Kd.S_far (p := ⟨gb248, 0, none⟩) (Kd.S_mono HO_6.out (fun k_ hk => (⟨hk, hk.2⟩ : _ ∧ k_ ≠ gb248))) (fun _ hk => hk.2) (.string t245)) (fun _ hk => hk.2) (.string t246)) (fun _ h_ => h_.1))) hb); have n2_ := Aside0.mk (blk_below (g := gb244) (o := .cells #[.string ((rd_T56 t237 x8_1).f0), .int .i64 ((rd_T56 t237 x8_1).f1), .bool false] 56 (0, 0)) (by (with_reducible repeat (first | refine blk_drewN ?_ _ | refine blk_drew ?_ | refine blk_alloc ?_ _)); refine blk_far ?_ NB244_248.out _; (with_reducible repeat (first | refine blk_drewN ?_ _ | refine blk_drew ?_ | refine blk_alloc ?_ _)); refine blk_far ?_ NB244_248.out _; (with_reducible repeat (first | refine blk_drewN ?_ _ | refine blk_drew ?_ | refine blk_alloc ?_ _)); exact BK244.out) hb); have n3_ := Aside0.mk (blk_below (g := gb248) (o := .cells #[.string t245, .string t246] 40 (0, 0)) (by (with_reducible repeat (first | refine blk_drewN ?_ _ | refine blk_drew ?_ | refine blk_alloc ?_ _)); refine blk_put (cs := #[.string t245, .string (⟨#[]⟩ : ByteArray)]) ?_ 1 _ rfl; (with_reducible repeat (first | refine blk_drewN ?_ _ | refine blk_drew ?_ | refine blk_alloc ?_ _)); refine blk_put (cs := #[.string (⟨#[]⟩ : ByteArray), .string (⟨#[]⟩ : ByteArray)]) ?_ 0 _ rfl; (with_reducible repeat (first | refine blk_drewN ?_ _ | refine blk_drew ?_ | refine blk_alloc ?_ _)); exact BK248.out) hb); have n4_ := Aside0.mk (below_step (by repeat (first | (with_reducible first | exact HB.out | apply below_alloc | apply pw_below_drewN | apply below_drew1 | refine below_set ?_ GE244.out | refine below_set ?_ GE248.out) | exact HB.out)) hb); clear HO_5; clear HO_6; clear BK244; clear BK248; clear HB; have HO_5 := n0_; have HO_6 := n1_; have BK244 := n2_; have BK248 := n3_; have HB := n4_; clear n0_ n1_ n2_ n3_ n4_; (try clear hb); (try clear hb2); (try clear hk); (try clear hi); have hcz55_0 : w54.cell? ⟨gb248, 0, none⟩ = some (.string t245) := (blk_cell BK248.out 0).trans rfl; have hcz55_1 : w54.cell? ⟨gb248, 1, none⟩ = some (.string t246) := (blk_cell BK248.out 1).trans rfl; have hfz55_0 := blk_frozen BK248.out 0; have hfz55_1 := blk_frozen BK248.out 1) | (go_at_call 32; (with_reducible refine (R21Name.calls kj15 t245 true _ A50.out).mono ?_); rintro e w56 ⟨rfl, hb⟩; have n0_ := Aside0.mk (Kd.R_below (apAR HO_5.out) hb); have n1_ := Aside0.mk (Kd.S_below (apAS HO_6.out) hb); have n2_ := Aside0.mk (blk_below (g := gb244) (o := .cells #[.string ((rd_T56 t237 x8_1).f0), .int .i64 ((rd_T56 t237 x8_1).f1), .bool false] 56 (0, 0)) (apB BK244.out) hb); have n3_ := Aside0.mk (blk_below (g := gb248) (o := .cells #[.string t245, .string t246] 40 (0, 0)) (apB BK248.out) hb); have n4_ := Aside0.mk (below_step (by repeat (first | (with_reducible first | exact HB.out | apply below_alloc | apply pw_below_drewN | apply below_drew1 | refine below_set ?_ GE244.out | refine below_set ?_ GE248.out) | exact HB.out)) hb); clear HO_5; clear HO_6; clear BK244; clear BK248; clear HB; have HO_5 := n0_; have HO_6 := n1_; have BK244 := n2_; have BK248 := n3_; have HB := n4_; clear n0_ n1_ n2_ n3_ n4_; (try clear hb); (try clear hb2); (try clear hk); (try clear hi)))
                first | go_meet | (simp only [c34b0] at *; go_meet) | (simp only [c34b0] at *; go_meet) | (simp only [c20b0] at *; go_meet)
                case rel => exact ⟨_, (false), ap2, H', ⟨by have := HK1.out; have := HJ15.out; first | omega | exact Nat.le_refl _⟩, ⟨by (with_reducible repeat (first | apply Kd.R_alloc | apply Kd.R_drewN | apply Kd.R_drew)); exact HO_5.out⟩, ⟨by (with_reducible repeat (first | apply Kd.S_alloc | apply Kd.S_drewN | apply Kd.S_drew)); exact Kd.S_mono HO_6.out (fun _ hk => hk.2)⟩, ⟨by (with_reducible repeat (first | refine blk_drewN ?_ _ | refine blk_drew ?_ | refine blk_alloc ?_ _)); exact BK244.out⟩, ⟨by (with_reducible repeat (first | refine blk_drewN ?_ _ | refine blk_drew ?_ | refine blk_alloc ?_ _)); exact BK248.out⟩, ⟨by repeat (first | (with_reducible first | exact HB.out | apply below_alloc | apply pw_below_drewN | apply below_drew1 | refine below_set ?_ GE244.out | refine below_set ?_ GE248.out) | exact HB.out)⟩⟩
               ·
                replace c51 := Bool.eq_false_iff.mpr c51
                subst c51
                rw [if_neg (show ¬ (false = true) by decide)] at H
                have H' := Aside0.mk H
                clear H
                have hnb57 := NB248_244.out
                have hnc57 := NB244_248.out
                have hcz58_0 : w40.cell? ⟨gb248, 0, none⟩ = some (.string (⟨#[]⟩ : ByteArray)) := (blk_cell BK248.out 0).trans rfl
                have hcz58_1 : w40.cell? ⟨gb248, 1, none⟩ = some (.string (⟨#[]⟩ : ByteArray)) := (blk_cell BK248.out 1).trans rfl
                have hfz58_0 := blk_frozen BK248.out 0
                have hfz58_1 := blk_frozen BK248.out 1
                go_wp2_with (first | (go_at_call 32; (with_reducible refine (R21Name.calls kj15 t245 true _ A44.out).mono ?_); rintro e w59 ⟨rfl, hb⟩; have n0_ := Aside0.mk (Kd.R_below (by (with_reducible repeat (first | apply Kd.R_alloc | apply Kd.R_drewN | apply Kd.R_drew)); exact (Kd.R_mono (Kd.R_far (p := ⟨gb248, 1, none⟩) (Kd.R_far (p := ⟨gb248, 0, none⟩) (Kd.R_types HO_5.out BK248.out (by decide)) (fun _ hk => hk.2) (.string t245)) (fun _ hk => hk.2) (.string t246)) (fun _ h_ => h_.1))) hb); have n1_ := Aside0.mk (Kd.S_below (by (with_reducible repeat (first | apply Kd.S_alloc | apply Kd.S_drewN | apply Kd.S_drew)); exact (Kd.S_mono (Kd.S_far (p := ⟨gb248, 1, none⟩) (Kd.S_far (p := ⟨gb248, 0, none⟩) (Kd.S_mono HO_6.out (fun k_ hk => (⟨hk, hk.2⟩ : _ ∧ k_ ≠ gb248))) (fun _ hk => hk.2) (.string t245)) (fun _ hk => hk.2) (.string t246)) (fun _ h_ => h_.1))) hb); have n2_ := Aside0.mk (blk_below (g := gb244) (o := .cells #[.string ((rd_T56 t237 x8_1).f0), .int .i64 ((rd_T56 t237 x8_1).f1), .bool false] 56 (0, 0)) (by (with_reducible repeat (first | refine blk_drewN ?_ _ | refine blk_drew ?_ | refine blk_alloc ?_ _)); refine blk_far ?_ NB244_248.out _; (with_reducible repeat (first | refine blk_drewN ?_ _ | refine blk_drew ?_ | refine blk_alloc ?_ _)); refine blk_far ?_ NB244_248.out _; (with_reducible repeat (first | refine blk_drewN ?_ _ | refine blk_drew ?_ | refine blk_alloc ?_ _)); exact BK244.out) hb); have n3_ := Aside0.mk (blk_below (g := gb248) (o := .cells #[.string t245, .string t246] 40 (0, 0)) (by (with_reducible repeat (first | refine blk_drewN ?_ _ | refine blk_drew ?_ | refine blk_alloc ?_ _)); refine blk_put (cs := #[.string t245, .string (⟨#[]⟩ : ByteArray)]) ?_ 1 _ rfl; (with_reducible repeat (first | refine blk_drewN ?_ _ | refine blk_drew ?_ | refine blk_alloc ?_ _)); refine blk_put (cs := #[.string (⟨#[]⟩ : ByteArray), .string (⟨#[]⟩ : ByteArray)]) ?_ 0 _ rfl; (with_reducible repeat (first | refine blk_drewN ?_ _ | refine blk_drew ?_ | refine blk_alloc ?_ _)); exact BK248.out) hb); have n4_ := Aside0.mk (below_step (by repeat (first | (with_reducible first | exact HB.out | apply below_alloc | apply pw_below_drewN | apply below_drew1 | refine below_set ?_ GE244.out | refine below_set ?_ GE248.out) | exact HB.out)) hb); clear HO_5; clear HO_6; clear BK244; clear BK248; clear HB; have HO_5 := n0_; have HO_6 := n1_; have BK244 := n2_; have BK248 := n3_; have HB := n4_; clear n0_ n1_ n2_ n3_ n4_; (try clear hb); (try clear hb2); (try clear hk); (try clear hi); have hcz60_0 : w59.cell? ⟨gb248, 0, none⟩ = some (.string t245) := (blk_cell BK248.out 0).trans rfl; have hcz60_1 : w59.cell? ⟨gb248, 1, none⟩ = some (.string t246) := (blk_cell BK248.out 1).trans rfl; have hfz60_0 := blk_frozen BK248.out 0; have hfz60_1 := blk_frozen BK248.out 1) | (go_at_call 32; (with_reducible refine (R21Name.calls kj15 t245 false _ A50.out).mono ?_); rintro e w61 ⟨rfl, hb⟩; have n0_ := Aside0.mk (Kd.R_below (apAR HO_5.out) hb); have n1_ := Aside0.mk (Kd.S_below (apAS HO_6.out) hb); have n2_ := Aside0.mk (blk_below (g := gb244) (o := .cells #[.string ((rd_T56 t237 x8_1).f0), .int .i64 ((rd_T56 t237 x8_1).f1), .bool false] 56 (0, 0)) (apB BK244.out) hb); have n3_ := Aside0.mk (blk_below (g := gb248) (o := .cells #[.string t245, .string t246] 40 (0, 0)) (apB BK248.out) hb); have n4_ := Aside0.mk (below_step (by repeat (first | (with_reducible first | exact HB.out | apply below_alloc | apply pw_below_drewN | apply below_drew1 | refine below_set ?_ GE244.out | refine below_set ?_ GE248.out) | exact HB.out)) hb); clear HO_5; clear HO_6; clear BK244; clear BK248; clear HB; have HO_5 := n0_; have HO_6 := n1_; have BK244 := n2_; have BK248 := n3_; have HB := n4_; clear n0_ n1_ n2_ n3_ n4_; (try clear hb); (try clear hb2); (try clear hk); (try clear hi)))
                first | go_meet | (simp only [c34b0] at *; go_meet) | (simp only [c34b0] at *; go_meet) | (simp only [c20b0] at *; go_meet)
                case rel => exact ⟨_, (!false), ap2, H', ⟨by have := HK1.out; have := HJ15.out; first | omega | exact Nat.le_refl _⟩, ⟨by (with_reducible repeat (first | apply Kd.R_alloc | apply Kd.R_drewN | apply Kd.R_drew)); exact HO_5.out⟩, ⟨by (with_reducible repeat (first | apply Kd.S_alloc | apply Kd.S_drewN | apply Kd.S_drew)); exact Kd.S_mono HO_6.out (fun _ hk => hk.2)⟩, ⟨by (with_reducible repeat (first | refine blk_drewN ?_ _ | refine blk_drew ?_ | refine blk_alloc ?_ _)); exact BK244.out⟩, ⟨by (with_reducible repeat (first | refine blk_drewN ?_ _ | refine blk_drew ?_ | refine blk_alloc ?_ _)); exact BK248.out⟩, ⟨by repeat (first | (with_reducible first | exact HB.out | apply below_alloc | apply pw_below_drewN | apply below_drew1 | refine below_set ?_ GE244.out | refine below_set ?_ GE248.out) | exact HB.out)⟩⟩
             ·
              replace c45 := Bool.eq_false_iff.mpr c45
              subst c45
              rw [if_neg (show ¬ (false = true) by decide)] at H
              replace H := Option.bind_eq_some_iff.mp H
              obtain ⟨t251, A620, H⟩ := H
              replace H : (if t251 = true then (R21Parse.j2 kj15 t237 x6_1 x7_1 x8_1 false ((rd_T56 t237 x8_1).f0) ((rd_T56 t237 x8_1).f1) false t245 t246) else (R21Parse.j2 kj15 t237 x6_1 x7_1 x8_1 (!x7_1) ((rd_T56 t237 x8_1).f0) ((rd_T56 t237 x8_1).f1) false t245 t246)) = some (r1, r2, r3) := H
              have A62 := Aside0.mk A620
              clear A620
              by_cases c63 : t251 = true
              ·
               subst c63
               rw [if_pos rfl] at H
               have H' := Aside0.mk H
               clear H
               have hnb64 := NB248_244.out
               have hnc64 := NB244_248.out
               have hcz65_0 : w40.cell? ⟨gb248, 0, none⟩ = some (.string (⟨#[]⟩ : ByteArray)) := (blk_cell BK248.out 0).trans rfl
               have hcz65_1 : w40.cell? ⟨gb248, 1, none⟩ = some (.string (⟨#[]⟩ : ByteArray)) := (blk_cell BK248.out 1).trans rfl
               have hfz65_0 := blk_frozen BK248.out 0
               have hfz65_1 := blk_frozen BK248.out 1
               go_wp2_with (first | (go_at_call 32; (with_reducible refine (R21Name.calls kj15 t245 false _ A44.out).mono ?_); rintro e w66 ⟨rfl, hb⟩; have n0_ := Aside0.mk (Kd.R_below (by (with_reducible repeat (first | apply Kd.R_alloc | apply Kd.R_drewN | apply Kd.R_drew)); exact (Kd.R_mono (Kd.R_far (p := ⟨gb248, 1, none⟩) (Kd.R_far (p := ⟨gb248, 0, none⟩) (Kd.R_types HO_5.out BK248.out (by decide)) (fun _ hk => hk.2) (.string t245)) (fun _ hk => hk.2) (.string t246)) (fun _ h_ => h_.1))) hb); have n1_ := Aside0.mk (Kd.S_below (by (with_reducible repeat (first | apply Kd.S_alloc | apply Kd.S_drewN | apply Kd.S_drew)); exact (Kd.S_mono (Kd.S_far (p := ⟨gb248, 1, none⟩) (Kd.S_far (p := ⟨gb248, 0, none⟩) (Kd.S_mono HO_6.out (fun k_ hk => (⟨hk, hk.2⟩ : _ ∧ k_ ≠ gb248))) (fun _ hk => hk.2) (.string t245)) (fun _ hk => hk.2) (.string t246)) (fun _ h_ => h_.1))) hb); have n2_ := Aside0.mk (blk_below (g := gb244) (o := .cells #[.string ((rd_T56 t237 x8_1).f0), .int .i64 ((rd_T56 t237 x8_1).f1), .bool false] 56 (0, 0)) (by (with_reducible repeat (first | refine blk_drewN ?_ _ | refine blk_drew ?_ | refine blk_alloc ?_ _)); refine blk_far ?_ NB244_248.out _; (with_reducible repeat (first | refine blk_drewN ?_ _ | refine blk_drew ?_ | refine blk_alloc ?_ _)); refine blk_far ?_ NB244_248.out _; (with_reducible repeat (first | refine blk_drewN ?_ _ | refine blk_drew ?_ | refine blk_alloc ?_ _)); exact BK244.out) hb); have n3_ := Aside0.mk (blk_below (g := gb248) (o := .cells #[.string t245, .string t246] 40 (0, 0)) (by (with_reducible repeat (first | refine blk_drewN ?_ _ | refine blk_drew ?_ | refine blk_alloc ?_ _)); refine blk_put (cs := #[.string t245, .string (⟨#[]⟩ : ByteArray)]) ?_ 1 _ rfl; (with_reducible repeat (first | refine blk_drewN ?_ _ | refine blk_drew ?_ | refine blk_alloc ?_ _)); refine blk_put (cs := #[.string (⟨#[]⟩ : ByteArray), .string (⟨#[]⟩ : ByteArray)]) ?_ 0 _ rfl; (with_reducible repeat (first | refine blk_drewN ?_ _ | refine blk_drew ?_ | refine blk_alloc ?_ _)); exact BK248.out) hb); have n4_ := Aside0.mk (below_step (by repeat (first | (with_reducible first | exact HB.out | apply below_alloc | apply pw_below_drewN | apply below_drew1 | refine below_set ?_ GE244.out | refine below_set ?_ GE248.out) | exact HB.out)) hb); clear HO_5; clear HO_6; clear BK244; clear BK248; clear HB; have HO_5 := n0_; have HO_6 := n1_; have BK244 := n2_; have BK248 := n3_; have HB := n4_; clear n0_ n1_ n2_ n3_ n4_; (try clear hb); (try clear hb2); (try clear hk); (try clear hi); have hcz67_0 : w66.cell? ⟨gb248, 0, none⟩ = some (.string t245) := (blk_cell BK248.out 0).trans rfl; have hcz67_1 : w66.cell? ⟨gb248, 1, none⟩ = some (.string t246) := (blk_cell BK248.out 1).trans rfl; have hfz67_0 := blk_frozen BK248.out 0; have hfz67_1 := blk_frozen BK248.out 1) | (go_at_call 32; (with_reducible refine (R21Name.calls kj15 t245 true _ A62.out).mono ?_); rintro e w68 ⟨rfl, hb⟩; have n0_ := Aside0.mk (Kd.R_below (apAR HO_5.out) hb); have n1_ := Aside0.mk (Kd.S_below (apAS HO_6.out) hb); have n2_ := Aside0.mk (blk_below (g := gb244) (o := .cells #[.string ((rd_T56 t237 x8_1).f0), .int .i64 ((rd_T56 t237 x8_1).f1), .bool false] 56 (0, 0)) (apB BK244.out) hb); have n3_ := Aside0.mk (blk_below (g := gb248) (o := .cells #[.string t245, .string t246] 40 (0, 0)) (apB BK248.out) hb); have n4_ := Aside0.mk (below_step (by repeat (first | (with_reducible first | exact HB.out | apply below_alloc | apply pw_below_drewN | apply below_drew1 | refine below_set ?_ GE244.out | refine below_set ?_ GE248.out) | exact HB.out)) hb); clear HO_5; clear HO_6; clear BK244; clear BK248; clear HB; have HO_5 := n0_; have HO_6 := n1_; have BK244 := n2_; have BK248 := n3_; have HB := n4_; clear n0_ n1_ n2_ n3_ n4_; (try clear hb); (try clear hb2); (try clear hk); (try clear hi)))
               first | go_meet | (simp only [c34b0] at *; go_meet) | (simp only [c34b0] at *; go_meet) | (simp only [c20b0] at *; go_meet)
               case rel => exact ⟨_, (false), ap2, H', ⟨by have := HK1.out; have := HJ15.out; first | omega | exact Nat.le_refl _⟩, ⟨by (with_reducible repeat (first | apply Kd.R_alloc | apply Kd.R_drewN | apply Kd.R_drew)); exact HO_5.out⟩, ⟨by (with_reducible repeat (first | apply Kd.S_alloc | apply Kd.S_drewN | apply Kd.S_drew)); exact Kd.S_mono HO_6.out (fun _ hk => hk.2)⟩, ⟨by (with_reducible repeat (first | refine blk_drewN ?_ _ | refine blk_drew ?_ | refine blk_alloc ?_ _)); exact BK244.out⟩, ⟨by (with_reducible repeat (first | refine blk_drewN ?_ _ | refine blk_drew ?_ | refine blk_alloc ?_ _)); exact BK248.out⟩, ⟨by repeat (first | (with_reducible first | exact HB.out | apply below_alloc | apply pw_below_drewN | apply below_drew1 | refine below_set ?_ GE244.out | refine below_set ?_ GE248.out) | exact HB.out)⟩⟩
              ·
               replace c63 := Bool.eq_false_iff.mpr c63
               subst c63
               rw [if_neg (show ¬ (false = true) by decide)] at H
               have H' := Aside0.mk H
               clear H
               have hnb69 := NB248_244.out
               have hnc69 := NB244_248.out
               have hcz70_0 : w40.cell? ⟨gb248, 0, none⟩ = some (.string (⟨#[]⟩ : ByteArray)) := (blk_cell BK248.out 0).trans rfl
               have hcz70_1 : w40.cell? ⟨gb248, 1, none⟩ = some (.string (⟨#[]⟩ : ByteArray)) := (blk_cell BK248.out 1).trans rfl
               have hfz70_0 := blk_frozen BK248.out 0
               have hfz70_1 := blk_frozen BK248.out 1
               go_wp2_with (first | (go_at_call 32; (with_reducible refine (R21Name.calls kj15 t245 false _ A44.out).mono ?_); rintro e w71 ⟨rfl, hb⟩; have n0_ := Aside0.mk (Kd.R_below (by (with_reducible repeat (first | apply Kd.R_alloc | apply Kd.R_drewN | apply Kd.R_drew)); exact (Kd.R_mono (Kd.R_far (p := ⟨gb248, 1, none⟩) (Kd.R_far (p := ⟨gb248, 0, none⟩) (Kd.R_types HO_5.out BK248.out (by decide)) (fun _ hk => hk.2) (.string t245)) (fun _ hk => hk.2) (.string t246)) (fun _ h_ => h_.1))) hb); have n1_ := Aside0.mk (Kd.S_below (by (with_reducible repeat (first | apply Kd.S_alloc | apply Kd.S_drewN | apply Kd.S_drew)); exact (Kd.S_mono (Kd.S_far (p := ⟨gb248, 1, none⟩) (Kd.S_far (p := ⟨gb248, 0, none⟩) (Kd.S_mono HO_6.out (fun k_ hk => (⟨hk, hk.2⟩ : _ ∧ k_ ≠ gb248))) (fun _ hk => hk.2) (.string t245)) (fun _ hk => hk.2) (.string t246)) (fun _ h_ => h_.1))) hb); have n2_ := Aside0.mk (blk_below (g := gb244) (o := .cells #[.string ((rd_T56 t237 x8_1).f0), .int .i64 ((rd_T56 t237 x8_1).f1), .bool false] 56 (0, 0)) (by (with_reducible repeat (first | refine blk_drewN ?_ _ | refine blk_drew ?_ | refine blk_alloc ?_ _)); refine blk_far ?_ NB244_248.out _; (with_reducible repeat (first | refine blk_drewN ?_ _ | refine blk_drew ?_ | refine blk_alloc ?_ _)); refine blk_far ?_ NB244_248.out _; (with_reducible repeat (first | refine blk_drewN ?_ _ | refine blk_drew ?_ | refine blk_alloc ?_ _)); exact BK244.out) hb); have n3_ := Aside0.mk (blk_below (g := gb248) (o := .cells #[.string t245, .string t246] 40 (0, 0)) (by (with_reducible repeat (first | refine blk_drewN ?_ _ | refine blk_drew ?_ | refine blk_alloc ?_ _)); refine blk_put (cs := #[.string t245, .string (⟨#[]⟩ : ByteArray)]) ?_ 1 _ rfl; (with_reducible repeat (first | refine blk_drewN ?_ _ | refine blk_drew ?_ | refine blk_alloc ?_ _)); refine blk_put (cs := #[.string (⟨#[]⟩ : ByteArray), .string (⟨#[]⟩ : ByteArray)]) ?_ 0 _ rfl; (with_reducible repeat (first | refine blk_drewN ?_ _ | refine blk_drew ?_ | refine blk_alloc ?_ _)); exact BK248.out) hb); have n4_ := Aside0.mk (below_step (by repeat (first | (with_reducible first | exact HB.out | apply below_alloc | apply pw_below_drewN | apply below_drew1 | refine below_set ?_ GE244.out | refine below_set ?_ GE248.out) | exact HB.out)) hb); clear HO_5; clear HO_6; clear BK244; clear BK248; clear HB; have HO_5 := n0_; have HO_6 := n1_; have BK244 := n2_; have BK248 := n3_; have HB := n4_; clear n0_ n1_ n2_ n3_ n4_; (try clear hb); (try clear hb2); (try clear hk); (try clear hi); have hcz72_0 : w71.cell? ⟨gb248, 0, none⟩ = some (.string t245) := (blk_cell BK248.out 0).trans rfl; have hcz72_1 : w71.cell? ⟨gb248, 1, none⟩ = some (.string t246) := (blk_cell BK248.out 1).trans rfl; have hfz72_0 := blk_frozen BK248.out 0; have hfz72_1 := blk_frozen BK248.out 1) | (go_at_call 32; (with_reducible refine (R21Name.calls kj15 t245 false _ A62.out).mono ?_); rintro e w73 ⟨rfl, hb⟩; have n0_ := Aside0.mk (Kd.R_below (apAR HO_5.out) hb); have n1_ := Aside0.mk (Kd.S_below (apAS HO_6.out) hb); have n2_ := Aside0.mk (blk_below (g := gb244) (o := .cells #[.string ((rd_T56 t237 x8_1).f0), .int .i64 ((rd_T56 t237 x8_1).f1), .bool false] 56 (0, 0)) (apB BK244.out) hb); have n3_ := Aside0.mk (blk_below (g := gb248) (o := .cells #[.string t245, .string t246] 40 (0, 0)) (apB BK248.out) hb); have n4_ := Aside0.mk (below_step (by repeat (first | (with_reducible first | exact HB.out | apply below_alloc | apply pw_below_drewN | apply below_drew1 | refine below_set ?_ GE244.out | refine below_set ?_ GE248.out) | exact HB.out)) hb); clear HO_5; clear HO_6; clear BK244; clear BK248; clear HB; have HO_5 := n0_; have HO_6 := n1_; have BK244 := n2_; have BK248 := n3_; have HB := n4_; clear n0_ n1_ n2_ n3_ n4_; (try clear hb); (try clear hb2); (try clear hk); (try clear hi)))
               first | go_meet | (simp only [c34b0] at *; go_meet) | (simp only [c34b0] at *; go_meet) | (simp only [c20b0] at *; go_meet)
               case rel => exact ⟨_, (!x7_1), ap2, H', ⟨by have := HK1.out; have := HJ15.out; first | omega | exact Nat.le_refl _⟩, ⟨by (with_reducible repeat (first | apply Kd.R_alloc | apply Kd.R_drewN | apply Kd.R_drew)); exact HO_5.out⟩, ⟨by (with_reducible repeat (first | apply Kd.S_alloc | apply Kd.S_drewN | apply Kd.S_drew)); exact Kd.S_mono HO_6.out (fun _ hk => hk.2)⟩, ⟨by (with_reducible repeat (first | refine blk_drewN ?_ _ | refine blk_drew ?_ | refine blk_alloc ?_ _)); exact BK244.out⟩, ⟨by (with_reducible repeat (first | refine blk_drewN ?_ _ | refine blk_drew ?_ | refine blk_alloc ?_ _)); exact BK248.out⟩, ⟨by repeat (first | (with_reducible first | exact HB.out | apply below_alloc | apply pw_below_drewN | apply below_drew1 | refine below_set ?_ GE244.out | refine below_set ?_ GE248.out) | exact HB.out)⟩⟩
            ·
             replace c43 := Bool.eq_false_iff.mpr c43
             subst c43
             rw [if_neg (show ¬ (false = true) by decide)] at H
             have H' := Aside0.mk H
             clear H
             go_wp2
             first | go_meet | (simp only [c34b0] at *; go_meet) | (simp only [c34b0] at *; go_meet) | (simp only [c20b0] at *; go_meet)
             case rel => exact ⟨_, (true), ap2, H', ⟨by have := HK1.out; have := HJ15.out; first | omega | exact Nat.le_refl _⟩, ⟨by (with_reducible repeat (first | apply Kd.R_alloc | apply Kd.R_drewN | apply Kd.R_drew)); exact Kd.R_mono (Kd.R_far (p := ⟨gb248, 1, none⟩) (Kd.R_far (p := ⟨gb248, 0, none⟩) (Kd.R_types HO_5.out BK248.out (by decide)) (fun _ hk => hk.2) (.string t245)) (fun _ hk => hk.2) (.string t246)) (fun _ hk => hk.1)⟩, ⟨by (with_reducible repeat (first | apply Kd.S_alloc | apply Kd.S_drewN | apply Kd.S_drew)); exact Kd.S_mono (Kd.S_far (p := ⟨gb248, 1, none⟩) (Kd.S_far (p := ⟨gb248, 0, none⟩) (Kd.S_mono HO_6.out (fun k_ hk => (⟨hk, hk.2⟩ : _ ∧ k_ ≠ gb248))) (fun _ hk => hk.2) (.string t245)) (fun _ hk => hk.2) (.string t246)) (fun _ hk => hk.1.2)⟩, ⟨by (with_reducible repeat (first | refine blk_drewN ?_ _ | refine blk_drew ?_ | refine blk_alloc ?_ _)); refine blk_far ?_ NB244_248.out _; (with_reducible repeat (first | refine blk_drewN ?_ _ | refine blk_drew ?_ | refine blk_alloc ?_ _)); refine blk_far ?_ NB244_248.out _; (with_reducible repeat (first | refine blk_drewN ?_ _ | refine blk_drew ?_ | refine blk_alloc ?_ _)); exact BK244.out⟩, ⟨by (with_reducible repeat (first | refine blk_drewN ?_ _ | refine blk_drew ?_ | refine blk_alloc ?_ _)); refine blk_put (cs := #[.string t245, .string (⟨#[]⟩ : ByteArray)]) ?_ 1 _ rfl; (with_reducible repeat (first | refine blk_drewN ?_ _ | refine blk_drew ?_ | refine blk_alloc ?_ _)); refine blk_put (cs := #[.string (⟨#[]⟩ : ByteArray), .string (⟨#[]⟩ : ByteArray)]) ?_ 0 _ rfl; (with_reducible repeat (first | refine blk_drewN ?_ _ | refine blk_drew ?_ | refine blk_alloc ?_ _)); exact BK248.out⟩, ⟨by repeat (first | (with_reducible first | exact HB.out | apply below_alloc | apply pw_below_drewN | apply below_drew1 | refine below_set ?_ GE244.out | refine below_set ?_ GE248.out) | exact HB.out)⟩⟩
           case rest =>
            clear HC37
            try clear c1
            try clear c2
            try clear c2b0
            try clear c2b1
            try clear p2
            try clear q2
            try clear hx2
            try clear qi2
            try clear c3
            try clear p3
            try clear q3
            try clear hx3
            try clear qi3
            try clear c4
            try clear c5
            try clear c6
            try clear p6
            try clear c7
            try clear c7b0
            try clear c8
            try clear c8b0
            try clear c9
            try clear q9
            try clear c10
            try clear c20
            try clear c20b0
            try clear c20b1
            try clear c21
            try clear c21b0
            try clear c21b1
            try clear c23
            try clear c23b0
            try clear c23b1
            try clear c24
            try clear c24b0
            try clear c24b1
            try clear p24
            try clear q24
            try clear hx24
            try clear p25
            try clear q25
            try clear hx25
            try clear qi25
            try clear c28
            try clear c28b0
            try clear c28b1
            try clear c29
            try clear c29b0
            try clear c29b1
            try clear c30
            try clear p30
            try clear q30
            try clear hx30
            try clear qi30
            try clear c31
            try clear c33
            try clear c34
            try clear c34b0
            try clear c34b1
            try clear c41
            try clear c43
            try clear c45
            try clear c46
            try clear c47
            try clear c51
            try clear c52
            try clear c57
            try clear c63
            try clear c64
            try clear p64
            try clear c69
            try clear hcz13_0
            try clear hcz13_1
            try clear hcz13_2
            try clear hcz19_0
            try clear hcz19_1
            try clear hcz19_2
            try clear hcz22_0
            try clear hcz22_1
            try clear hcz22_2
            try clear hcz26_0
            try clear hcz26_1
            try clear hcz26_2
            try clear hcz27_0
            try clear hcz27_1
            try clear hcz27_2
            try clear hcz31_0
            try clear hcz31_1
            try clear hcz31_2
            try clear hcz32_0
            try clear hcz32_1
            try clear hcz32_2
            try clear hcz35_0
            try clear hcz35_1
            try clear hcz35_2
            try clear hcz38_0
            try clear hcz38_1
            try clear hcz38_2
            try clear hcz42_0
            try clear hcz42_1
            try clear hcz48_0
            try clear hcz48_1
            try clear hcz53_0
            try clear hcz53_1
            try clear hcz55_0
            try clear hcz55_1
            try clear hcz58_0
            try clear hcz58_1
            try clear hcz60_0
            try clear hcz60_1
            try clear hcz65_0
            try clear hcz65_1
            try clear hcz67_0
            try clear hcz67_1
            try clear hcz70_0
            try clear hcz70_1
            try clear hcz72_0
            try clear hcz72_1
            try clear hfz13_0
            try clear hfz13_1
            try clear hfz13_2
            try clear hfz19_0
            try clear hfz19_1
            try clear hfz19_2
            try clear hfz22_0
            try clear hfz22_1
            try clear hfz22_2
            try clear hfz26_0
            try clear hfz26_1
            try clear hfz26_2
            try clear hfz27_0
            try clear hfz27_1
            try clear hfz27_2
            try clear hfz31_0
            try clear hfz31_1
            try clear hfz31_2
            try clear hfz32_0
            try clear hfz32_1
            try clear hfz32_2
            try clear hfz35_0
            try clear hfz35_1
            try clear hfz35_2
            try clear hfz38_0
            try clear hfz38_1
            try clear hfz38_2
            try clear hfz42_0
            try clear hfz42_1
            try clear hfz48_0
            try clear hfz48_1
            try clear hfz53_0
            try clear hfz53_1
            try clear hfz55_0
            try clear hfz55_1
            try clear hfz58_0
            try clear hfz58_1
            try clear hfz60_0
            try clear hfz60_1
            try clear hfz65_0
            try clear hfz65_1
            try clear hfz67_0
            try clear hfz67_1
            try clear hfz70_0
            try clear hfz70_1
            try clear hfz72_0
            try clear hfz72_1
            try clear hx243_0
            try clear hx243_1
            try clear hx243_2
            try clear p2
            try clear p24
            try clear p243
            try clear p25
            try clear p3
            try clear p30
            try clear q2
            try clear q24
            try clear q243
            try clear q25
            try clear q3
            try clear q30
            try clear q9
            obtain ⟨kq, x79_36, rfl, HA, HJ36, HO_5, HO_6, BK244, BK248, HB⟩ := hcut
            cases kq with
            | zero => exact absurd HA.out (by simp [R21Parse.j2])
            | succ kj36 =>
             have H := HA.out
             clear HA
             simp only [R21Parse.j2] at H
             by_cases c74 : x79_36 = true
             ·
              subst c74
              rw [if_pos rfl] at H
              simp only [Option.some.injEq, Prod.mk.injEq] at H
              obtain ⟨rfl, rfl, rfl⟩ := H
              try go_wp2
              have n0_ := Aside0.mk (Kd.R_drew HO_5.out)
              have n1_ := Aside0.mk (Kd.S_drew HO_6.out)
              have n2_ := Aside0.mk (blk_drew BK244.out)
              have n3_ := Aside0.mk (blk_drew BK248.out)
              have n4_ := Aside0.mk (below_drew1 HB.out)
              clear HO_5
              clear HO_6
              clear BK244
              clear BK248
              clear HB
              have HO_5 := n0_
              have HO_6 := n1_
              have BK244 := n2_
              have BK248 := n3_
              have HB := n4_
              clear n0_ n1_ n2_ n3_ n4_
              refine start_ (n := 5) (S := fun w' => w'.cell? ⟨gb244, 0, none⟩ = some (.string ((rd_T56 t237 x8_1).f0)) ∧ w'.cell? ⟨gb244, 1, none⟩ = some (.int .i64 ((rd_T56 t237 x8_1).f1)) ∧ w'.cell? ⟨gb244, 2, none⟩ = some (.bool false)) (ds := []) #[false, false, false, false, false] (by kernel_rfl) rfl rfl ⟨(blk_cell BK244.out 0).trans rfl, (blk_cell BK244.out 1).trans rfl, (blk_cell BK244.out 2).trans rfl⟩ (fun hHeld => ?_)
              generalize wc.drew = w75 at HO_5 HO_6 BK244 BK248 HB hHeld ⊢
              refine pure_ (i := 0) (N := some 80) (v := ?_) (a' := ?_) #[true, false, false, false, false] rfl rfl (by kernel_rfl) (fun _ _ _ h => h) (Or.inl ⟨by rfl, ?_⟩) ?_ ?_
              rotate_left
              ·
               intro w'
               go_simp
               with_reducible rfl
              rotate_left
              ·
               simp only [Act.put, List.setIfInBounds_toArray, List.set_cons_zero, List.set_cons_succ, i64_w, i32_w]
               rfl
              refine pure_ (i := 2) (N := some 2) (v := ?_) (a' := ?_) #[true, false, true, false, false] rfl rfl (by kernel_rfl) (fun _ _ _ h => h) (Or.inl ⟨by rfl, ?_⟩) ?_ ?_
              rotate_left
              ·
               intro w'
               go_simp
               with_reducible rfl
              rotate_left
              ·
               simp only [Act.put, List.setIfInBounds_toArray, List.set_cons_zero, List.set_cons_succ, i64_w, i32_w]
               rfl
              refine take_ (i := 1) (N := some 81) (v := ?_) (a' := ?_) #[true, true, true, false, false] rfl rfl (by kernel_rfl) (fun _ _ _ h => h) (Or.inl ⟨by rfl, ?_⟩) hHeld ?_ ?_
              rotate_left
              ·
               rintro w' ⟨s0, s1, s2⟩
               go_simp
               with_reducible rfl
              rotate_left
              ·
               simp only [Act.put, List.setIfInBounds_toArray, List.set_cons_zero, List.set_cons_succ, i64_w, i32_w]
               rfl
              refine pure_ (i := 3) (N := some 3) (v := ?_) (a' := ?_) #[true, true, true, true, false] rfl rfl (by kernel_rfl) (fun _ _ _ h => h) (Or.inl ⟨by rfl, ?_⟩) ?_ ?_
              rotate_left
              ·
               intro w'
               go_simp
               with_reducible rfl
              rotate_left
              ·
               simp only [Act.put, List.setIfInBounds_toArray, List.set_cons_zero, List.set_cons_succ, i64_w, i32_w]
               rfl
              refine pure_ (i := 4) (N := some 4) (v := ?_) (a' := ?_) #[true, true, true, true, true] rfl rfl (by kernel_rfl) (fun _ _ _ h => h) (Or.inl ⟨by rfl, ?_⟩) ?_ ?_
              rotate_left
              ·
               intro w'
               go_simp
               with_reducible rfl
              rotate_left
              ·
               simp only [Act.put, List.setIfInBounds_toArray, List.set_cons_zero, List.set_cons_succ, i64_w, i32_w]
               rfl
              refine done_ (by kernel_rfl) ?_
              try go_wp2
              go_ret3
              exact ⟨_, by first | rfl | (simp [errW_none, errW_some, bne_nil8, beq_nil8]; done) | (simp [errW_none, errW_some] <;> rfl) | (simp [*, errW_none, errW_some] <;> rfl), by first | exact Kd.S_nil _ _ _ _ _ | exact Kd.N_nil _ _ _ _ _ | exact Kd.V_nil _ _ _ _ _ | exact Kd.Q_nil _ _ _ _ _ | exact Kd.R_nil _ _ _ _ _, by repeat (first | (with_reducible first | exact HB.out | apply below_alloc | apply pw_below_drewN | apply below_drew1 | refine below_set ?_ GE244.out | refine below_set ?_ GE248.out) | exact HB.out)⟩
             ·
              replace c74 := Bool.eq_false_iff.mpr c74
              subst c74
              rw [if_neg (show ¬ (false = true) by decide)] at H
              by_cases c76 : x7_1 = true
              ·
               subst c76
               rw [if_pos rfl] at H
               obtain ⟨ji77, hji77⟩ : ∃ j_ : Int, (wrap64 ((x6_1.length : Int) - 1)) = j_ := ⟨_, rfl⟩
               replace H : (if 0 ≤ (ji77) then (if (ji77) < (x6_1.length : Int) then (if ((rd_T43 x6_1 (ji77)).f1).length < 4398046511104 then (R21Parse.l0 kj36 t237 (x6_1.set ((ji77) : Int).toNat (⟨(rd_T43 x6_1 (ji77)).f0, (((rd_T43 x6_1 (ji77)).f1) ++ [(⟨t245, t246⟩ : S40)])⟩ : S43)) true (wrap64 (x8_1 + 1))) else (none)) else (none)) else (none)) = some (r1, r2, r3) := by first | (rw [hji77] at H; exact H) | (simp only [hji77] at H ⊢; exact H)
               have hji77w : (IntKind.i64.wrap ((x6_1.length : Int) - 1)) = ji77 := (i64_w _).trans hji77
               by_cases c78 : 0 ≤ (ji77)
               ·
                rw [if_pos c78] at H
                have c78b0 := decide_eq_true c78
                clear c78
                by_cases c79 : (ji77) < (x6_1.length : Int)
                ·
                 rw [if_pos c79] at H
                 have c79b0 := decide_eq_true c79
                 clear c79
                 by_cases c80 : ((rd_T43 x6_1 (ji77)).f1).length < 4398046511104
                 ·
                  rw [if_pos c80] at H
                  have LMc80 := Aside0.mk c80
                  clear c80
                  obtain ⟨y253, hy253⟩ : ∃ y_ : List (S40), y_ = (((rd_T43 x6_1 (ji77)).f1) ++ [(⟨t245, t246⟩ : S40)]) := ⟨_, rfl⟩
                  replace H : (R21Parse.l0 kj36 t237 (x6_1.set ((ji77) : Int).toNat (⟨(rd_T43 x6_1 (ji77)).f0, y253⟩ : S43)) true (wrap64 (x8_1 + 1))) = some (r1, r2, r3) := by first | (rw [hy253]; with_reducible exact H) | (have H2_ := (Option.bind_some _ _).symm.trans H; rw [hy253]; with_reducible exact H2_) | (have H2_ := (Option.bind_some _ _).symm.trans H; with_reducible exact H2_) | with_reducible exact H | (rw [hy253]; exact H) | exact H
                  have Ny253 := Aside0.mk hy253
                  clear hy253
                  obtain ⟨y256, hy256⟩ : ∃ y_ : List (S43), y_ = (x6_1.set ((ji77) : Int).toNat (⟨(rd_T43 x6_1 (ji77)).f0, y253⟩ : S43)) := ⟨_, rfl⟩
                  replace H : (R21Parse.l0 kj36 t237 y256 true (wrap64 (x8_1 + 1))) = some (r1, r2, r3) := by first | (rw [hy256]; with_reducible exact H) | (have H2_ := (Option.bind_some _ _).symm.trans H; rw [hy256]; with_reducible exact H2_) | (have H2_ := (Option.bind_some _ _).symm.trans H; with_reducible exact H2_) | with_reducible exact H | (rw [hy256]; exact H) | exact H
                  have Ny256 := Aside0.mk hy256
                  clear hy256
                  have H' := Aside0.mk H
                  clear H
                  try go_wp2
                  have n0_ := Aside0.mk (Kd.R_drew HO_5.out)
                  have n1_ := Aside0.mk (Kd.S_drew HO_6.out)
                  have n2_ := Aside0.mk (blk_drew BK244.out)
                  have n3_ := Aside0.mk (blk_drew BK248.out)
                  have n4_ := Aside0.mk (below_drew1 HB.out)
                  clear HO_5
                  clear HO_6
                  clear BK244
                  clear BK248
                  clear HB
                  have HO_5 := n0_
                  have HO_6 := n1_
                  have BK244 := n2_
                  have BK248 := n3_
                  have HB := n4_
                  clear n0_ n1_ n2_ n3_ n4_
                  obtain ⟨Ao83, co83, eo83⟩ := Kd.S_slice HO_6.out
                  (first | subst eo83 | (injection eo83 with f1_ f2_ f3_; have f4_ := f1_.symm; have f5_ := f3_.symm; clear f1_ f2_ f3_; subst f4_; subst f5_))
                  have p252 : 0 ≤ ((ji77) : Int) := of_decide_eq_true ap0
                  have q252 : (ji77) < (x6_1.length : Int) := of_decide_eq_true ap0
                  obtain ⟨ad252, A252_1, c252_1, e252, hx252_0, hx252_1, hl252_1, hi252_1⟩ := at_T43 (Kd.S_reads' HO_6.out).2.2 (ji77) p252 q252
                  cases e252
                  obtain ⟨ce252, hce252, hMe252, hcc252⟩ := Kd.S_get HO_6.out z43 (ji77) p252 (by first | exact q252 | exact of_decide_eq_true ap0 | (have e_ := (Kd.S_reads' HO_6.out).1; omega))
                  obtain ⟨ve252_1, rfl, ge252_1⟩ := k43_openM hMe252
                  have hv252_1 := hcc252 1 _ rfl
                  rw [add_field _ _ 1 (by omega)] at hv252_1
                  replace hv252_1 := Option.some.inj (hv252_1.symm.trans hx252_1)
                  rw [hv252_1] at ge252_1
                  have HL252_1 := Aside0.mk (show Kd.R k40 40 _ _ _ _ ((rd_T43 x6_1 (ji77)).f1) from ge252_1)
                  clear hv252_1 ge252_1
                  have HX252_1 := Aside0.mk hx252_1
                  clear hcc252 hce252
                  have HR252_1 := Aside0.mk hi252_1
                  have HC252_1 := Aside0.mk hl252_1
                  clear hi252_1 hl252_1
                  replace p252 := eq_true p252
                  replace q252 := eq_true q252
                  obtain ⟨go84, co84, eo84, gb84, gl84, cl84, HG84⟩ := Kd.S_form HO_6.out (by have h_ : ((ji77) : Int) < ((x6_1.length : Int) : Int) := of_decide_eq_true ap0; have h2_ : 0 ≤ ((ji77) : Int) := (of_decide_eq_true ap0); omega)
                  (first | cases eo84 | (injection eo84 with ea_ en_ ec_; (first | subst ea_ | (injection ea_ with ea_; subst ea_)); subst ec_; clear en_))
                  have GB84 := Aside0.mk gb84
                  have GG84 := Aside0.mk HG84
                  clear gb84 gl84 HG84
                  (first | simp only [add_plain] at hx252_0 | skip)
                  (first | simp only [add_plain] at hx252_1 | skip)
                  obtain ⟨oki84, ce84, hcl84, hM84, hcc84, _, _, hH84⟩ := Kd.S_elem HO_6.out z43 ((ji77) : Int) (of_decide_eq_true ap0) (by have h_ : ((ji77) : Int) < ((x6_1.length : Int) : Int) := of_decide_eq_true ap0; first | exact h_ | (have e_ := (Kd.S_reads' HO_6.out).1; omega) | simpa using h_)
                  obtain ⟨ve84_1, rfl, ge84_1⟩ := k43_openM hM84
                  have hv84 := hcc84 1 _ rfl
                  have hX84 := HX252_1.out
                  (try simp only [add_plain] at hX84)
                  (try simp only [Nat.add_zero] at hv84)
                  replace hv84 := Option.some.inj (hv84.symm.trans hX84)
                  subst hv84
                  clear hX84 hcc84 hcl84
                  have UU84 := Aside0.mk (show Kd.R k40 40 _ w.heap.size oki84 (.slice A252_1 ((rd_T43 x6_1 (ji77)).f1).length c252_1) ((rd_T43 x6_1 (ji77)).f1) from ge84_1)
                  have HH84 := Aside0.mk hH84
                  have HN84 := Aside0.mk (Kd.S_reads' HO_6.out).1
                  clear hH84 ge84_1
                  refine start_ (n := 17) (S := fun w' => w'.cell? ⟨gb248, 0, none⟩ = some (.string t245) ∧ w'.cell? ⟨gb248, 1, none⟩ = some (.string t246) ∧ w'.cell? ⟨go84, ((ji77)).toNat * 2, none⟩ = some (.string ((rd_T43 x6_1 (ji77)).f0)) ∧ w'.cell? ⟨go84, ((ji77)).toNat * 2 + 1, none⟩ = some (.slice A252_1 ((rd_T43 x6_1 (ji77)).f1).length c252_1)) (ds := [16]) #[false, false, false, false, false, false, false, false, false, false, false, false, false, false, false, false, false] (by kernel_rfl) rfl rfl ⟨(blk_cell BK248.out 0).trans rfl, (blk_cell BK248.out 1).trans rfl, hx252_0, hx252_1⟩ (fun hHeld => ?_); refine with_tabW R21Parse.tab19 R21Parse.bits19 (fun HT_ HW_ => ?_)
                  generalize wc.drew = w82 at HO_5 HO_6 BK244 BK248 HB GG84 HH84 HL252_1 HR252_1 HX252_1 UU84 hx252_0 hx252_1 hHeld ⊢
                  refine pure_ (i := 0) (N := some 83) (v := ?_) (a' := ?_) #[true, false, false, false, false, false, false, false, false, false, false, false, false, false, false, false, false] rfl rfl (any_of HT_.out (by kernel_rfl)) (fun _ _ _ h => h) (Or.inl ⟨by rfl, ?_⟩) ?_ ?_
                  rotate_left
                  ·
                   intro w'
                   go_simp
                   with_reducible rfl
                  rotate_left
                  ·
                   simp only [Act.put, List.setIfInBounds_toArray, List.set_cons_zero, List.set_cons_succ, i64_w, i32_w]
                   rfl
                  refine pure_ (i := 1) (N := some 84) (v := ?_) (a' := ?_) #[true, true, false, false, false, false, false, false, false, false, false, false, false, false, false, false, false] rfl rfl (any_of HT_.out (by kernel_rfl)) (fun _ _ _ h => h) (Or.inl ⟨by rfl, ?_⟩) ?_ ?_
                  rotate_left
                  ·
                   intro w'
                   go_simp
                   with_reducible rfl
                  rotate_left
                  ·
                   simp only [Act.put, List.setIfInBounds_toArray, List.set_cons_zero, List.set_cons_succ, i64_w, i32_w]
                   rfl
                  refine pure_ (i := 2) (N := some 85) (v := ?_) (a' := ?_) #[true, true, true, false, false, false, false, false, false, false, false, false, false, false, false, false, false] rfl rfl (any_of HT_.out (by kernel_rfl)) (fun _ _ _ h => h) (Or.inl ⟨by rfl, ?_⟩) ?_ ?_
                  rotate_left
                  ·
                   intro w'
                   go_simp
                   with_reducible rfl
                  rotate_left
                  ·
                   simp only [Act.put, List.setIfInBounds_toArray, List.set_cons_zero, List.set_cons_succ, i64_w, i32_w]
                   rfl
                  refine pure_ (i := 3) (N := some 86) (v := ?_) (a' := ?_) #[true, true, true, true, false, false, false, false, false, false, false, false, false, false, false, false, false] rfl rfl (any_of HT_.out (by kernel_rfl)) (fun _ _ _ h => h) (Or.inl ⟨by rfl, ?_⟩) ?_ ?_
                  rotate_left
                  ·
                   intro w'
                   go_simp
                   with_reducible rfl
                  rotate_left
                  ·
                   simp only [Act.put, List.setIfInBounds_toArray, List.set_cons_zero, List.set_cons_succ, i64_w, i32_w]
                   rfl
                  refine pure_ (i := 4) (N := some 87) (v := ?_) (a' := ?_) #[true, true, true, true, true, false, false, false, false, false, false, false, false, false, false, false, false] rfl rfl (any_of HT_.out (by kernel_rfl)) (fun _ _ _ h => h) (Or.inl ⟨by rfl, ?_⟩) ?_ ?_
                  rotate_left
                  ·
                   intro w'
                   go_simp
                   with_reducible rfl
                  rotate_left
                  ·
                   simp only [Act.put, List.setIfInBounds_toArray, List.set_cons_zero, List.set_cons_succ, i64_w, i32_w]
                   rfl
                  refine pure_ (i := 5) (N := some 88) (v := ?_) (a' := ?_) #[true, true, true, true, true, true, false, false, false, false, false, false, false, false, false, false, false] rfl rfl (any_of HT_.out (by kernel_rfl)) (fun _ _ _ h => h) (Or.inl ⟨by rfl, ?_⟩) ?_ ?_
                  rotate_left
                  ·
                   intro w'
                   go_simp
                   with_reducible rfl
                  rotate_left
                  ·
                   simp only [Act.put, List.setIfInBounds_toArray, List.set_cons_zero, List.set_cons_succ, i64_w, i32_w]
                   rfl
                  refine pure_ (i := 6) (N := some 89) (v := ?_) (a' := ?_) #[true, true, true, true, true, true, true, false, false, false, false, false, false, false, false, false, false] rfl rfl (any_of HT_.out (by kernel_rfl)) (fun _ _ _ h => h) (Or.inl ⟨by rfl, ?_⟩) ?_ ?_
                  rotate_left
                  ·
                   intro w'
                   go_simp
                   with_reducible rfl
                  rotate_left
                  ·
                   simp only [Act.put, List.setIfInBounds_toArray, List.set_cons_zero, List.set_cons_succ, i64_w, i32_w]
                   rfl
                  refine pure_ (i := 7) (N := some 90) (v := ?_) (a' := ?_) #[true, true, true, true, true, true, true, true, false, false, false, false, false, false, false, false, false] rfl rfl (any_of HT_.out (by kernel_rfl)) (fun _ _ _ h => h) (Or.inl ⟨by rfl, ?_⟩) ?_ ?_
                  rotate_left
                  ·
                   intro w'
                   go_simp
                   with_reducible rfl
                  rotate_left
                  ·
                   simp only [Act.put, List.setIfInBounds_toArray, List.set_cons_zero, List.set_cons_succ, i64_w, i32_w]
                   rfl
                  refine pure_ (i := 8) (N := some 91) (v := ?_) (a' := ?_) #[true, true, true, true, true, true, true, true, true, false, false, false, false, false, false, false, false] rfl rfl (any_of HT_.out (by kernel_rfl)) (fun _ _ _ h => h) (Or.inl ⟨by rfl, ?_⟩) ?_ ?_
                  rotate_left
                  ·
                   intro w'
                   go_simp
                   with_reducible rfl
                  rotate_left
                  ·
                   simp only [Act.put, List.setIfInBounds_toArray, List.set_cons_zero, List.set_cons_succ, i64_w, i32_w]
                   rfl
                  refine pure_ (i := 9) (N := some 92) (v := ?_) (a' := ?_) #[true, true, true, true, true, true, true, true, true, true, false, false, false, false, false, false, false] rfl rfl (any_of HT_.out (by kernel_rfl)) (fun _ _ _ h => h) (Or.inl ⟨by rfl, ?_⟩) ?_ ?_
                  rotate_left
                  ·
                   intro w'
                   go_simp
                   with_reducible rfl
                  rotate_left
                  ·
                   simp only [Act.put, List.setIfInBounds_toArray, List.set_cons_zero, List.set_cons_succ, i64_w, i32_w]
                   rfl
                  refine take_ (i := 10) (N := some 93) (v := ?_) (a' := ?_) #[true, true, true, true, true, true, true, true, true, true, true, false, false, false, false, false, false] rfl rfl (take_ofW HT_.out HW_.out (by kernel_rfl)) (fun _ _ _ h => h) (Or.inl ⟨by rfl, ?_⟩) hHeld ?_ ?_
                  rotate_left
                  ·
                   rintro w' ⟨s0, s1, s2, s3⟩
                   go_simp
                   with_reducible rfl
                  rotate_left
                  ·
                   simp only [Act.put, List.setIfInBounds_toArray, List.set_cons_zero, List.set_cons_succ, i64_w, i32_w]
                   rfl
                  refine take_ (i := 11) (N := some 94) (v := ?_) (a' := ?_) #[true, true, true, true, true, true, true, true, true, true, true, true, false, false, false, false, false] rfl rfl (take_ofW HT_.out HW_.out (by kernel_rfl)) (fun _ _ _ h => h) (Or.inl ⟨by rfl, ?_⟩) hHeld ?_ ?_
                  rotate_left
                  ·
                   rintro w' ⟨s0, s1, s2, s3⟩
                   go_simp
                   with_reducible rfl
                  rotate_left
                  ·
                   simp only [Act.put, List.setIfInBounds_toArray, List.set_cons_zero, List.set_cons_succ, i64_w, i32_w]
                   rfl
                  refine one_ (i := 12) (N := some 95) #[true, true, true, true, true, true, true, true, true, true, true, true, true, false, false, false, false] rfl rfl (one_of HT_.out (by kernel_rfl)) (by decide) (fun K hK => ?_)
                  refine value_ (w1 := ?_) (v := ?_) (by rfl) rfl ?_ ?_
                  rotate_left 2
                  ·
                   go_simp
                   constructor
                   ·
                    rfl
                   ·
                    rfl
                  refine hK.out _ _ ⟨(blk_cell (blk_alloc BK248.out _) 0).trans rfl, (blk_cell (blk_alloc BK248.out _) 1).trans rfl, (World.cell?_alloc_lt _ _ _ (World.block_lt_of_cell? _ _ (hHeld.2.2.1))).trans (hHeld.2.2.1), (World.cell?_alloc_lt _ _ _ (World.block_lt_of_cell? _ _ (hHeld.2.2.2))).trans (hHeld.2.2.2)⟩ (fun hHeld => ?_)
                  clear hK K
                  refine norm_ (a' := ?_) ?_ ?_
                  rotate_left
                  ·
                   show Act.put _ (some 95) _ = _
                   simp only [Act.put, List.setIfInBounds_toArray, List.set_cons_zero, List.set_cons_succ, i64_w, i32_w]
                   rfl
                  refine one_ (i := 13) (N := some 96) #[true, true, true, true, true, true, true, true, true, true, true, true, true, true, false, false, false] rfl rfl (one_of HT_.out (by kernel_rfl)) (by decide) (fun K hK => ?_)
                  refine Kd.R_append_step k40 (w0 := w) w.heap.size (by rfl) (.tmp 93) (.tmp 95) 37 40 (.agg #[(.string ⟨#[]⟩), (.string ⟨#[]⟩)]) 32 rfl Tryd.underlying37 info40 rfl (by decide) (by omega) (.slice A252_1 ((rd_T43 x6_1 (ji77)).f1).length c252_1) ((rd_T43 x6_1 (ji77)).f1) (⟨t245, t246⟩ : S40) [.string t245, .string t246] (fun k_ => oki84 k_ ∨ ((fun k_ => k_ ≠ gb248)) k_ ∧ w82.heap.size ≤ k_) (fun _ => False) rfl rfl ?aP (fun _ hk => hk.elim) ?aF ?aO ?aB ?aS ?aL ?_
                  (case aP => exact k40_mkM _ _ _ (⟨t245, t246⟩ : S40))
                  (case aB => exact (by repeat (first | (with_reducible first | exact HB.out | apply below_alloc | apply pw_below_drewN | apply below_drew1 | refine below_set ?_ GE244.out | refine below_set ?_ GE248.out) | exact HB.out)))
                  (case aF => exact (fun k_ hk => .inr ⟨Kd.freshB (g := gb248) (o := .cells #[.string t245, .string t246] 40 (0, 0)) (apB BK248.out) k_ hk, hk⟩))
                  (case aO => exact (by (with_reducible repeat (first | apply Kd.R_alloc | apply Kd.R_drewN | apply Kd.R_drew)); exact Kd.R_mono UU84.out (fun _ hk => .inl hk)))
                  (case aS => exact (below_size (by repeat (first | (with_reducible first | exact HB.out | apply below_alloc | apply pw_below_drewN | apply below_drew1 | refine below_set ?_ GE244.out | refine below_set ?_ GE248.out) | exact HB.out))))
                  (case aL => have := LMc80.out; omega)
                  intro v254 w85 ho hb hg hat
                  (first | have HS2_ := cell_grown hg (hHeld.2.2.1) (by first | (rw [add_block]; exact (fun e_ => ((HL252_1.out.1 _ e_.symm).2) rfl)) | (show some (Addr.add _ _).block ≠ _; rw [add_block]; exact (fun e_ => ((HL252_1.out.1 _ e_.symm).2) rfl)) | exact (fun e_ => ((HL252_1.out.1 _ e_.symm).2) rfl)) | have HS2_ := cell_grown hg (cell_unalloc (hHeld.2.2.1) (by first | (rw [add_block]; exact Kd.S_lt HO_6.out _ rfl) | (show (Addr.add _ _).block < _; rw [add_block]; exact Kd.S_lt HO_6.out _ rfl) | exact Kd.S_lt HO_6.out _ rfl)) (by first | (rw [add_block]; exact (fun e_ => ((HL252_1.out.1 _ e_.symm).2) rfl)) | (show some (Addr.add _ _).block ≠ _; rw [add_block]; exact (fun e_ => ((HL252_1.out.1 _ e_.symm).2) rfl)) | exact (fun e_ => ((HL252_1.out.1 _ e_.symm).2) rfl)))
                  (first | have HS3_ := cell_grown hg (hHeld.2.2.2) (by first | (rw [add_block]; exact (fun e_ => ((HL252_1.out.1 _ e_.symm).2) rfl)) | (show some (Addr.add _ _).block ≠ _; rw [add_block]; exact (fun e_ => ((HL252_1.out.1 _ e_.symm).2) rfl)) | exact (fun e_ => ((HL252_1.out.1 _ e_.symm).2) rfl)) | have HS3_ := cell_grown hg (cell_unalloc (hHeld.2.2.2) (by first | (rw [add_block]; exact Kd.S_lt HO_6.out _ rfl) | (show (Addr.add _ _).block < _; rw [add_block]; exact Kd.S_lt HO_6.out _ rfl) | exact Kd.S_lt HO_6.out _ rfl)) (by first | (rw [add_block]; exact (fun e_ => ((HL252_1.out.1 _ e_.symm).2) rfl)) | (show some (Addr.add _ _).block ≠ _; rw [add_block]; exact (fun e_ => ((HL252_1.out.1 _ e_.symm).2) rfl)) | exact (fun e_ => ((HL252_1.out.1 _ e_.symm).2) rfl)))
                  rw [← Ny253.out] at ho
                  have n0_ := Aside0.mk (Kd.R_over' (v := (.slice A252_1 ((rd_T43 x6_1 (ji77)).f1).length c252_1)) (apAR HO_5.out) (Kd.R_typed HL252_1.out) (by decide) hg)
                  have n1_ := Aside0.mk (blk_grown (g := gb244) (o := .cells #[.string ((rd_T56 t237 x8_1).f0), .int .i64 ((rd_T56 t237 x8_1).f1), .bool false] 56 (0, 0)) (apB BK244.out) hg (Kd.R_ne HL252_1.out BK244.out (by decide)))
                  have n2_ := Aside0.mk (blk_grown (g := gb248) (o := .cells #[.string t245, .string t246] 40 (0, 0)) (apB BK248.out) hg (Kd.R_away HL252_1.out (fun _ hk => hk.1)))
                  have n3_ := Aside0.mk (hb)
                  have n4_ := Aside0.mk (Kd.H_grown (Kd.H_widen (by repeat (first | exact HH84.out | refine Kd.H_alloc ?_ _ | refine Kd.H_drewN ?_ _ | refine Kd.H_drew ?_))) hg (fun k_ e_ => .inl (UU84.out.1 k_ e_)))
                  have n5_ := Aside0.mk (ho)
                  clear HO_5
                  clear BK244
                  clear BK248
                  clear HB
                  clear HH84
                  clear HO_6
                  clear UU84
                  clear HL252_1
                  have HO_5 := n0_
                  have BK244 := n1_
                  have BK248 := n2_
                  have HB := n3_
                  have HH84 := n4_
                  have HO255 := n5_
                  clear n0_ n1_ n2_ n3_ n4_ n5_
                  clear ho hb hg hat
                  have p81 : 0 ≤ ((ji77) : Int) := of_decide_eq_true ap0
                  have q81 : ((ji77) : Int) < ((x6_1.length : Int) : Int) := of_decide_eq_true ap0
                  replace p81 := eq_true p81
                  replace q81 := eq_true q81
                  obtain ⟨Ao88, co88, eo88⟩ := Kd.R_slice HO255.out
                  (first | subst eo88 | (injection eo88 with f1_ f2_ f3_; have f4_ := f1_.symm; have f5_ := f3_.symm; clear f1_ f2_ f3_; subst f4_; subst f5_))
                  obtain ⟨_, _, hraw86, _, _, hcc86, _⟩ := Kd.H_raw HH84.out (of_decide_eq_true ap0) (by have h_ : ((ji77) : Int) < ((x6_1.length : Int) : Int) := of_decide_eq_true ap0; first | exact h_ | (have e_ := (HN84.out); omega) | simpa using h_)
                  obtain ⟨_, hfr86⟩ := Kd.H_at HH84.out (of_decide_eq_true ap0) (by have h_ : ((ji77) : Int) < ((x6_1.length : Int) : Int) := of_decide_eq_true ap0; first | exact h_ | (have e_ := (HN84.out); omega) | simpa using h_)
                  have hx86_0 := hcc86 1 _ rfl
                  have hf86_0 := hfr86 1
                  (try rw [show (k43).sz = 2 from rfl] at hx86_0)
                  (try rw [show (k43).sz = 2 from rfl] at hf86_0)
                  have HP86 := Kd.S_seg0 HH84.out (of_decide_eq_true ap0) (by have h_ : ((ji77) : Int) < ((x6_1.length : Int) : Int) := of_decide_eq_true ap0; first | exact h_ | (have e_ := (HN84.out); omega) | simpa using h_) (seg := [.slice Ao88 y253.length co88]) (j := 1) (show 2 ≤ 2 from by decide) (x' := (⟨(rd_T43 x6_1 (ji77)).f0, y253⟩ : S43)) (k43_mkM _ _ _ (⟨(rd_T43 x6_1 (ji77)).f0, y253⟩ : S43) HO255.out) (fun _ hk => hk)
                  clear hcc86 hfr86
                  have HNB244_go84 := Aside0.mk (show gb244 ≠ go84 from by have h_ := Kd.R_ne hraw86 BK244.out (by decide); intro e_; exact h_ (by rw [e_]; rfl))
                  have HNB248_go84 := Aside0.mk (show gb248 ≠ go84 from by have h_ := Kd.R_ne hraw86 BK248.out (by decide); intro e_; exact h_ (by rw [e_]; rfl))
                  have HS86 := HP86.1
                  rw [← Ny256.out] at HS86
                  have HQ86 := Aside0.mk HS86
                  obtain ⟨_, hgg86⟩ := Kd.R_typed hraw86 go84 rfl
                  have GG86_ := Aside0.mk hgg86
                  clear HP86 HS86 hgg86
                  refine hK.out _ _ ⟨(blk_cell BK248.out 0).trans rfl, (blk_cell BK248.out 1).trans rfl, HS2_, HS3_⟩ (fun hHeld => ?_)
                  clear hK K
                  refine norm_ (a' := ?_) ?_ ?_
                  rotate_left
                  ·
                   show Act.put _ (some 96) _ = _
                   simp only [Act.put, List.setIfInBounds_toArray, List.set_cons_zero, List.set_cons_succ, i64_w, i32_w]
                   rfl
                  refine pure_ (i := 14) (N := some 97) (v := ?_) (a' := ?_) #[true, true, true, true, true, true, true, true, true, true, true, true, true, true, true, false, false] rfl rfl (any_of HT_.out (by kernel_rfl)) (fun _ _ _ h => h) (Or.inl ⟨by rfl, ?_⟩) ?_ ?_
                  rotate_left
                  ·
                   intro w'
                   go_simp
                   with_reducible rfl
                  rotate_left
                  ·
                   simp only [Act.put, List.setIfInBounds_toArray, List.set_cons_zero, List.set_cons_succ, i64_w, i32_w]
                   rfl
                  refine pure_ (i := 15) (N := some 98) (v := ?_) (a' := ?_) #[true, true, true, true, true, true, true, true, true, true, true, true, true, true, true, true, false] rfl rfl (any_of HT_.out (by kernel_rfl)) (fun _ _ _ h => h) (Or.inl ⟨by rfl, ?_⟩) ?_ ?_
                  rotate_left
                  ·
                   intro w'
                   go_simp
                   with_reducible rfl
                  rotate_left
                  ·
                   simp only [Act.put, List.setIfInBounds_toArray, List.set_cons_zero, List.set_cons_succ, i64_w, i32_w]
                   rfl
                  refine last_ (i := 16) (N := none) #[true, true, true, true, true, true, true, true, true, true, true, true, true, true, true, true, true] rfl rfl (one_of HT_.out (by kernel_rfl)) (by decide) (fun K hK => ?_)
                  refine skip_ (w1 := ?_) (by rfl) rfl ?_ ?_
                  rotate_left
                  ·
                   go_simp
                   rfl
                  refine hK.out _ _ ?_
                  clear hK K
                  refine done_ (done_of HT_.out (by kernel_rfl)) ?_
                  try go_wp2
                  go_roundg kj36
                  case measure => have := HK1.out; have := HJ15.out; have := HJ36.out; omega
                  case rel => exact ⟨(y256), (true), (wrap64 (x8_1 + 1)), ap2, ap2, H', ⟨by have := HK1.out; have := HJ15.out; have := HJ36.out; omega⟩, ⟨by (with_reducible repeat (first | apply Kd.R_alloc | apply Kd.R_drewN | apply Kd.R_drew)); exact Kd.R_mono (Kd.R_far (p := ⟨go84, ((ji77) : Int).toNat * 2 + 1, none⟩) (Kd.R_types HO_5.out GG86_.out (by decide)) (fun _ hk => hk.2) (.slice Ao88 y253.length co88)) (fun _ hk => trivial)⟩, ⟨by (with_reducible repeat (first | apply Kd.S_alloc | apply Kd.S_drewN | apply Kd.S_drew)); exact Kd.S_mono HQ86.out (fun _ hk => trivial)⟩, ⟨by repeat (first | (with_reducible first | exact HB.out | apply below_alloc | apply pw_below_drewN | apply below_drew1 | refine below_set ?_ GB84.out | refine below_set ?_ GE244.out | refine below_set ?_ GE248.out) | exact HB.out)⟩⟩
                 ·
                  rw [if_neg c80] at H
                  exact absurd H (by simp)
                ·
                 rw [if_neg c79] at H
                 exact absurd H (by simp)
               ·
                rw [if_neg c78] at H
                exact absurd H (by simp)
              ·
               replace c76 := Bool.eq_false_iff.mpr c76
               subst c76
               rw [if_neg (show ¬ (false = true) by decide)] at H
               by_cases c89 : x6_1.length < 3518437208883
               ·
                rw [if_pos c89] at H
                have LMc89 := Aside0.mk c89
                clear c89
                obtain ⟨y257, hy257⟩ : ∃ y_ : List (S43), y_ = (x6_1 ++ [(⟨t246, ([] : List (S40))⟩ : S43)]) := ⟨_, rfl⟩
                replace H : (R21Parse.l0 kj36 t237 y257 true (wrap64 (x8_1 + 1))) = some (r1, r2, r3) := by first | (rw [hy257]; with_reducible exact H) | (have H2_ := (Option.bind_some _ _).symm.trans H; rw [hy257]; with_reducible exact H2_) | (have H2_ := (Option.bind_some _ _).symm.trans H; with_reducible exact H2_) | with_reducible exact H | (rw [hy257]; exact H) | exact H
                have Ny257 := Aside0.mk hy257
                clear hy257
                have H' := Aside0.mk H
                clear H
                have hnb90 := NB248_244.out
                have hnc90 := NB244_248.out
                have hcz91_0 : wc.cell? ⟨gb248, 0, none⟩ = some (.string t245) := (blk_cell BK248.out 0).trans rfl
                have hcz91_1 : wc.cell? ⟨gb248, 1, none⟩ = some (.string t246) := (blk_cell BK248.out 1).trans rfl
                have hfz91_0 := blk_frozen BK248.out 0
                have hfz91_1 := blk_frozen BK248.out 1
                go_wp2_with (first | ((with_reducible refine gate_builtin (b := .append) (xs := #[.tmp 99, .tmp 103]) rfl ?_); (try (refine gate_guard (by rfl) ?_; dsimp only)); at_builtin; refine Kd.S_append k43 (w0 := w) w.heap.size rfl (.tmp 99) (.tmp 103) 23 43 (.agg #[(.string ⟨#[]⟩), (.slice none 0 0)]) 40 rfl Tryd.underlying23 info43 rfl (by decide) (by omega) u6 x6_1 (⟨t246, ([] : List (S40))⟩ : S43) [.string t246, .slice none 0 0] (fun k_ => k_ ≠ gb248) (fun _ => False) rfl rfl ?aP (fun k_ hk_ => hk_.elim) ?aF ?aO ?aB ?aS ?aL ?_; (case aP => exact k43_mkM _ _ _ (⟨t246, ([] : List (S40))⟩ : S43) (Kd.R_nil _ _ _ _ _)); (case aB => exact (by repeat (first | (with_reducible first | exact HB.out | apply below_alloc | apply pw_below_drewN | apply below_drew1 | refine below_set ?_ GE244.out | refine below_set ?_ GE248.out) | exact HB.out))); (case aF => exact (fun k_ hk => Kd.freshB (g := gb248) (o := .cells #[.string t245, .string t246] 40 (0, 0)) (apB BK248.out) k_ hk)); (case aO => exact (by (with_reducible repeat (first | apply Kd.S_alloc | apply Kd.S_drewN | apply Kd.S_drew)); exact Kd.S_mono HO_6.out (fun k_ hk => ⟨hk, fun e_ => e_⟩))); (case aS => exact (below_size (by repeat (first | (with_reducible first | exact HB.out | apply below_alloc | apply pw_below_drewN | apply below_drew1 | refine below_set ?_ GE244.out | refine below_set ?_ GE248.out) | exact HB.out)))); (case aL => have := LMc89.out; omega); intro v258 w92 ho hb hg hat; rw [← Ny257.out] at ho; have n0_ := Aside0.mk (Kd.R_over' (apAR HO_5.out) (Kd.S_typed (apAS HO_6.out)) (by decide) hg); have n1_ := Aside0.mk (blk_grown (g := gb244) (o := .cells #[.string ((rd_T56 t237 x8_1).f0), .int .i64 ((rd_T56 t237 x8_1).f1), .bool false] 56 (0, 0)) (apB BK244.out) hg (Kd.S_ne HO_6.out BK244.out (by decide))); have n2_ := Aside0.mk (blk_grown (g := gb248) (o := .cells #[.string t245, .string t246] 40 (0, 0)) (apB BK248.out) hg (Kd.S_ne HO_6.out BK248.out (by decide))); have n3_ := Aside0.mk (hb); have n4_ := Aside0.mk (ho); clear HO_5; clear BK244; clear BK248; clear HB; clear HO_6; have HO_5 := n0_; have BK244 := n1_; have BK248 := n2_; have HB := n3_; have HO259 := n4_; clear n0_ n1_ n2_ n3_ n4_; clear ho hb hg hat))
                go_roundg kj36
                case measure => have := HK1.out; have := HJ15.out; have := HJ36.out; omega
                case rel => exact ⟨(y257), (true), (wrap64 (x8_1 + 1)), ap2, ap2, H', ⟨by have := HK1.out; have := HJ15.out; have := HJ36.out; omega⟩, ⟨by (with_reducible repeat (first | apply Kd.R_alloc | apply Kd.R_drewN | apply Kd.R_drew)); exact Kd.R_mono HO_5.out (fun _ hk => trivial)⟩, ⟨by (with_reducible repeat (first | apply Kd.S_alloc | apply Kd.S_drewN | apply Kd.S_drew)); exact Kd.S_mono HO259.out (fun _ hk => trivial)⟩, ⟨by repeat (first | (with_reducible first | exact HB.out | apply below_alloc | apply pw_below_drewN | apply below_drew1 | refine below_set ?_ GE244.out | refine below_set ?_ GE248.out) | exact HB.out)⟩⟩
               ·
                rw [if_neg c89] at H
                exact absurd H (by simp)
     ·
      rw [if_neg c8] at H
      exact absurd H (by simp)
    ·
     rw [if_neg c7] at H
     have c7b0 := decide_eq_false c7
     clear c7
     simp only [Option.some.injEq, Prod.mk.injEq] at H
     obtain ⟨rfl, rfl, rfl⟩ := H
     obtain ⟨Ao93, co93, eo93⟩ := Kd.R_slice HO_5.out
     subst eo93
     go_wp2
     go_ret3
     exact ⟨_, by first | rfl | (simp [errW_none, errW_some, bne_nil8, beq_nil8]; done) | (simp [errW_none, errW_some] <;> rfl) | (simp [*, errW_none, errW_some] <;> rfl), by (with_reducible repeat (first | apply Kd.S_alloc | apply Kd.S_drewN | apply Kd.S_drew)); exact HO_6.out, by repeat (first | (with_reducible first | exact HB.out | apply below_alloc | apply pw_below_drewN | apply below_drew1) | exact HB.out)⟩
end Go.Proofs.YtkklacijhmoopaaDoor.Print
namespace Go.Proofs.YtkklacijhmoopaaDoor.Print
open Go.RowKit Go.Proofs.YtkklacijhmoopaaDoorW.PrintWords Go.Proofs.YtkklacijhmoopaaDoorW.PrintLast Go.Proofs.YtkklacijhmoopaaDoorW.PrintMore
set_option linter.unusedVariables false
set_option linter.unusedSimpArgs false
namespace B64
theorem ext_take (s : ByteArray) (a b : Nat) : bl (s.extract a b) = ((bl s).drop a).take (b - a) := by
  show (s.extract a b).data.toList = _
  rw [ByteArray.data_extract, Array.toList_extract, List.extract_eq_take_drop]
theorem ext_from (s : ByteArray) (a : Nat) : bl (s.extract a s.size) = (bl s).drop a := by
  rw [ext_take]
  exact List.take_of_length_le (by rw [List.length_drop, bl_length]; omega)
theorem ext_to (s : ByteArray) (b : Nat) : bl (s.extract 0 b) = (bl s).take b := by rw [ext_take]; simp
theorem ba_ext {a b : ByteArray} (h : bl a = bl b) : a = b := ByteArray.ext (Array.toList_inj.1 h)
theorem mk_ext {a : ByteArray} {l : List UInt8} (h : bl a = l) : a = mkB l := ba_ext (by rw [h])
theorem succ_w {p : Nat} (h : p ≤ 2000000) : wrap64 ((p : Int) + 1) = ((p + 1 : Nat) : Int) := by unfold wrap64; omega
theorem drop_at {s : ByteArray} {p : Nat} {c : UInt8} {r : List UInt8} (h : (bl s).drop p = c :: r) : p < s.size ∧ bt s (p : Int) = (c.toNat : Int) ∧ (bl s).drop (p + 1) = r := by
  have h1 : p < (bl s).length := by
    rcases Nat.lt_or_ge p (bl s).length with h' | h'
    · exact h'
    · rw [List.drop_eq_nil_of_le h'] at h; cases h
  rw [List.drop_eq_getElem_cons h1] at h
  injection h with h2 h3
  rw [bl_length] at h1
  refine ⟨h1, ?_, h3⟩
  rw [bt_at' h1, ← h2, List.getD_eq_getElem?_getD, List.getElem?_eq_getElem (by rw [bl_length]; exact h1)]; rfl
theorem nil_at {s : ByteArray} {p : Nat} (h : (bl s).drop p = []) : s.size ≤ p := by rw [← bl_length]; exact List.drop_eq_nil_iff.1 h
def letterN (n : Nat) : Prop := 97 ≤ n ∧ n ≤ 122 ∨ 65 ≤ n ∧ n ≤ 90
def tailN (n : Nat) : Prop := n = 45 ∨ 48 ≤ n ∧ n ≤ 57
instance : DecidablePred letterN := fun n => by unfold letterN; exact inferInstance
instance : DecidablePred tailN := fun n => by unfold tailN; exact inferInstance
def okFrom : Bool → List UInt8 → Bool
  | _, [] => true
  | first, c :: r => decide (letterN c.toNat ∨ first = false ∧ tailN c.toNat) && okFrom false r
def typeR (l : List UInt8) : Bool := okFrom true l && decide (1 ≤ l.length ∧ l.length ≤ 64)
theorem type_step (s : ByteArray) (c : UInt8) (i : Nat) (hb : bt s (i : Int) = (c.toNat : Int)) (hi : i < s.size) (k : Nat) :
    ldif_rightType.l0 (k + 1) s (s.size : Int) (i : Int) = if letterN c.toNat ∨ decide (i = 0) = false ∧ tailN c.toNat then ldif_rightType.l0 k s (s.size : Int) (wrap64 ((i : Int) + 1)) else some false := by
  have hc := c.toNat_lt
  rw [ldif_rightType.l0, hb]
  unfold letterN tailN
  generalize ldif_rightType.l0 k s (s.size : Int) (wrap64 ((i : Int) + 1)) = X
  generalize c.toNat = n at *
  simp only [decide_eq_false_iff_not]
  rw [if_pos (by omega), if_pos (by omega), if_pos (by omega)]
  repeat' split
  all_goals first | rfl | (exfalso; omega)
theorem type_loop (s : ByteArray) (hs : s.size ≤ 1000000) : ∀ (m i : Nat), s.size - i = m → i ≤ s.size → Ev (fun k => ldif_rightType.l0 k s (s.size : Int) (i : Int)) (okFrom (decide (i = 0)) ((bl s).drop i) && decide (1 ≤ s.size ∧ s.size ≤ 64)) := by
  intro m
  induction m with
  | zero =>
    intro i hm hi
    rw [List.drop_eq_nil_of_le (by rw [bl_length]; omega), okFrom, Bool.true_and]
    refine Ev.step (fun k => by rw [ldif_rightType.l0]) ?_
    refine Ev.neg (by omega) ?_
    by_cases h0 : s.size = 0
    · rw [show decide (1 ≤ s.size ∧ s.size ≤ 64) = false from decide_eq_false (by omega)]
      refine Ev.pos ?_ Ev.rfl'
      rw [Lib.toList_data]
      exact List.eq_nil_of_length_eq_zero (by rw [show s.data.toList.length = s.size from bl_length s]; exact h0)
    · refine Ev.neg ?_ ?_
      · intro h
        rw [Lib.toList_data] at h
        have := bl_length s
        unfold bl at this
        rw [h] at this; simp at this; omega
      · rw [show decide ((s.size : Int) ≤ 64) = decide (1 ≤ s.size ∧ s.size ≤ 64) from decide_eq_decide.2 (by omega)]
        exact Ev.rfl'
  | succ m ih =>
    intro i hm hi
    cases hr : (bl s).drop i with
    | nil => have := nil_at hr; omega
    | cons c r =>
      obtain ⟨g1, g2, g3⟩ := drop_at hr
      have hi2 := ih (i + 1) (by omega) (by omega)
      rw [g3, show decide (i + 1 = 0) = false from rfl] at hi2
      refine Ev.step (fun k => type_step s c i g2 g1 k) ?_
      rw [succ_w (by omega), okFrom]
      by_cases h : letterN c.toNat ∨ decide (i = 0) = false ∧ tailN c.toNat
      · rw [decide_eq_true h, Bool.true_and]; exact Ev.pos h hi2
      · rw [decide_eq_false h, Bool.false_and, Bool.false_and]; exact Ev.neg h Ev.rfl'
theorem type_ev (s : ByteArray) (hs : s.size ≤ 1000000) : Ev (fun k => ldif_rightType.f k s) (typeR (bl s)) := by
  unfold ldif_rightType.f typeR
  have := type_loop s hs _ 0 rfl (Nat.zero_le _)
  rw [List.drop_zero] at this
  rw [bl_length]
  exact this
theorem rtype_step (s : ByteArray) (c : UInt8) (i : Nat) (hb : bt s (i : Int) = (c.toNat : Int)) (hi : i < s.size) (k : Nat) :
    R21Type.l0 (k + 1) s (i : Int) = if letterN c.toNat ∨ tailN c.toNat then R21Type.l0 k s (wrap64 ((i : Int) + 1)) else some false := by
  have hc := c.toNat_lt
  rw [R21Type.l0, hb]
  unfold letterN tailN
  generalize R21Type.l0 k s (wrap64 ((i : Int) + 1)) = X
  generalize c.toNat = n at *
  rw [if_pos (by omega), if_pos (by omega)]
  repeat' split
  all_goals first | rfl | (exfalso; omega)
theorem rtype_loop (s : ByteArray) (hs : s.size ≤ 1000000) : ∀ (m i : Nat), s.size - i = m → i ≤ s.size → Ev (fun k => R21Type.l0 k s (i : Int)) (okFrom false ((bl s).drop i)) := by
  intro m
  induction m with
  | zero =>
    intro i hm hi
    rw [List.drop_eq_nil_of_le (by rw [bl_length]; omega), okFrom]
    exact Ev.step (fun k => by rw [R21Type.l0]) (Ev.neg (by omega) Ev.rfl')
  | succ m ih =>
    intro i hm hi
    cases hr : (bl s).drop i with
    | nil => have := nil_at hr; omega
    | cons c r =>
      obtain ⟨g1, g2, g3⟩ := drop_at hr
      have hi2 := ih (i + 1) (by omega) (by omega)
      rw [g3] at hi2
      refine Ev.step (fun k => rtype_step s c i g2 g1 k) ?_
      rw [succ_w (by omega), okFrom]
      by_cases h : letterN c.toNat ∨ tailN c.toNat
      · rw [decide_eq_true (show letterN c.toNat ∨ false = false ∧ tailN c.toNat by simpa using h), Bool.true_and]; exact Ev.pos h hi2
      · rw [decide_eq_false (show ¬ (letterN c.toNat ∨ false = false ∧ tailN c.toNat) by simpa using h), Bool.false_and]; exact Ev.neg h Ev.rfl'
theorem rtype_ev (s : ByteArray) (hs : s.size ≤ 1000000) : Ev (fun k => R21Type.f k s) (typeR (bl s)) := by
  have hj : ∀ b, Ev (fun k => R21Type.j0 k s b) (!b && okFrom false (bl s)) := by
    intro b
    refine Ev.step (fun k => by rw [R21Type.j0]) ?_
    cases b with
    | true => exact Ev.pos rfl Ev.rfl'
    | false =>
      have := rtype_loop s hs _ 0 rfl (Nat.zero_le _)
      rw [List.drop_zero] at this
      exact Ev.neg (by simp) this
  unfold R21Type.f typeR
  rw [bl_length]
  by_cases h1 : s.size < 1
  · rw [show decide (1 ≤ s.size ∧ s.size ≤ 64) = false from decide_eq_false (by omega), Bool.and_false]
    exact Ev.pos (by omega) (hj true)
  refine Ev.neg (by omega) ?_
  by_cases h2 : 64 < s.size
  · rw [show decide (1 ≤ s.size ∧ s.size ≤ 64) = false from decide_eq_false (by omega), Bool.and_false]
    exact Ev.pos (by omega) (hj true)
  refine Ev.neg (by omega) (Ev.pos (by omega) ?_)
  rw [show decide (1 ≤ s.size ∧ s.size ≤ 64) = true from decide_eq_true (by omega), Bool.and_true]
  cases hr : (bl s).drop 0 with
  | nil => have := nil_at hr; omega
  | cons c r =>
    obtain ⟨g1, g2, g3⟩ := drop_at hr
    rw [show ((0 : Nat) : Int) = 0 from rfl] at g2
    rw [List.drop_zero] at hr
    rw [hr] at hj
    rw [g2, hr, okFrom]
    have e : ∀ b : Bool, (b = true ↔ tailN c.toNat) → (!b && okFrom false (c :: r)) = (decide (letterN c.toNat ∨ true = false ∧ tailN c.toNat) && okFrom false r) := by
      intro b hb
      rw [okFrom]
      by_cases ht : tailN c.toNat
      · rw [hb.2 ht, show decide (letterN c.toNat ∨ true = false ∧ tailN c.toNat) = false from decide_eq_false (by
          unfold tailN at ht; unfold letterN
          intro h
          rcases h with h | ⟨h, _⟩
          · omega
          · cases h)]; rfl
      · have hbf : b = false := by cases b with
          | true => exact absurd (hb.1 rfl) ht
          | false => rfl
        rw [hbf, show decide (letterN c.toNat ∨ true = false ∧ tailN c.toNat) = decide (letterN c.toNat ∨ false = false ∧ tailN c.toNat) from decide_eq_decide.2 (by simp [ht])]; rfl
    by_cases a1 : c.toNat = 45
    · rw [← e true (by simp [tailN, a1])]; exact Ev.pos (by omega) (hj true)
    · refine Ev.neg (by omega) ?_
      by_cases a2 : 48 ≤ c.toNat
      · refine Ev.pos (by omega) ?_
        rw [← e (decide ((c.toNat : Int) ≤ 57)) (by unfold tailN; rw [decide_eq_true_eq]; omega)]
        exact hj _
      · refine Ev.neg (by omega) ?_
        rw [← e false (by unfold tailN; constructor; intro h; cases h; intro h; omega)]
        exact hj false
end B64
end Go.Proofs.YtkklacijhmoopaaDoor.Print
namespace Go.Proofs.YtkklacijhmoopaaDoor.Print
open Go.RowKit Go.Proofs.YtkklacijhmoopaaDoorW.PrintWords Go.Proofs.YtkklacijhmoopaaDoorW.PrintLast Go.Proofs.YtkklacijhmoopaaDoorW.PrintMore
set_option linter.unusedVariables false
set_option linter.unusedSimpArgs false
namespace B64
def badN (n : Nat) : Prop := n = 0 ∨ 127 < n ∨ n = 10 ∨ n = 13
def headN (n : Nat) : Prop := n = 32 ∨ n = 58 ∨ n = 60
instance : DecidablePred badN := fun n => by unfold badN; exact inferInstance
instance : DecidablePred headN := fun n => by unfold headN; exact inferInstance
def plFrom : Bool → List UInt8 → Bool
  | _, [] => true
  | first, c :: r => !decide (badN c.toNat ∨ first = true ∧ headN c.toNat) && plFrom false r
def plainR (l : List UInt8) : Bool := plFrom true l
theorem plain_step (s : ByteArray) (c : UInt8) (i : Nat) (hb : bt s (i : Int) = (c.toNat : Int)) (hi : i < s.size) (k : Nat) :
    ldif_plain.l0 (k + 1) s (s.size : Int) (i : Int) = if badN c.toNat ∨ decide (i = 0) = true ∧ headN c.toNat then some false else ldif_plain.l0 k s (s.size : Int) (wrap64 ((i : Int) + 1)) := by
  have hc := c.toNat_lt
  rw [ldif_plain.l0, hb]
  unfold badN headN
  generalize ldif_plain.l0 k s (s.size : Int) (wrap64 ((i : Int) + 1)) = X
  generalize c.toNat = n at *
  simp only [decide_eq_true_eq]
  rw [if_pos (by omega), if_pos (by omega), if_pos (by omega)]
  repeat' split
  all_goals first | rfl | (exfalso; omega)
theorem plain_loop (s : ByteArray) (hs : s.size ≤ 1000000) : ∀ (m i : Nat), s.size - i = m → i ≤ s.size → Ev (fun k => ldif_plain.l0 k s (s.size : Int) (i : Int)) (plFrom (decide (i = 0)) ((bl s).drop i)) := by
  intro m
  induction m with
  | zero =>
    intro i hm hi
    rw [List.drop_eq_nil_of_le (by rw [bl_length]; omega), plFrom]
    exact Ev.step (fun k => by rw [ldif_plain.l0]) (Ev.neg (by omega) Ev.rfl')
  | succ m ih =>
    intro i hm hi
    cases hr : (bl s).drop i with
    | nil => have := nil_at hr; omega
    | cons c r =>
      obtain ⟨g1, g2, g3⟩ := drop_at hr
      have hi2 := ih (i + 1) (by omega) (by omega)
      rw [g3, show decide (i + 1 = 0) = false from rfl] at hi2
      refine Ev.step (fun k => plain_step s c i g2 g1 k) ?_
      rw [succ_w (by omega), plFrom]
      by_cases h : badN c.toNat ∨ decide (i = 0) = true ∧ headN c.toNat
      · rw [decide_eq_true h]; exact Ev.pos h Ev.rfl'
      · rw [decide_eq_false h, Bool.not_false, Bool.true_and]; exact Ev.neg h hi2
theorem plain_ev (s : ByteArray) (hs : s.size ≤ 1000000) : Ev (fun k => ldif_plain.f k s) (plainR (bl s)) := by
  unfold ldif_plain.f plainR
  have := plain_loop s hs _ 0 rfl (Nat.zero_le _)
  rw [List.drop_zero] at this
  exact this
theorem rplain_step (s : ByteArray) (c : UInt8) (i : Nat) (hb : bt s (i : Int) = (c.toNat : Int)) (hi : i < s.size) (k : Nat) :
    R21Plain.l0 (k + 1) s (i : Int) = if badN c.toNat then some false else R21Plain.l0 k s (wrap64 ((i : Int) + 1)) := by
  have hc := c.toNat_lt
  rw [R21Plain.l0, hb]
  generalize R21Plain.l0 k s (wrap64 ((i : Int) + 1)) = X
  generalize c.toNat = n at *
  rw [if_pos (by omega), if_pos (by omega)]
  by_cases h : badN n
  · rw [if_pos h]
    unfold badN at h
    repeat' split
    all_goals first | rfl | (exfalso; omega)
  · rw [if_neg h]
    unfold badN at h
    repeat' split
    all_goals first | rfl | (exfalso; omega)
def headOk (l : List UInt8) : Bool := match l with
  | [] => true
  | c :: _ => !decide (headN c.toNat)
theorem rplain_loop (s : ByteArray) (hs : s.size ≤ 1000000) : ∀ (m i : Nat), s.size - i = m → i ≤ s.size → Ev (fun k => R21Plain.l0 k s (i : Int)) (plFrom false ((bl s).drop i) && headOk (bl s)) := by
  intro m
  induction m with
  | zero =>
    intro i hm hi
    rw [List.drop_eq_nil_of_le (by rw [bl_length]; omega), plFrom, Bool.true_and]
    refine Ev.step (fun k => by rw [R21Plain.l0]) ?_
    refine Ev.neg (by omega) ?_
    cases hr : (bl s).drop 0 with
    | nil =>
      have := nil_at hr
      rw [List.drop_zero] at hr
      rw [hr]
      exact Ev.pos (by omega) Ev.rfl'
    | cons c r =>
      obtain ⟨g1, g2, g3⟩ := drop_at hr
      rw [List.drop_zero] at hr
      rw [show ((0 : Nat) : Int) = 0 from rfl] at g2
      rw [hr, g2]
      have e : headOk (c :: r) = !decide (headN c.toNat) := rfl
      rw [e]
      refine Ev.neg (by omega) (Ev.pos (by omega) ?_)
      generalize c.toNat = n at *
      by_cases h1 : n = 32
      · rw [decide_eq_true (show headN n from .inl h1)]; exact Ev.pos (by omega) Ev.rfl'
      refine Ev.neg (by omega) ?_
      by_cases h2 : n = 58
      · rw [decide_eq_true (show headN n from .inr (.inl h2))]; exact Ev.pos (by omega) Ev.rfl'
      refine Ev.neg (by omega) ?_
      by_cases h3 : n = 60
      · rw [decide_eq_true (show headN n from .inr (.inr h3))]
        subst h3; exact Ev.rfl'
      · rw [decide_eq_false (show ¬ headN n by unfold headN; omega), show ((n : Int) != 60) = true from bne_iff_ne.2 (by omega)]; exact Ev.rfl'
  | succ m ih =>
    intro i hm hi
    cases hr : (bl s).drop i with
    | nil => have := nil_at hr; omega
    | cons c r =>
      obtain ⟨g1, g2, g3⟩ := drop_at hr
      have hi2 := ih (i + 1) (by omega) (by omega)
      rw [g3] at hi2
      refine Ev.step (fun k => rplain_step s c i g2 g1 k) ?_
      rw [succ_w (by omega), plFrom]
      by_cases h : badN c.toNat
      · rw [decide_eq_true (show badN c.toNat ∨ false = true ∧ headN c.toNat from .inl h)]; exact Ev.pos h Ev.rfl'
      · rw [decide_eq_false (show ¬ (badN c.toNat ∨ false = true ∧ headN c.toNat) by simpa using h), Bool.not_false, Bool.true_and]; exact Ev.neg h hi2
theorem pl_head (l : List UInt8) : (plFrom false l && headOk l) = plainR l := by
  cases l with
  | nil => rfl
  | cons c r =>
    unfold plainR
    rw [plFrom, plFrom, show headOk (c :: r) = !decide (headN c.toNat) from rfl]
    by_cases h1 : badN c.toNat
    · rw [decide_eq_true (show badN c.toNat ∨ false = true ∧ headN c.toNat from .inl h1), decide_eq_true (show badN c.toNat ∨ true = true ∧ headN c.toNat from .inl h1)]; rfl
    · by_cases h2 : headN c.toNat
      · rw [decide_eq_true (show badN c.toNat ∨ true = true ∧ headN c.toNat from .inr ⟨rfl, h2⟩), decide_eq_true h2]; simp
      · rw [decide_eq_false (show ¬ (badN c.toNat ∨ true = true ∧ headN c.toNat) by simp [h1, h2]), decide_eq_false h2, decide_eq_false (show ¬ (badN c.toNat ∨ false = true ∧ headN c.toNat) by simp [h1])]; simp
theorem rplain_ev (s : ByteArray) (hs : s.size ≤ 1000000) : Ev (fun k => R21Plain.f k s) (plainR (bl s)) := by
  unfold R21Plain.f
  have := rplain_loop s hs _ 0 rfl (Nat.zero_le _)
  rw [List.drop_zero, pl_head] at this
  exact this
theorem idx_none (z : UInt8) : ∀ l : List UInt8, (∀ c ∈ l, c ≠ z) → Lib.index l [z] = -1
  | [], _ => rfl
  | c :: l, h => by
    have ih := idx_none z l fun x hx => h x (by simp [hx])
    have hc := h c (by simp)
    have hp : ([z] : List UInt8).isPrefixOf (c :: l) = false := by simp [List.isPrefixOf, Ne.symm hc]
    rw [Lib.index, hp, ih]; rfl
theorem idx_hit (z : UInt8) : ∀ (a b : List UInt8), (∀ c ∈ a, c ≠ z) → Lib.index (a ++ z :: b) [z] = (a.length : Int)
  | [], b, _ => by simp [Lib.index, List.isPrefixOf]
  | c :: a, b, h => by
    have ih := idx_hit z a b fun x hx => h x (by simp [hx])
    have hc := h c (by simp)
    have hp : ([z] : List UInt8).isPrefixOf (c :: (a ++ z :: b)) = false := by simp [List.isPrefixOf, Ne.symm hc]
    rw [List.cons_append, Lib.index, hp, ih]
    rw [if_neg (by simp), if_neg (by simp)]
    simp
def cutR (z : UInt8) (l : List UInt8) : List UInt8 × List UInt8 × Bool := (l.takeWhile (· != z), (l.dropWhile (· != z)).tail, !(l.dropWhile (· != z)).isEmpty)
theorem cut_cases (z : UInt8) (l : List UInt8) : ((∀ c ∈ l, c ≠ z) ∧ cutR z l = (l, [], false)) ∨ ∃ a b, l = a ++ z :: b ∧ (∀ c ∈ a, c ≠ z) ∧ cutR z l = (a, b, true) := by
  induction l with
  | nil => exact .inl ⟨by simp, rfl⟩
  | cons c l ih =>
    by_cases hc : c = z
    · subst hc
      refine .inr ⟨[], l, rfl, by simp, ?_⟩
      unfold cutR
      rw [List.takeWhile_cons_of_neg (by simp), List.dropWhile_cons_of_neg (by simp)]; rfl
    · have hp : (c != z) = true := by simpa using hc
      have e : cutR z (c :: l) = (c :: (cutR z l).1, (cutR z l).2.1, (cutR z l).2.2) := by
        unfold cutR
        simp only [List.takeWhile_cons, List.dropWhile_cons, hp, if_true]
      rcases ih with ⟨h1, h2⟩ | ⟨a, b, h1, h2, h3⟩
      · refine .inl ⟨?_, by rw [e, h2]⟩
        intro x hx
        rcases List.mem_cons.1 hx with rfl | hx
        · exact hc
        · exact h1 x hx
      · refine .inr ⟨c :: a, b, by rw [h1]; rfl, ?_, by rw [e, h3]⟩
        intro x hx
        rcases List.mem_cons.1 hx with rfl | hx
        · exact hc
        · exact h2 x hx
theorem cut_is (z : UInt8) (l : List UInt8) : Lib.cut l [z] = cutR z l := by
  unfold Lib.cut
  rcases cut_cases z l with ⟨h1, h2⟩ | ⟨a, b, h1, h2, h3⟩
  · rw [idx_none z l h1, h2, if_neg (by omega)]
  · rw [h3, h1, idx_hit z a b h2, if_pos (by omega), Int.toNat_natCast, List.take_left']
    · rw [show a ++ z :: b = (a ++ [z]) ++ b by simp, List.drop_left' (by simp)]
    · rfl
theorem cut_f (s : ByteArray) (hs : s.size ≤ 1000000) (z : UInt8) : strings_Cut.f s (⟨#[z]⟩ : ByteArray) = some (mkB (cutR z (bl s)).1, mkB (cutR z (bl s)).2.1, (cutR z (bl s)).2.2) := by
  unfold strings_Cut.f
  rw [if_pos hs]
  have : Lib.cut s.data.toList (⟨#[z]⟩ : ByteArray).data.toList = cutR z (bl s) := cut_is z (bl s)
  rw [this]
def headIs (z : UInt8) (l : List UInt8) : Bool := match l with
  | [] => false
  | c :: _ => c == z
theorem hp_f (s : ByteArray) (hs : s.size ≤ 1000000) (z : UInt8) : stringslite_HasPrefix.f s (⟨#[z]⟩ : ByteArray) = some (headIs z (bl s)) := by
  unfold stringslite_HasPrefix.f
  have h1 : (⟨#[z]⟩ : ByteArray).size = 1 := rfl
  have hl := bl_length s
  rw [h1]
  cases hb : bl s with
  | nil => rw [hb] at hl; simp at hl; rw [if_neg (by omega)]; rfl
  | cons c r =>
    rw [hb] at hl
    simp only [List.length_cons] at hl
    rw [if_pos (by omega), if_pos (by omega), if_pos (by omega)]
    have e : (s.extract 0 (((1 : Nat) : Int) : Int).toNat).toList = [c] := by
      rw [Lib.toList_data]
      show bl (s.extract 0 1) = _
      rw [ext_to, hb]; rfl
    rw [e, show (⟨#[z]⟩ : ByteArray).toList = [z] by rw [Lib.toList_data]]
    simp [headIs]
theorem cp_f (s : ByteArray) (hs : s.size ≤ 1000000) (z : UInt8) : strings_CutPrefix.f s (⟨#[z]⟩ : ByteArray) = some (if headIs z (bl s) = true then (mkB (bl s).tail, true) else (s, false)) := by
  unfold strings_CutPrefix.f stringslite_CutPrefix.f
  rw [hp_f s hs z]
  have h1 : (⟨#[z]⟩ : ByteArray).size = 1 := rfl
  have hl := bl_length s
  rw [h1]
  cases hb : bl s with
  | nil => rfl
  | cons c r =>
    rw [hb] at hl
    simp only [List.length_cons] at hl
    have e : s.extract (((1 : Nat) : Int) : Int).toNat s.size = mkB r := by
      apply mk_ext
      show bl (s.extract 1 s.size) = _
      rw [ext_from, hb]; rfl
    cases hh : headIs z (c :: r) with
    | true => simp only [Option.bind_some, if_true]; rw [if_pos (by omega), if_pos (by omega), e]; rfl
    | false => rfl
theorem tl_f (s : ByteArray) : strings_TrimLeft.f s (⟨#[32]⟩ : ByteArray) = some (mkB ((bl s).dropWhile (· == 32))) := by
  unfold strings_TrimLeft.f
  show (if (32 : UInt8).toNat < 128 then some _ else none) = _
  rw [if_pos (by decide)]; rfl
end B64
end Go.Proofs.YtkklacijhmoopaaDoor.Print
namespace Go.Proofs.YtkklacijhmoopaaDoor.Print
open Go.RowKit Go.Proofs.YtkklacijhmoopaaDoorW.PrintWords Go.Proofs.YtkklacijhmoopaaDoorW.PrintLast Go.Proofs.YtkklacijhmoopaaDoorW.PrintMore
set_option linter.unusedVariables false
set_option linter.unusedSimpArgs false
namespace B64
def noPair : ByteArray × ByteArray × Bool := (⟨#[]⟩, ⟨#[]⟩, false)
def valueR (a b : List UInt8) : ByteArray × ByteArray × Bool :=
  if headIs 58 b = true then (mkB a, (decR (mkB (b.tail.dropWhile (· == 32)))).1, (decR (mkB (b.tail.dropWhile (· == 32)))).2 == 0)
  else (mkB a, mkB (b.dropWhile (· == 32)), plainR (b.dropWhile (· == 32)))
def pairR (l : List UInt8) : ByteArray × ByteArray × Bool :=
  if (cutR 58 l).2.2 = true then (if typeR (cutR 58 l).1 = true then valueR (cutR 58 l).1 (cutR 58 l).2.1 else noPair) else noPair
theorem dw_le {α : Type} (p : α → Bool) (l : List α) : (l.dropWhile p).length ≤ l.length := by
  induction l with
  | nil => simp
  | cons c l ih => rw [List.dropWhile_cons]; split <;> simp <;> omega
theorem tw_le {α : Type} (p : α → Bool) (l : List α) : (l.takeWhile p).length ≤ l.length := by
  induction l with
  | nil => simp
  | cons c l ih => rw [List.takeWhile_cons]; split <;> simp <;> omega
theorem pair_ev (s : ByteArray) (hs : s.size ≤ 1000000) : Ev (fun k => ldif_pair.f k s) (pairR (bl s)) := by
  unfold ldif_pair.f pairR
  refine Ev.bindc (cut_f s hs 58) ?_
  have hl := bl_length s
  have h1 : (cutR 58 (bl s)).1.length ≤ s.size := by rw [← hl]; exact tw_le _ _
  have h2 : (cutR 58 (bl s)).2.1.length ≤ s.size := by
    have := dw_le (· != (58 : UInt8)) (bl s)
    show ((bl s).dropWhile (· != 58)).tail.length ≤ _
    rw [List.length_tail]; omega
  generalize (cutR 58 (bl s)).1 = a at *
  generalize (cutR 58 (bl s)).2.1 = b at *
  have hno : Ev (fun k => ldif_pair.j0 k (mkB a) (mkB b) true) noPair := by
    refine Ev.step (fun k => by rw [ldif_pair.j0]) ?_
    exact Ev.pos rfl Ev.rfl'
  cases hc : (cutR 58 (bl s)).2.2 with
  | false => rw [if_neg (by simp)]; exact Ev.neg (by simp) hno
  | true =>
    rw [if_pos rfl]
    refine Ev.pos rfl (Ev.bind (type_ev (mkB a) (by rw [mkB_size]; omega)) ?_)
    show Ev (fun k => ldif_pair.j0 k (mkB a) (mkB b) (!typeR a)) _
    cases ht : typeR a with
    | false => rw [if_neg (by simp)]; exact hno
    | true =>
      rw [if_pos rfl]
      refine Ev.step (fun k => by rw [ldif_pair.j0]) ?_
      refine Ev.neg (by simp) (Ev.bindc (cp_f (mkB b) (by rw [mkB_size]; omega) 58) ?_)
      have eb : bl (mkB b) = b := rfl
      unfold valueR
      rw [eb]
      cases hh : headIs 58 b with
      | true =>
        simp only [if_true]
        refine Ev.bindc (tl_f _) ?_
        have : (mkB ((bl (mkB b.tail)).dropWhile (· == 32))).size ≤ 1000000 := by
          rw [mkB_size]
          have := dw_le (· == (32 : UInt8)) b.tail
          rw [List.length_tail] at this
          show (b.tail.dropWhile (· == 32)).length ≤ _
          omega
        exact Ev.bind (progDecode _ this) Ev.rfl'
      | false =>
        simp only [if_neg (show ¬ (false = true) by simp)]
        refine Ev.bindc (tl_f _) ?_
        have : (mkB ((bl (mkB b)).dropWhile (· == 32))).size ≤ 1000000 := by
          rw [mkB_size]
          have := dw_le (· == (32 : UInt8)) b
          show (b.dropWhile (· == 32)).length ≤ _
          omega
        exact Ev.bind (plain_ev _ this) Ev.rfl'
theorem dw_hd {α : Type} {p : α → Bool} : ∀ {l : List α} {c : α} {r : List α}, l.dropWhile p = c :: r → p c = false
  | x :: l, c, r, h => by
    rw [List.dropWhile_cons] at h
    by_cases hx : p x = true
    · rw [if_pos hx] at h; exact dw_hd h
    · rw [if_neg hx] at h
      injection h with h1 _
      subst h1
      simpa using hx
theorem scan_at (s : ByteArray) (hs : s.size ≤ 1000000) (p : Nat) (hp : p = ((bl s).takeWhile (· != 58)).length) {o : ByteArray × ByteArray × Bool} (hnext : Ev (fun k => R21Pair.j1 k s (p : Int)) o) :
    ∀ (m i : Nat), p - i = m → i ≤ p → Ev (fun k => R21Pair.l0 k s (i : Int)) o := by
  have hl := bl_length s
  have hple : p ≤ s.size := by rw [hp, ← hl]; exact tw_le _ _
  have hsplit : bl s = (bl s).takeWhile (· != 58) ++ (bl s).dropWhile (· != 58) := (List.takeWhile_append_dropWhile).symm
  have hdrop : (bl s).drop p = (bl s).dropWhile (· != 58) := by
    conv => lhs; rw [hsplit]
    exact List.drop_left' hp.symm
  intro m
  induction m with
  | zero =>
    intro i hm hi
    obtain rfl : i = p := by omega
    refine Ev.step (fun k => by rw [R21Pair.l0]) ?_
    by_cases h : i < s.size
    · cases hr : (bl s).drop i with
      | nil => have := nil_at hr; omega
      | cons c r =>
        obtain ⟨g1, g2, g3⟩ := drop_at hr
        have hc : c = 58 := by
          rw [hdrop] at hr
          have hh := dw_hd hr
          simpa using hh
        rw [g2]
        subst hc
        exact Ev.pos (by omega) (Ev.pos (by omega) (Ev.pos rfl hnext))
    · exact Ev.neg (by omega) hnext
  | succ m ih =>
    intro i hm hi
    have hi2 := ih (i + 1) (by omega) (by omega)
    cases hr : (bl s).drop i with
    | nil => have := nil_at hr; omega
    | cons c r =>
      obtain ⟨g1, g2, g3⟩ := drop_at hr
      have hc : c ≠ 58 := by
        have hm2 : c ∈ (bl s).takeWhile (· != 58) := by
          have h3 : ((bl s).takeWhile (· != 58)).drop i ++ (bl s).dropWhile (· != 58) = c :: r := by
            rw [← hr]
            conv => rhs; rw [hsplit]
            rw [List.drop_append_of_le_length (by omega)]
          cases h4 : ((bl s).takeWhile (· != 58)).drop i with
          | nil =>
            have := List.drop_eq_nil_iff.1 h4
            omega
          | cons d q =>
            rw [h4] at h3
            injection h3 with h3 _
            subst h3
            exact List.mem_of_mem_drop (show d ∈ ((bl s).takeWhile (· != 58)).drop i by rw [h4]; simp)
        have := List.all_takeWhile (p := (· != (58 : UInt8))) (l := bl s)
        have := List.all_eq_true.1 this c hm2
        simpa using this
      refine Ev.step (fun k => by rw [R21Pair.l0]) ?_
      rw [g2, succ_w (by omega)]
      refine Ev.pos (by omega) (Ev.pos (by omega) (Ev.neg (fun h => hc ?_) hi2))
      apply UInt8.toNat_inj.1
      have : (58 : UInt8).toNat = 58 := rfl
      omega
theorem trim_at (s : ByteArray) (p : Int) (cd : Bool) {o : ByteArray × ByteArray × Bool} : ∀ (n : Nat) (x : ByteArray), x.size = n → Ev (fun k => R21Pair.j6 k s p (mkB ((bl x).dropWhile (· == 32))) cd) o → Ev (fun k => R21Pair.l1 k s p x cd) o := by
  intro n
  induction n with
  | zero =>
    intro x hx hnext
    have hb : bl x = [] := List.eq_nil_of_length_eq_zero (by rw [bl_length]; exact hx)
    rw [hb] at hnext
    refine Ev.step (fun k => by rw [R21Pair.l1]) ?_
    refine Ev.neg (by omega) ?_
    have e : x = mkB [] := mk_ext hb
    rw [e]; exact hnext
  | succ n ih =>
    intro x hx hnext
    cases hr : (bl x).drop 0 with
    | nil => have := nil_at hr; omega
    | cons c r =>
      obtain ⟨g1, g2, g3⟩ := drop_at hr
      rw [show ((0 : Nat) : Int) = 0 from rfl] at g2
      rw [List.drop_zero] at hr
      have hex : bl (x.extract 1 x.size) = r := by rw [ext_from, hr]; rfl
      refine Ev.step (fun k => by rw [R21Pair.l1]) ?_
      rw [g2]
      refine Ev.pos (by omega) (Ev.pos (by omega) ?_)
      by_cases h32 : c = 32
      · subst h32
        rw [hr, List.dropWhile_cons_of_pos (by simp)] at hnext
        refine Ev.pos rfl (Ev.pos (by omega) (ih _ (by rw [ByteArray.size_extract]; omega) ?_))
        rw [hex]; exact hnext
      · rw [hr, List.dropWhile_cons_of_neg (by simpa using h32), ← hr, mkB, show (⟨(bl x).toArray⟩ : ByteArray) = x from rfl] at hnext
        refine Ev.neg (fun h => h32 ?_) hnext
        apply UInt8.toNat_inj.1
        have : (32 : UInt8).toNat = 32 := rfl
        omega
theorem rpair_ev (s : ByteArray) (hs : s.size ≤ 1000000) : Ev (fun k => R21Pair.f k s) (pairR (bl s)) := by
  have hl := bl_length s
  unfold R21Pair.f
  have hsplit : bl s = (bl s).takeWhile (· != 58) ++ (bl s).dropWhile (· != 58) := (List.takeWhile_append_dropWhile).symm
  obtain ⟨p, hp⟩ : ∃ p, p = ((bl s).takeWhile (· != 58)).length := ⟨_, rfl⟩
  have hple : p ≤ s.size := by rw [hp, ← hl]; exact tw_le _ _
  have hdrop : (bl s).drop p = (bl s).dropWhile (· != 58) := by
    conv => lhs; rw [hsplit]
    exact List.drop_left' hp.symm
  have htake : (bl s).take p = (bl s).takeWhile (· != 58) := by
    conv => lhs; rw [hsplit]
    exact List.take_left' hp.symm
  refine scan_at s hs p hp ?_ _ 0 rfl (Nat.zero_le _)
  unfold pairR cutR
  dsimp only
  have hno : Ev (fun k => R21Pair.j2 k s (p : Int) true) noPair := by
    refine Ev.step (fun k => by rw [R21Pair.j2]) ?_
    exact Ev.pos rfl Ev.rfl'
  refine Ev.step (fun k => by rw [R21Pair.j1]) ?_
  by_cases hend : p = s.size
  · rw [← hdrop, List.drop_eq_nil_of_le (by omega)]
    exact Ev.pos (by omega) hno
  · have hne : ((bl s).dropWhile (· != 58)).isEmpty = false := by
      rw [← hdrop]
      cases h : (bl s).drop p with
      | nil => have := nil_at h; omega
      | cons _ _ => rfl
    rw [hne, Bool.not_false, if_pos rfl, ← htake, ← hdrop, List.tail_drop]
    refine Ev.neg (by omega) (Ev.pos (by omega) (Ev.pos (by omega) ?_))
    have hea : bl (s.extract 0 p) = (bl s).take p := ext_to s p
    have hbs : bl (s.extract (p + 1) s.size) = (bl s).drop (p + 1) := ext_from s (p + 1)
    rw [Int.toNat_natCast]
    have hty := rtype_ev (s.extract 0 p) (by rw [ByteArray.size_extract]; omega)
    rw [hea] at hty
    refine Ev.bind hty ?_
    cases ht : typeR ((bl s).take p) with
    | false => rw [if_neg (by simp)]; exact hno
    | true =>
      rw [if_pos rfl]
      have ema : s.extract 0 p = mkB ((bl s).take p) := mk_ext hea
      have emb : s.extract (p + 1) s.size = mkB ((bl s).drop (p + 1)) := mk_ext hbs
      have hbl : ((bl s).drop (p + 1)).length ≤ s.size := by rw [List.length_drop]; omega
      refine Ev.step (fun k => by rw [R21Pair.j2]) ?_
      rw [succ_w (by omega), Int.toNat_natCast, emb]
      generalize (bl s).drop (p + 1) = b at *
      refine Ev.neg (by simp) (Ev.pos (by omega) (Ev.pos (by omega) ?_))
      have hj6 : ∀ (x : List UInt8) (cd : Bool), x.length ≤ 1000000 → Ev (fun k => R21Pair.j6 k s (p : Int) (mkB x) cd) (if cd = true then (mkB ((bl s).take p), (decR (mkB x)).1, (decR (mkB x)).2 == 0) else (mkB ((bl s).take p), mkB x, plainR x)) := by
        intro x cd hx
        refine Ev.step (fun k => by rw [R21Pair.j6]) ?_
        rw [Int.toNat_natCast, ema]
        cases cd with
        | true => exact Ev.pos rfl (Ev.bind (refDecode _ (by rw [mkB_size]; exact hx)) (Ev.pos (by omega) (Ev.pos (by omega) Ev.rfl')))
        | false => exact Ev.neg (by simp) (Ev.pos (by omega) (Ev.pos (by omega) (Ev.bind (rplain_ev _ (by rw [mkB_size]; exact hx)) Ev.rfl')))
      have hj3 : Ev (fun k => R21Pair.j3 k s (p : Int) (mkB b) (headIs 58 b)) (valueR ((bl s).take p) b) := by
        refine Ev.step (fun k => by rw [R21Pair.j3]) ?_
        unfold valueR
        cases hh : headIs 58 b with
        | true =>
          rw [if_pos rfl]
          have hb1 : 1 ≤ b.length := by
            cases b with
            | nil => cases hh
            | cons c r => simp
          refine Ev.pos rfl (Ev.pos (by rw [mkB_size]; omega) ?_)
          refine Ev.step (fun k => by rw [R21Pair.j4]) ?_
          refine trim_at s _ true _ _ rfl ?_
          rw [ext_from, show (bl (mkB b)).drop 1 = b.tail from List.drop_one]
          have := hj6 (b.tail.dropWhile (· == 32)) true (by
            have := dw_le (· == (32 : UInt8)) b.tail
            rw [List.length_tail] at this; omega)
          rw [if_pos rfl] at this
          exact this
        | false =>
          rw [if_neg (by simp)]
          refine Ev.neg (by simp) ?_
          refine Ev.step (fun k => by rw [R21Pair.j4]) ?_
          refine trim_at s _ false _ _ rfl ?_
          have := hj6 (b.dropWhile (· == 32)) false (by
            have := dw_le (· == (32 : UInt8)) b
            omega)
          rw [if_neg (by simp)] at this
          exact this
      cases hb : b with
      | nil => rw [hb] at hj3; exact Ev.neg (by rw [mkB_size]; simp) hj3
      | cons c r =>
        rw [hb] at hj3
        have hbt : bt (mkB (c :: r)) 0 = (c.toNat : Int) := (drop_at (s := mkB (c :: r)) (p := 0) (c := c) (r := r) rfl).2.1
        rw [hbt, show ((c.toNat : Int) == 58) = headIs 58 (c :: r) from (by
          show _ = (c == 58)
          by_cases h : c = 58
          · subst h; rfl
          · rw [show (c == 58) = false by simpa using h]
            refine beq_eq_false_iff_ne.2 fun h' => h ?_
            apply UInt8.toNat_inj.1
            have : (58 : UInt8).toNat = 58 := rfl
            omega)]
        exact Ev.pos (by rw [mkB_size]; simp) (Ev.pos (by rw [mkB_size]; simp) hj3)
end B64
end Go.Proofs.YtkklacijhmoopaaDoor.Print
namespace Go.Proofs.YtkklacijhmoopaaDoor.Print
open Go.RowKit Go.Proofs.YtkklacijhmoopaaDoorW.PrintWords Go.Proofs.YtkklacijhmoopaaDoorW.PrintLast Go.Proofs.YtkklacijhmoopaaDoorW.PrintMore
set_option linter.unusedVariables false
set_option linter.unusedSimpArgs false
namespace B64
def lastIs (z : UInt8) (l : List UInt8) : Bool := match l.getLast? with
  | some c => c == z
  | none => false
theorem ts_f (s : ByteArray) (hs : s.size ≤ 1000000) (z : UInt8) : strings_TrimSuffix.f s (⟨#[z]⟩ : ByteArray) = some (if lastIs z (bl s) = true then mkB (bl s).dropLast else s) := by
  unfold strings_TrimSuffix.f stringslite_TrimSuffix.f stringslite_HasSuffix.f
  have h1 : (⟨#[z]⟩ : ByteArray).size = 1 := rfl
  have hl := bl_length s
  have hz : (⟨#[z]⟩ : ByteArray).toList = [z] := by rw [Lib.toList_data]
  rw [h1, hz]
  rcases List.eq_nil_or_concat (bl s) with hb | ⟨ys, c, hb⟩
  · rw [hb] at hl ⊢
    simp at hl
    rw [if_neg (by omega)]; rfl
  · rw [hb] at hl
    rw [List.concat_eq_append] at hb hl
    simp only [List.length_append, List.length_cons, List.length_nil] at hl
    have hw : wrap64 ((s.size : Int) - ((1 : Nat) : Int)) = ((s.size - 1 : Nat) : Int) := by unfold wrap64; omega
    have e1 : (s.extract (s.size - 1) s.size).toList = [c] := by
      rw [Lib.toList_data]
      show bl (s.extract (s.size - 1) s.size) = _
      rw [ext_from, hb, List.drop_left' (by omega)]
    have e2 : s.extract 0 (s.size - 1) = mkB ys := by
      apply mk_ext
      rw [ext_to, hb, List.take_left' (by omega)]
    have e3 : lastIs z (bl s) = (c == z) := by unfold lastIs; rw [hb, List.getLast?_append]; rfl
    rw [hw, Int.toNat_natCast, e1, e2, e3, hb, List.dropLast_concat, if_pos (by omega), if_pos (by omega), if_pos (by omega)]
    simp only [Option.bind_some]
    cases h : (c == z) with
    | true =>
      have : ([c] == [z]) = true := by simpa using h
      rw [if_pos this, if_pos (by omega), if_pos (by omega)]; rfl
    | false =>
      have : ¬ ([c] == [z]) = true := by simpa using h
      rw [if_neg this]; rfl
def lineOf (l : List UInt8) : List UInt8 := if (cutR 10 l).2.2 = true then (if lastIs 13 (cutR 10 l).1 = true then (cutR 10 l).1.dropLast else (cutR 10 l).1) else (cutR 10 l).1
def restOf (l : List UInt8) : List UInt8 := (cutR 10 l).2.1
abbrev Rw := List UInt8 × Nat
def addLast (rows : List Rw) (x : List UInt8) : List Rw := match rows.getLast? with
  | none => rows
  | some y => rows.dropLast ++ [(y.1 ++ x, y.2)]
theorem addLast_snoc (ys : List Rw) (y : Rw) (x : List UInt8) : addLast (ys ++ [y]) x = ys ++ [(y.1 ++ x, y.2)] := by
  simp [addLast]
def linesR : Nat → List UInt8 → List Rw → Bool → Nat → List Rw × Option Nat
  | 0, _, rows, _, _ => (rows, none)
  | n + 1, l, rows, op, no => if l = [] then (rows, none) else
      if headIs 32 (lineOf l) = true then (if op = true then linesR n (restOf l) (addLast rows (lineOf l).tail) op (no + 1) else (rows, some (no + 1)))
      else linesR n (restOf l) (rows ++ [(lineOf l, no + 1)]) (!(lineOf l).isEmpty) (no + 1)
theorem line_len (l : List UInt8) (h : l ≠ []) : (lineOf l).length + (restOf l).length ≤ l.length ∧ (restOf l).length < l.length := by
  have h0 : 0 < l.length := List.length_pos_iff.2 h
  unfold lineOf restOf
  rcases cut_cases 10 l with ⟨h1, h2⟩ | ⟨a, b, h1, h2, h3⟩
  · rw [h2]; simp; omega
  · rw [h3, h1]
    simp only [List.length_append, List.length_cons]
    have : (if lastIs 13 a = true then a.dropLast else a).length ≤ a.length := by split <;> simp
    constructor
    · rw [if_pos trivial]; omega
    · omega
abbrev WholeS := S49
def mkW (r : Rw) : WholeS := ⟨mkB r.1, (r.2 : Int)⟩
def linesOut : List Rw × Option Nat → List WholeS × Int × Bool
  | (rows, none) => (rows.map mkW, 0, true)
  | (_, some no) => ([], (no : Int), false)
theorem rdW_last (ys : List Rw) (y : Rw) : rd_T49 ((ys ++ [y]).map mkW) ((ys.length : Nat) : Int) = mkW y := by
  unfold rd_T49
  rw [Int.toNat_natCast, List.map_append, List.getD_eq_getElem?_getD, List.getElem?_append_right (by simp)]
  simp
theorem lines_ev (S : Nat) (hS : S ≤ 1000000) : ∀ (n : Nat) (s : ByteArray) (rows : List Rw) (op : Bool) (no : Nat), s.size < n → s.size + no ≤ S → rows.length ≤ no → (op = true → rows ≠ []) → (∀ r ∈ rows, r.1.length + s.size ≤ S) →
    Ev (fun k => ldif_lines.l0 k s (rows.map mkW) op (no : Int)) (linesOut (linesR n (bl s) rows op no)) := by
  intro n
  induction n with
  | zero => intro s rows op no h; omega
  | succ n ih =>
    intro s rows op no hn hno hrl hop hsz
    have hl := bl_length s
    rw [linesR]
    refine Ev.step (fun k => by rw [ldif_lines.l0]) ?_
    by_cases hnil : bl s = []
    · rw [if_pos hnil]
      exact Ev.pos (by rw [Lib.toList_data]; exact hnil) Ev.rfl'
    · rw [if_neg hnil]
      obtain ⟨q1, q2⟩ := line_len (bl s) hnil
      refine Ev.neg (fun h => hnil (by rw [Lib.toList_data] at h; exact h)) ?_
      refine Ev.bindc (cut_f s (by omega) 10) ?_
      have hj : Ev (fun k => ldif_lines.j1 k (mkB (restOf (bl s))) (rows.map mkW) op ((no + 1 : Nat) : Int) (mkB (lineOf (bl s)))) (linesOut (if headIs 32 (lineOf (bl s)) = true then (if op = true then linesR n (restOf (bl s)) (addLast rows (lineOf (bl s)).tail) op (no + 1) else (rows, some (no + 1)))
          else linesR n (restOf (bl s)) (rows ++ [(lineOf (bl s), no + 1)]) (!(lineOf (bl s)).isEmpty) (no + 1))) := by
        generalize lineOf (bl s) = t at *
        generalize restOf (bl s) = r at *
        have hrs : (mkB r).size = r.length := mkB_size r
        have ihr := fun rows' op' => ih (mkB r) rows' op' (no + 1) (by rw [hrs]; omega) (by rw [hrs]; omega)
        rw [show bl (mkB r) = r from rfl, hrs] at ihr
        refine Ev.step (fun k => by rw [ldif_lines.j1]) ?_
        refine Ev.bindc (cp_f (mkB t) (by rw [mkB_size]; omega) 32) ?_
        rw [show bl (mkB t) = t from rfl]
        cases hh : headIs 32 t with
        | true =>
          rw [if_pos rfl, if_pos rfl]
          refine Ev.pos rfl ?_
          refine Ev.step (fun k => by rw [ldif_lines.j2]) ?_
          cases op with
          | false => exact Ev.pos rfl Ev.rfl'
          | true =>
            rw [if_pos rfl]
            refine Ev.neg (by simp) (Ev.pos rfl ?_)
            rcases List.eq_nil_or_concat rows with hb | ⟨ys, y, hb⟩
            · exact absurd hb (hop rfl)
            · rw [List.concat_eq_append] at hb
              subst hb
              have hlen : ((((ys ++ [y]).map mkW).length : Nat) : Int) = ((ys.length + 1 : Nat) : Int) := by simp
              have ht : t.tail.length ≤ t.length := by rw [List.length_tail]; omega
              have hy := hsz y (by simp)
              have hyl : ys.length + 1 ≤ no := by simpa using hrl
              have hi := ihr (addLast (ys ++ [y]) t.tail) true (by rw [addLast_snoc]; simp; omega) (fun _ => by rw [addLast_snoc]; simp) (by
                rw [addLast_snoc]
                intro x hx
                rcases List.mem_append.1 hx with hx | hx
                · have := hsz x (by simp [hx]); omega
                · simp only [List.mem_singleton] at hx
                  subst hx
                  simp only [List.length_append]; omega)
              rw [hlen, show wrap64 (((ys.length + 1 : Nat) : Int) - 1) = (ys.length : Int) by unfold wrap64; omega, rdW_last]
              have hset : ((ys ++ [y]).map mkW).set ys.length (⟨(mkW y).f0 ++ mkB t.tail, (mkW y).f1⟩ : WholeS) = (addLast (ys ++ [y]) t.tail).map mkW := by
                rw [addLast_snoc]
                simp only [List.map_append, List.map_cons, List.map_nil]
                rw [List.set_append_right _ _ (by simp)]
                simp only [List.length_map, Nat.sub_self, List.set_cons_zero]
                have eb : mkB y.1 ++ mkB t.tail = mkB (y.1 ++ t.tail) := by
                  apply ba_ext
                  show ((mkB y.1) ++ (mkB t.tail)).data.toList = _
                  rw [ByteArray.data_append]; simp
                show _ ++ [(⟨mkB y.1 ++ mkB t.tail, (y.2 : Int)⟩ : WholeS)] = _
                rw [eb]; rfl
              refine Ev.pos (by omega) (Ev.pos (by omega) (Ev.pos ?_ ?_))
              · have : (mkW y).f0.size = y.1.length := mkB_size _
                rw [this, mkB_size]; omega
              · rw [Int.toNat_natCast, hset]; exact hi
        | false =>
          rw [if_neg (by simp), if_neg (by simp)]
          refine Ev.neg (by simp) ?_
          refine Ev.step (fun k => by rw [ldif_lines.j2]) ?_
          refine Ev.neg (by simp) (Ev.neg (by simp) (Ev.pos (by rw [List.length_map]; omega) ?_))
          have hi := ihr (rows ++ [(t, no + 1)]) (!t.isEmpty) (by simp; omega) (fun _ => by simp) (by
            intro x hx
            rcases List.mem_append.1 hx with hx | hx
            · have := hsz x hx; omega
            · simp only [List.mem_singleton] at hx
              subst hx
              show t.length + r.length ≤ S
              omega)
          rw [List.map_append] at hi
          rw [show ((mkB t).toList != ([] : List UInt8)) = !t.isEmpty by
            rw [Lib.toList_data]
            cases t <;> simp]
          exact hi
      rw [show wrap64 ((no : Int) + 1) = ((no + 1 : Nat) : Int) by unfold wrap64; omega]
      have e : lineOf (bl s) = if (cutR 10 (bl s)).2.2 = true then (if lastIs 13 (cutR 10 (bl s)).1 = true then (cutR 10 (bl s)).1.dropLast else (cutR 10 (bl s)).1) else (cutR 10 (bl s)).1 := rfl
      have er : restOf (bl s) = (cutR 10 (bl s)).2.1 := rfl
      have hc1 : (cutR 10 (bl s)).1.length ≤ s.size := by rw [← hl]; exact tw_le _ _
      cases hc : (cutR 10 (bl s)).2.2 with
      | true =>
        rw [hc, if_pos rfl] at e
        refine Ev.pos rfl (Ev.bindc (ts_f _ (by rw [mkB_size]; omega) 13) ?_)
        rw [show bl (mkB (cutR 10 (bl s)).1) = (cutR 10 (bl s)).1 from rfl, ← er, show (if lastIs 13 (cutR 10 (bl s)).1 = true then mkB (cutR 10 (bl s)).1.dropLast else mkB (cutR 10 (bl s)).1) = mkB (lineOf (bl s)) by rw [e]; split <;> rfl]
        exact hj
      | false =>
        rw [hc, if_neg (by simp)] at e
        rw [← er, ← e]
        exact Ev.neg (by simp) hj
theorem lines_f (s : ByteArray) (hs : s.size ≤ 1000000) : Ev (fun k => ldif_lines.f k s) (linesOut (linesR (s.size + 1) (bl s) [] false 0)) := by
  unfold ldif_lines.f
  exact lines_ev s.size hs (s.size + 1) s [] false 0 (by omega) (by omega) (by simp) (by simp) (by simp)
end B64
end Go.Proofs.YtkklacijhmoopaaDoor.Print
namespace Go.Proofs.YtkklacijhmoopaaDoor.Print
open Go.RowKit Go.Proofs.YtkklacijhmoopaaDoorW.PrintWords Go.Proofs.YtkklacijhmoopaaDoorW.PrintLast Go.Proofs.YtkklacijhmoopaaDoorW.PrintMore
set_option linter.unusedVariables false
set_option linter.unusedSimpArgs false
namespace B64
theorem linesR_fuel : ∀ (n m : Nat) (l : List UInt8) (rows : List Rw) (op : Bool) (no : Nat), l.length < n → l.length < m → linesR n l rows op no = linesR m l rows op no
  | n + 1, m + 1, l, rows, op, no, hn, hm => by
    rw [linesR, linesR]
    by_cases h : l = []
    · rw [if_pos h, if_pos h]
    · rw [if_neg h, if_neg h]
      have h2 := (line_len l h).2
      rw [linesR_fuel n m _ _ _ _ (by omega) (by omega), linesR_fuel n m (restOf l) (rows ++ [(lineOf l, no + 1)]) _ _ (by omega) (by omega)]
def Pre : Nat → List UInt8 → List UInt8 → List UInt8 → Prop
  | 0, l, p, r => p = [] ∧ r = l
  | m + 1, l, p, r => ∃ a b p', l = a ++ 10 :: b ∧ (∀ c ∈ a, c ≠ 10) ∧ p = a ++ 10 :: p' ∧ Pre m b p' r
theorem pre_app : ∀ (m : Nat) (l p r : List UInt8), Pre m l p r → l = p ++ r
  | 0, l, p, r, h => by rw [h.1, h.2]; rfl
  | m + 1, l, p, r, h => by
    obtain ⟨a, b, p', rfl, _, rfl, h⟩ := h
    rw [pre_app m b p' r h]; simp
theorem cut_hit {a b : List UInt8} (h : ∀ c ∈ a, c ≠ 10) : cutR 10 (a ++ 10 :: b) = (a, b, true) := by
  have h1 : cutR 10 (a ++ 10 :: b) = Lib.cut (a ++ 10 :: b) [10] := (cut_is 10 _).symm
  rw [h1]
  unfold Lib.cut
  rw [idx_hit 10 a b h, if_pos (by omega), Int.toNat_natCast, List.take_left' rfl, show a ++ 10 :: b = (a ++ [10]) ++ b by simp, List.drop_left' (by simp)]
theorem fail_pre : ∀ (n : Nat) (l : List UInt8) (rows rows' : List Rw) (op : Bool) (no N : Nat), l.length < n → linesR n l rows op no = (rows', some N) → no + 1 ≤ N ∧ ∃ p r, Pre (N - 1 - no) l p r ∧ linesR n p rows op no = (rows', none) ∧ r ≠ []
  | n + 1, l, rows, rows', op, no, N, hn, h => by
    rw [linesR] at h
    by_cases hl : l = []
    · rw [if_pos hl] at h; cases h
    · rw [if_neg hl] at h
      have hlen := line_len l hl
      have hgo : ∀ (rows1 : List Rw) (op1 : Bool), linesR n (restOf l) rows1 op1 (no + 1) = (rows', some N) →
          no + 1 + 1 ≤ N ∧ ∃ a b p' r, l = a ++ 10 :: b ∧ (∀ c ∈ a, c ≠ 10) ∧ Pre (N - 1 - (no + 1)) b p' r ∧ linesR n p' rows1 op1 (no + 1) = (rows', none) ∧ r ≠ [] := by
        intro rows1 op1 h1
        rcases cut_cases 10 l with ⟨k1, k2⟩ | ⟨a, b, k1, k2, k3⟩
        · have : restOf l = [] := by unfold restOf; rw [k2]
          rw [this] at h1
          cases n with
          | zero => rw [linesR] at h1; cases h1
          | succ n => rw [linesR, if_pos rfl] at h1; cases h1
        · have hr : restOf l = b := by unfold restOf; rw [k3]
          rw [hr] at h1
          obtain ⟨i1, p', r, i2, i3, i4⟩ := fail_pre n b rows1 rows' op1 (no + 1) N (by rw [← hr]; omega) h1
          exact ⟨i1, a, b, p', r, k1, k2, i2, i3, i4⟩
      have hfin : ∀ (rows1 : List Rw) (op1 : Bool), (∀ l' : List UInt8, l' ≠ [] → lineOf l' = lineOf l → linesR (n + 1) l' rows op no = linesR n (restOf l') rows1 op1 (no + 1)) → linesR n (restOf l) rows1 op1 (no + 1) = (rows', some N) → no + 1 ≤ N ∧ ∃ p r, Pre (N - 1 - no) l p r ∧ linesR (n + 1) p rows op no = (rows', none) ∧ r ≠ [] := by
        intro rows1 op1 hstep h1
        obtain ⟨i1, a, b, p', r, k1, k2, i2, i3, i4⟩ := hgo rows1 op1 h1
        refine ⟨by omega, a ++ 10 :: p', r, ?_, ?_, i4⟩
        · rw [show N - 1 - no = (N - 1 - (no + 1)) + 1 by omega]
          exact ⟨a, b, p', k1, k2, rfl, i2⟩
        · have hline : lineOf (a ++ 10 :: p') = lineOf l := by unfold lineOf; rw [cut_hit k2, k1, cut_hit k2]
          have hrest : restOf (a ++ 10 :: p') = p' := by unfold restOf; rw [cut_hit k2]
          rw [hstep _ (by simp) hline, hrest]
          exact i3
      cases hh : headIs 32 (lineOf l) with
      | true =>
        rw [hh, if_pos rfl] at h
        cases op with
        | true =>
          rw [if_pos rfl] at h
          refine hfin _ _ (fun l' h1 h2 => ?_) h
          rw [linesR, if_neg h1, h2, hh, if_pos rfl, if_pos rfl]
        | false =>
          rw [if_neg (by simp)] at h
          injection h with h1 h2
          injection h2 with h2
          subst h1 h2
          refine ⟨by omega, [], l, ?_, ?_, hl⟩
          · rw [show no + 1 - 1 - no = 0 by omega]; exact ⟨rfl, rfl⟩
          · rw [linesR, if_pos rfl]
      | false =>
        rw [hh, if_neg (by simp)] at h
        refine hfin _ _ (fun l' h1 h2 => ?_) h
        rw [linesR, if_neg h1, h2, hh, if_neg (by simp)]
theorem idxB_hit : ∀ (a b : List UInt8), (∀ c ∈ a, c ≠ 10) → Lib.indexByte (a ++ 10 :: b) 10 = (a.length : Int)
  | [], b, _ => by simp [Lib.indexByte]
  | c :: a, b, h => by
    have ih := idxB_hit a b fun x hx => h x (by simp [hx])
    have hc := h c (by simp)
    rw [List.cons_append, Lib.indexByte, ih]
    rw [if_neg (by simpa using hc), if_neg (by simp)]
    simp
theorem at_sum (x y : Nat) (hx : x ≤ 10000000) (hy : y ≤ 10000000) : wrap64 ((x : Int) + (wrap64 ((y : Int) + 1))) = ((x + (y + 1) : Nat) : Int) := by unfold wrap64; omega
theorem first_loop (s : ByteArray) (hs : s.size ≤ 1000000) (M : Nat) (hM : M ≤ 1000000) {o : Int} : ∀ (m i at_ : Nat) (p r : List UInt8), M - i = m → i ≤ M → at_ ≤ s.size → Pre m ((bl s).drop at_) p r →
    Ev (fun k => (ldif_Parse0.f k (s.extract 0 (at_ + p.length))).bind fun bt => if bt.2.2 = 0 then some 0 else some bt.2.1) o → Ev (fun k => ldif_first.l0 k s (at_ : Int) (M : Int) (i : Int)) o := by
  have hl := bl_length s
  intro m
  induction m with
  | zero =>
    intro i at_ p r hm hi ha hp hnext
    obtain ⟨rfl, _⟩ := hp
    refine Ev.step (fun k => by rw [ldif_first.l0]) ?_
    refine Ev.neg (by omega) (Ev.pos (by omega) (Ev.pos (by omega) ?_))
    rw [Int.toNat_natCast]
    simpa using hnext
  | succ m ih =>
    intro i at_ p r hm hi ha hp hnext
    obtain ⟨a, b, p', h1, h2, rfl, h3⟩ := hp
    have hlen : ((bl s).drop at_).length = s.size - at_ := by rw [List.length_drop, hl]
    have hla : a.length + 1 + b.length = s.size - at_ := by rw [← hlen, h1]; simp; omega
    have hdrop : (bl s).drop (at_ + (a.length + 1)) = b := by
      rw [← List.drop_drop, h1, show a ++ 10 :: b = (a ++ [10]) ++ b by simp, List.drop_left' (by simp)]
    have hi2 := ih (i + 1) (at_ + (a.length + 1)) p' r (by omega) (by omega) (by omega) (by rw [hdrop]; exact h3) (by
      rw [show at_ + (a.length + 1) + p'.length = at_ + (a ++ 10 :: p').length by simp; omega]
      exact hnext)
    have hix : strings_IndexByte.f (s.extract (at_ : Int).toNat s.size) 10 = some (a.length : Int) := by
      unfold strings_IndexByte.f
      rw [Int.toNat_natCast, show (s.extract at_ s.size).data.toList = (bl s).drop at_ from ext_from s at_, h1]
      rw [show ((10 : Int).toNat.toUInt8) = (10 : UInt8) from rfl, idxB_hit a b h2]
    refine Ev.step (fun k => by rw [ldif_first.l0]) ?_
    rw [show wrap64 ((i : Int) + 1) = ((i + 1 : Nat) : Int) by unfold wrap64; omega]
    refine Ev.pos (by omega) (Ev.pos (by omega) (Ev.pos (by omega) (Ev.bindc hix ?_)))
    rw [at_sum at_ a.length (by omega) (by omega)]
    exact hi2
end B64
end Go.Proofs.YtkklacijhmoopaaDoor.Print
namespace Go.Proofs.YtkklacijhmoopaaDoor.Print
open Go.RowKit Go.Proofs.YtkklacijhmoopaaDoorW.PrintWords Go.Proofs.YtkklacijhmoopaaDoorW.PrintLast Go.Proofs.YtkklacijhmoopaaDoorW.PrintMore
set_option linter.unusedVariables false
set_option linter.unusedSimpArgs false
namespace B64
def isNameR : List UInt8 → Bool
  | [a, b] => (a == 100 || a == 68) && (b == 110 || b == 78)
  | _ => false
theorem byI (c : UInt8) (n : Nat) (h : n < 256) : ((c.toNat : Int) = (n : Int)) ↔ c = UInt8.ofNat n := by
  constructor
  · intro h'
    apply UInt8.toNat_inj.1
    rw [UInt8.toNat_ofNat']
    have : n % 2 ^ 8 = n := Nat.mod_eq_of_lt (by omega)
    omega
  · intro h'
    rw [h', UInt8.toNat_ofNat']
    have : n % 2 ^ 8 = n := Nat.mod_eq_of_lt (by omega)
    omega
theorem isName_f (s : ByteArray) : ldif_isName.f s = some (isNameR (bl s)) := by
  have hl := bl_length s
  unfold ldif_isName.f
  match hb : bl s with
  | [] => rw [hb] at hl; simp at hl; rw [if_neg (by omega)]; rfl
  | [a] => rw [hb] at hl; simp at hl; rw [if_neg (by omega)]; rfl
  | a :: b :: c :: r => rw [hb] at hl; simp at hl; rw [if_neg (by omega)]; rfl
  | [a, b] =>
    rw [hb] at hl
    simp at hl
    have h0 : bt s 0 = (a.toNat : Int) := (drop_at (s := s) (p := 0) (c := a) (r := [b]) (by rw [hb]; rfl)).2.1
    have h1 : bt s 1 = (b.toNat : Int) := (drop_at (s := s) (p := 1) (c := b) (r := []) (by rw [hb]; rfl)).2.1
    rw [if_pos (by omega), if_pos (by omega), h0, h1]
    have k1 : ((a.toNat : Int) = 100) ↔ a = 100 := byI a 100 (by omega)
    have k2 : ((a.toNat : Int) = 68) ↔ a = 68 := byI a 68 (by omega)
    have k3 : ((b.toNat : Int) = 110) ↔ b = 110 := byI b 110 (by omega)
    have k4 : ((b.toNat : Int) = 78) ↔ b = 78 := byI b 78 (by omega)
    have e : ∀ x : UInt8, ((b.toNat : Int) == 78) = (b == 78) := fun _ => by
      rw [Bool.eq_iff_iff]; simp only [beq_iff_eq]; exact k4
    rw [e 0]
    unfold isNameR
    by_cases a1 : a = 100
    · rw [if_pos (k1.2 a1), if_pos (by omega)]
      by_cases b1 : b = 110
      · rw [if_pos (k3.2 b1)]; simp [a1, b1]
      · rw [if_neg (fun h => b1 (k3.1 h))]; simp [a1, b1]
    · rw [if_neg (fun h => a1 (k1.1 h))]
      by_cases a2 : a = 68
      · rw [if_pos (k2.2 a2), if_pos (by omega)]
        by_cases b1 : b = 110
        · rw [if_pos (k3.2 b1)]; simp [a2, b1]
        · rw [if_neg (fun h => b1 (k3.1 h))]; simp [a2, b1]
      · rw [if_neg (fun h => a2 (k2.1 h))]; simp [a1, a2]
abbrev RecS := S43
abbrev PrS := S40
def addPair (recs : List RecS) (p : PrS) : List RecS := match recs.getLast? with
  | none => recs
  | some y => recs.dropLast ++ [⟨y.f0, y.f1 ++ [p]⟩]
theorem addPair_snoc (ys : List RecS) (y : RecS) (p : PrS) : addPair (ys ++ [y]) p = ys ++ [⟨y.f0, y.f1 ++ [p]⟩] := by simp [addPair]
def version : List UInt8 := [118, 101, 114, 115, 105, 111, 110, 58, 32, 49]
def parseR : Nat → List Rw → List RecS → Bool → Except Nat (List RecS)
  | _, [], recs, _ => .ok recs
  | i, x :: r, recs, op =>
    if (headIs 35 x.1 || (decide (i = 0) && decide (x.1 = version))) = true then parseR (i + 1) r recs op
    else if x.1 = [] then parseR (i + 1) r recs false
    else if (!(pairR x.1).2.2 || (isNameR (bl (pairR x.1).1) == op)) = true then .error x.2
    else if op = true then parseR (i + 1) r (addPair recs ⟨(pairR x.1).1, (pairR x.1).2.1⟩) op
    else parseR (i + 1) r (recs ++ [⟨(pairR x.1).2.1, []⟩]) true
def outR : Except Nat (List RecS) → List RecS × Int × Int
  | .ok recs => (recs, 0, 0)
  | .error n => ([], (n : Int), 4)
theorem rdW_at {rows : List Rw} {i : Nat} {x : Rw} {r : List Rw} (h : rows.drop i = x :: r) : rd_T49 (rows.map mkW) (i : Int) = mkW x := by
  have h0 : rows[i]? = some x := by
    have := congrArg List.head? h
    rw [List.head?_drop] at this; simpa using this
  unfold rd_T49
  rw [Int.toNat_natCast, List.getD_eq_getElem?_getD, List.getElem?_map, h0]; rfl
theorem rdRec_last (ys : List RecS) (y : RecS) : rd_T43 (ys ++ [y]) ((ys.length : Nat) : Int) = y := by
  unfold rd_T43
  rw [Int.toNat_natCast, List.getD_eq_getElem?_getD, List.getElem?_append_right (by simp)]
  simp
theorem recs_prog (rows : List Rw) (hrows : rows.length ≤ 1000000) (hsz : ∀ r ∈ rows, r.1.length ≤ 1000000) : ∀ (m i : Nat) (recs : List RecS) (op : Bool), rows.length - i = m → i ≤ rows.length → (op = true → recs ≠ []) → recs.length ≤ i → (∀ x ∈ recs, x.f1.length ≤ i) →
    Ev (fun k => ldif_Parse.l0 k recs op (rows.map mkW) (rows.length : Int) (i : Int)) (outR (parseR i (rows.drop i) recs op)) := by
  intro m
  induction m with
  | zero =>
    intro i recs op hm hi hop hrl hpl
    rw [List.drop_eq_nil_of_le (by omega), parseR]
    show Ev _ (recs, (0 : Int), (0 : Int))
    exact Ev.step (fun k => by rw [ldif_Parse.l0]) (Ev.neg (by omega) Ev.rfl')
  | succ m ih =>
    intro i recs op hm hi hop hrl hpl
    cases hr : rows.drop i with
    | nil => have := List.drop_eq_nil_iff.1 hr; omega
    | cons x r =>
      have hdr : rows.drop (i + 1) = r := by
        have := congrArg List.tail hr
        rw [List.tail_drop] at this; simpa using this
      have g2 := rdW_at hr
      have hxm : x ∈ rows := List.mem_of_mem_drop (show x ∈ rows.drop i by rw [hr]; simp)
      have hxs := hsz x hxm
      have ihn := fun recs' op' => ih (i + 1) recs' op' (by omega) (by omega)
      rw [hdr] at ihn
      have hxb : bl (mkB x.1) = x.1 := rfl
      have hw : wrap64 ((i : Int) + 1) = ((i + 1 : Nat) : Int) := by unfold wrap64; omega
      have hj : ∀ b : Bool, b = (headIs 35 x.1 || (decide (i = 0) && decide (x.1 = version))) → Ev (fun k => ldif_Parse.j1 k recs op (rows.map mkW) (rows.length : Int) (i : Int) b (mkB x.1) (x.2 : Int)) (outR (parseR i (x :: r) recs op)) := by
        intro b hb
        rw [parseR, ← hb]
        refine Ev.step (fun k => by rw [ldif_Parse.j1]) ?_
        rw [hw]
        cases b with
        | true =>
          rw [if_pos rfl]
          exact Ev.pos rfl (ihn recs op hop (by omega) (fun y hy => by have := hpl y hy; omega))
        | false =>
          rw [if_neg (by simp)]
          refine Ev.neg (by simp) ?_
          by_cases hx0 : x.1 = []
          · rw [if_pos hx0]
            exact Ev.pos (by rw [Lib.toList_data]; exact hx0) (ihn recs false (by simp) (by omega) (fun y hy => by have := hpl y hy; omega))
          · rw [if_neg hx0]
            refine Ev.neg (fun h => hx0 (by rw [Lib.toList_data] at h; exact h)) ?_
            have hp := pair_ev (mkB x.1) (by rw [mkB_size]; exact hxs)
            rw [hxb] at hp
            refine Ev.bind hp ?_
            generalize pairR x.1 = pr at *
            have hj2 : ∀ c : Bool, c = (!pr.2.2 || (isNameR (bl pr.1) == op)) → Ev (fun k => ldif_Parse.j2 k recs op (rows.map mkW) (rows.length : Int) (i : Int) c (mkB x.1) (x.2 : Int) pr.1 pr.2.1) (outR (if (!pr.2.2 || (isNameR (bl pr.1) == op)) = true then .error x.2
                else if op = true then parseR (i + 1) r (addPair recs ⟨pr.1, pr.2.1⟩) op else parseR (i + 1) r (recs ++ [⟨pr.2.1, []⟩]) true)) := by
              intro c hc
              rw [← hc]
              refine Ev.step (fun k => by rw [ldif_Parse.j2]) ?_
              rw [hw]
              cases c with
              | true => rw [if_pos rfl]; exact Ev.pos rfl Ev.rfl'
              | false =>
                rw [if_neg (by simp)]
                refine Ev.neg (by simp) ?_
                cases op with
                | false =>
                  rw [if_neg (by simp)]
                  refine Ev.neg (by simp) (Ev.pos (by omega) ?_)
                  refine ihn _ true (fun _ => by simp) (by simp; omega) ?_
                  intro y hy
                  rcases List.mem_append.1 hy with hy | hy
                  · have := hpl y hy; omega
                  · simp only [List.mem_singleton] at hy
                    subst hy; simp
                | true =>
                  rw [if_pos rfl]
                  refine Ev.pos rfl ?_
                  rcases List.eq_nil_or_concat recs with hb | ⟨ys, y, hb⟩
                  · exact absurd hb (hop rfl)
                  · rw [List.concat_eq_append] at hb
                    subst hb
                    have hlen : ((((ys ++ [y]).length : Nat)) : Int) = ((ys.length + 1 : Nat) : Int) := by simp
                    have hyl : ys.length + 1 ≤ i := by simpa using hrl
                    have hy := hpl y (by simp)
                    rw [hlen, show wrap64 (((ys.length + 1 : Nat) : Int) - 1) = (ys.length : Int) by unfold wrap64; omega, rdRec_last]
                    have hset : (ys ++ [y]).set ys.length (⟨y.f0, y.f1 ++ [(⟨pr.1, pr.2.1⟩ : PrS)]⟩ : RecS) = addPair (ys ++ [y]) ⟨pr.1, pr.2.1⟩ := by
                      rw [addPair_snoc, List.set_append_right _ _ (by simp)]
                      simp
                    refine Ev.pos (by omega) (Ev.pos (by omega) (Ev.pos (by omega) ?_))
                    rw [Int.toNat_natCast, hset]
                    refine ihn _ true (fun _ => by rw [addPair_snoc]; simp) (by rw [addPair_snoc]; simp; omega) ?_
                    rw [addPair_snoc]
                    intro z hz
                    rcases List.mem_append.1 hz with hz | hz
                    · have := hpl z (by simp [hz]); omega
                    · simp only [List.mem_singleton] at hz
                      subst hz
                      simp only [List.length_append, List.length_cons, List.length_nil]; omega
            cases hok : pr.2.2 with
            | true =>
              rw [hok] at hj2
              exact Ev.pos rfl (Ev.bindc (isName_f pr.1) (hj2 _ (by simp)))
            | false =>
              rw [hok] at hj2
              exact Ev.neg (by simp) (hj2 true (by simp))
      refine Ev.step (fun k => by rw [ldif_Parse.l0]) ?_
      rw [g2]
      refine Ev.pos (by omega) (Ev.pos (by omega) (Ev.pos (by rw [List.length_map]; omega) ?_))
      have hpf : strings_HasPrefix.f (mkW x).f0 (⟨#[35]⟩ : ByteArray) = some (headIs 35 x.1) := by
        unfold strings_HasPrefix.f
        rw [show (mkW x).f0 = mkB x.1 from rfl, hp_f _ (by rw [mkB_size]; exact hxs)]; rfl
      refine Ev.bindc hpf ?_
      cases hh : headIs 35 x.1 with
      | true => exact Ev.pos rfl (hj true (by rw [hh]; rfl))
      | false =>
        refine Ev.neg (by simp) ?_
        by_cases hi0 : i = 0
        · refine Ev.pos (by omega) ?_
          rw [show ((mkW x).f0.toList == ([118, 101, 114, 115, 105, 111, 110, 58, 32, 49] : List UInt8)) = decide (x.1 = version) by
            rw [Lib.toList_data, Bool.eq_iff_iff, beq_iff_eq, decide_eq_true_eq]; exact Iff.rfl]
          exact hj _ (by rw [hh, decide_eq_true hi0]; simp)
        · exact Ev.neg (by omega) (hj false (by rw [hh, decide_eq_false hi0]; rfl))
theorem recs_prog0 (rows : List Rw) (hrows : rows.length ≤ 1000000) (hsz : ∀ r ∈ rows, r.1.length ≤ 1000000) : ∀ (m i : Nat) (recs : List RecS) (op : Bool), rows.length - i = m → i ≤ rows.length → (op = true → recs ≠ []) → recs.length ≤ i → (∀ x ∈ recs, x.f1.length ≤ i) →
    Ev (fun k => ldif_Parse0.l0 k recs op (rows.map mkW) (rows.length : Int) (i : Int)) (outR (parseR i (rows.drop i) recs op)) := by
  intro m
  induction m with
  | zero =>
    intro i recs op hm hi hop hrl hpl
    rw [List.drop_eq_nil_of_le (by omega), parseR]
    show Ev _ (recs, (0 : Int), (0 : Int))
    exact Ev.step (fun k => by rw [ldif_Parse0.l0]) (Ev.neg (by omega) Ev.rfl')
  | succ m ih =>
    intro i recs op hm hi hop hrl hpl
    cases hr : rows.drop i with
    | nil => have := List.drop_eq_nil_iff.1 hr; omega
    | cons x r =>
      have hdr : rows.drop (i + 1) = r := by
        have := congrArg List.tail hr
        rw [List.tail_drop] at this; simpa using this
      have g2 := rdW_at hr
      have hxm : x ∈ rows := List.mem_of_mem_drop (show x ∈ rows.drop i by rw [hr]; simp)
      have hxs := hsz x hxm
      have ihn := fun recs' op' => ih (i + 1) recs' op' (by omega) (by omega)
      rw [hdr] at ihn
      have hxb : bl (mkB x.1) = x.1 := rfl
      have hw : wrap64 ((i : Int) + 1) = ((i + 1 : Nat) : Int) := by unfold wrap64; omega
      have hj : ∀ b : Bool, b = (headIs 35 x.1 || (decide (i = 0) && decide (x.1 = version))) → Ev (fun k => ldif_Parse0.j1 k recs op (rows.map mkW) (rows.length : Int) (i : Int) b (mkB x.1) (x.2 : Int)) (outR (parseR i (x :: r) recs op)) := by
        intro b hb
        rw [parseR, ← hb]
        refine Ev.step (fun k => by rw [ldif_Parse0.j1]) ?_
        rw [hw]
        cases b with
        | true =>
          rw [if_pos rfl]
          exact Ev.pos rfl (ihn recs op hop (by omega) (fun y hy => by have := hpl y hy; omega))
        | false =>
          rw [if_neg (by simp)]
          refine Ev.neg (by simp) ?_
          by_cases hx0 : x.1 = []
          · rw [if_pos hx0]
            exact Ev.pos (by rw [Lib.toList_data]; exact hx0) (ihn recs false (by simp) (by omega) (fun y hy => by have := hpl y hy; omega))
          · rw [if_neg hx0]
            refine Ev.neg (fun h => hx0 (by rw [Lib.toList_data] at h; exact h)) ?_
            have hp := pair_ev (mkB x.1) (by rw [mkB_size]; exact hxs)
            rw [hxb] at hp
            refine Ev.bind hp ?_
            generalize pairR x.1 = pr at *
            have hj2 : ∀ c : Bool, c = (!pr.2.2 || (isNameR (bl pr.1) == op)) → Ev (fun k => ldif_Parse0.j2 k recs op (rows.map mkW) (rows.length : Int) (i : Int) c (mkB x.1) (x.2 : Int) pr.1 pr.2.1) (outR (if (!pr.2.2 || (isNameR (bl pr.1) == op)) = true then .error x.2
                else if op = true then parseR (i + 1) r (addPair recs ⟨pr.1, pr.2.1⟩) op else parseR (i + 1) r (recs ++ [⟨pr.2.1, []⟩]) true)) := by
              intro c hc
              rw [← hc]
              refine Ev.step (fun k => by rw [ldif_Parse0.j2]) ?_
              rw [hw]
              cases c with
              | true => rw [if_pos rfl]; exact Ev.pos rfl Ev.rfl'
              | false =>
                rw [if_neg (by simp)]
                refine Ev.neg (by simp) ?_
                cases op with
                | false =>
                  rw [if_neg (by simp)]
                  refine Ev.neg (by simp) (Ev.pos (by omega) ?_)
                  refine ihn _ true (fun _ => by simp) (by simp; omega) ?_
                  intro y hy
                  rcases List.mem_append.1 hy with hy | hy
                  · have := hpl y hy; omega
                  · simp only [List.mem_singleton] at hy
                    subst hy; simp
                | true =>
                  rw [if_pos rfl]
                  refine Ev.pos rfl ?_
                  rcases List.eq_nil_or_concat recs with hb | ⟨ys, y, hb⟩
                  · exact absurd hb (hop rfl)
                  · rw [List.concat_eq_append] at hb
                    subst hb
                    have hlen : ((((ys ++ [y]).length : Nat)) : Int) = ((ys.length + 1 : Nat) : Int) := by simp
                    have hyl : ys.length + 1 ≤ i := by simpa using hrl
                    have hy := hpl y (by simp)
                    rw [hlen, show wrap64 (((ys.length + 1 : Nat) : Int) - 1) = (ys.length : Int) by unfold wrap64; omega, rdRec_last]
                    have hset : (ys ++ [y]).set ys.length (⟨y.f0, y.f1 ++ [(⟨pr.1, pr.2.1⟩ : PrS)]⟩ : RecS) = addPair (ys ++ [y]) ⟨pr.1, pr.2.1⟩ := by
                      rw [addPair_snoc, List.set_append_right _ _ (by simp)]
                      simp
                    refine Ev.pos (by omega) (Ev.pos (by omega) (Ev.pos (by omega) ?_))
                    rw [Int.toNat_natCast, hset]
                    refine ihn _ true (fun _ => by rw [addPair_snoc]; simp) (by rw [addPair_snoc]; simp; omega) ?_
                    rw [addPair_snoc]
                    intro z hz
                    rcases List.mem_append.1 hz with hz | hz
                    · have := hpl z (by simp [hz]); omega
                    · simp only [List.mem_singleton] at hz
                      subst hz
                      simp only [List.length_append, List.length_cons, List.length_nil]; omega
            cases hok : pr.2.2 with
            | true =>
              rw [hok] at hj2
              exact Ev.pos rfl (Ev.bindc (isName_f pr.1) (hj2 _ (by simp)))
            | false =>
              rw [hok] at hj2
              exact Ev.neg (by simp) (hj2 true (by simp))
      refine Ev.step (fun k => by rw [ldif_Parse0.l0]) ?_
      rw [g2]
      refine Ev.pos (by omega) (Ev.pos (by omega) (Ev.pos (by rw [List.length_map]; omega) ?_))
      have hpf : strings_HasPrefix.f (mkW x).f0 (⟨#[35]⟩ : ByteArray) = some (headIs 35 x.1) := by
        unfold strings_HasPrefix.f
        rw [show (mkW x).f0 = mkB x.1 from rfl, hp_f _ (by rw [mkB_size]; exact hxs)]; rfl
      refine Ev.bindc hpf ?_
      cases hh : headIs 35 x.1 with
      | true => exact Ev.pos rfl (hj true (by rw [hh]; rfl))
      | false =>
        refine Ev.neg (by simp) ?_
        by_cases hi0 : i = 0
        · refine Ev.pos (by omega) ?_
          rw [show ((mkW x).f0.toList == ([118, 101, 114, 115, 105, 111, 110, 58, 32, 49] : List UInt8)) = decide (x.1 = version) by
            rw [Lib.toList_data, Bool.eq_iff_iff, beq_iff_eq, decide_eq_true_eq]; exact Iff.rfl]
          exact hj _ (by rw [hh, decide_eq_true hi0]; simp)
        · exact Ev.neg (by omega) (hj false (by rw [hh, decide_eq_false hi0]; rfl))
end B64
end Go.Proofs.YtkklacijhmoopaaDoor.Print
namespace Go.Proofs.YtkklacijhmoopaaDoor.Print
open Go.RowKit Go.Proofs.YtkklacijhmoopaaDoorW.PrintWords Go.Proofs.YtkklacijhmoopaaDoorW.PrintLast Go.Proofs.YtkklacijhmoopaaDoorW.PrintMore
set_option linter.unusedVariables false
set_option linter.unusedSimpArgs false
namespace B64
def smallB (c : UInt8) : UInt8 := if 65 ≤ c.toNat ∧ c.toNat ≤ 90 then c + 32 else c
theorem small_all : ∀ n : Nat, n < 256 → ((smallB (UInt8.ofNat n)).toNat = (if 65 ≤ n ∧ n ≤ 90 then (n + 32) % 256 else n)) ∧ (smallB (UInt8.ofNat n) == 100) = (UInt8.ofNat n == 100 || UInt8.ofNat n == 68) ∧ (smallB (UInt8.ofNat n) == 110) = (UInt8.ofNat n == 110 || UInt8.ofNat n == 78) := by decide +kernel
theorem small_at (c : UInt8) : ((smallB c).toNat = (if 65 ≤ c.toNat ∧ c.toNat ≤ 90 then (c.toNat + 32) % 256 else c.toNat)) ∧ (smallB c == 100) = (c == 100 || c == 68) ∧ (smallB c == 110) = (c == 110 || c == 78) := by
  have := small_all c.toNat c.toNat_lt
  rwa [UInt8.ofNat_toNat] at this
theorem small_loop (s : ByteArray) (hs : s.size ≤ 1000000) : ∀ (m i : Nat), s.size - i = m → i ≤ s.size → Ev (fun k => rollbookref16_Small.l0 k s (ints (((bl s).take i).map smallB)) (i : Int)) (mkB ((bl s).map smallB)) := by
  have hl := bl_length s
  intro m
  induction m with
  | zero =>
    intro i hm hi
    rw [List.take_of_length_le (by omega)]
    refine Ev.step (fun k => by rw [rollbookref16_Small.l0]) ?_
    rw [strOf]
    exact Ev.neg (by omega) Ev.rfl'
  | succ m ih =>
    intro i hm hi
    cases hr : (bl s).drop i with
    | nil => have := nil_at hr; omega
    | cons c r =>
      obtain ⟨g1, g2, g3⟩ := drop_at hr
      have hi2 := ih (i + 1) (by omega) (by omega)
      have htk : (bl s).take (i + 1) = (bl s).take i ++ [c] := by
        have h1 : i < (bl s).length := by omega
        rw [List.drop_eq_getElem_cons h1] at hr
        injection hr with h2 _
        rw [List.take_succ_eq_append_getElem h1, h2]
      rw [htk, List.map_append, ← ints_app] at hi2
      have hsm := (small_at c).1
      have hlen : (ints (((bl s).take i).map smallB)).length ≤ 1000000 := by rw [ints_length, List.length_map, List.length_take]; omega
      have hc := c.toNat_lt
      refine Ev.step (fun k => by rw [rollbookref16_Small.l0]) ?_
      rw [g2, succ_w (by omega)]
      have e : ints ([c].map smallB) = [((smallB c).toNat : Int)] := rfl
      rw [e, hsm] at hi2
      refine Ev.pos (by omega) (Ev.pos (by omega) ?_)
      by_cases h1 : 65 ≤ c.toNat
      · refine Ev.pos (by omega) ?_
        by_cases h2 : c.toNat ≤ 90
        · rw [if_pos ⟨h1, h2⟩] at hi2
          exact Ev.pos (by omega) (Ev.pos (by omega) hi2)
        · rw [if_neg (by omega)] at hi2
          exact Ev.neg (by omega) (Ev.pos (by omega) hi2)
      · rw [if_neg (by omega)] at hi2
        exact Ev.neg (by omega) (Ev.pos (by omega) hi2)
theorem name_ev (s : ByteArray) (hs : s.size ≤ 1000000) : Ev (fun k => R21Name.f k s) (isNameR (bl s)) := by
  unfold R21Name.f rollbookref16_Small.f
  have := small_loop s hs _ 0 rfl (Nat.zero_le _)
  rw [List.take_zero] at this
  refine Ev.bind this ?_
  have e : ((mkB ((bl s).map smallB)).toList == ([100, 110] : List UInt8)) = isNameR (bl s) := by
    rw [Lib.toList_data]
    show ((bl s).map smallB == [100, 110]) = _
    match bl s with
    | [] => rfl
    | [a] => simp [isNameR]
    | a :: b :: c :: r => simp [isNameR]
    | [a, b] =>
      have h1 := (small_at a).2.1
      have h2 := (small_at b).2.2
      show ([smallB a, smallB b] == [100, 110]) = _
      rw [show ([smallB a, smallB b] == ([100, 110] : List UInt8)) = ((smallB a == 100) && (smallB b == 110)) by
        show ((smallB a == 100) && ((smallB b == 110) && ([] == ([] : List UInt8)))) = _
        simp, h1, h2]; rfl
  rw [e]; exact Ev.rfl'
abbrev RowS := S56
def mkL (r : Rw) : RowS := ⟨mkB r.1, (r.2 : Int), false⟩
def outT (tail : List RowS) : Except Nat (List RecS) → List RecS × Int × Int
  | .error n => ([], (n : Int), 4)
  | .ok recs => match tail with
    | [] => (recs, 0, 0)
    | t :: _ => ([], t.f1, 4)
theorem rdL_at {X : List RowS} {i : Nat} {x : RowS} {r : List RowS} (h : X.drop i = x :: r) : rd_T56 X (i : Int) = x := by
  have h0 : X[i]? = some x := by
    have := congrArg List.head? h
    rw [List.head?_drop] at this; simpa using this
  unfold rd_T56
  rw [Int.toNat_natCast, List.getD_eq_getElem?_getD, h0]; rfl
theorem recs_ref (rows : List Rw) (tail : List RowS) (hrows : rows.length ≤ 1000000) (ht : tail = [] ∨ ∃ t junk, tail = t :: junk ∧ t.f2 = true) (hsz : ∀ r ∈ rows, r.1.length ≤ 1000000) : ∀ (m i : Nat) (recs : List RecS) (op : Bool), rows.length - i = m → i ≤ rows.length → (op = true → recs ≠ []) → recs.length ≤ i → (∀ x ∈ recs, x.f1.length ≤ i) →
    Ev (fun k => R21Parse.l0 k (rows.map mkL ++ tail) recs op (i : Int)) (outT tail (parseR i (rows.drop i) recs op)) := by
  have hXl : (rows.map mkL ++ tail).length = rows.length + tail.length := by simp
  intro m
  induction m with
  | zero =>
    intro i recs op hm hi hop hrl hpl
    obtain rfl : i = rows.length := by omega
    rw [List.drop_eq_nil_of_le (by omega), parseR]
    refine Ev.step (fun k => by rw [R21Parse.l0]) ?_
    rcases ht with rfl | ⟨t, junk, rfl, ht⟩
    · refine Ev.neg (by rw [hXl]; simp) ?_
      exact Ev.rfl'
    · have hd : (rows.map mkL ++ t :: junk).drop rows.length = t :: junk := List.drop_left' (by simp)
      rw [rdL_at hd]
      refine Ev.pos (by rw [hXl]; simp; omega) (Ev.pos (by omega) (Ev.pos ht ?_))
      exact Ev.rfl'
  | succ m ih =>
    intro i recs op hm hi hop hrl hpl
    cases hr : rows.drop i with
    | nil => have := List.drop_eq_nil_iff.1 hr; omega
    | cons x r =>
      have hdr : rows.drop (i + 1) = r := by
        have := congrArg List.tail hr
        rw [List.tail_drop] at this; simpa using this
      have hXd : (rows.map mkL ++ tail).drop i = mkL x :: (r.map mkL ++ tail) := by
        rw [List.drop_append_of_le_length (by simp; omega), ← List.map_drop, hr]; rfl
      have g2 := rdL_at hXd
      have hxm : x ∈ rows := List.mem_of_mem_drop (show x ∈ rows.drop i by rw [hr]; simp)
      have hxs := hsz x hxm
      have ihn := fun recs' op' => ih (i + 1) recs' op' (by omega) (by omega)
      rw [hdr] at ihn
      have hxb : bl (mkB x.1) = x.1 := rfl
      generalize hX : rows.map mkL ++ tail = X at *
      have hw : wrap64 ((i : Int) + 1) = ((i + 1 : Nat) : Int) := by unfold wrap64; omega
      have hj : ∀ b : Bool, b = (headIs 35 x.1 || (decide (i = 0) && decide (x.1 = version))) → Ev (fun k => R21Parse.j1 k X recs op (i : Int) b (mkB x.1) (x.2 : Int) false) (outT tail (parseR i (x :: r) recs op)) := by
        intro b hb
        rw [parseR, ← hb]
        refine Ev.step (fun k => by rw [R21Parse.j1]) ?_
        rw [hw]
        cases b with
        | true =>
          rw [if_pos rfl]
          exact Ev.pos rfl (ihn recs op hop (by omega) (fun y hy => by have := hpl y hy; omega))
        | false =>
          rw [if_neg (by simp)]
          refine Ev.neg (by simp) ?_
          by_cases hx0 : x.1 = []
          · rw [if_pos hx0]
            exact Ev.pos (by rw [Lib.toList_data]; exact hx0) (ihn recs false (by simp) (by omega) (fun y hy => by have := hpl y hy; omega))
          · rw [if_neg hx0]
            refine Ev.neg (fun h => hx0 (by rw [Lib.toList_data] at h; exact h)) ?_
            have hp := rpair_ev (mkB x.1) (by rw [mkB_size]; exact hxs)
            rw [hxb] at hp
            refine Ev.bind hp ?_
            have hps : (pairR x.1).2.2 = true → (pairR x.1).1.size ≤ 1000000 := by
              intro hok
              unfold pairR at hok ⊢
              split
              · split
                · have h1 : (cutR 58 x.1).1.length ≤ x.1.length := tw_le _ _
                  unfold valueR
                  split <;> (rw [mkB_size]; omega)
                · exact Nat.zero_le _
              · exact Nat.zero_le _
            generalize pairR x.1 = pr at *
            have hj2 : ∀ c : Bool, c = (!pr.2.2 || (isNameR (bl pr.1) == op)) → Ev (fun k => R21Parse.j2 k X recs op (i : Int) c (mkB x.1) (x.2 : Int) false pr.1 pr.2.1) (outT tail (if (!pr.2.2 || (isNameR (bl pr.1) == op)) = true then .error x.2
                else if op = true then parseR (i + 1) r (addPair recs ⟨pr.1, pr.2.1⟩) op else parseR (i + 1) r (recs ++ [⟨pr.2.1, []⟩]) true)) := by
              intro c hc
              rw [← hc]
              refine Ev.step (fun k => by rw [R21Parse.j2]) ?_
              rw [hw]
              cases c with
              | true => rw [if_pos rfl]; exact Ev.pos rfl Ev.rfl'
              | false =>
                rw [if_neg (by simp)]
                refine Ev.neg (by simp) ?_
                cases op with
                | false =>
                  rw [if_neg (by simp)]
                  refine Ev.neg (by simp) (Ev.pos (by omega) ?_)
                  refine ihn _ true (fun _ => by simp) (by simp; omega) ?_
                  intro y hy
                  rcases List.mem_append.1 hy with hy | hy
                  · have := hpl y hy; omega
                  · simp only [List.mem_singleton] at hy
                    subst hy; simp
                | true =>
                  rw [if_pos rfl]
                  refine Ev.pos rfl ?_
                  rcases List.eq_nil_or_concat recs with hb | ⟨ys, y, hb⟩
                  · exact absurd hb (hop rfl)
                  · rw [List.concat_eq_append] at hb
                    subst hb
                    have hlen : ((((ys ++ [y]).length : Nat)) : Int) = ((ys.length + 1 : Nat) : Int) := by simp
                    have hyl : ys.length + 1 ≤ i := by simpa using hrl
                    have hy := hpl y (by simp)
                    rw [hlen, show wrap64 (((ys.length + 1 : Nat) : Int) - 1) = (ys.length : Int) by unfold wrap64; omega, rdRec_last]
                    have hset : (ys ++ [y]).set ys.length (⟨y.f0, y.f1 ++ [(⟨pr.1, pr.2.1⟩ : PrS)]⟩ : RecS) = addPair (ys ++ [y]) ⟨pr.1, pr.2.1⟩ := by
                      rw [addPair_snoc, List.set_append_right _ _ (by simp)]
                      simp
                    refine Ev.pos (by omega) (Ev.pos (by omega) (Ev.pos (by omega) ?_))
                    rw [Int.toNat_natCast, hset]
                    refine ihn _ true (fun _ => by rw [addPair_snoc]; simp) (by rw [addPair_snoc]; simp; omega) ?_
                    rw [addPair_snoc]
                    intro z hz
                    rcases List.mem_append.1 hz with hz | hz
                    · have := hpl z (by simp [hz]); omega
                    · simp only [List.mem_singleton] at hz
                      subst hz
                      simp only [List.length_append, List.length_cons, List.length_nil]; omega
            cases hok : pr.2.2 with
            | true =>
              have hn := name_ev pr.1 (hps hok)
              rw [hok] at hj2
              refine Ev.pos rfl (Ev.bind hn ?_)
              cases hnm : isNameR (bl pr.1) with
              | true =>
                rw [hnm] at hn hj2
                refine Ev.pos rfl ?_
                cases op with
                | true => exact Ev.pos rfl (hj2 true rfl)
                | false => exact Ev.neg (by simp) (Ev.bind hn (Ev.pos rfl (hj2 false rfl)))
              | false =>
                rw [hnm] at hn hj2
                refine Ev.neg (by simp) (Ev.bind hn (Ev.neg (by simp) (hj2 _ ?_)))
                cases op <;> rfl
            | false =>
              rw [hok] at hj2
              exact Ev.neg (by simp) (hj2 true (by simp))
      refine Ev.step (fun k => by rw [R21Parse.l0]) ?_
      rw [g2]
      have hsize : (mkL x).f0.size = x.1.length := mkB_size _
      refine Ev.pos (by omega) (Ev.pos (by omega) (Ev.neg (by simp [mkL]) ?_))
      have h35 : ∀ {p : Prop}, (headIs 35 x.1 || (decide (i = 0) && decide (x.1 = version))) = headIs 35 x.1 → Ev (fun k => if ((mkL x).f0.size : Int) > 0 then (if 0 < ((mkL x).f0.size : Int) then R21Parse.j1 k X recs op (i : Int) ((bt (mkL x).f0 0) == 35) (mkL x).f0 (mkL x).f1 (mkL x).f2 else none) else R21Parse.j1 k X recs op (i : Int) false (mkL x).f0 (mkL x).f1 (mkL x).f2) (outT tail (parseR i (x :: r) recs op)) := by
        intro p he
        cases hx : x.1 with
        | nil =>
          refine Ev.neg (by rw [hsize, hx]; simp) (hj false ?_)
          rw [he, hx]; rfl
        | cons c q =>
          have hbt : bt (mkL x).f0 0 = (c.toNat : Int) := (drop_at (s := mkB x.1) (p := 0) (c := c) (r := q) (by show x.1.drop 0 = _; rw [hx]; rfl)).2.1
          refine Ev.pos (by rw [hsize, hx]; simp) (Ev.pos (by rw [hsize, hx]; simp) ?_)
          rw [hbt]
          refine hj _ ?_
          rw [he, hx]
          show _ = (c == 35)
          rw [Bool.eq_iff_iff, beq_iff_eq, beq_iff_eq]
          exact byI c 35 (by omega)
      by_cases hi0 : i = 0
      · refine Ev.pos (by omega) ?_
        by_cases hv : x.1 = version
        · refine Ev.pos (by rw [Lib.toList_data]; exact hv) (hj true ?_)
          rw [decide_eq_true hi0, decide_eq_true hv]; simp
        · refine Ev.neg (fun h => hv (by rw [Lib.toList_data] at h; exact h)) ?_
          exact h35 (p := True) (by rw [decide_eq_false hv]; simp)
      · exact Ev.neg (by omega) (h35 (p := True) (by rw [decide_eq_false hi0]; simp))
end B64
end Go.Proofs.YtkklacijhmoopaaDoor.Print
namespace Go.Proofs.YtkklacijhmoopaaDoor.Print
open Go.RowKit Go.Proofs.YtkklacijhmoopaaDoorW.PrintWords Go.Proofs.YtkklacijhmoopaaDoorW.PrintLast Go.Proofs.YtkklacijhmoopaaDoorW.PrintMore
set_option linter.unusedVariables false
set_option linter.unusedSimpArgs false
namespace B64
theorem rscan (s : ByteArray) (hs : s.size ≤ 1000000) (X : List RowS) (no : Int) (at_ : Nat) (hat : at_ ≤ s.size) (a : List UInt8) (ha : a = ((bl s).drop at_).takeWhile (· != 10)) {o : List RowS} (hnext : Ev (fun k => R21Rows.j2 k s X no (at_ : Int) ((at_ + a.length : Nat) : Int)) o) :
    ∀ (m i : Nat), a.length - i = m → i ≤ a.length → Ev (fun k => R21Rows.l1 k s X no (at_ : Int) ((at_ + i : Nat) : Int)) o := by
  have hl := bl_length s
  have hsplit : (bl s).drop at_ = a ++ ((bl s).drop at_).dropWhile (· != 10) := by rw [ha]; exact (List.takeWhile_append_dropWhile).symm
  have hlen : ((bl s).drop at_).length = s.size - at_ := by rw [List.length_drop, hl]
  have hale : a.length ≤ s.size - at_ := by rw [← hlen, ha]; exact tw_le _ _
  intro m
  induction m with
  | zero =>
    intro i hm hi
    obtain rfl : i = a.length := by omega
    have hdrop : (bl s).drop (at_ + a.length) = ((bl s).drop at_).dropWhile (· != 10) := by
      rw [← List.drop_drop]
      conv => lhs; rw [hsplit]
      exact List.drop_left' rfl
    refine Ev.step (fun k => by rw [R21Rows.l1]) ?_
    by_cases h : at_ + a.length < s.size
    · cases hr : (bl s).drop (at_ + a.length) with
      | nil => have := nil_at hr; omega
      | cons c r =>
        obtain ⟨g1, g2, g3⟩ := drop_at hr
        have hc : c = 10 := by
          rw [hdrop] at hr
          have hh := dw_hd hr
          simpa using hh
        rw [g2]
        subst hc
        exact Ev.pos (by omega) (Ev.pos (by omega) (Ev.pos rfl hnext))
    · exact Ev.neg (by omega) hnext
  | succ m ih =>
    intro i hm hi
    have hi2 := ih (i + 1) (by omega) (by omega)
    have hlt : i < a.length := by omega
    have hr : (bl s).drop (at_ + i) = a[i] :: (a.drop (i + 1) ++ ((bl s).drop at_).dropWhile (· != 10)) := by
      rw [← List.drop_drop]
      conv => lhs; rw [hsplit]
      rw [List.drop_append_of_le_length (by omega), List.drop_eq_getElem_cons hlt]; rfl
    have hc : a[i] ≠ 10 := by
      have hm2 : a[i] ∈ ((bl s).drop at_).takeWhile (· != 10) := by rw [← ha]; exact List.getElem_mem _
      have := List.all_eq_true.1 (List.all_takeWhile (p := (· != (10 : UInt8))) (l := (bl s).drop at_)) _ hm2
      simpa using this
    generalize a[i] = c at *
    obtain ⟨g1, g2, g3⟩ := drop_at hr
    refine Ev.step (fun k => by rw [R21Rows.l1]) ?_
    rw [g2, succ_w (by omega)]
    refine Ev.pos (by omega) (Ev.pos (by omega) (Ev.neg (fun h => hc ((byI c 10 (by omega)).1 h)) hi2))
theorem rline (s : ByteArray) (hs : s.size ≤ 1000000) (X : List RowS) (no at_ : Nat) (hno : no ≤ 10000000) (hat : at_ < s.size) {o : List RowS}
    (hnext : Ev (fun k => R21Rows.j5 k s X ((no + 1 : Nat) : Int) ((at_ + (cutR 10 ((bl s).drop at_)).1.length + 1 : Nat) : Int) (mkB (lineOf ((bl s).drop at_))) (!headIs 32 (lineOf ((bl s).drop at_)))) o) :
    Ev (fun k => R21Rows.l0 k s X (no : Int) (at_ : Int)) o := by
  have hl := bl_length s
  have hlen : ((bl s).drop at_).length = s.size - at_ := by rw [List.length_drop, hl]
  obtain ⟨a, ha⟩ : ∃ a, a = (cutR 10 ((bl s).drop at_)).1 := ⟨_, rfl⟩
  have ha' : a = ((bl s).drop at_).takeWhile (· != 10) := ha
  have hale : a.length ≤ s.size - at_ := by rw [← hlen, ha']; exact tw_le _ _
  have hex : s.extract at_ (at_ + a.length) = mkB a := by
    apply mk_ext
    rw [ext_take, Nat.add_sub_cancel_left]
    have hsplit : (bl s).drop at_ = a ++ ((bl s).drop at_).dropWhile (· != 10) := by rw [ha']; exact (List.takeWhile_append_dropWhile).symm
    rw [hsplit]
    exact List.take_left' rfl
  have hnl : (cutR 10 ((bl s).drop at_)).2.2 = decide (at_ + a.length < s.size) := by
    rcases cut_cases 10 ((bl s).drop at_) with ⟨h1, h2⟩ | ⟨x, b, h1, h2, h3⟩
    · rw [h2] at ha ⊢
      have : a.length = s.size - at_ := by rw [ha, hlen]
      rw [decide_eq_false (by omega)]
    · rw [h3] at ha ⊢
      have : ((bl s).drop at_).length = a.length + 1 + b.length := by rw [h1, ha]; simp <;> omega
      rw [decide_eq_true (by omega)]
  have hlo : lineOf ((bl s).drop at_) = if at_ + a.length < s.size then (if lastIs 13 a = true then a.dropLast else a) else a := by
    unfold lineOf
    rw [hnl, ← ha]
    by_cases h : at_ + a.length < s.size
    · rw [decide_eq_true h, if_pos rfl, if_pos h]
    · rw [decide_eq_false h, if_neg (by simp), if_neg h]
  rw [← ha] at hnext
  generalize lineOf ((bl s).drop at_) = t at *
  have htl : t.length ≤ a.length := by
    rw [hlo]; split
    · split <;> simp
    · exact Nat.le_refl _
  refine Ev.step (fun k => by rw [R21Rows.l0]) ?_
  refine Ev.pos (by omega) ?_
  refine rscan s hs X no at_ (by omega) a ha' ?_ _ 0 rfl (Nat.zero_le _)
  have hj4 : Ev (fun k => R21Rows.j4 k s X (no : Int) ((at_ + a.length : Nat) : Int) (mkB t)) o := by
    refine Ev.step (fun k => by rw [R21Rows.j4]) ?_
    rw [show wrap64 ((no : Int) + 1) = ((no + 1 : Nat) : Int) by unfold wrap64; omega, show wrap64 (((at_ + a.length : Nat) : Int) + 1) = ((at_ + a.length + 1 : Nat) : Int) by unfold wrap64; omega]
    cases t with
    | nil => exact Ev.pos rfl hnext
    | cons c r =>
      have hbt : bt (mkB (c :: r)) 0 = (c.toNat : Int) := (drop_at (s := mkB (c :: r)) (p := 0) (c := c) (r := r) rfl).2.1
      refine Ev.neg (by rw [mkB_size]; simp <;> omega) (Ev.pos (by rw [mkB_size]; simp <;> omega) ?_)
      rw [hbt, show ((c.toNat : Int) != 32) = !headIs 32 (c :: r) by
        show (!((c.toNat : Int) == 32)) = !(c == 32)
        congr 1
        rw [Bool.eq_iff_iff, beq_iff_eq, beq_iff_eq]
        exact byI c 32 (by omega)]
      exact hnext
  have hj3 : ∀ b : Bool, (if b = true then a.dropLast else a) = t → (b = true → a ≠ []) → Ev (fun k => R21Rows.j3 k s X (no : Int) ((at_ + a.length : Nat) : Int) (mkB a) b) o := by
    intro b hb hne
    refine Ev.step (fun k => by rw [R21Rows.j3]) ?_
    cases b with
    | false => rw [if_neg (by simp)] at hb; subst hb; exact Ev.neg (by simp) hj4
    | true =>
      rw [if_pos rfl] at hb
      have h1 : 0 < a.length := List.length_pos_iff.2 (hne rfl)
      have e : (mkB a).extract 0 (a.length - 1) = mkB t := by
        apply mk_ext
        rw [ext_to, ← hb, List.dropLast_eq_take]
      rw [mkB_size a, show wrap64 ((a.length : Int) - 1) = ((a.length - 1 : Nat) : Int) by unfold wrap64; omega, Int.toNat_natCast, e]
      exact Ev.pos rfl (Ev.pos (by omega) (Ev.pos (by omega) hj4))
  refine Ev.step (fun k => by rw [R21Rows.j2]) ?_
  rw [Int.toNat_natCast, Int.toNat_natCast, hex, mkB_size a]
  refine Ev.pos (by omega) (Ev.pos (by omega) (Ev.pos (by omega) ?_))
  by_cases h : at_ + a.length < s.size
  · rw [if_pos h] at hlo
    refine Ev.pos (by omega) ?_
    rcases List.eq_nil_or_concat a with hb | ⟨ys, c, hb⟩
    · have ha0 : a.length = 0 := by rw [hb]; rfl
      exact Ev.neg (by omega) (hj3 false (by rw [hlo, hb]; rfl) (by simp))
    · rw [List.concat_eq_append] at hb
      have hal : a.length = ys.length + 1 := by rw [hb]; simp
      rw [show wrap64 ((a.length : Int) - 1) = (ys.length : Int) by unfold wrap64; omega]
      have hbt : bt (mkB a) (ys.length : Int) = (c.toNat : Int) := (drop_at (s := mkB a) (p := ys.length) (c := c) (r := []) (by show a.drop ys.length = [c]; rw [hb]; exact List.drop_left' rfl)).2.1
      have e3 : lastIs 13 a = (c == 13) := by unfold lastIs; rw [hb, List.getLast?_append]; rfl
      rw [hbt, show ((c.toNat : Int) == 13) = lastIs 13 a by
        rw [e3, Bool.eq_iff_iff, beq_iff_eq, beq_iff_eq]
        exact byI c 13 (by omega)]
      exact Ev.pos (by omega) (Ev.pos (by omega) (Ev.pos (by omega) (hj3 _ hlo.symm (fun _ => by rw [hb]; simp))))
  · rw [if_neg h] at hlo
    exact Ev.neg (by omega) (hj3 false (by rw [hlo]; rfl) (by simp))
end B64
end Go.Proofs.YtkklacijhmoopaaDoor.Print
namespace Go.Proofs.YtkklacijhmoopaaDoor.Print
open Go.RowKit Go.Proofs.YtkklacijhmoopaaDoorW.PrintWords Go.Proofs.YtkklacijhmoopaaDoorW.PrintLast Go.Proofs.YtkklacijhmoopaaDoorW.PrintMore
set_option linter.unusedVariables false
set_option linter.unusedSimpArgs false
namespace B64
theorem rest_drop (s : ByteArray) (at_ : Nat) (hat : at_ ≤ s.size) : (bl s).drop (at_ + (cutR 10 ((bl s).drop at_)).1.length + 1) = restOf ((bl s).drop at_) ∧ (cutR 10 ((bl s).drop at_)).1.length ≤ s.size - at_ := by
  have hl := bl_length s
  have hlen : ((bl s).drop at_).length = s.size - at_ := by rw [List.length_drop, hl]
  unfold restOf
  rcases cut_cases 10 ((bl s).drop at_) with ⟨h1, h2⟩ | ⟨x, b, h1, h2, h3⟩
  · rw [h2]
    exact ⟨List.drop_eq_nil_of_le (by rw [hlen, hl]; omega), by rw [hlen]; exact Nat.le_refl _⟩
  · rw [h3]
    refine ⟨?_, ?_⟩
    · show (bl s).drop (at_ + x.length + 1) = b
      rw [Nat.add_assoc, ← List.drop_drop, h1, show x ++ 10 :: b = (x ++ [10]) ++ b by simp, List.drop_left' (by simp)]
    · have := congrArg List.length h1
      rw [hlen, List.length_append, List.length_cons] at this
      show x.length ≤ _
      omega
theorem rdRow_last (ys : List RowS) (y : RowS) : rd_T56 (ys ++ [y]) ((ys.length : Nat) : Int) = y :=
  rdL_at (r := []) (List.drop_left' rfl)
theorem head32 {t : List UInt8} (h : headIs 32 t = true) : 1 ≤ t.length := by
  cases t with
  | nil => cases h
  | cons c r => simp
theorem row_app (s : ByteArray) (ys : List RowS) (y : RowS) (no at_ : Nat) (t : List UInt8) (hys : ys.length ≤ 10000000) (ht : 1 ≤ t.length) (htl : t.length ≤ 10000000) (hyl : y.f0.size ≤ 10000000) (hy0 : bl y.f0 ≠ []) (hy2 : y.f2 = false) {o : List RowS}
    (hnext : Ev (fun k => R21Rows.l0 k s (ys ++ [⟨mkB (bl y.f0 ++ t.tail), y.f1, false⟩]) (no : Int) (at_ : Int)) o) :
    Ev (fun k => R21Rows.j5 k s (ys ++ [y]) (no : Int) (at_ : Int) (mkB t) false) o := by
  have hlen : ((((ys ++ [y]).length : Nat)) : Int) = ((ys.length + 1 : Nat) : Int) := by simp
  refine Ev.step (fun k => by rw [R21Rows.j5]) ?_
  rw [hlen, show wrap64 (((ys.length + 1 : Nat) : Int) - 1) = (ys.length : Int) by unfold wrap64; omega, rdRow_last]
  have hex : (mkB t).extract 1 (mkB t).size = mkB t.tail := by
    apply mk_ext
    rw [ext_from]
    exact List.drop_one
  have hms : (mkB t).size = t.length := mkB_size t
  rw [hex, hms]
  have happ : y.f0 ++ mkB t.tail = mkB (bl y.f0 ++ t.tail) := by
    apply mk_ext
    show (y.f0 ++ mkB t.tail).data.toList = _
    rw [ByteArray.data_append]; simp
  have hset : (ys ++ [y]).set ys.length (⟨y.f0 ++ mkB t.tail, y.f1, y.f2⟩ : RowS) = ys ++ [⟨mkB (bl y.f0 ++ t.tail), y.f1, false⟩] := by
    rw [List.set_append_right _ _ (by simp), happ, hy2]
    simp
  have htt : (mkB t.tail).size ≤ t.length := by
    have := mkB_size t.tail
    rw [List.length_tail] at this; omega
  refine Ev.neg (by simp) (Ev.neg (by omega) (Ev.pos (by omega) (Ev.pos (by omega) ?_)))
  refine Ev.neg (fun h => hy0 (by rw [Lib.toList_data] at h; exact h)) (Ev.neg (by rw [hy2]; simp) (Ev.pos (by omega) (Ev.pos (by omega) ?_)))
  rw [Int.toNat_natCast, hset]
  exact hnext
theorem row_lose (s : ByteArray) (X : List RowS) (no at_ : Nat) (t : List UInt8) (hX : X.length ≤ 10000000) (hl : X = [] ∨ ∃ ys y, X = ys ++ [y] ∧ (bl y.f0 = [] ∨ y.f2 = true)) {o : List RowS}
    (hnext : Ev (fun k => R21Rows.l0 k s (X ++ [⟨mkB t, (no : Int), true⟩]) (no : Int) (at_ : Int)) o) :
    Ev (fun k => R21Rows.j5 k s X (no : Int) (at_ : Int) (mkB t) false) o := by
  refine Ev.step (fun k => by rw [R21Rows.j5]) ?_
  refine Ev.neg (by simp) ?_
  rcases hl with rfl | ⟨ys, y, rfl, hy⟩
  · exact Ev.pos rfl (Ev.pos (by simp) hnext)
  · have hlen : ((((ys ++ [y]).length : Nat)) : Int) = ((ys.length + 1 : Nat) : Int) := by simp
    have hyl : ys.length + 1 ≤ 10000000 := by simpa using hX
    have hlt : (ys ++ [y]).length < 4398046511104 := by simp; omega
    rw [hlen, show wrap64 (((ys.length + 1 : Nat) : Int) - 1) = (ys.length : Int) by unfold wrap64; omega, rdRow_last]
    refine Ev.neg (by omega) (Ev.pos (by omega) (Ev.pos (by omega) ?_))
    by_cases h0 : bl y.f0 = []
    · exact Ev.pos (by rw [Lib.toList_data]; exact h0) (Ev.pos hlt hnext)
    · refine Ev.neg (fun h => h0 (by rw [Lib.toList_data] at h; exact h)) ?_
      rcases hy with hy | hy
      · exact absurd hy h0
      · exact Ev.pos hy (Ev.pos hlt hnext)
theorem row_push (s : ByteArray) (X : List RowS) (no at_ : Nat) (t : List UInt8) (hX : X.length ≤ 10000000) {o : List RowS}
    (hnext : Ev (fun k => R21Rows.l0 k s (X ++ [⟨mkB t, (no : Int), false⟩]) (no : Int) (at_ : Int)) o) :
    Ev (fun k => R21Rows.j5 k s X (no : Int) (at_ : Int) (mkB t) true) o := by
  refine Ev.step (fun k => by rw [R21Rows.j5]) ?_
  exact Ev.pos rfl (Ev.pos (by omega) hnext)
theorem rows_end (s : ByteArray) (X : List RowS) (no at_ : Nat) (h : s.size ≤ at_) : Ev (fun k => R21Rows.l0 k s X (no : Int) (at_ : Int)) X := by
  refine Ev.step (fun k => by rw [R21Rows.l0]) ?_
  exact Ev.neg (by omega) Ev.rfl'
theorem line_le (s : ByteArray) (at_ : Nat) (hat : at_ < s.size) : (lineOf ((bl s).drop at_)).length ≤ (cutR 10 ((bl s).drop at_)).1.length := by
  unfold lineOf
  split
  · split <;> simp
  · exact Nat.le_refl _
theorem rows_lost (s : ByteArray) (hs : s.size ≤ 1000000) (L0 : List RowS) (lost : RowS) (hlost : lost.f2 = true) : ∀ (n at_ no : Nat) (X : List RowS), s.size - at_ < n → at_ ≤ s.size + 1 → no ≤ at_ → L0.length + 1 + X.length ≤ no → (∀ y ∈ X, y.f0.size ≤ at_) →
    ∃ Y, Ev (fun k => R21Rows.l0 k s (L0 ++ lost :: X) (no : Int) (at_ : Int)) (L0 ++ lost :: Y) := by
  intro n
  induction n with
  | zero => intro at_ no X h; omega
  | succ n ih =>
    intro at_ no X hn hat hno hX hsz
    by_cases hend : s.size ≤ at_
    · exact ⟨X, rows_end s _ no at_ hend⟩
    · obtain ⟨_, hal⟩ := rest_drop s at_ (by omega)
      have hle := line_le s at_ (by omega)
      have hLl : (L0 ++ lost :: X).length = L0.length + 1 + X.length := by simp; omega
      have ihn := fun X' => ih (at_ + (cutR 10 ((bl s).drop at_)).1.length + 1) (no + 1) X' (by omega) (by omega) (by omega)
      have hgo := fun (o : List RowS) => rline s hs (L0 ++ lost :: X) no at_ (by omega) (by omega) (o := o)
      generalize lineOf ((bl s).drop at_) = t at *
      generalize (cutR 10 ((bl s).drop at_)).1.length = w at *
      cases hh : headIs 32 t with
      | false =>
        rw [hh] at hgo
        obtain ⟨Y, hY⟩ := ihn (X ++ [⟨mkB t, ((no + 1 : Nat) : Int), false⟩]) (by simp; omega) (by
          intro y hy
          rcases List.mem_append.1 hy with hy | hy
          · have := hsz y hy; omega
          · simp only [List.mem_singleton] at hy
            subst hy
            show (mkB t).size ≤ _
            rw [mkB_size]; omega)
        refine ⟨Y, hgo _ ?_⟩
        refine row_push s _ (no + 1) _ t (by omega) ?_
        rw [List.append_assoc, List.cons_append]; exact hY
      | true =>
        rw [hh] at hgo
        have hlose : (∃ ys y, L0 ++ lost :: X = ys ++ [y] ∧ (bl y.f0 = [] ∨ y.f2 = true)) → ∃ Y, Ev (fun k => R21Rows.l0 k s (L0 ++ lost :: X) (no : Int) (at_ : Int)) (L0 ++ lost :: Y) := by
          intro hl
          obtain ⟨Y, hY⟩ := ihn (X ++ [⟨mkB t, ((no + 1 : Nat) : Int), true⟩]) (by simp; omega) (by
            intro y hy
            rcases List.mem_append.1 hy with hy | hy
            · have := hsz y hy; omega
            · simp only [List.mem_singleton] at hy
              subst hy
              show (mkB t).size ≤ _
              rw [mkB_size]; omega)
          refine ⟨Y, hgo _ ?_⟩
          refine row_lose s _ (no + 1) _ t (by omega) (.inr hl) ?_
          rw [List.append_assoc, List.cons_append]; exact hY
        rcases List.eq_nil_or_concat X with hX0 | ⟨ys, y, hXc⟩
        · exact hlose ⟨L0, lost, by rw [hX0], .inr hlost⟩
        · rw [List.concat_eq_append] at hXc
          have hXe : L0 ++ lost :: X = (L0 ++ lost :: ys) ++ [y] := by rw [hXc]; simp
          by_cases hy0 : bl y.f0 = []
          · exact hlose ⟨_, y, hXe, .inl hy0⟩
          · cases hy2 : y.f2 with
            | true => exact hlose ⟨_, y, hXe, .inr hy2⟩
            | false =>
              have hys := hsz y (by rw [hXc]; simp)
              have hysl : ys.length + 1 = X.length := by rw [hXc]; simp
              obtain ⟨Y, hY⟩ := ihn (ys ++ [⟨mkB (bl y.f0 ++ t.tail), y.f1, false⟩]) (by simp; omega) (by
                intro z hz
                rcases List.mem_append.1 hz with hz | hz
                · have := hsz z (by rw [hXc]; simp [hz]); omega
                · simp only [List.mem_singleton] at hz
                  subst hz
                  show (mkB (bl y.f0 ++ t.tail)).size ≤ _
                  rw [mkB_size, List.length_append, bl_length, List.length_tail]; omega)
              refine ⟨Y, hgo _ ?_⟩
              rw [hXe]
              refine row_app s _ y (no + 1) _ t (by simp; omega) (head32 hh) (by omega) (by omega) hy0 hy2 ?_
              rw [List.append_assoc, List.cons_append]; exact hY
end B64
end Go.Proofs.YtkklacijhmoopaaDoor.Print
