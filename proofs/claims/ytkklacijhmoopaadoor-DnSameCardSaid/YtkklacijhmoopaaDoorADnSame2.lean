-- laid together by pack.py (a program of this session)
import Derived.Test.YtkklacijhmoopaaDoorADnSame1
namespace Go.Proofs.YtkklacijhmoopaaDoor.Print
open Go.RowKit Go.Proofs.YtkklacijhmoopaaDoorW.PrintWords Go.Proofs.YtkklacijhmoopaaDoorW.PrintLast Go.Proofs.YtkklacijhmoopaaDoorW.PrintMore
attribute [local go_sem] max2_int min2_int max_two min_two max_three min_three max_four min_four
set_option linter.unusedVariables false
set_option linter.unusedSimpArgs false
set_option maxHeartbeats 8000000 in
set_option maxRecDepth 100000 in
theorem Dxvalue.calls (k : Nat) (g : Nat) (s0_0 : ByteArray) (s0_1 : Int) (r1 : ByteArray) (r2 : Bool) (r3 : ByteArray) (r4 : Int) (w0 w : World) (hI : IsS59 w0 w g s0_0 s0_1) (hB : Below w0.heap.size w0 w) (h : Dxvalue.f k s0_0 s0_1 = some (r1, r2, r3, r4)) :
  Calls Tryd.prog 35 #[.pointer (some ⟨g, 0, none⟩)] w fun e w' => e = .returned (.tuple #[.string r1, .bool r2]) ∧ IsS59 w0 w' g r3 r4 ∧ Below w0.heap.size w0 w' ∧ KeepBut w w' g none := by
 have HI0 := Aside0.mk hI
 have HK := Aside0.mk (KeepBut.refl w g none)
 have HL := Aside0.mk hB.size
 clear hI
 have HW0 := Aside0.mk hB.size
 have HB := Aside0.mk hB
 clear hB
 have H : ((Dxblanks.f k s0_0 s0_1).bind fun bt300 => (if 0 ≤ bt300.2 then (if bt300.2 ≤ (bt300.1.size : Int) then ((strings_HasPrefix.f (bt300.1.extract (bt300.2 : Int).toNat bt300.1.size) (⟨#[35]⟩ : ByteArray)).bind fun t302 => (if t302 = true then (some ((⟨#[]⟩ : ByteArray), false, bt300.1, bt300.2)) else (Dxvalue.l0 k ([] : List Int) 0 bt300.1 bt300.2))) else (none)) else (none))) = some (r1, r2, r3, r4) := h
 clear h
 replace H := Option.bind_eq_some_iff.mp H
 obtain ⟨⟨t300, t301⟩, A20, H⟩ := H
 replace H : (if 0 ≤ t301 then (if t301 ≤ (t300.size : Int) then ((strings_HasPrefix.f (t300.extract (t301 : Int).toNat t300.size) (⟨#[35]⟩ : ByteArray)).bind fun t302 => (if t302 = true then (some ((⟨#[]⟩ : ByteArray), false, t300, t301)) else (Dxvalue.l0 k ([] : List Int) 0 t300 t301))) else (none)) else (none)) = some (r1, r2, r3, r4) := H
 have A2 := Aside0.mk A20
 clear A20
 by_cases c3 : 0 ≤ t301
 ·
  rw [if_pos c3] at H
  have c3b0 := eq_true c3
  have c3b1 := decide_eq_true c3
  clear c3
  by_cases c4 : t301 ≤ (t300.size : Int)
  ·
   rw [if_pos c4] at H
   have c4b0 := eq_true c4
   have c4b1 := decide_eq_true c4
   clear c4
   replace H := Option.bind_eq_some_iff.mp H
   obtain ⟨t302, A50, H⟩ := H
   replace H : (if t302 = true then (some ((⟨#[]⟩ : ByteArray), false, t300, t301)) else (Dxvalue.l0 k ([] : List Int) 0 t300 t301)) = some (r1, r2, r3, r4) := H
   have A5 := Aside0.mk A50
   clear A50
   by_cases c6 : t302 = true
   ·
    subst c6
    rw [if_pos rfl] at H
    simp only [Option.some.injEq, Prod.mk.injEq] at H
    obtain ⟨rfl, rfl, rfl, rfl⟩ := H
    go_enter Tryd.func35, Tryd.ntmps35
    go_wp2_with (first | (go_at_call 33; (with_reducible refine (Dxblanks.calls k g s0_0 s0_1 t300 t301 w0 _ ?side1 ?side2 A2.out).mono ?_); (case side1 => exact apI59 HI0.out); (case side2 => exact apS59 HI0.out); rintro e w7 ⟨rfl, hi, hb, hk⟩; have n0_ := Aside0.mk (KeepBut.trans ap5 hk (.inl rfl)); have n1_ := Aside0.mk (hb); have n2_ := Aside0.mk (hi); clear HK; clear HB; clear HI0; have HK := n0_; have HB := n1_; have HI0 := n2_; clear n0_ n1_ n2_; (try clear hb); (try clear hb2); (try clear hk); (try clear hi); obtain ⟨HGz8, hgz8⟩ := HI0.out; have hcz8_0 := cellS59_0 HGz8; have hcz8_1 := cellS59_1 HGz8; have hfz8_0 := blk_frozen HGz8 0; have hfz8_1 := blk_frozen HGz8 1; clear HGz8 hgz8) | (go_at_call 27; (with_reducible refine (strings_HasPrefix.calls (t300.extract (t301 : Int).toNat t300.size) (⟨#[35]⟩ : ByteArray) true _ A5.out).mono ?_); rintro e w' ⟨rfl, ⟨nd, rfl⟩⟩; (try exact ap4)))
    repeat (go_quiet (first | (go_at_call 33; (with_reducible refine (Dxblanks.calls k g s0_0 s0_1 t300 t301 w0 _ ?side1 ?side2 A2.out).mono ?_); (case side1 => exact apI59 HI0.out); (case side2 => exact apS59 HI0.out); rintro e w7 ⟨rfl, hi, hb, hk⟩; have n0_ := Aside0.mk (KeepBut.trans ap5 hk (.inl rfl)); have n1_ := Aside0.mk (hb); have n2_ := Aside0.mk (hi); clear HK; clear HB; clear HI0; have HK := n0_; have HB := n1_; have HI0 := n2_; clear n0_ n1_ n2_; (try clear hb); (try clear hb2); (try clear hk); (try clear hi); obtain ⟨HGz8, hgz8⟩ := HI0.out; have hcz8_0 := cellS59_0 HGz8; have hcz8_1 := cellS59_1 HGz8; have hfz8_0 := blk_frozen HGz8 0; have hfz8_1 := blk_frozen HGz8 1; clear HGz8 hgz8) | (go_at_call 27; (with_reducible refine (strings_HasPrefix.calls (t300.extract (t301 : Int).toNat t300.size) (⟨#[35]⟩ : ByteArray) true _ A5.out).mono ?_); rintro e w' ⟨rfl, ⟨nd, rfl⟩⟩; (try exact ap4))); try go_wp2_with (first | (go_at_call 33; (with_reducible refine (Dxblanks.calls k g s0_0 s0_1 t300 t301 w0 _ ?side1 ?side2 A2.out).mono ?_); (case side1 => exact apI59 HI0.out); (case side2 => exact apS59 HI0.out); rintro e w7 ⟨rfl, hi, hb, hk⟩; have n0_ := Aside0.mk (KeepBut.trans ap5 hk (.inl rfl)); have n1_ := Aside0.mk (hb); have n2_ := Aside0.mk (hi); clear HK; clear HB; clear HI0; have HK := n0_; have HB := n1_; have HI0 := n2_; clear n0_ n1_ n2_; (try clear hb); (try clear hb2); (try clear hk); (try clear hi); obtain ⟨HGz8, hgz8⟩ := HI0.out; have hcz8_0 := cellS59_0 HGz8; have hcz8_1 := cellS59_1 HGz8; have hfz8_0 := blk_frozen HGz8 0; have hfz8_1 := blk_frozen HGz8 1; clear HGz8 hgz8) | (go_at_call 27; (with_reducible refine (strings_HasPrefix.calls (t300.extract (t301 : Int).toNat t300.size) (⟨#[35]⟩ : ByteArray) true _ A5.out).mono ?_); rintro e w' ⟨rfl, ⟨nd, rfl⟩⟩; (try exact ap4))))
    go_ret2
    exact ⟨by first | rfl | (simp [errW_none, errW_some, bne_nil8, beq_nil8]; done) | (simp [errW_none, errW_some] <;> rfl) | (simp [*, errW_none, errW_some] <;> rfl), by repeat (first | (with_reducible first | exact HI0.out | apply IsS59.alloc | apply IsS59.drewN | apply IsS59.drew | apply IsS59.set_0 | apply IsS59.set_1) | exact HI0.out), by repeat (first | (with_reducible first | exact HB.out | apply below_alloc | apply pw_below_drewN | apply below_drew1 | refine below_set ?_ (IsS59.ge HI0.out)) | exact HB.out), by repeat (first | (with_reducible first | exact HK.out | apply KeepBut.set_ | apply keep_drewN | apply keep_drew | apply keep_alloc) | exact HK.out)⟩
   ·
    replace c6 := Bool.eq_false_iff.mpr c6
    subst c6
    rw [if_neg (show ¬ (false = true) by decide)] at H
    have H' := Aside0.mk H
    clear H
    go_enter Tryd.func35, Tryd.ntmps35
    go_wp2_with (first | (go_at_call 33; (with_reducible refine (Dxblanks.calls k g s0_0 s0_1 t300 t301 w0 _ ?side1 ?side2 A2.out).mono ?_); (case side1 => exact apI59 HI0.out); (case side2 => exact apS59 HI0.out); rintro e w9 ⟨rfl, hi, hb, hk⟩; have n0_ := Aside0.mk (KeepBut.trans ap5 hk (.inl rfl)); have n1_ := Aside0.mk (hb); have n2_ := Aside0.mk (hi); clear HK; clear HB; clear HI0; have HK := n0_; have HB := n1_; have HI0 := n2_; clear n0_ n1_ n2_; (try clear hb); (try clear hb2); (try clear hk); (try clear hi); obtain ⟨HGz10, hgz10⟩ := HI0.out; have hcz10_0 := cellS59_0 HGz10; have hcz10_1 := cellS59_1 HGz10; have hfz10_0 := blk_frozen HGz10 0; have hfz10_1 := blk_frozen HGz10 1; clear HGz10 hgz10) | (go_at_call 27; (with_reducible refine (strings_HasPrefix.calls (t300.extract (t301 : Int).toNat t300.size) (⟨#[35]⟩ : ByteArray) false _ A5.out).mono ?_); rintro e w' ⟨rfl, ⟨nd, rfl⟩⟩; (try exact ap4)))
    repeat (go_quiet (first | (go_at_call 33; (with_reducible refine (Dxblanks.calls k g s0_0 s0_1 t300 t301 w0 _ ?side1 ?side2 A2.out).mono ?_); (case side1 => exact apI59 HI0.out); (case side2 => exact apS59 HI0.out); rintro e w9 ⟨rfl, hi, hb, hk⟩; have n0_ := Aside0.mk (KeepBut.trans ap5 hk (.inl rfl)); have n1_ := Aside0.mk (hb); have n2_ := Aside0.mk (hi); clear HK; clear HB; clear HI0; have HK := n0_; have HB := n1_; have HI0 := n2_; clear n0_ n1_ n2_; (try clear hb); (try clear hb2); (try clear hk); (try clear hi); obtain ⟨HGz10, hgz10⟩ := HI0.out; have hcz10_0 := cellS59_0 HGz10; have hcz10_1 := cellS59_1 HGz10; have hfz10_0 := blk_frozen HGz10 0; have hfz10_1 := blk_frozen HGz10 1; clear HGz10 hgz10) | (go_at_call 27; (with_reducible refine (strings_HasPrefix.calls (t300.extract (t301 : Int).toNat t300.size) (⟨#[35]⟩ : ByteArray) false _ A5.out).mono ?_); rintro e w' ⟨rfl, ⟨nd, rfl⟩⟩; (try exact ap4))); try go_wp2_with (first | (go_at_call 33; (with_reducible refine (Dxblanks.calls k g s0_0 s0_1 t300 t301 w0 _ ?side1 ?side2 A2.out).mono ?_); (case side1 => exact apI59 HI0.out); (case side2 => exact apS59 HI0.out); rintro e w9 ⟨rfl, hi, hb, hk⟩; have n0_ := Aside0.mk (KeepBut.trans ap5 hk (.inl rfl)); have n1_ := Aside0.mk (hb); have n2_ := Aside0.mk (hi); clear HK; clear HB; clear HI0; have HK := n0_; have HB := n1_; have HI0 := n2_; clear n0_ n1_ n2_; (try clear hb); (try clear hb2); (try clear hk); (try clear hi); obtain ⟨HGz10, hgz10⟩ := HI0.out; have hcz10_0 := cellS59_0 HGz10; have hcz10_1 := cellS59_1 HGz10; have hfz10_0 := blk_frozen HGz10 0; have hfz10_1 := blk_frozen HGz10 1; clear HGz10 hgz10) | (go_at_call 27; (with_reducible refine (strings_HasPrefix.calls (t300.extract (t301 : Int).toNat t300.size) (⟨#[35]⟩ : ByteArray) false _ A5.out).mono ?_); rintro e w' ⟨rfl, ⟨nd, rfl⟩⟩; (try exact ap4))))
    go_loopg [4, 5] k (fun kq v4 v5 w' => ∃ (x4_1 : List Int) (x5_1 : Int) (x1000_1 : ByteArray) (x1001_1 : Int), v5 = .int .i64 x5_1 ∧ Aside0 (Dxvalue.l0 kq x4_1 x5_1 x1000_1 x1001_1 = some (r1, r2, r3, r4)) ∧ Aside0 (kq ≤ k) ∧ Aside0 (Kd.R (Kd.int .u8) 5 w' w.heap.size (fun _ => True) v4 x4_1) ∧ Aside0 (IsS59 w0 w' g x1000_1 x1001_1) ∧ Aside0 (KeepBut w w' g none) ∧ Aside0 (Below w0.heap.size w0 w'))
    case atStart => exact ⟨(([] : List Int)), (0), (t300), (t301), ap2, H', ⟨Nat.le_refl _⟩, ⟨by first | exact Kd.R_nil _ _ _ _ _ | exact Kd.N_nil _ _ _ _ _ | exact Kd.V_nil _ _ _ _ _ | exact Kd.Q_nil _ _ _ _ _ | exact Kd.S_nil _ _ _ _ _⟩, ⟨by repeat (first | (with_reducible first | exact HI0.out | apply IsS59.alloc | apply IsS59.drewN | apply IsS59.drew | apply IsS59.set_0 | apply IsS59.set_1) | exact HI0.out)⟩, ⟨by repeat (first | (with_reducible first | exact HK.out | apply KeepBut.set_ | apply keep_drewN | apply keep_drew | apply keep_alloc) | exact HK.out)⟩, ⟨by repeat (first | (with_reducible first | exact HB.out | apply below_alloc | apply pw_below_drewN | apply below_drew1 | refine below_set ?_ (IsS59.ge HI0.out)) | exact HB.out)⟩⟩
    case round =>
     clear H'
     try clear p2
     try clear c3
     try clear c3b0
     try clear c3b1
     try clear c4
     try clear c4b0
     try clear c4b1
     try clear c6
     try clear hcz10_0
     try clear hcz10_1
     try clear hcz8_0
     try clear hcz8_1
     try clear hfz10_0
     try clear hfz10_1
     try clear hfz8_0
     try clear hfz8_1
     obtain ⟨x4_1, x5_1, x1000_1, x1001_1, rfl, HA, HK1, HO_4, HI0, HK, HB⟩ := hrel
     cases gk with
     | zero => exact absurd HA.out (by simp [Dxvalue.l0])
     | succ k1 =>
      have H := HA.out
      clear HA
      simp only [Dxvalue.l0] at H
      by_cases c11 : x1001_1 < (x1000_1.size : Int)
      ·
       rw [if_pos c11] at H
       have c11b0 := decide_eq_true c11
       clear c11
       by_cases c12 : 0 ≤ x1001_1
       ·
        rw [if_pos c12] at H
        have c12b0 := decide_eq_true c12
        clear c12
        have HC14 := Aside0.mk H
        clear H
        obtain ⟨HGz15, hgz15⟩ := HI0.out
        have hcz15_0 := cellS59_0 HGz15
        have hcz15_1 := cellS59_1 HGz15
        have hfz15_0 := blk_frozen HGz15 0
        have hfz15_1 := blk_frozen HGz15 1
        clear HGz15 hgz15
        have p13 : 0 ≤ (x1001_1 : Int) := of_decide_eq_true ap0
        have q13 : x1001_1 < (x1000_1.size : Int) := of_decide_eq_true ap0
        have hx13 := bt_at x1000_1 x1001_1
        replace p13 := eq_true p13
        replace q13 := eq_true q13
        go_upto_if 41 with (fail)
        repeat (go_quiet (fail); go_upto_if 41 with (fail))
        go_cut [41] (fun v41 wc => ∃ (kq : Nat) (x41_13 : Bool), v41 = .bool x41_13 ∧ Aside0 (Dxvalue.j1 kq x4_1 x5_1 (bt x1000_1 x1001_1) (bt x1000_1 x1001_1) x41_13 x1000_1 x1001_1 = some (r1, r2, r3, r4)) ∧ Aside0 (kq ≤ k1) ∧ Aside0 (Kd.R (Kd.int .u8) 5 wc w.heap.size (fun _ => True) u4 x4_1) ∧ Aside0 (IsS59 w0 wc g x1000_1 x1001_1) ∧ Aside0 (KeepBut w wc g none) ∧ Aside0 (Below w0.heap.size w0 wc))
        case first =>
         have H := HC14.out
         clear HC14
         by_cases c16 : (bt x1000_1 x1001_1) = 44
         ·
          rw [if_pos c16] at H
          have c16b0 : ((bt x1000_1 x1001_1) == 44) = true := beq_iff_eq.mpr c16
          have c16b1 : ((bt x1000_1 x1001_1) != 44) = false := bne_eq_false_iff_eq.mpr c16
          clear c16
          (first | rw [c16b0] | (simp only [i64_w, i32_w]; rw [c16b0]) | skip)
          have H' := Aside0.mk H
          clear H
          go_wp2
          repeat (go_quiet (fail); try go_wp2)
          first | go_meet | (simp only [c16b0] at *; go_meet)
          case rel => exact ⟨_, (((bt x1000_1 x1001_1) == 44)), ap2, H', ⟨by have := HK1.out; first | omega | exact Nat.le_refl _⟩, ⟨by (with_reducible repeat (first | apply Kd.R_alloc | apply Kd.R_drewN | apply Kd.R_drew)); exact HO_4.out⟩, ⟨by repeat (first | (with_reducible first | exact HI0.out | apply IsS59.alloc | apply IsS59.drewN | apply IsS59.drew | apply IsS59.set_0 | apply IsS59.set_1) | exact HI0.out)⟩, ⟨by repeat (first | (with_reducible first | exact HK.out | apply KeepBut.set_ | apply keep_drewN | apply keep_drew | apply keep_alloc) | exact HK.out)⟩, ⟨by repeat (first | (with_reducible first | exact HB.out | apply below_alloc | apply pw_below_drewN | apply below_drew1 | refine below_set ?_ (IsS59.ge HI0.out)) | exact HB.out)⟩⟩
         ·
          rw [if_neg c16] at H
          have c16b0 : ((bt x1000_1 x1001_1) == 44) = false := beq_eq_false_iff_ne.mpr c16
          have c16b1 : ((bt x1000_1 x1001_1) != 44) = true := bne_iff_ne.mpr c16
          (first | rw [c16b0] | (simp only [i64_w, i32_w]; rw [c16b0]) | skip)
          by_cases c17 : (bt x1000_1 x1001_1) = 59
          ·
           rw [if_pos c17] at H
           have c17b0 : ((bt x1000_1 x1001_1) == 59) = true := beq_iff_eq.mpr c17
           have c17b1 : ((bt x1000_1 x1001_1) != 59) = false := bne_eq_false_iff_eq.mpr c17
           clear c17
           have H' := Aside0.mk H
           clear H
           go_wp2
           repeat (go_quiet (fail); try go_wp2)
           first | go_meet | (simp only [c17b0] at *; go_meet) | (simp only [c16b0] at *; go_meet) | (simp only [c16b0] at *; go_meet)
           case rel => exact ⟨_, (((bt x1000_1 x1001_1) == 59)), ap2, H', ⟨by have := HK1.out; first | omega | exact Nat.le_refl _⟩, ⟨by (with_reducible repeat (first | apply Kd.R_alloc | apply Kd.R_drewN | apply Kd.R_drew)); exact HO_4.out⟩, ⟨by repeat (first | (with_reducible first | exact HI0.out | apply IsS59.alloc | apply IsS59.drewN | apply IsS59.drew | apply IsS59.set_0 | apply IsS59.set_1) | exact HI0.out)⟩, ⟨by repeat (first | (with_reducible first | exact HK.out | apply KeepBut.set_ | apply keep_drewN | apply keep_drew | apply keep_alloc) | exact HK.out)⟩, ⟨by repeat (first | (with_reducible first | exact HB.out | apply below_alloc | apply pw_below_drewN | apply below_drew1 | refine below_set ?_ (IsS59.ge HI0.out)) | exact HB.out)⟩⟩
          ·
           rw [if_neg c17] at H
           have c17b0 : ((bt x1000_1 x1001_1) == 59) = false := beq_eq_false_iff_ne.mpr c17
           have c17b1 : ((bt x1000_1 x1001_1) != 59) = true := bne_iff_ne.mpr c17
           have H' := Aside0.mk H
           clear H
           go_wp2
           repeat (go_quiet (fail); try go_wp2)
           first | go_meet | (simp only [c17b0] at *; go_meet) | (simp only [c17b0] at *; go_meet) | (simp only [c16b0] at *; go_meet)
           case rel => exact ⟨_, (((bt x1000_1 x1001_1) == 43)), ap2, H', ⟨by have := HK1.out; first | omega | exact Nat.le_refl _⟩, ⟨by (with_reducible repeat (first | apply Kd.R_alloc | apply Kd.R_drewN | apply Kd.R_drew)); exact HO_4.out⟩, ⟨by repeat (first | (with_reducible first | exact HI0.out | apply IsS59.alloc | apply IsS59.drewN | apply IsS59.drew | apply IsS59.set_0 | apply IsS59.set_1) | exact HI0.out)⟩, ⟨by repeat (first | (with_reducible first | exact HK.out | apply KeepBut.set_ | apply keep_drewN | apply keep_drew | apply keep_alloc) | exact HK.out)⟩, ⟨by repeat (first | (with_reducible first | exact HB.out | apply below_alloc | apply pw_below_drewN | apply below_drew1 | refine below_set ?_ (IsS59.ge HI0.out)) | exact HB.out)⟩⟩
        case rest =>
         clear HC14
         try clear c1
         try clear p1
         try clear q1
         try clear hx1
         try clear p2
         try clear c3
         try clear c3b0
         try clear c3b1
         try clear c4
         try clear c4b0
         try clear c4b1
         try clear c6
         try clear c11
         try clear c11b0
         try clear c12
         try clear c12b0
         try clear p13
         try clear q13
         try clear hx13
         try clear c16
         try clear c16b0
         try clear c16b1
         try clear c17
         try clear c17b0
         try clear c17b1
         try clear hcz10_0
         try clear hcz10_1
         try clear hcz15_0
         try clear hcz15_1
         try clear hcz8_0
         try clear hcz8_1
         try clear hfz10_0
         try clear hfz10_1
         try clear hfz15_0
         try clear hfz15_1
         try clear hfz8_0
         try clear hfz8_1
         try clear p13
         try clear p2
         try clear q13
         obtain ⟨kq, x41_13, rfl, HA, HJ13, HO_4, HI0, HK, HB⟩ := hcut
         cases kq with
         | zero => exact absurd HA.out (by simp [Dxvalue.j1])
         | succ kj13 =>
          have H := HA.out
          clear HA
          simp only [Dxvalue.j1] at H
          by_cases c18 : x41_13 = true
          ·
           subst c18
           rw [if_pos rfl] at H
           by_cases c19 : 0 ≤ x5_1
           ·
            rw [if_pos c19] at H
            have c19b0 := eq_true c19
            have c19b1 := decide_eq_true c19
            clear c19
            by_cases c20 : x5_1 ≤ (x4_1.length : Int)
            ·
             rw [if_pos c20] at H
             have c20b0 := eq_true c20
             have c20b1 := decide_eq_true c20
             clear c20
             obtain ⟨y307, hy307⟩ : ∃ y_ : List Int, y_ = (x4_1.take (x5_1 : Int).toNat) := ⟨_, rfl⟩
             replace H : (some (strOfNums y307, true, x1000_1, x1001_1)) = some (r1, r2, r3, r4) := by first | (rw [hy307]; with_reducible exact H) | (have H2_ := (Option.bind_some _ _).symm.trans H; rw [hy307]; with_reducible exact H2_) | (have H2_ := (Option.bind_some _ _).symm.trans H; with_reducible exact H2_) | with_reducible exact H | (rw [hy307]; exact H) | exact H
             have Ny307 := Aside0.mk hy307
             clear hy307
             simp only [Option.some.injEq, Prod.mk.injEq] at H
             obtain ⟨rfl, rfl, rfl, rfl⟩ := H
             obtain ⟨Ao22, co22, eo22⟩ := Kd.R_slice HO_4.out
             subst eo22
             have q21 : (x5_1 : Int) ≤ ((x4_1.length : Int) : Int) := of_decide_eq_true ap0
             obtain ⟨i021, hi021, _, hsz21, _⟩ := info_parts info5
             have hroom21 : x4_1.length ≤ co22 := (Kd.R_reads' HO_4.out).2.1
             have hC21 : Kd.C (Kd.int .u8) _ Ao22 x4_1.length x4_1 := (Kd.R_reads' HO_4.out).2.2
             have hcut21 := cut_to (P := Tryd.prog) 72 5 .i64 Tryd.underlying72 hi021 Ao22 x4_1.length co22 x5_1 (of_decide_eq_true ap0) q21 hroom21
             have hr21 := Kd.C_take (m := (x5_1 : Int).toNat) hC21 (by omega)
             have hy21 : y307.length = (x5_1 : Int).toNat := (by rw [Ny307.out, List.length_take]; omega)
             rw [← Ny307.out] at hr21
             rw [← hy21] at hcut21
             have HR310 := Aside0.mk hr21
             have HC310 := Aside0.mk (show y307.length ≤ co22 from by omega)
             clear hr21 hC21 hroom21 hi021 hsz21
             have KY21 := Aside0.mk hy21
             clear hy21
             have KL21 := Aside0.mk (show (x5_1 : Int).toNat ≤ x4_1.length from by omega)
             replace q21 := eq_true q21
             have hcv23 := Kd.C_string (P := Tryd.prog) (A := Ao22) (c := co22) Tryd.underlying72 Tryd.underlying5 Tryd.underlying9 (apC HR310.out)
             have hcv23n := fun m_ => Kd.C_string (P := Tryd.prog) (A := Ao22) (c := co22) Tryd.underlying72 Tryd.underlying5 Tryd.underlying9 (Kd.C_drewN (apC HR310.out) m_)
             go_wp2
             repeat (go_quiet (fail); try go_wp2)
             go_ret2
             exact ⟨by first | rfl | (simp [errW_none, errW_some, bne_nil8, beq_nil8]; done) | (simp [errW_none, errW_some] <;> rfl) | (simp [*, errW_none, errW_some] <;> rfl), by repeat (first | (with_reducible first | exact HI0.out | apply IsS59.alloc | apply IsS59.drewN | apply IsS59.drew | apply IsS59.set_0 | apply IsS59.set_1) | exact HI0.out), by repeat (first | (with_reducible first | exact HB.out | apply below_alloc | apply pw_below_drewN | apply below_drew1 | refine below_set ?_ (IsS59.ge HI0.out)) | exact HB.out), by repeat (first | (with_reducible first | exact HK.out | apply KeepBut.set_ | apply keep_drewN | apply keep_drew | apply keep_alloc) | exact HK.out)⟩
            ·
             rw [if_neg c20] at H
             exact absurd H (by simp)
           ·
            rw [if_neg c19] at H
            exact absurd H (by simp)
          ·
           replace c18 := Bool.eq_false_iff.mpr c18
           subst c18
           rw [if_neg (show ¬ (false = true) by decide)] at H
           by_cases c24 : (bt x1000_1 x1001_1) = 34
           ·
            rw [if_pos c24] at H
            have c24b0 : ((bt x1000_1 x1001_1) == 34) = true := beq_iff_eq.mpr c24
            have c24b1 : ((bt x1000_1 x1001_1) != 34) = false := bne_eq_false_iff_eq.mpr c24
            clear c24
            simp only [Option.some.injEq, Prod.mk.injEq] at H
            obtain ⟨rfl, rfl, rfl, rfl⟩ := H
            go_wp2
            repeat (go_quiet (fail); try go_wp2)
            go_ret2
            exact ⟨by first | rfl | (simp [errW_none, errW_some, bne_nil8, beq_nil8]; done) | (simp [errW_none, errW_some] <;> rfl) | (simp [*, errW_none, errW_some] <;> rfl), by repeat (first | (with_reducible first | exact HI0.out | apply IsS59.alloc | apply IsS59.drewN | apply IsS59.drew | apply IsS59.set_0 | apply IsS59.set_1) | exact HI0.out), by repeat (first | (with_reducible first | exact HB.out | apply below_alloc | apply pw_below_drewN | apply below_drew1 | refine below_set ?_ (IsS59.ge HI0.out)) | exact HB.out), by repeat (first | (with_reducible first | exact HK.out | apply KeepBut.set_ | apply keep_drewN | apply keep_drew | apply keep_alloc) | exact HK.out)⟩
           ·
            rw [if_neg c24] at H
            have c24b0 : ((bt x1000_1 x1001_1) == 34) = false := beq_eq_false_iff_ne.mpr c24
            have c24b1 : ((bt x1000_1 x1001_1) != 34) = true := bne_iff_ne.mpr c24
            by_cases c25 : (bt x1000_1 x1001_1) = 60
            ·
             rw [if_pos c25] at H
             have c25b0 : ((bt x1000_1 x1001_1) == 60) = true := beq_iff_eq.mpr c25
             have c25b1 : ((bt x1000_1 x1001_1) != 60) = false := bne_eq_false_iff_eq.mpr c25
             clear c25
             simp only [Option.some.injEq, Prod.mk.injEq] at H
             obtain ⟨rfl, rfl, rfl, rfl⟩ := H
             go_wp2
             repeat (go_quiet (fail); try go_wp2)
             go_ret2
             exact ⟨by first | rfl | (simp [errW_none, errW_some, bne_nil8, beq_nil8]; done) | (simp [errW_none, errW_some] <;> rfl) | (simp [*, errW_none, errW_some] <;> rfl), by repeat (first | (with_reducible first | exact HI0.out | apply IsS59.alloc | apply IsS59.drewN | apply IsS59.drew | apply IsS59.set_0 | apply IsS59.set_1) | exact HI0.out), by repeat (first | (with_reducible first | exact HB.out | apply below_alloc | apply pw_below_drewN | apply below_drew1 | refine below_set ?_ (IsS59.ge HI0.out)) | exact HB.out), by repeat (first | (with_reducible first | exact HK.out | apply KeepBut.set_ | apply keep_drewN | apply keep_drew | apply keep_alloc) | exact HK.out)⟩
            ·
             rw [if_neg c25] at H
             have c25b0 : ((bt x1000_1 x1001_1) == 60) = false := beq_eq_false_iff_ne.mpr c25
             have c25b1 : ((bt x1000_1 x1001_1) != 60) = true := bne_iff_ne.mpr c25
             by_cases c26 : (bt x1000_1 x1001_1) = 62
             ·
              rw [if_pos c26] at H
              have c26b0 : ((bt x1000_1 x1001_1) == 62) = true := beq_iff_eq.mpr c26
              have c26b1 : ((bt x1000_1 x1001_1) != 62) = false := bne_eq_false_iff_eq.mpr c26
              clear c26
              simp only [Option.some.injEq, Prod.mk.injEq] at H
              obtain ⟨rfl, rfl, rfl, rfl⟩ := H
              go_wp2
              repeat (go_quiet (fail); try go_wp2)
              go_ret2
              exact ⟨by first | rfl | (simp [errW_none, errW_some, bne_nil8, beq_nil8]; done) | (simp [errW_none, errW_some] <;> rfl) | (simp [*, errW_none, errW_some] <;> rfl), by repeat (first | (with_reducible first | exact HI0.out | apply IsS59.alloc | apply IsS59.drewN | apply IsS59.drew | apply IsS59.set_0 | apply IsS59.set_1) | exact HI0.out), by repeat (first | (with_reducible first | exact HB.out | apply below_alloc | apply pw_below_drewN | apply below_drew1 | refine below_set ?_ (IsS59.ge HI0.out)) | exact HB.out), by repeat (first | (with_reducible first | exact HK.out | apply KeepBut.set_ | apply keep_drewN | apply keep_drew | apply keep_alloc) | exact HK.out)⟩
             ·
              rw [if_neg c26] at H
              have c26b0 : ((bt x1000_1 x1001_1) == 62) = false := beq_eq_false_iff_ne.mpr c26
              have c26b1 : ((bt x1000_1 x1001_1) != 62) = true := bne_iff_ne.mpr c26
              by_cases c27 : (bt x1000_1 x1001_1) = 92
              ·
               rw [if_pos c27] at H
               have c27b0 : ((bt x1000_1 x1001_1) == 92) = true := beq_iff_eq.mpr c27
               have c27b1 : ((bt x1000_1 x1001_1) != 92) = false := bne_eq_false_iff_eq.mpr c27
               clear c27
               replace H := Option.bind_eq_some_iff.mp H
               obtain ⟨⟨t311, t312, t313, t314⟩, A280, H⟩ := H
               replace H : (if t312 = true then (if x4_1.length < 140737488355328 then ((some (x4_1 ++ [t311] : List Int)).bind fun y315 => (Dxvalue.l0 kj13 y315 (y315.length : Int) t313 t314)) else (none)) else (some ((⟨#[]⟩ : ByteArray), false, t313, t314))) = some (r1, r2, r3, r4) := H
               have A28 := Aside0.mk A280
               clear A280
               by_cases c29 : t312 = true
               ·
                subst c29
                rw [if_pos rfl] at H
                by_cases c30 : x4_1.length < 140737488355328
                ·
                 rw [if_pos c30] at H
                 have LMc30 := Aside0.mk c30
                 clear c30
                 obtain ⟨y315, hy315⟩ : ∃ y_ : List Int, y_ = (x4_1 ++ [t311]) := ⟨_, rfl⟩
                 replace H : (Dxvalue.l0 kj13 y315 (y315.length : Int) t313 t314) = some (r1, r2, r3, r4) := by first | (rw [hy315]; with_reducible exact H) | (have H2_ := (Option.bind_some _ _).symm.trans H; rw [hy315]; with_reducible exact H2_) | (have H2_ := (Option.bind_some _ _).symm.trans H; with_reducible exact H2_) | with_reducible exact H | (rw [hy315]; exact H) | exact H
                 have Ny315 := Aside0.mk hy315
                 clear hy315
                 have H' := Aside0.mk H
                 clear H
                 obtain ⟨HGz31, hgz31⟩ := HI0.out
                 have hcz31_0 := cellS59_0 HGz31
                 have hcz31_1 := cellS59_1 HGz31
                 have hfz31_0 := blk_frozen HGz31 0
                 have hfz31_1 := blk_frozen HGz31 1
                 clear HGz31 hgz31
                 go_wp2_with (first | (go_at_call 62; (with_reducible refine (Dxescaped.calls kj13 g x1000_1 (wrap64 (x1001_1 + 1)) t311 true t313 t314 w0 _ ?side1 ?side2 A28.out).mono ?_); (case side1 => exact apI59 HI0.out); (case side2 => exact apS59 HI0.out); rintro e w32 ⟨rfl, hi, hb, hk⟩; have n0_ := Aside0.mk (Kd.R_mono (Kd.R_keep (IsS59.apart (show IsS59 w0 _ g x1000_1 (wrap64 (x1001_1 + 1)) from by repeat (first | (with_reducible first | exact HI0.out | apply IsS59.alloc | apply IsS59.drewN | apply IsS59.drew | apply IsS59.set_0 | apply IsS59.set_1) | exact HI0.out)) (by (with_reducible repeat (first | apply Kd.R_alloc | apply Kd.R_drewN | apply Kd.R_drew)); exact (Kd.R_mono (Kd.R_far (p := ⟨g, 1, none⟩) (IsS59.apart HI0.out HO_4.out (by decide)) (fun _ hk => hk.2) (.int .i64 (wrap64 (x1001_1 + 1)))) (fun _ h_ => h_.1))) (by decide)) hk (fun _ h => h.2)) (fun _ h => h.1)); have n1_ := Aside0.mk (KeepBut.trans ap5 hk (.inl rfl)); have n2_ := Aside0.mk (hb); have n3_ := Aside0.mk (hi); clear HO_4; clear HK; clear HB; clear HI0; have HO_4 := n0_; have HK := n1_; have HB := n2_; have HI0 := n3_; clear n0_ n1_ n2_ n3_; (try clear hb); (try clear hb2); (try clear hk); (try clear hi)) | ((with_reducible refine gate_builtin (b := .append) (xs := #[.tmp 69, .tmp 71]) rfl ?_); at_builtin; refine Kd.R_append (Kd.int .u8) w.heap.size rfl (.tmp 69) (.tmp 71) 72 5 (.int .u8 0) 1 rfl Tryd.underlying72 info5 rfl (by decide) (by omega) u4 x4_1 t311 [.int .u8 t311] (fun _ => True) (fun _ => False) rfl rfl ?aP (fun _ hk => hk.elim) ?aF ?aO (Below.refl _ _) ?aS ?aL ?_; (case aP => exact rfl); (case aF => exact (fun _ _ => trivial)); (case aO => exact (apAR HO_4.out)); (case aS => exact (keep_size (w := w) (g := g) (row := none) ap5)); (case aL => have := LMc30.out; omega); intro v316 w33 ho hb hg hat; rw [← Ny315.out] at ho; have n0_ := Aside0.mk (IsS59.grown (apI59 HI0.out) hg (IsS59.own_ne HI0.out HO_4.out (by decide))); have n1_ := Aside0.mk (below_weaken (apS59 HI0.out) HL.out hb); have n2_ := Aside0.mk (KeepBut.trans ap5 (KeepBut.of_grown hg g) (Kd.R_base2 HO_4.out)); have n3_ := Aside0.mk (ho); clear HI0; clear HB; clear HK; clear HO_4; have HI0 := n0_; have HB := n1_; have HK := n2_; have HO317 := n3_; clear n0_ n1_ n2_ n3_; clear ho hb hg hat; obtain ⟨Ao34, co34, eo34⟩ := Kd.R_slice HO317.out; subst eo34))
                 repeat (go_quiet (first | (go_at_call 62; (with_reducible refine (Dxescaped.calls kj13 g x1000_1 (wrap64 (x1001_1 + 1)) t311 true t313 t314 w0 _ ?side1 ?side2 A28.out).mono ?_); (case side1 => exact apI59 HI0.out); (case side2 => exact apS59 HI0.out); rintro e w32 ⟨rfl, hi, hb, hk⟩; have n0_ := Aside0.mk (Kd.R_mono (Kd.R_keep (IsS59.apart (show IsS59 w0 _ g x1000_1 (wrap64 (x1001_1 + 1)) from by repeat (first | (with_reducible first | exact HI0.out | apply IsS59.alloc | apply IsS59.drewN | apply IsS59.drew | apply IsS59.set_0 | apply IsS59.set_1) | exact HI0.out)) (by (with_reducible repeat (first | apply Kd.R_alloc | apply Kd.R_drewN | apply Kd.R_drew)); exact (Kd.R_mono (Kd.R_far (p := ⟨g, 1, none⟩) (IsS59.apart HI0.out HO_4.out (by decide)) (fun _ hk => hk.2) (.int .i64 (wrap64 (x1001_1 + 1)))) (fun _ h_ => h_.1))) (by decide)) hk (fun _ h => h.2)) (fun _ h => h.1)); have n1_ := Aside0.mk (KeepBut.trans ap5 hk (.inl rfl)); have n2_ := Aside0.mk (hb); have n3_ := Aside0.mk (hi); clear HO_4; clear HK; clear HB; clear HI0; have HO_4 := n0_; have HK := n1_; have HB := n2_; have HI0 := n3_; clear n0_ n1_ n2_ n3_; (try clear hb); (try clear hb2); (try clear hk); (try clear hi)) | ((with_reducible refine gate_builtin (b := .append) (xs := #[.tmp 69, .tmp 71]) rfl ?_); at_builtin; refine Kd.R_append (Kd.int .u8) w.heap.size rfl (.tmp 69) (.tmp 71) 72 5 (.int .u8 0) 1 rfl Tryd.underlying72 info5 rfl (by decide) (by omega) u4 x4_1 t311 [.int .u8 t311] (fun _ => True) (fun _ => False) rfl rfl ?aP (fun _ hk => hk.elim) ?aF ?aO (Below.refl _ _) ?aS ?aL ?_; (case aP => exact rfl); (case aF => exact (fun _ _ => trivial)); (case aO => exact (apAR HO_4.out)); (case aS => exact (keep_size (w := w) (g := g) (row := none) ap5)); (case aL => have := LMc30.out; omega); intro v316 w33 ho hb hg hat; rw [← Ny315.out] at ho; have n0_ := Aside0.mk (IsS59.grown (apI59 HI0.out) hg (IsS59.own_ne HI0.out HO_4.out (by decide))); have n1_ := Aside0.mk (below_weaken (apS59 HI0.out) HL.out hb); have n2_ := Aside0.mk (KeepBut.trans ap5 (KeepBut.of_grown hg g) (Kd.R_base2 HO_4.out)); have n3_ := Aside0.mk (ho); clear HI0; clear HB; clear HK; clear HO_4; have HI0 := n0_; have HB := n1_; have HK := n2_; have HO317 := n3_; clear n0_ n1_ n2_ n3_; clear ho hb hg hat; obtain ⟨Ao34, co34, eo34⟩ := Kd.R_slice HO317.out; subst eo34)); try go_wp2_with (first | (go_at_call 62; (with_reducible refine (Dxescaped.calls kj13 g x1000_1 (wrap64 (x1001_1 + 1)) t311 true t313 t314 w0 _ ?side1 ?side2 A28.out).mono ?_); (case side1 => exact apI59 HI0.out); (case side2 => exact apS59 HI0.out); rintro e w32 ⟨rfl, hi, hb, hk⟩; have n0_ := Aside0.mk (Kd.R_mono (Kd.R_keep (IsS59.apart (show IsS59 w0 _ g x1000_1 (wrap64 (x1001_1 + 1)) from by repeat (first | (with_reducible first | exact HI0.out | apply IsS59.alloc | apply IsS59.drewN | apply IsS59.drew | apply IsS59.set_0 | apply IsS59.set_1) | exact HI0.out)) (by (with_reducible repeat (first | apply Kd.R_alloc | apply Kd.R_drewN | apply Kd.R_drew)); exact (Kd.R_mono (Kd.R_far (p := ⟨g, 1, none⟩) (IsS59.apart HI0.out HO_4.out (by decide)) (fun _ hk => hk.2) (.int .i64 (wrap64 (x1001_1 + 1)))) (fun _ h_ => h_.1))) (by decide)) hk (fun _ h => h.2)) (fun _ h => h.1)); have n1_ := Aside0.mk (KeepBut.trans ap5 hk (.inl rfl)); have n2_ := Aside0.mk (hb); have n3_ := Aside0.mk (hi); clear HO_4; clear HK; clear HB; clear HI0; have HO_4 := n0_; have HK := n1_; have HB := n2_; have HI0 := n3_; clear n0_ n1_ n2_ n3_; (try clear hb); (try clear hb2); (try clear hk); (try clear hi)) | ((with_reducible refine gate_builtin (b := .append) (xs := #[.tmp 69, .tmp 71]) rfl ?_); at_builtin; refine Kd.R_append (Kd.int .u8) w.heap.size rfl (.tmp 69) (.tmp 71) 72 5 (.int .u8 0) 1 rfl Tryd.underlying72 info5 rfl (by decide) (by omega) u4 x4_1 t311 [.int .u8 t311] (fun _ => True) (fun _ => False) rfl rfl ?aP (fun _ hk => hk.elim) ?aF ?aO (Below.refl _ _) ?aS ?aL ?_; (case aP => exact rfl); (case aF => exact (fun _ _ => trivial)); (case aO => exact (apAR HO_4.out)); (case aS => exact (keep_size (w := w) (g := g) (row := none) ap5)); (case aL => have := LMc30.out; omega); intro v316 w33 ho hb hg hat; rw [← Ny315.out] at ho; have n0_ := Aside0.mk (IsS59.grown (apI59 HI0.out) hg (IsS59.own_ne HI0.out HO_4.out (by decide))); have n1_ := Aside0.mk (below_weaken (apS59 HI0.out) HL.out hb); have n2_ := Aside0.mk (KeepBut.trans ap5 (KeepBut.of_grown hg g) (Kd.R_base2 HO_4.out)); have n3_ := Aside0.mk (ho); clear HI0; clear HB; clear HK; clear HO_4; have HI0 := n0_; have HB := n1_; have HK := n2_; have HO317 := n3_; clear n0_ n1_ n2_ n3_; clear ho hb hg hat; obtain ⟨Ao34, co34, eo34⟩ := Kd.R_slice HO317.out; subst eo34)))
                 go_roundg kj13
                 case measure => have := HK1.out; have := HJ13.out; omega
                 case rel => exact ⟨(y315), ((y315.length : Int)), (t313), (t314), ap2, H', ⟨by have := HK1.out; have := HJ13.out; omega⟩, ⟨by (with_reducible repeat (first | apply Kd.R_alloc | apply Kd.R_drewN | apply Kd.R_drew)); exact HO317.out⟩, ⟨by repeat (first | (with_reducible first | exact HI0.out | apply IsS59.alloc | apply IsS59.drewN | apply IsS59.drew | apply IsS59.set_0 | apply IsS59.set_1) | exact HI0.out)⟩, ⟨by repeat (first | (with_reducible first | exact HK.out | apply KeepBut.set_ | apply keep_drewN | apply keep_drew | apply keep_alloc) | exact HK.out)⟩, ⟨by repeat (first | (with_reducible first | exact HB.out | apply below_alloc | apply pw_below_drewN | apply below_drew1 | refine below_set ?_ (IsS59.ge HI0.out)) | exact HB.out)⟩⟩
                ·
                 rw [if_neg c30] at H
                 exact absurd H (by simp)
               ·
                replace c29 := Bool.eq_false_iff.mpr c29
                subst c29
                rw [if_neg (show ¬ (false = true) by decide)] at H
                simp only [Option.some.injEq, Prod.mk.injEq] at H
                obtain ⟨rfl, rfl, rfl, rfl⟩ := H
                obtain ⟨HGz35, hgz35⟩ := HI0.out
                have hcz35_0 := cellS59_0 HGz35
                have hcz35_1 := cellS59_1 HGz35
                have hfz35_0 := blk_frozen HGz35 0
                have hfz35_1 := blk_frozen HGz35 1
                clear HGz35 hgz35
                go_wp2_with (first | (go_at_call 62; (with_reducible refine (Dxescaped.calls kj13 g x1000_1 (wrap64 (x1001_1 + 1)) t311 false t313 t314 w0 _ ?side1 ?side2 A28.out).mono ?_); (case side1 => exact apI59 HI0.out); (case side2 => exact apS59 HI0.out); rintro e w36 ⟨rfl, hi, hb, hk⟩; have n0_ := Aside0.mk (Kd.R_mono (Kd.R_keep (IsS59.apart (show IsS59 w0 _ g x1000_1 (wrap64 (x1001_1 + 1)) from by repeat (first | (with_reducible first | exact HI0.out | apply IsS59.alloc | apply IsS59.drewN | apply IsS59.drew | apply IsS59.set_0 | apply IsS59.set_1) | exact HI0.out)) (by (with_reducible repeat (first | apply Kd.R_alloc | apply Kd.R_drewN | apply Kd.R_drew)); exact (Kd.R_mono (Kd.R_far (p := ⟨g, 1, none⟩) (IsS59.apart HI0.out HO_4.out (by decide)) (fun _ hk => hk.2) (.int .i64 (wrap64 (x1001_1 + 1)))) (fun _ h_ => h_.1))) (by decide)) hk (fun _ h => h.2)) (fun _ h => h.1)); have n1_ := Aside0.mk (KeepBut.trans ap5 hk (.inl rfl)); have n2_ := Aside0.mk (hb); have n3_ := Aside0.mk (hi); clear HO_4; clear HK; clear HB; clear HI0; have HO_4 := n0_; have HK := n1_; have HB := n2_; have HI0 := n3_; clear n0_ n1_ n2_ n3_; (try clear hb); (try clear hb2); (try clear hk); (try clear hi)))
                repeat (go_quiet (first | (go_at_call 62; (with_reducible refine (Dxescaped.calls kj13 g x1000_1 (wrap64 (x1001_1 + 1)) t311 false t313 t314 w0 _ ?side1 ?side2 A28.out).mono ?_); (case side1 => exact apI59 HI0.out); (case side2 => exact apS59 HI0.out); rintro e w36 ⟨rfl, hi, hb, hk⟩; have n0_ := Aside0.mk (Kd.R_mono (Kd.R_keep (IsS59.apart (show IsS59 w0 _ g x1000_1 (wrap64 (x1001_1 + 1)) from by repeat (first | (with_reducible first | exact HI0.out | apply IsS59.alloc | apply IsS59.drewN | apply IsS59.drew | apply IsS59.set_0 | apply IsS59.set_1) | exact HI0.out)) (by (with_reducible repeat (first | apply Kd.R_alloc | apply Kd.R_drewN | apply Kd.R_drew)); exact (Kd.R_mono (Kd.R_far (p := ⟨g, 1, none⟩) (IsS59.apart HI0.out HO_4.out (by decide)) (fun _ hk => hk.2) (.int .i64 (wrap64 (x1001_1 + 1)))) (fun _ h_ => h_.1))) (by decide)) hk (fun _ h => h.2)) (fun _ h => h.1)); have n1_ := Aside0.mk (KeepBut.trans ap5 hk (.inl rfl)); have n2_ := Aside0.mk (hb); have n3_ := Aside0.mk (hi); clear HO_4; clear HK; clear HB; clear HI0; have HO_4 := n0_; have HK := n1_; have HB := n2_; have HI0 := n3_; clear n0_ n1_ n2_ n3_; (try clear hb); (try clear hb2); (try clear hk); (try clear hi))); try go_wp2_with (first | (go_at_call 62; (with_reducible refine (Dxescaped.calls kj13 g x1000_1 (wrap64 (x1001_1 + 1)) t311 false t313 t314 w0 _ ?side1 ?side2 A28.out).mono ?_); (case side1 => exact apI59 HI0.out); (case side2 => exact apS59 HI0.out); rintro e w36 ⟨rfl, hi, hb, hk⟩; have n0_ := Aside0.mk (Kd.R_mono (Kd.R_keep (IsS59.apart (show IsS59 w0 _ g x1000_1 (wrap64 (x1001_1 + 1)) from by repeat (first | (with_reducible first | exact HI0.out | apply IsS59.alloc | apply IsS59.drewN | apply IsS59.drew | apply IsS59.set_0 | apply IsS59.set_1) | exact HI0.out)) (by (with_reducible repeat (first | apply Kd.R_alloc | apply Kd.R_drewN | apply Kd.R_drew)); exact (Kd.R_mono (Kd.R_far (p := ⟨g, 1, none⟩) (IsS59.apart HI0.out HO_4.out (by decide)) (fun _ hk => hk.2) (.int .i64 (wrap64 (x1001_1 + 1)))) (fun _ h_ => h_.1))) (by decide)) hk (fun _ h => h.2)) (fun _ h => h.1)); have n1_ := Aside0.mk (KeepBut.trans ap5 hk (.inl rfl)); have n2_ := Aside0.mk (hb); have n3_ := Aside0.mk (hi); clear HO_4; clear HK; clear HB; clear HI0; have HO_4 := n0_; have HK := n1_; have HB := n2_; have HI0 := n3_; clear n0_ n1_ n2_ n3_; (try clear hb); (try clear hb2); (try clear hk); (try clear hi))))
                go_ret2
                exact ⟨by first | rfl | (simp [errW_none, errW_some, bne_nil8, beq_nil8]; done) | (simp [errW_none, errW_some] <;> rfl) | (simp [*, errW_none, errW_some] <;> rfl), by repeat (first | (with_reducible first | exact HI0.out | apply IsS59.alloc | apply IsS59.drewN | apply IsS59.drew | apply IsS59.set_0 | apply IsS59.set_1) | exact HI0.out), by repeat (first | (with_reducible first | exact HB.out | apply below_alloc | apply pw_below_drewN | apply below_drew1 | refine below_set ?_ (IsS59.ge HI0.out)) | exact HB.out), by repeat (first | (with_reducible first | exact HK.out | apply KeepBut.set_ | apply keep_drewN | apply keep_drew | apply keep_alloc) | exact HK.out)⟩
              ·
               rw [if_neg c27] at H
               have c27b0 : ((bt x1000_1 x1001_1) == 92) = false := beq_eq_false_iff_ne.mpr c27
               have c27b1 : ((bt x1000_1 x1001_1) != 92) = true := bne_iff_ne.mpr c27
               by_cases c37 : x4_1.length < 140737488355328
               ·
                rw [if_pos c37] at H
                have LMc37 := Aside0.mk c37
                clear c37
                obtain ⟨y318, hy318⟩ : ∃ y_ : List Int, y_ = (x4_1 ++ [(bt x1000_1 x1001_1)]) := ⟨_, rfl⟩
                replace H : (if (bt x1000_1 x1001_1) = 32 then (Dxvalue.l0 kj13 y318 x5_1 x1000_1 (wrap64 (x1001_1 + 1))) else (Dxvalue.l0 kj13 y318 (y318.length : Int) x1000_1 (wrap64 (x1001_1 + 1)))) = some (r1, r2, r3, r4) := by first | (rw [hy318]; with_reducible exact H) | (have H2_ := (Option.bind_some _ _).symm.trans H; rw [hy318]; with_reducible exact H2_) | (have H2_ := (Option.bind_some _ _).symm.trans H; with_reducible exact H2_) | with_reducible exact H | (rw [hy318]; exact H) | exact H
                have Ny318 := Aside0.mk hy318
                clear hy318
                by_cases c38 : (bt x1000_1 x1001_1) = 32
                ·
                 rw [if_pos c38] at H
                 have c38b0 : ((bt x1000_1 x1001_1) == 32) = true := beq_iff_eq.mpr c38
                 have c38b1 : ((bt x1000_1 x1001_1) != 32) = false := bne_eq_false_iff_eq.mpr c38
                 clear c38
                 have H' := Aside0.mk H
                 clear H
                 obtain ⟨HGz39, hgz39⟩ := HI0.out
                 have hcz39_0 := cellS59_0 HGz39
                 have hcz39_1 := cellS59_1 HGz39
                 have hfz39_0 := blk_frozen HGz39 0
                 have hfz39_1 := blk_frozen HGz39 1
                 clear HGz39 hgz39
                 go_wp2_with (first | ((with_reducible refine gate_builtin (b := .append) (xs := #[.tmp 75, .tmp 77]) rfl ?_); at_builtin; refine Kd.R_append (Kd.int .u8) w.heap.size rfl (.tmp 75) (.tmp 77) 72 5 (.int .u8 0) 1 rfl Tryd.underlying72 info5 rfl (by decide) (by omega) u4 x4_1 (bt x1000_1 x1001_1) [.int .u8 (bt x1000_1 x1001_1)] (fun _ => True) (fun _ => False) rfl (by first | (go_simp; done) | (go_simp; rfl)) ?aP (fun _ hk => hk.elim) ?aF ?aO (Below.refl _ _) ?aS ?aL ?_; (case aP => exact rfl); (case aF => exact (fun _ _ => trivial)); (case aO => exact (by (with_reducible repeat (first | apply Kd.R_alloc | apply Kd.R_drewN | apply Kd.R_drew)); exact Kd.R_mono (Kd.R_far (p := ⟨g, 1, none⟩) (IsS59.apart HI0.out HO_4.out (by decide)) (fun _ hk => hk.2) (.int .i64 (wrap64 (x1001_1 + 1)))) (fun _ hk => trivial))); (case aS => exact (keep_size (w := w) (g := g) (row := none) ap5)); (case aL => have := LMc37.out; omega); intro v319 w40 ho hb hg hat; rw [← Ny318.out] at ho; have n0_ := Aside0.mk (IsS59.grown (apI59 HI0.out) hg (IsS59.own_ne HI0.out HO_4.out (by decide))); have n1_ := Aside0.mk (below_weaken (apS59 HI0.out) HL.out hb); have n2_ := Aside0.mk (KeepBut.trans ap5 (KeepBut.of_grown hg g) (Kd.R_base2 HO_4.out)); have n3_ := Aside0.mk (ho); clear HI0; clear HB; clear HK; clear HO_4; have HI0 := n0_; have HB := n1_; have HK := n2_; have HO320 := n3_; clear n0_ n1_ n2_ n3_; clear ho hb hg hat))
                 repeat (go_quiet (first | ((with_reducible refine gate_builtin (b := .append) (xs := #[.tmp 75, .tmp 77]) rfl ?_); at_builtin; refine Kd.R_append (Kd.int .u8) w.heap.size rfl (.tmp 75) (.tmp 77) 72 5 (.int .u8 0) 1 rfl Tryd.underlying72 info5 rfl (by decide) (by omega) u4 x4_1 (bt x1000_1 x1001_1) [.int .u8 (bt x1000_1 x1001_1)] (fun _ => True) (fun _ => False) rfl (by first | (go_simp; done) | (go_simp; rfl)) ?aP (fun _ hk => hk.elim) ?aF ?aO (Below.refl _ _) ?aS ?aL ?_; (case aP => exact rfl); (case aF => exact (fun _ _ => trivial)); (case aO => exact (by (with_reducible repeat (first | apply Kd.R_alloc | apply Kd.R_drewN | apply Kd.R_drew)); exact Kd.R_mono (Kd.R_far (p := ⟨g, 1, none⟩) (IsS59.apart HI0.out HO_4.out (by decide)) (fun _ hk => hk.2) (.int .i64 (wrap64 (x1001_1 + 1)))) (fun _ hk => trivial))); (case aS => exact (keep_size (w := w) (g := g) (row := none) ap5)); (case aL => have := LMc37.out; omega); intro v319 w40 ho hb hg hat; rw [← Ny318.out] at ho; have n0_ := Aside0.mk (IsS59.grown (apI59 HI0.out) hg (IsS59.own_ne HI0.out HO_4.out (by decide))); have n1_ := Aside0.mk (below_weaken (apS59 HI0.out) HL.out hb); have n2_ := Aside0.mk (KeepBut.trans ap5 (KeepBut.of_grown hg g) (Kd.R_base2 HO_4.out)); have n3_ := Aside0.mk (ho); clear HI0; clear HB; clear HK; clear HO_4; have HI0 := n0_; have HB := n1_; have HK := n2_; have HO320 := n3_; clear n0_ n1_ n2_ n3_; clear ho hb hg hat)); try go_wp2_with (first | ((with_reducible refine gate_builtin (b := .append) (xs := #[.tmp 75, .tmp 77]) rfl ?_); at_builtin; refine Kd.R_append (Kd.int .u8) w.heap.size rfl (.tmp 75) (.tmp 77) 72 5 (.int .u8 0) 1 rfl Tryd.underlying72 info5 rfl (by decide) (by omega) u4 x4_1 (bt x1000_1 x1001_1) [.int .u8 (bt x1000_1 x1001_1)] (fun _ => True) (fun _ => False) rfl (by first | (go_simp; done) | (go_simp; rfl)) ?aP (fun _ hk => hk.elim) ?aF ?aO (Below.refl _ _) ?aS ?aL ?_; (case aP => exact rfl); (case aF => exact (fun _ _ => trivial)); (case aO => exact (by (with_reducible repeat (first | apply Kd.R_alloc | apply Kd.R_drewN | apply Kd.R_drew)); exact Kd.R_mono (Kd.R_far (p := ⟨g, 1, none⟩) (IsS59.apart HI0.out HO_4.out (by decide)) (fun _ hk => hk.2) (.int .i64 (wrap64 (x1001_1 + 1)))) (fun _ hk => trivial))); (case aS => exact (keep_size (w := w) (g := g) (row := none) ap5)); (case aL => have := LMc37.out; omega); intro v319 w40 ho hb hg hat; rw [← Ny318.out] at ho; have n0_ := Aside0.mk (IsS59.grown (apI59 HI0.out) hg (IsS59.own_ne HI0.out HO_4.out (by decide))); have n1_ := Aside0.mk (below_weaken (apS59 HI0.out) HL.out hb); have n2_ := Aside0.mk (KeepBut.trans ap5 (KeepBut.of_grown hg g) (Kd.R_base2 HO_4.out)); have n3_ := Aside0.mk (ho); clear HI0; clear HB; clear HK; clear HO_4; have HI0 := n0_; have HB := n1_; have HK := n2_; have HO320 := n3_; clear n0_ n1_ n2_ n3_; clear ho hb hg hat)))
                 go_roundg kj13
                 case measure => have := HK1.out; have := HJ13.out; omega
                 case rel => exact ⟨(y318), (x5_1), (x1000_1), (wrap64 (x1001_1 + 1)), ap2, H', ⟨by have := HK1.out; have := HJ13.out; omega⟩, ⟨by (with_reducible repeat (first | apply Kd.R_alloc | apply Kd.R_drewN | apply Kd.R_drew)); exact HO320.out⟩, ⟨by repeat (first | (with_reducible first | exact HI0.out | apply IsS59.alloc | apply IsS59.drewN | apply IsS59.drew | apply IsS59.set_0 | apply IsS59.set_1) | exact HI0.out)⟩, ⟨by repeat (first | (with_reducible first | exact HK.out | apply KeepBut.set_ | apply keep_drewN | apply keep_drew | apply keep_alloc) | exact HK.out)⟩, ⟨by repeat (first | (with_reducible first | exact HB.out | apply below_alloc | apply pw_below_drewN | apply below_drew1 | refine below_set ?_ (IsS59.ge HI0.out)) | exact HB.out)⟩⟩
                ·
                 rw [if_neg c38] at H
                 have c38b0 : ((bt x1000_1 x1001_1) == 32) = false := beq_eq_false_iff_ne.mpr c38
                 have c38b1 : ((bt x1000_1 x1001_1) != 32) = true := bne_iff_ne.mpr c38
                 have H' := Aside0.mk H
                 clear H
                 obtain ⟨HGz41, hgz41⟩ := HI0.out
                 have hcz41_0 := cellS59_0 HGz41
                 have hcz41_1 := cellS59_1 HGz41
                 have hfz41_0 := blk_frozen HGz41 0
                 have hfz41_1 := blk_frozen HGz41 1
                 clear HGz41 hgz41
                 go_wp2_with (first | ((with_reducible refine gate_builtin (b := .append) (xs := #[.tmp 75, .tmp 77]) rfl ?_); at_builtin; refine Kd.R_append (Kd.int .u8) w.heap.size rfl (.tmp 75) (.tmp 77) 72 5 (.int .u8 0) 1 rfl Tryd.underlying72 info5 rfl (by decide) (by omega) u4 x4_1 (bt x1000_1 x1001_1) [.int .u8 (bt x1000_1 x1001_1)] (fun _ => True) (fun _ => False) rfl (by first | (go_simp; done) | (go_simp; rfl)) ?aP (fun _ hk => hk.elim) ?aF ?aO (Below.refl _ _) ?aS ?aL ?_; (case aP => exact rfl); (case aF => exact (fun _ _ => trivial)); (case aO => exact (by (with_reducible repeat (first | apply Kd.R_alloc | apply Kd.R_drewN | apply Kd.R_drew)); exact Kd.R_mono (Kd.R_far (p := ⟨g, 1, none⟩) (IsS59.apart HI0.out HO_4.out (by decide)) (fun _ hk => hk.2) (.int .i64 (wrap64 (x1001_1 + 1)))) (fun _ hk => trivial))); (case aS => exact (keep_size (w := w) (g := g) (row := none) ap5)); (case aL => have := LMc37.out; omega); intro v319 w42 ho hb hg hat; rw [← Ny318.out] at ho; have n0_ := Aside0.mk (IsS59.grown (apI59 HI0.out) hg (IsS59.own_ne HI0.out HO_4.out (by decide))); have n1_ := Aside0.mk (below_weaken (apS59 HI0.out) HL.out hb); have n2_ := Aside0.mk (KeepBut.trans ap5 (KeepBut.of_grown hg g) (Kd.R_base2 HO_4.out)); have n3_ := Aside0.mk (ho); clear HI0; clear HB; clear HK; clear HO_4; have HI0 := n0_; have HB := n1_; have HK := n2_; have HO320 := n3_; clear n0_ n1_ n2_ n3_; clear ho hb hg hat; obtain ⟨Ao43, co43, eo43⟩ := Kd.R_slice HO320.out; subst eo43))
                 repeat (go_quiet (first | ((with_reducible refine gate_builtin (b := .append) (xs := #[.tmp 75, .tmp 77]) rfl ?_); at_builtin; refine Kd.R_append (Kd.int .u8) w.heap.size rfl (.tmp 75) (.tmp 77) 72 5 (.int .u8 0) 1 rfl Tryd.underlying72 info5 rfl (by decide) (by omega) u4 x4_1 (bt x1000_1 x1001_1) [.int .u8 (bt x1000_1 x1001_1)] (fun _ => True) (fun _ => False) rfl (by first | (go_simp; done) | (go_simp; rfl)) ?aP (fun _ hk => hk.elim) ?aF ?aO (Below.refl _ _) ?aS ?aL ?_; (case aP => exact rfl); (case aF => exact (fun _ _ => trivial)); (case aO => exact (by (with_reducible repeat (first | apply Kd.R_alloc | apply Kd.R_drewN | apply Kd.R_drew)); exact Kd.R_mono (Kd.R_far (p := ⟨g, 1, none⟩) (IsS59.apart HI0.out HO_4.out (by decide)) (fun _ hk => hk.2) (.int .i64 (wrap64 (x1001_1 + 1)))) (fun _ hk => trivial))); (case aS => exact (keep_size (w := w) (g := g) (row := none) ap5)); (case aL => have := LMc37.out; omega); intro v319 w42 ho hb hg hat; rw [← Ny318.out] at ho; have n0_ := Aside0.mk (IsS59.grown (apI59 HI0.out) hg (IsS59.own_ne HI0.out HO_4.out (by decide))); have n1_ := Aside0.mk (below_weaken (apS59 HI0.out) HL.out hb); have n2_ := Aside0.mk (KeepBut.trans ap5 (KeepBut.of_grown hg g) (Kd.R_base2 HO_4.out)); have n3_ := Aside0.mk (ho); clear HI0; clear HB; clear HK; clear HO_4; have HI0 := n0_; have HB := n1_; have HK := n2_; have HO320 := n3_; clear n0_ n1_ n2_ n3_; clear ho hb hg hat; obtain ⟨Ao43, co43, eo43⟩ := Kd.R_slice HO320.out; subst eo43)); try go_wp2_with (first | ((with_reducible refine gate_builtin (b := .append) (xs := #[.tmp 75, .tmp 77]) rfl ?_); at_builtin; refine Kd.R_append (Kd.int .u8) w.heap.size rfl (.tmp 75) (.tmp 77) 72 5 (.int .u8 0) 1 rfl Tryd.underlying72 info5 rfl (by decide) (by omega) u4 x4_1 (bt x1000_1 x1001_1) [.int .u8 (bt x1000_1 x1001_1)] (fun _ => True) (fun _ => False) rfl (by first | (go_simp; done) | (go_simp; rfl)) ?aP (fun _ hk => hk.elim) ?aF ?aO (Below.refl _ _) ?aS ?aL ?_; (case aP => exact rfl); (case aF => exact (fun _ _ => trivial)); (case aO => exact (by (with_reducible repeat (first | apply Kd.R_alloc | apply Kd.R_drewN | apply Kd.R_drew)); exact Kd.R_mono (Kd.R_far (p := ⟨g, 1, none⟩) (IsS59.apart HI0.out HO_4.out (by decide)) (fun _ hk => hk.2) (.int .i64 (wrap64 (x1001_1 + 1)))) (fun _ hk => trivial))); (case aS => exact (keep_size (w := w) (g := g) (row := none) ap5)); (case aL => have := LMc37.out; omega); intro v319 w42 ho hb hg hat; rw [← Ny318.out] at ho; have n0_ := Aside0.mk (IsS59.grown (apI59 HI0.out) hg (IsS59.own_ne HI0.out HO_4.out (by decide))); have n1_ := Aside0.mk (below_weaken (apS59 HI0.out) HL.out hb); have n2_ := Aside0.mk (KeepBut.trans ap5 (KeepBut.of_grown hg g) (Kd.R_base2 HO_4.out)); have n3_ := Aside0.mk (ho); clear HI0; clear HB; clear HK; clear HO_4; have HI0 := n0_; have HB := n1_; have HK := n2_; have HO320 := n3_; clear n0_ n1_ n2_ n3_; clear ho hb hg hat; obtain ⟨Ao43, co43, eo43⟩ := Kd.R_slice HO320.out; subst eo43)))
                 go_roundg kj13
                 case measure => have := HK1.out; have := HJ13.out; omega
                 case rel => exact ⟨(y318), ((y318.length : Int)), (x1000_1), (wrap64 (x1001_1 + 1)), ap2, H', ⟨by have := HK1.out; have := HJ13.out; omega⟩, ⟨by (with_reducible repeat (first | apply Kd.R_alloc | apply Kd.R_drewN | apply Kd.R_drew)); exact HO320.out⟩, ⟨by repeat (first | (with_reducible first | exact HI0.out | apply IsS59.alloc | apply IsS59.drewN | apply IsS59.drew | apply IsS59.set_0 | apply IsS59.set_1) | exact HI0.out)⟩, ⟨by repeat (first | (with_reducible first | exact HK.out | apply KeepBut.set_ | apply keep_drewN | apply keep_drew | apply keep_alloc) | exact HK.out)⟩, ⟨by repeat (first | (with_reducible first | exact HB.out | apply below_alloc | apply pw_below_drewN | apply below_drew1 | refine below_set ?_ (IsS59.ge HI0.out)) | exact HB.out)⟩⟩
               ·
                rw [if_neg c37] at H
                exact absurd H (by simp)
       ·
        rw [if_neg c12] at H
        exact absurd H (by simp)
      ·
       rw [if_neg c11] at H
       have c11b0 := decide_eq_false c11
       clear c11
       by_cases c44 : 0 ≤ x5_1
       ·
        rw [if_pos c44] at H
        have c44b0 := eq_true c44
        have c44b1 := decide_eq_true c44
        clear c44
        by_cases c45 : x5_1 ≤ (x4_1.length : Int)
        ·
         rw [if_pos c45] at H
         have c45b0 := eq_true c45
         have c45b1 := decide_eq_true c45
         clear c45
         obtain ⟨y303, hy303⟩ : ∃ y_ : List Int, y_ = (x4_1.take (x5_1 : Int).toNat) := ⟨_, rfl⟩
         replace H : (some (strOfNums y303, true, x1000_1, x1001_1)) = some (r1, r2, r3, r4) := by first | (rw [hy303]; with_reducible exact H) | (have H2_ := (Option.bind_some _ _).symm.trans H; rw [hy303]; with_reducible exact H2_) | (have H2_ := (Option.bind_some _ _).symm.trans H; with_reducible exact H2_) | with_reducible exact H | (rw [hy303]; exact H) | exact H
         have Ny303 := Aside0.mk hy303
         clear hy303
         simp only [Option.some.injEq, Prod.mk.injEq] at H
         obtain ⟨rfl, rfl, rfl, rfl⟩ := H
         obtain ⟨HGz46, hgz46⟩ := HI0.out
         have hcz46_0 := cellS59_0 HGz46
         have hcz46_1 := cellS59_1 HGz46
         have hfz46_0 := blk_frozen HGz46 0
         have hfz46_1 := blk_frozen HGz46 1
         clear HGz46 hgz46
         obtain ⟨Ao48, co48, eo48⟩ := Kd.R_slice HO_4.out
         subst eo48
         have q47 : (x5_1 : Int) ≤ ((x4_1.length : Int) : Int) := of_decide_eq_true ap0
         obtain ⟨i047, hi047, _, hsz47, _⟩ := info_parts info5
         have hroom47 : x4_1.length ≤ co48 := (Kd.R_reads' HO_4.out).2.1
         have hC47 : Kd.C (Kd.int .u8) _ Ao48 x4_1.length x4_1 := (Kd.R_reads' HO_4.out).2.2
         have hcut47 := cut_to (P := Tryd.prog) 72 5 .i64 Tryd.underlying72 hi047 Ao48 x4_1.length co48 x5_1 (of_decide_eq_true ap0) q47 hroom47
         have hr47 := Kd.C_take (m := (x5_1 : Int).toNat) hC47 (by omega)
         have hy47 : y303.length = (x5_1 : Int).toNat := (by rw [Ny303.out, List.length_take]; omega)
         rw [← Ny303.out] at hr47
         rw [← hy47] at hcut47
         have HR306 := Aside0.mk hr47
         have HC306 := Aside0.mk (show y303.length ≤ co48 from by omega)
         clear hr47 hC47 hroom47 hi047 hsz47
         have KY47 := Aside0.mk hy47
         clear hy47
         have KL47 := Aside0.mk (show (x5_1 : Int).toNat ≤ x4_1.length from by omega)
         replace q47 := eq_true q47
         have hcv49 := Kd.C_string (P := Tryd.prog) (A := Ao48) (c := co48) Tryd.underlying72 Tryd.underlying5 Tryd.underlying9 (apC HR306.out)
         have hcv49n := fun m_ => Kd.C_string (P := Tryd.prog) (A := Ao48) (c := co48) Tryd.underlying72 Tryd.underlying5 Tryd.underlying9 (Kd.C_drewN (apC HR306.out) m_)
         go_wp2
         repeat (go_quiet (fail); try go_wp2)
         go_ret2
         exact ⟨by first | rfl | (simp [errW_none, errW_some, bne_nil8, beq_nil8]; done) | (simp [errW_none, errW_some] <;> rfl) | (simp [*, errW_none, errW_some] <;> rfl), by repeat (first | (with_reducible first | exact HI0.out | apply IsS59.alloc | apply IsS59.drewN | apply IsS59.drew | apply IsS59.set_0 | apply IsS59.set_1) | exact HI0.out), by repeat (first | (with_reducible first | exact HB.out | apply below_alloc | apply pw_below_drewN | apply below_drew1 | refine below_set ?_ (IsS59.ge HI0.out)) | exact HB.out), by repeat (first | (with_reducible first | exact HK.out | apply KeepBut.set_ | apply keep_drewN | apply keep_drew | apply keep_alloc) | exact HK.out)⟩
        ·
         rw [if_neg c45] at H
         exact absurd H (by simp)
       ·
        rw [if_neg c44] at H
        exact absurd H (by simp)
  ·
   rw [if_neg c4] at H
   exact absurd H (by simp)
 ·
  rw [if_neg c3] at H
  exact absurd H (by simp)
mutual
def dn_Parse.l0 : Nat → ByteArray → List (List (S40)) → List (S40) → ByteArray → Int → Option ((List (List (S40))) × Int)
 | 0, _, _, _, _, _ => none
 | k + 1, x0, x5, x6, x322000, x322001 => (Dxkind.f k x322000 x322001).bind fun bt324 => (if bt324.2.1 = true then ((Dxvalue.f k bt324.2.2.1 bt324.2.2.2).bind fun bt328 => (if bt328.2.1 = true then (if x6.length < 4398046511104 then ((some (x6 ++ [(⟨bt324.1, bt328.1⟩ : S40)] : List (S40))).bind fun y332 => (if bt328.2.2.2 = (x0.size : Int) then (dn_Parse.j1 k x0 x5 y332 (bt328.2.2.2 == (x0.size : Int)) true bt328.2.2.1 bt328.2.2.2) else (if 0 ≤ bt328.2.2.2 then (if bt328.2.2.2 < (x0.size : Int) then (dn_Parse.j1 k x0 x5 y332 (bt328.2.2.2 == (x0.size : Int)) ((bt x0 bt328.2.2.2) != 43) bt328.2.2.1 bt328.2.2.2) else (none)) else (none)))) else (none)) else (some (([] : List (List (S40))), 4)))) else (some (([] : List (List (S40))), 4)))
def dn_Parse.j1 : Nat → ByteArray → List (List (S40)) → List (S40) → Bool → Bool → ByteArray → Int → Option ((List (List (S40))) × Int)
 | 0, _, _, _, _, _, _, _ => none
 | k + 1, x0, x5, x6, x10, x62, x322000, x322001 => if x62 = true then (if x5.length < 5864062014805 then ((some (x5 ++ [x6] : List (List (S40)))).bind fun y335 => (if x10 = true then ((dn_Right.f k y335).bind fun t338 => (if t338 = true then (some (y335, 0)) else (some (([] : List (List (S40))), 4)))) else (dn_Parse.l0 k x0 y335 ([] : List (S40)) x322000 (wrap64 (x322001 + 1))))) else (none)) else (if x10 = true then ((dn_Right.f k x5).bind fun t339 => (if t339 = true then (some (x5, 0)) else (some (([] : List (List (S40))), 4)))) else (dn_Parse.l0 k x0 x5 x6 x322000 (wrap64 (x322001 + 1))))
end
def dn_Parse.f (k : Nat) (a0 : ByteArray) : Option ((List (List (S40))) × Int) := if (a0.size : Int) > 1000 then (some (([] : List (List (S40))), 5)) else ((Dxblanks.f k a0 0).bind fun bt322 => (if bt322.2 = (a0.size : Int) then (some (([] : List (List (S40))), 0)) else (dn_Parse.l0 k a0 ([] : List (List (S40))) ([] : List (S40)) bt322.1 bt322.2)))
set_option maxHeartbeats 8000000 in
set_option maxRecDepth 100000 in
theorem dn_Parse.calls (k : Nat) (a0 : ByteArray) (r1 : List (List (S40))) (r2 : Int) (w : World) (hG : Gw w) (h : dn_Parse.f k a0 = some (r1, r2)) :
  Calls Tryd.prog 12 #[.string a0] w fun e w' => ∃ v0_ : Value, e = .returned (.tuple #[v0_, .int .i64 r2]) ∧ Kd.S (Kd.slice 40 k40) 37 w' w.heap.size (fun _ => True) v0_ r1 ∧ Below w.heap.size w w' := by
 have hu59 := Tryd.underlying59
 have hu40 := Tryd.underlying40
 have HB := Aside0.mk (Below.refl w.heap.size w)
 have HG := Aside0.mk hG
 clear hG
 have H : (if (a0.size : Int) > 1000 then (some (([] : List (List (S40))), 5)) else ((Dxblanks.f k a0 0).bind fun bt322 => (if bt322.2 = (a0.size : Int) then (some (([] : List (List (S40))), 0)) else (dn_Parse.l0 k a0 ([] : List (List (S40))) ([] : List (S40)) bt322.1 bt322.2)))) = some (r1, r2) := h
 clear h
 by_cases c2 : (a0.size : Int) > 1000
 ·
  rw [if_pos c2] at H
  have c2b0 := decide_eq_true c2
  have c2b1 : decide (1000 < a0.size) = true := decide_eq_true (by omega)
  clear c2
  simp only [Option.some.injEq, Prod.mk.injEq] at H
  obtain ⟨rfl, rfl⟩ := H
  go_enter Tryd.func12, Tryd.ntmps12
  go_wp2
  go_ret2
  exact ⟨_, by first | rfl | (simp [errW_none, errW_some, bne_nil8, beq_nil8]; done) | (simp [errW_none, errW_some] <;> rfl) | (simp [*, errW_none, errW_some] <;> rfl), by first | exact Kd.S_nil _ _ _ _ _ | exact Kd.N_nil _ _ _ _ _ | exact Kd.V_nil _ _ _ _ _ | exact Kd.Q_nil _ _ _ _ _ | exact Kd.R_nil _ _ _ _ _, by repeat (first | (with_reducible first | exact HB.out | apply below_alloc | apply pw_below_drewN | apply below_drew1) | exact HB.out)⟩
 ·
  rw [if_neg c2] at H
  have c2b0 := decide_eq_false c2
  have c2b1 : decide (1000 < a0.size) = false := decide_eq_false (by omega)
  clear c2
  replace H := Option.bind_eq_some_iff.mp H
  obtain ⟨⟨t322, t323⟩, A30, H⟩ := H
  replace H : (if t323 = (a0.size : Int) then (some (([] : List (List (S40))), 0)) else (dn_Parse.l0 k a0 ([] : List (List (S40))) ([] : List (S40)) t322 t323)) = some (r1, r2) := H
  have A3 := Aside0.mk A30
  clear A30
  by_cases c4 : t323 = (a0.size : Int)
  ·
   rw [if_pos c4] at H
   have c4b0 : (t323 == (a0.size : Int)) = true := beq_iff_eq.mpr c4
   have c4b1 : (t323 != (a0.size : Int)) = false := bne_eq_false_iff_eq.mpr c4
   clear c4
   simp only [Option.some.injEq, Prod.mk.injEq] at H
   obtain ⟨rfl, rfl⟩ := H
   go_enter Tryd.func12, Tryd.ntmps12
   go_wp2_with (first | ((with_reducible refine gate_dst (N := 16) rfl ?_); refine box_event ?hg (N := 16) ?hd (cs := #[.string a0, .int .i64 0]) (t := 59) ?hr ?_; (case hd => rfl); (case hg => rfl); (case hr => first | (go_simp; done) | (go_simp; rfl)); intro gb321 hg w5 hbox hb; have n0_ := Aside0.mk (below_step ap1 hb); have n1_ := Aside0.mk ((show IsS59 w w5 gb321 a0 0 from ⟨hbox, (by rw [hg]; exact (below_size ap1) : w.heap.size ≤ gb321)⟩)); have n2_ := Aside0.mk ((by rw [hg]; exact (below_size ap1) : w.heap.size ≤ gb321)); have n3_ := Aside0.mk ((by rw [hg]; exact (below_size ap1) : w.heap.size ≤ gb321)); clear HB; have HB := n0_; have HI321 := n1_; have GW321 := n2_; have GE321 := n3_; clear n0_ n1_ n2_ n3_; clear hb hbox hg) | ((with_reducible refine gate_callee (f := 33) rfl ?_); refine goesL_ (some 18) rfl rfl Tryd.func33 (by kernel_rfl) rfl #[.pointer (some ⟨gb321, 0, none⟩)] rfl ap3 ?_; (with_reducible refine (Dxblanks.calls k gb321 a0 0 t322 t323 w _ ?side1 ?side2 A3.out).mono ?_); (case side1 => exact apI59 HI321.out); (case side2 => exact apS59 HI321.out); rintro e w6 ⟨rfl, hi, hb, hk⟩; refine ⟨_, rfl, ?_⟩; have n0_ := Aside0.mk (hb); have n1_ := Aside0.mk (hi); clear HB; clear HI321; have HB := n0_; have HI321 := n1_; clear n0_ n1_; (try clear hb); (try clear hb2); (try clear hk); (try clear hi); obtain ⟨HGz7, hgz7⟩ := HI321.out; have hcz7_0 := cellS59_0 HGz7; have hcz7_1 := cellS59_1 HGz7; have hfz7_0 := blk_frozen HGz7 0; have hfz7_1 := blk_frozen HGz7 1; clear HGz7 hgz7))
   go_ret2
   exact ⟨_, by first | rfl | (simp [errW_none, errW_some, bne_nil8, beq_nil8]; done) | (simp [errW_none, errW_some] <;> rfl) | (simp [*, errW_none, errW_some] <;> rfl), by first | exact Kd.S_nil _ _ _ _ _ | exact Kd.N_nil _ _ _ _ _ | exact Kd.V_nil _ _ _ _ _ | exact Kd.Q_nil _ _ _ _ _ | exact Kd.R_nil _ _ _ _ _, by repeat (first | (with_reducible first | exact HB.out | apply below_alloc | apply pw_below_drewN | apply below_drew1 | refine below_set ?_ (IsS59.ge HI321.out)) | exact HB.out)⟩
  ·
   rw [if_neg c4] at H
   have c4b0 : (t323 == (a0.size : Int)) = false := beq_eq_false_iff_ne.mpr c4
   have c4b1 : (t323 != (a0.size : Int)) = true := bne_iff_ne.mpr c4
   have H' := Aside0.mk H
   clear H
   go_enter Tryd.func12, Tryd.ntmps12
   go_wp2_with (first | ((with_reducible refine gate_dst (N := 16) rfl ?_); refine box_event ?hg (N := 16) ?hd (cs := #[.string a0, .int .i64 0]) (t := 59) ?hr ?_; (case hd => rfl); (case hg => rfl); (case hr => first | (go_simp; done) | (go_simp; rfl)); intro gb321 hg w8 hbox hb; have n0_ := Aside0.mk (below_step ap1 hb); have n1_ := Aside0.mk ((show IsS59 w w8 gb321 a0 0 from ⟨hbox, (by rw [hg]; exact (below_size ap1) : w.heap.size ≤ gb321)⟩)); have n2_ := Aside0.mk ((by rw [hg]; exact (below_size ap1) : w.heap.size ≤ gb321)); have n3_ := Aside0.mk ((by rw [hg]; exact (below_size ap1) : w.heap.size ≤ gb321)); clear HB; have HB := n0_; have HI321 := n1_; have GW321 := n2_; have GE321 := n3_; clear n0_ n1_ n2_ n3_; clear hb hbox hg) | ((with_reducible refine gate_callee (f := 33) rfl ?_); refine goesL_ (some 18) rfl rfl Tryd.func33 (by kernel_rfl) rfl #[.pointer (some ⟨gb321, 0, none⟩)] rfl ap3 ?_; (with_reducible refine (Dxblanks.calls k gb321 a0 0 t322 t323 w _ ?side1 ?side2 A3.out).mono ?_); (case side1 => exact apI59 HI321.out); (case side2 => exact apS59 HI321.out); rintro e w9 ⟨rfl, hi, hb, hk⟩; refine ⟨_, rfl, ?_⟩; have n0_ := Aside0.mk (hb); have n1_ := Aside0.mk (hi); clear HB; clear HI321; have HB := n0_; have HI321 := n1_; clear n0_ n1_; (try clear hb); (try clear hb2); (try clear hk); (try clear hi); obtain ⟨HGz10, hgz10⟩ := HI321.out; have hcz10_0 := cellS59_0 HGz10; have hcz10_1 := cellS59_1 HGz10; have hfz10_0 := blk_frozen HGz10 0; have hfz10_1 := blk_frozen HGz10 1; clear HGz10 hgz10))
   go_loopg [5, 6] k (fun kq v5 v6 w' => ∃ (x5_1 : List (List (S40))) (x6_1 : List (S40)) (x322000_1 : ByteArray) (x322001_1 : Int), Aside0 (dn_Parse.l0 kq a0 x5_1 x6_1 x322000_1 x322001_1 = some (r1, r2)) ∧ Aside0 (kq ≤ k) ∧ Aside0 (Kd.S (Kd.slice 40 k40) 37 w' w.heap.size (fun k_ => some k_ ≠ (v6 : Value).ownBlock) v5 x5_1) ∧ Aside0 (Kd.R k40 40 w' w.heap.size (fun _ => True) v6 x6_1) ∧ Aside0 (IsS59 w w' gb321 x322000_1 x322001_1) ∧ Aside0 (Below w.heap.size w w'))
   case atStart => exact ⟨(([] : List (List (S40)))), (([] : List (S40))), (t322), (t323), H', ⟨Nat.le_refl _⟩, ⟨by first | exact Kd.S_nil _ _ _ _ _ | exact Kd.N_nil _ _ _ _ _ | exact Kd.V_nil _ _ _ _ _ | exact Kd.Q_nil _ _ _ _ _ | exact Kd.R_nil _ _ _ _ _⟩, ⟨by first | exact Kd.R_nil _ _ _ _ _ | exact Kd.N_nil _ _ _ _ _ | exact Kd.V_nil _ _ _ _ _ | exact Kd.Q_nil _ _ _ _ _ | exact Kd.S_nil _ _ _ _ _⟩, ⟨by repeat (first | (with_reducible first | exact HI321.out | apply IsS59.alloc | apply IsS59.drewN | apply IsS59.drew | apply IsS59.set_0 | apply IsS59.set_1) | exact HI321.out)⟩, ⟨by repeat (first | (with_reducible first | exact HB.out | apply below_alloc | apply pw_below_drewN | apply below_drew1 | refine below_set ?_ (IsS59.ge HI321.out)) | exact HB.out)⟩⟩
   case round =>
    clear H'
    try clear c1
    try clear c2
    try clear c2b0
    try clear c2b1
    try clear p2
    try clear c3
    try clear c4
    try clear c4b0
    try clear c4b1
    try clear hcz10_0
    try clear hcz10_1
    try clear hcz7_0
    try clear hcz7_1
    try clear hfz10_0
    try clear hfz10_1
    try clear hfz7_0
    try clear hfz7_1
    obtain ⟨x5_1, x6_1, x322000_1, x322001_1, HA, HK1, HO_5, HO_6, HI321, HB⟩ := hrel
    cases gk with
    | zero => exact absurd HA.out (by simp [dn_Parse.l0])
    | succ k1 =>
     have H := HA.out
     clear HA
     simp only [dn_Parse.l0] at H
     replace H := Option.bind_eq_some_iff.mp H
     obtain ⟨⟨t324, t325, t326, t327⟩, A110, H⟩ := H
     replace H : (if t325 = true then ((Dxvalue.f k1 t326 t327).bind fun bt328 => (if bt328.2.1 = true then (if x6_1.length < 4398046511104 then ((some (x6_1 ++ [(⟨t324, bt328.1⟩ : S40)] : List (S40))).bind fun y332 => (if bt328.2.2.2 = (a0.size : Int) then (dn_Parse.j1 k1 a0 x5_1 y332 (bt328.2.2.2 == (a0.size : Int)) true bt328.2.2.1 bt328.2.2.2) else (if 0 ≤ bt328.2.2.2 then (if bt328.2.2.2 < (a0.size : Int) then (dn_Parse.j1 k1 a0 x5_1 y332 (bt328.2.2.2 == (a0.size : Int)) ((bt a0 bt328.2.2.2) != 43) bt328.2.2.1 bt328.2.2.2) else (none)) else (none)))) else (none)) else (some (([] : List (List (S40))), 4)))) else (some (([] : List (List (S40))), 4))) = some (r1, r2) := H
     have A11 := Aside0.mk A110
     clear A110
     by_cases c12 : t325 = true
     ·
      subst c12
      rw [if_pos rfl] at H
      replace H := Option.bind_eq_some_iff.mp H
      obtain ⟨⟨t328, t329, t330, t331⟩, A130, H⟩ := H
      replace H : (if t329 = true then (if x6_1.length < 4398046511104 then ((some (x6_1 ++ [(⟨t324, t328⟩ : S40)] : List (S40))).bind fun y332 => (if t331 = (a0.size : Int) then (dn_Parse.j1 k1 a0 x5_1 y332 (t331 == (a0.size : Int)) true t330 t331) else (if 0 ≤ t331 then (if t331 < (a0.size : Int) then (dn_Parse.j1 k1 a0 x5_1 y332 (t331 == (a0.size : Int)) ((bt a0 t331) != 43) t330 t331) else (none)) else (none)))) else (none)) else (some (([] : List (List (S40))), 4))) = some (r1, r2) := H
      have A13 := Aside0.mk A130
      clear A130
      by_cases c14 : t329 = true
      ·
       subst c14
       rw [if_pos rfl] at H
       by_cases c15 : x6_1.length < 4398046511104
       ·
        rw [if_pos c15] at H
        have LMc15 := Aside0.mk c15
        clear c15
        obtain ⟨y332, hy332⟩ : ∃ y_ : List (S40), y_ = (x6_1 ++ [(⟨t324, t328⟩ : S40)]) := ⟨_, rfl⟩
        replace H : (if t331 = (a0.size : Int) then (dn_Parse.j1 k1 a0 x5_1 y332 (t331 == (a0.size : Int)) true t330 t331) else (if 0 ≤ t331 then (if t331 < (a0.size : Int) then (dn_Parse.j1 k1 a0 x5_1 y332 (t331 == (a0.size : Int)) ((bt a0 t331) != 43) t330 t331) else (none)) else (none))) = some (r1, r2) := by first | (rw [hy332]; with_reducible exact H) | (have H2_ := (Option.bind_some _ _).symm.trans H; rw [hy332]; with_reducible exact H2_) | (have H2_ := (Option.bind_some _ _).symm.trans H; with_reducible exact H2_) | with_reducible exact H | (rw [hy332]; exact H) | exact H
        have Ny332 := Aside0.mk hy332
        clear hy332
        have HC16 := Aside0.mk H
        clear H
        go_upto_region 17 with (first | ((with_reducible refine gate_callee (f := 34) rfl ?_); refine goesL_ (some 28) rfl rfl Tryd.func34 (by kernel_rfl) rfl #[.pointer (some ⟨gb321, 0, none⟩)] rfl ap3 ?_; (with_reducible refine (Dxkind.calls k1 gb321 x322000_1 x322001_1 t324 true t326 t327 w _ ?side1 ?side2 ?side3 A11.out).mono ?_); (case side1 => exact apI59 HI321.out); (case side2 => exact apS59 HI321.out); (case side3 => first | exact HG.out | (refine Gw.below HG.out ?_; repeat (first | (with_reducible first | exact HB.out | apply below_alloc | apply pw_below_drewN | apply below_drew1 | refine below_set ?_ (IsS59.ge HI321.out)) | exact HB.out))); rintro e w17 ⟨rfl, hi, hb, hk⟩; refine ⟨_, rfl, ?_⟩; have n0_ := Aside0.mk (Kd.S_mono (Kd.S_keep (IsS59.apartS (show IsS59 w _ gb321 x322000_1 x322001_1 from by repeat (first | (with_reducible first | exact HI321.out | apply IsS59.alloc | apply IsS59.drewN | apply IsS59.drew | apply IsS59.set_0 | apply IsS59.set_1) | exact HI321.out)) (apAS HO_5.out) (by decide)) hk (fun _ h => h.2)) (fun _ h => h.1)); have n1_ := Aside0.mk (Kd.R_mono (Kd.R_keep (IsS59.apart (show IsS59 w _ gb321 x322000_1 x322001_1 from by repeat (first | (with_reducible first | exact HI321.out | apply IsS59.alloc | apply IsS59.drewN | apply IsS59.drew | apply IsS59.set_0 | apply IsS59.set_1) | exact HI321.out)) (apAR HO_6.out) (by decide)) hk (fun _ h => h.2)) (fun _ h => h.1)); have n2_ := Aside0.mk (hb); have n3_ := Aside0.mk (hi); clear HO_5; clear HO_6; clear HB; clear HI321; have HO_5 := n0_; have HO_6 := n1_; have HB := n2_; have HI321 := n3_; clear n0_ n1_ n2_ n3_; (try clear hb); (try clear hb2); (try clear hk); (try clear hi)) | ((with_reducible refine gate_callee (f := 35) rfl ?_); refine goesL_ (some 35) rfl rfl Tryd.func35 (by kernel_rfl) rfl #[.pointer (some ⟨gb321, 0, none⟩)] rfl ap3 ?_; (with_reducible refine (Dxvalue.calls k1 gb321 t326 t327 t328 true t330 t331 w _ ?side1 ?side2 A13.out).mono ?_); (case side1 => exact apI59 HI321.out); (case side2 => exact apS59 HI321.out); rintro e w18 ⟨rfl, hi, hb, hk⟩; refine ⟨_, rfl, ?_⟩; have n0_ := Aside0.mk (Kd.S_mono (Kd.S_keep (IsS59.apartS (show IsS59 w _ gb321 t326 t327 from by repeat (first | (with_reducible first | exact HI321.out | apply IsS59.alloc | apply IsS59.drewN | apply IsS59.drew | apply IsS59.set_0 | apply IsS59.set_1) | exact HI321.out)) (apAS HO_5.out) (by decide)) hk (fun _ h => h.2)) (fun _ h => h.1)); have n1_ := Aside0.mk (Kd.R_mono (Kd.R_keep (IsS59.apart (show IsS59 w _ gb321 t326 t327 from by repeat (first | (with_reducible first | exact HI321.out | apply IsS59.alloc | apply IsS59.drewN | apply IsS59.drew | apply IsS59.set_0 | apply IsS59.set_1) | exact HI321.out)) (apAR HO_6.out) (by decide)) hk (fun _ h => h.2)) (fun _ h => h.1)); have n2_ := Aside0.mk (hb); have n3_ := Aside0.mk (hi); clear HO_5; clear HO_6; clear HB; clear HI321; have HO_5 := n0_; have HO_6 := n1_; have HB := n2_; have HI321 := n3_; clear n0_ n1_ n2_ n3_; (try clear hb); (try clear hb2); (try clear hk); (try clear hi)) | ((with_reducible refine gate_builtin (b := .append) (xs := #[.tmp 40, .tmp 44]) rfl ?_); at_builtin; refine Kd.R_append k40 (w0 := w) w.heap.size rfl (.tmp 40) (.tmp 44) 37 40 (.agg #[(.string ⟨#[]⟩), (.string ⟨#[]⟩)]) 32 rfl Tryd.underlying37 info40 rfl (by decide) (by omega) u6 x6_1 (⟨t324, t328⟩ : S40) [.string t324, .string t328] (fun _ => True) (fun _ => False) rfl rfl ?aP (fun _ hk => hk.elim) ?aF ?aO ?aB ?aS ?aL ?_; (case aP => exact k40_mkM _ _ _ (⟨t324, t328⟩ : S40)); (case aB => exact (apS59 HI321.out)); (case aF => exact (fun _ _ => trivial)); (case aO => exact (apAR HO_6.out)); (case aS => exact (below_size (apS59 HI321.out))); (case aL => have := LMc15.out; omega); intro v333 w19 ho hb hg hat; rw [← Ny332.out] at ho; have n0_ := Aside0.mk (Kd.S_after (ok := (fun _ => True)) (by (with_reducible repeat (first | apply Kd.S_alloc | apply Kd.S_drewN | apply Kd.S_drew)); exact Kd.S_mono HO_5.out (fun _ hk => ⟨trivial, hk⟩)) hg hat); have n1_ := Aside0.mk (IsS59.grown (apI59 HI321.out) hg (IsS59.own_ne HI321.out HO_6.out (by decide))); have n2_ := Aside0.mk (hb); have n3_ := Aside0.mk (ho); clear HO_5; clear HI321; clear HB; clear HO_6; have HO_5 := n0_; have HI321 := n1_; have HB := n2_; have HO334 := n3_; clear n0_ n1_ n2_ n3_; clear ho hb hg hat; obtain ⟨HGz20, hgz20⟩ := HI321.out; have hcz20_0 := cellS59_0 HGz20; have hcz20_1 := cellS59_1 HGz20; have hfz20_0 := blk_frozen HGz20 0; have hfz20_1 := blk_frozen HGz20 1; clear HGz20 hgz20))
        (try simp only [Act.put, List.setIfInBounds_toArray, List.set_cons_zero, List.set_cons_succ])
        go_cut [62] (fun v62 wc => ∃ (kq : Nat) (x62_15 : Bool), v62 = .bool x62_15 ∧ Aside0 (dn_Parse.j1 kq a0 x5_1 y332 (t331 == (a0.size : Int)) x62_15 t330 t331 = some (r1, r2)) ∧ Aside0 (kq ≤ k1) ∧ Aside0 (Kd.S (Kd.slice 40 k40) 37 wc w.heap.size (fun k_ => some k_ ≠ (v333 : Value).ownBlock) u5 x5_1) ∧ Aside0 (Kd.R k40 40 wc w.heap.size (fun _ => True) v333 y332) ∧ Aside0 (IsS59 w wc gb321 t330 t331) ∧ Aside0 (Below w.heap.size w wc))
        case first =>
         have H := HC16.out
         clear HC16
         by_cases c21 : t331 = (a0.size : Int)
         ·
          rw [if_pos c21] at H
          have c21b0 : (t331 == (a0.size : Int)) = true := beq_iff_eq.mpr c21
          have c21b1 : (t331 != (a0.size : Int)) = false := bne_eq_false_iff_eq.mpr c21
          clear c21
          (first | rw [c21b0] | (simp only [i64_w, i32_w]; rw [c21b0]) | skip)
          have H' := Aside0.mk H
          clear H
          go_wp2
          first | go_meet | (simp only [c21b0] at *; go_meet) | (simp only [c4b0] at *; go_meet) | (simp only [c4b0] at *; go_meet)
          case rel => exact ⟨_, (true), ap2, H', ⟨by have := HK1.out; first | omega | exact Nat.le_refl _⟩, ⟨by (with_reducible repeat (first | apply Kd.S_alloc | apply Kd.S_drewN | apply Kd.S_drew)); exact Kd.S_mono HO_5.out (fun _ hk => hk.2)⟩, ⟨by (with_reducible repeat (first | apply Kd.R_alloc | apply Kd.R_drewN | apply Kd.R_drew)); exact HO334.out⟩, ⟨by repeat (first | (with_reducible first | exact HI321.out | apply IsS59.alloc | apply IsS59.drewN | apply IsS59.drew | apply IsS59.set_0 | apply IsS59.set_1) | exact HI321.out)⟩, ⟨by repeat (first | (with_reducible first | exact HB.out | apply below_alloc | apply pw_below_drewN | apply below_drew1 | refine below_set ?_ (IsS59.ge HI321.out)) | exact HB.out)⟩⟩
         ·
          rw [if_neg c21] at H
          have c21b0 : (t331 == (a0.size : Int)) = false := beq_eq_false_iff_ne.mpr c21
          have c21b1 : (t331 != (a0.size : Int)) = true := bne_iff_ne.mpr c21
          (first | rw [c21b0] | (simp only [i64_w, i32_w]; rw [c21b0]) | skip)
          by_cases c22 : 0 ≤ t331
          ·
           rw [if_pos c22] at H
           have c22b0 := decide_eq_true c22
           clear c22
           by_cases c23 : t331 < (a0.size : Int)
           ·
            rw [if_pos c23] at H
            have c23b0 := decide_eq_true c23
            clear c23
            have H' := Aside0.mk H
            clear H
            obtain ⟨HGz25, hgz25⟩ := HI321.out
            have hcz25_0 := cellS59_0 HGz25
            have hcz25_1 := cellS59_1 HGz25
            have hfz25_0 := blk_frozen HGz25 0
            have hfz25_1 := blk_frozen HGz25 1
            clear HGz25 hgz25
            have p24 : 0 ≤ (t331 : Int) := of_decide_eq_true ap0
            have q24 : t331 < (a0.size : Int) := of_decide_eq_true ap0
            have hx24 := bt_at a0 t331
            replace p24 := eq_true p24
            replace q24 := eq_true q24
            go_wp2
            first | go_meet | (simp only [c21b0] at *; go_meet) | (simp only [c21b0] at *; go_meet) | (simp only [c4b0] at *; go_meet)
            case rel => exact ⟨_, (((bt a0 t331) != 43)), ap2, H', ⟨by have := HK1.out; first | omega | exact Nat.le_refl _⟩, ⟨by (with_reducible repeat (first | apply Kd.S_alloc | apply Kd.S_drewN | apply Kd.S_drew)); exact Kd.S_mono HO_5.out (fun _ hk => hk.2)⟩, ⟨by (with_reducible repeat (first | apply Kd.R_alloc | apply Kd.R_drewN | apply Kd.R_drew)); exact HO334.out⟩, ⟨by repeat (first | (with_reducible first | exact HI321.out | apply IsS59.alloc | apply IsS59.drewN | apply IsS59.drew | apply IsS59.set_0 | apply IsS59.set_1) | exact HI321.out)⟩, ⟨by repeat (first | (with_reducible first | exact HB.out | apply below_alloc | apply pw_below_drewN | apply below_drew1 | refine below_set ?_ (IsS59.ge HI321.out)) | exact HB.out)⟩⟩
           ·
            rw [if_neg c23] at H
            exact absurd H (by simp)
          ·
           rw [if_neg c22] at H
           exact absurd H (by simp)
        case rest =>
         clear HC16
         try clear c1
         try clear c2
         try clear c2b0
         try clear c2b1
         try clear p2
         try clear q2
         try clear hx2
         try clear c3
         try clear c4
         try clear c4b0
         try clear c4b1
         try clear c12
         try clear c14
         try clear c15
         try clear c21
         try clear c21b0
         try clear c21b1
         try clear c22
         try clear c22b0
         try clear c23
         try clear c23b0
         try clear p24
         try clear q24
         try clear hx24
         try clear hcz10_0
         try clear hcz10_1
         try clear hcz20_0
         try clear hcz20_1
         try clear hcz25_0
         try clear hcz25_1
         try clear hcz7_0
         try clear hcz7_1
         try clear hfz10_0
         try clear hfz10_1
         try clear hfz20_0
         try clear hfz20_1
         try clear hfz25_0
         try clear hfz25_1
         try clear hfz7_0
         try clear hfz7_1
         try clear p2
         try clear p24
         try clear q24
         obtain ⟨kq, x62_15, rfl, HA, HJ15, HO_5, HO_6, HI321, HB⟩ := hcut
         cases kq with
         | zero => exact absurd HA.out (by simp [dn_Parse.j1])
         | succ kj15 =>
          have H := HA.out
          clear HA
          simp only [dn_Parse.j1] at H
          by_cases c26 : x62_15 = true
          ·
           subst c26
           rw [if_pos rfl] at H
           by_cases c27 : x5_1.length < 5864062014805
           ·
            rw [if_pos c27] at H
            have LMc27 := Aside0.mk c27
            clear c27
            obtain ⟨y335, hy335⟩ : ∃ y_ : List (List (S40)), y_ = (x5_1 ++ [y332]) := ⟨_, rfl⟩
            replace H : (if (t331 == (a0.size : Int)) = true then ((dn_Right.f kj15 y335).bind fun t338 => (if t338 = true then (some (y335, 0)) else (some (([] : List (List (S40))), 4)))) else (dn_Parse.l0 kj15 a0 y335 ([] : List (S40)) t330 (wrap64 (t331 + 1)))) = some (r1, r2) := by first | (rw [hy335]; with_reducible exact H) | (have H2_ := (Option.bind_some _ _).symm.trans H; rw [hy335]; with_reducible exact H2_) | (have H2_ := (Option.bind_some _ _).symm.trans H; with_reducible exact H2_) | with_reducible exact H | (rw [hy335]; exact H) | exact H
            have Ny335 := Aside0.mk hy335
            clear hy335
            by_cases c28 : (t331 == (a0.size : Int)) = true
            ·
             rw [if_pos c28] at H
             have c28b0 : (t331 == (a0.size : Int)) = true := c28
             (try (have c28b1 : decide (t331 = (a0.size : Int)) = true := by simpa using c28))
             (try (have c28b2 : (t331 == (a0.size : Int)) = true := by simpa using c28))
             clear c28
             replace H := Option.bind_eq_some_iff.mp H
             obtain ⟨t338, A290, H⟩ := H
             replace H : (if t338 = true then (some (y335, 0)) else (some (([] : List (List (S40))), 4))) = some (r1, r2) := H
             have A29 := Aside0.mk A290
             clear A290
             by_cases c30 : t338 = true
             ·
              subst c30
              rw [if_pos rfl] at H
              simp only [Option.some.injEq, Prod.mk.injEq] at H
              obtain ⟨rfl, rfl⟩ := H
              obtain ⟨Ao32, co32, eo32⟩ := Kd.R_slice HO_6.out
              subst eo32
              go_wp2_with (first | ((with_reducible refine gate_builtin (b := .append) (xs := #[.tmp 63, .tmp 65]) rfl ?_); at_builtin; refine Kd.S_append (Kd.slice 40 k40) (w0 := w) w.heap.size rfl (.tmp 63) (.tmp 65) 29 37 (.slice none 0 0) 24 rfl Tryd.underlying29 info37 rfl (by decide) (by omega) u5 x5_1 y332 [.slice Ao32 y332.length co32] (fun _ => True) (fun k_ => some k_ = (.slice Ao32 y332.length co32 : Value).ownBlock) rfl rfl ?aP (fun k_ hk_ => ((Kd.R_mono (ok' := fun k_ => ((fun _ => True)) k_ ∧ some k_ ≠ (u5 : Value).ownBlock) (Kd.R_apart' (HO_6.out) (Kd.S_typed HO_5.out) (by decide)) (fun k_ hk => ⟨trivial, hk.2⟩))).1 k_ hk_.symm) ?aF ?aO ?aB ?aS ?aL ?_; (case aP => exact Kd.M_row (Kd.R_mono (Kd.R_tight rfl (Kd.R_mono (ok' := fun k_ => ((fun _ => True)) k_ ∧ some k_ ≠ (u5 : Value).ownBlock) (Kd.R_apart' (HO_6.out) (Kd.S_typed HO_5.out) (by decide)) (fun k_ hk => ⟨trivial, hk.2⟩))) (fun _ h_ => h_))); (case aB => exact (apS59 HI321.out)); (case aF => exact (fun _ _ => trivial)); (case aO => exact (by (with_reducible repeat (first | apply Kd.S_alloc | apply Kd.S_drewN | apply Kd.S_drew)); exact Kd.S_mono HO_5.out (fun k_ hk => ⟨trivial, fun e_ => hk e_⟩))); (case aS => exact (below_size (apS59 HI321.out))); (case aL => have := LMc27.out; omega); intro v336 w31 ho hb hg hat; rw [← Ny335.out] at ho; have n0_ := Aside0.mk (IsS59.grown (apI59 HI321.out) hg (IsS59.own_neS HI321.out HO_5.out (by decide))); have n1_ := Aside0.mk (hb); have n2_ := Aside0.mk (ho); clear HI321; clear HB; clear HO_5; clear HO_6; have HI321 := n0_; have HB := n1_; have HO337 := n2_; clear n0_ n1_ n2_; clear ho hb hg hat; obtain ⟨Ao33, co33, eo33⟩ := Kd.S_slice HO337.out; subst eo33) | ((with_reducible refine gate_callee (f := 18) rfl ?_); refine goesL_ (some 76) rfl rfl Tryd.func18 (by kernel_rfl) rfl #[.slice Ao33 y335.length co33] rfl ap3 ?_; (with_reducible refine (dn_Right.calls kj15 _ _ y335 true _ ?side1 ?side2 ?side3 A29.out).mono ?_); (case side1 => repeat (first | exact (Kd.S_reads' HO337.out).2.2 | (with_reducible refine Kd.C_alloc ?_ _) | (with_reducible refine Kd.C_drewN ?_ _) | (with_reducible refine Kd.C_drew ?_))); (case side2 => exact (Kd.S_reads' HO337.out).2.1); (case side3 => first | exact HG.out | (refine Gw.below HG.out ?_; repeat (first | (with_reducible first | exact HB.out | apply below_alloc | apply pw_below_drewN | apply below_drew1 | refine below_set ?_ (IsS59.ge HI321.out)) | exact HB.out))); rintro e w34 ⟨rfl, hb⟩; refine ⟨_, rfl, ?_⟩; have n0_ := Aside0.mk (Kd.S_below (apAS HO337.out) hb); have n1_ := Aside0.mk (IsS59.below (apI59 HI321.out) hb); have n2_ := Aside0.mk (below_step (apS59 HI321.out) hb); clear HO337; clear HI321; clear HB; have HO337 := n0_; have HI321 := n1_; have HB := n2_; clear n0_ n1_ n2_; (try clear hb); (try clear hb2); (try clear hk); (try clear hi)))
              go_ret2
              exact ⟨_, by first | rfl | (simp [errW_none, errW_some, bne_nil8, beq_nil8]; done) | (simp [errW_none, errW_some] <;> rfl) | (simp [*, errW_none, errW_some] <;> rfl), by (with_reducible repeat (first | apply Kd.S_alloc | apply Kd.S_drewN | apply Kd.S_drew)); exact HO337.out, by repeat (first | (with_reducible first | exact HB.out | apply below_alloc | apply pw_below_drewN | apply below_drew1 | refine below_set ?_ (IsS59.ge HI321.out)) | exact HB.out)⟩
             ·
              replace c30 := Bool.eq_false_iff.mpr c30
              subst c30
              rw [if_neg (show ¬ (false = true) by decide)] at H
              simp only [Option.some.injEq, Prod.mk.injEq] at H
              obtain ⟨rfl, rfl⟩ := H
              obtain ⟨Ao36, co36, eo36⟩ := Kd.R_slice HO_6.out
              subst eo36
              go_wp2_with (first | ((with_reducible refine gate_builtin (b := .append) (xs := #[.tmp 63, .tmp 65]) rfl ?_); at_builtin; refine Kd.S_append (Kd.slice 40 k40) (w0 := w) w.heap.size rfl (.tmp 63) (.tmp 65) 29 37 (.slice none 0 0) 24 rfl Tryd.underlying29 info37 rfl (by decide) (by omega) u5 x5_1 y332 [.slice Ao36 y332.length co36] (fun _ => True) (fun k_ => some k_ = (.slice Ao36 y332.length co36 : Value).ownBlock) rfl rfl ?aP (fun k_ hk_ => ((Kd.R_mono (ok' := fun k_ => ((fun _ => True)) k_ ∧ some k_ ≠ (u5 : Value).ownBlock) (Kd.R_apart' (HO_6.out) (Kd.S_typed HO_5.out) (by decide)) (fun k_ hk => ⟨trivial, hk.2⟩))).1 k_ hk_.symm) ?aF ?aO ?aB ?aS ?aL ?_; (case aP => exact Kd.M_row (Kd.R_mono (Kd.R_tight rfl (Kd.R_mono (ok' := fun k_ => ((fun _ => True)) k_ ∧ some k_ ≠ (u5 : Value).ownBlock) (Kd.R_apart' (HO_6.out) (Kd.S_typed HO_5.out) (by decide)) (fun k_ hk => ⟨trivial, hk.2⟩))) (fun _ h_ => h_))); (case aB => exact (apS59 HI321.out)); (case aF => exact (fun _ _ => trivial)); (case aO => exact (by (with_reducible repeat (first | apply Kd.S_alloc | apply Kd.S_drewN | apply Kd.S_drew)); exact Kd.S_mono HO_5.out (fun k_ hk => ⟨trivial, fun e_ => hk e_⟩))); (case aS => exact (below_size (apS59 HI321.out))); (case aL => have := LMc27.out; omega); intro v336 w35 ho hb hg hat; rw [← Ny335.out] at ho; have n0_ := Aside0.mk (IsS59.grown (apI59 HI321.out) hg (IsS59.own_neS HI321.out HO_5.out (by decide))); have n1_ := Aside0.mk (hb); have n2_ := Aside0.mk (ho); clear HI321; clear HB; clear HO_5; clear HO_6; have HI321 := n0_; have HB := n1_; have HO337 := n2_; clear n0_ n1_ n2_; clear ho hb hg hat; obtain ⟨Ao37, co37, eo37⟩ := Kd.S_slice HO337.out; subst eo37) | ((with_reducible refine gate_callee (f := 18) rfl ?_); refine goesL_ (some 76) rfl rfl Tryd.func18 (by kernel_rfl) rfl #[.slice Ao37 y335.length co37] rfl ap3 ?_; (with_reducible refine (dn_Right.calls kj15 _ _ y335 false _ ?side1 ?side2 ?side3 A29.out).mono ?_); (case side1 => repeat (first | exact (Kd.S_reads' HO337.out).2.2 | (with_reducible refine Kd.C_alloc ?_ _) | (with_reducible refine Kd.C_drewN ?_ _) | (with_reducible refine Kd.C_drew ?_))); (case side2 => exact (Kd.S_reads' HO337.out).2.1); (case side3 => first | exact HG.out | (refine Gw.below HG.out ?_; repeat (first | (with_reducible first | exact HB.out | apply below_alloc | apply pw_below_drewN | apply below_drew1 | refine below_set ?_ (IsS59.ge HI321.out)) | exact HB.out))); rintro e w38 ⟨rfl, hb⟩; refine ⟨_, rfl, ?_⟩; have n0_ := Aside0.mk (Kd.S_below (apAS HO337.out) hb); have n1_ := Aside0.mk (IsS59.below (apI59 HI321.out) hb); have n2_ := Aside0.mk (below_step (apS59 HI321.out) hb); clear HO337; clear HI321; clear HB; have HO337 := n0_; have HI321 := n1_; have HB := n2_; clear n0_ n1_ n2_; (try clear hb); (try clear hb2); (try clear hk); (try clear hi)))
              go_ret2
              exact ⟨_, by first | rfl | (simp [errW_none, errW_some, bne_nil8, beq_nil8]; done) | (simp [errW_none, errW_some] <;> rfl) | (simp [*, errW_none, errW_some] <;> rfl), by first | exact Kd.S_nil _ _ _ _ _ | exact Kd.N_nil _ _ _ _ _ | exact Kd.V_nil _ _ _ _ _ | exact Kd.Q_nil _ _ _ _ _ | exact Kd.R_nil _ _ _ _ _, by repeat (first | (with_reducible first | exact HB.out | apply below_alloc | apply pw_below_drewN | apply below_drew1 | refine below_set ?_ (IsS59.ge HI321.out)) | exact HB.out)⟩
            ·
             rw [if_neg c28] at H
             have c28b0 : (t331 == (a0.size : Int)) = false := by simpa using c28
             (try (have c28b1 : decide (t331 = (a0.size : Int)) = false := by simpa using c28))
             (try (have c28b2 : (t331 == (a0.size : Int)) = false := by simpa using c28))
             (try (have c28b3 : ¬ (t331 = (a0.size : Int)) := by simpa using c28))
             clear c28
             have H' := Aside0.mk H
             clear H
             obtain ⟨Ao40, co40, eo40⟩ := Kd.R_slice HO_6.out
             subst eo40
             go_wp2_with (first | ((with_reducible refine gate_builtin (b := .append) (xs := #[.tmp 63, .tmp 65]) rfl ?_); at_builtin; refine Kd.S_append (Kd.slice 40 k40) (w0 := w) w.heap.size rfl (.tmp 63) (.tmp 65) 29 37 (.slice none 0 0) 24 rfl Tryd.underlying29 info37 rfl (by decide) (by omega) u5 x5_1 y332 [.slice Ao40 y332.length co40] (fun _ => True) (fun k_ => some k_ = (.slice Ao40 y332.length co40 : Value).ownBlock) rfl rfl ?aP (fun k_ hk_ => ((Kd.R_mono (ok' := fun k_ => ((fun _ => True)) k_ ∧ some k_ ≠ (u5 : Value).ownBlock) (Kd.R_apart' (HO_6.out) (Kd.S_typed HO_5.out) (by decide)) (fun k_ hk => ⟨trivial, hk.2⟩))).1 k_ hk_.symm) ?aF ?aO ?aB ?aS ?aL ?_; (case aP => exact Kd.M_row (Kd.R_mono (Kd.R_tight rfl (Kd.R_mono (ok' := fun k_ => ((fun _ => True)) k_ ∧ some k_ ≠ (u5 : Value).ownBlock) (Kd.R_apart' (HO_6.out) (Kd.S_typed HO_5.out) (by decide)) (fun k_ hk => ⟨trivial, hk.2⟩))) (fun _ h_ => h_))); (case aB => exact (apS59 HI321.out)); (case aF => exact (fun _ _ => trivial)); (case aO => exact (by (with_reducible repeat (first | apply Kd.S_alloc | apply Kd.S_drewN | apply Kd.S_drew)); exact Kd.S_mono HO_5.out (fun k_ hk => ⟨trivial, fun e_ => hk e_⟩))); (case aS => exact (below_size (apS59 HI321.out))); (case aL => have := LMc27.out; omega); intro v336 w39 ho hb hg hat; rw [← Ny335.out] at ho; have n0_ := Aside0.mk (IsS59.grown (apI59 HI321.out) hg (IsS59.own_neS HI321.out HO_5.out (by decide))); have n1_ := Aside0.mk (hb); have n2_ := Aside0.mk (ho); clear HI321; clear HB; clear HO_5; clear HO_6; have HI321 := n0_; have HB := n1_; have HO337 := n2_; clear n0_ n1_ n2_; clear ho hb hg hat; obtain ⟨HGz41, hgz41⟩ := HI321.out; have hcz41_0 := cellS59_0 HGz41; have hcz41_1 := cellS59_1 HGz41; have hfz41_0 := blk_frozen HGz41 0; have hfz41_1 := blk_frozen HGz41 1; clear HGz41 hgz41))
             go_roundg kj15
             case measure => have := HK1.out; have := HJ15.out; omega
             case rel => exact ⟨(y335), (([] : List (S40))), (t330), (wrap64 (t331 + 1)), H', ⟨by have := HK1.out; have := HJ15.out; omega⟩, ⟨by (with_reducible repeat (first | apply Kd.S_alloc | apply Kd.S_drewN | apply Kd.S_drew)); exact Kd.S_mono (Kd.S_far (p := ⟨gb321, 1, none⟩) (IsS59.apartS HI321.out HO337.out (by decide)) (fun _ hk => hk.2) (.int .i64 (wrap64 (t331 + 1)))) (fun _ hk => (by simp [Value.ownBlock]))⟩, ⟨by first | exact Kd.R_nil _ _ _ _ _ | exact Kd.N_nil _ _ _ _ _ | exact Kd.V_nil _ _ _ _ _ | exact Kd.Q_nil _ _ _ _ _ | exact Kd.S_nil _ _ _ _ _⟩, ⟨by repeat (first | (with_reducible first | exact HI321.out | apply IsS59.alloc | apply IsS59.drewN | apply IsS59.drew | apply IsS59.set_0 | apply IsS59.set_1) | exact HI321.out)⟩, ⟨by repeat (first | (with_reducible first | exact HB.out | apply below_alloc | apply pw_below_drewN | apply below_drew1 | refine below_set ?_ (IsS59.ge HI321.out)) | exact HB.out)⟩⟩
           ·
            rw [if_neg c27] at H
            exact absurd H (by simp)
          ·
           replace c26 := Bool.eq_false_iff.mpr c26
           subst c26
           rw [if_neg (show ¬ (false = true) by decide)] at H
           by_cases c42 : (t331 == (a0.size : Int)) = true
           ·
            rw [if_pos c42] at H
            have c42b0 : (t331 == (a0.size : Int)) = true := c42
            (try (have c42b1 : decide (t331 = (a0.size : Int)) = true := by simpa using c42))
            (try (have c42b2 : (t331 == (a0.size : Int)) = true := by simpa using c42))
            clear c42
            replace H := Option.bind_eq_some_iff.mp H
            obtain ⟨t339, A430, H⟩ := H
            replace H : (if t339 = true then (some (x5_1, 0)) else (some (([] : List (List (S40))), 4))) = some (r1, r2) := H
            have A43 := Aside0.mk A430
            clear A430
            by_cases c44 : t339 = true
            ·
             subst c44
             rw [if_pos rfl] at H
             simp only [Option.some.injEq, Prod.mk.injEq] at H
             obtain ⟨rfl, rfl⟩ := H
             obtain ⟨Ao45, co45, eo45⟩ := Kd.S_slice HO_5.out
             subst eo45
             go_wp2_with (first | ((with_reducible refine gate_callee (f := 18) rfl ?_); refine goesL_ (some 76) rfl rfl Tryd.func18 (by kernel_rfl) rfl #[.slice Ao45 x5_1.length co45] rfl ap3 ?_; (with_reducible refine (dn_Right.calls kj15 _ _ x5_1 true _ ?side1 ?side2 ?side3 A43.out).mono ?_); (case side1 => repeat (first | exact (Kd.S_reads' HO_5.out).2.2 | (with_reducible refine Kd.C_alloc ?_ _) | (with_reducible refine Kd.C_drewN ?_ _) | (with_reducible refine Kd.C_drew ?_))); (case side2 => exact (Kd.S_reads' HO_5.out).2.1); (case side3 => first | exact HG.out | (refine Gw.below HG.out ?_; repeat (first | (with_reducible first | exact HB.out | apply below_alloc | apply pw_below_drewN | apply below_drew1 | refine below_set ?_ (IsS59.ge HI321.out)) | exact HB.out))); rintro e w46 ⟨rfl, hb⟩; refine ⟨_, rfl, ?_⟩; have n0_ := Aside0.mk (Kd.S_below (apAS HO_5.out) hb); have n1_ := Aside0.mk (Kd.R_below (apAR HO_6.out) hb); have n2_ := Aside0.mk (IsS59.below (apI59 HI321.out) hb); have n3_ := Aside0.mk (below_step (apS59 HI321.out) hb); clear HO_5; clear HO_6; clear HI321; clear HB; have HO_5 := n0_; have HO_6 := n1_; have HI321 := n2_; have HB := n3_; clear n0_ n1_ n2_ n3_; (try clear hb); (try clear hb2); (try clear hk); (try clear hi)))
             go_ret2
             exact ⟨_, by first | rfl | (simp [errW_none, errW_some, bne_nil8, beq_nil8]; done) | (simp [errW_none, errW_some] <;> rfl) | (simp [*, errW_none, errW_some] <;> rfl), by (with_reducible repeat (first | apply Kd.S_alloc | apply Kd.S_drewN | apply Kd.S_drew)); exact Kd.S_mono HO_5.out (fun _ hk => trivial), by repeat (first | (with_reducible first | exact HB.out | apply below_alloc | apply pw_below_drewN | apply below_drew1 | refine below_set ?_ (IsS59.ge HI321.out)) | exact HB.out)⟩
            ·
             replace c44 := Bool.eq_false_iff.mpr c44
             subst c44
             rw [if_neg (show ¬ (false = true) by decide)] at H
             simp only [Option.some.injEq, Prod.mk.injEq] at H
             obtain ⟨rfl, rfl⟩ := H
             obtain ⟨Ao47, co47, eo47⟩ := Kd.S_slice HO_5.out
             subst eo47
             go_wp2_with (first | ((with_reducible refine gate_callee (f := 18) rfl ?_); refine goesL_ (some 76) rfl rfl Tryd.func18 (by kernel_rfl) rfl #[.slice Ao47 x5_1.length co47] rfl ap3 ?_; (with_reducible refine (dn_Right.calls kj15 _ _ x5_1 false _ ?side1 ?side2 ?side3 A43.out).mono ?_); (case side1 => repeat (first | exact (Kd.S_reads' HO_5.out).2.2 | (with_reducible refine Kd.C_alloc ?_ _) | (with_reducible refine Kd.C_drewN ?_ _) | (with_reducible refine Kd.C_drew ?_))); (case side2 => exact (Kd.S_reads' HO_5.out).2.1); (case side3 => first | exact HG.out | (refine Gw.below HG.out ?_; repeat (first | (with_reducible first | exact HB.out | apply below_alloc | apply pw_below_drewN | apply below_drew1 | refine below_set ?_ (IsS59.ge HI321.out)) | exact HB.out))); rintro e w48 ⟨rfl, hb⟩; refine ⟨_, rfl, ?_⟩; have n0_ := Aside0.mk (Kd.S_below (apAS HO_5.out) hb); have n1_ := Aside0.mk (Kd.R_below (apAR HO_6.out) hb); have n2_ := Aside0.mk (IsS59.below (apI59 HI321.out) hb); have n3_ := Aside0.mk (below_step (apS59 HI321.out) hb); clear HO_5; clear HO_6; clear HI321; clear HB; have HO_5 := n0_; have HO_6 := n1_; have HI321 := n2_; have HB := n3_; clear n0_ n1_ n2_ n3_; (try clear hb); (try clear hb2); (try clear hk); (try clear hi)))
             go_ret2
             exact ⟨_, by first | rfl | (simp [errW_none, errW_some, bne_nil8, beq_nil8]; done) | (simp [errW_none, errW_some] <;> rfl) | (simp [*, errW_none, errW_some] <;> rfl), by first | exact Kd.S_nil _ _ _ _ _ | exact Kd.N_nil _ _ _ _ _ | exact Kd.V_nil _ _ _ _ _ | exact Kd.Q_nil _ _ _ _ _ | exact Kd.R_nil _ _ _ _ _, by repeat (first | (with_reducible first | exact HB.out | apply below_alloc | apply pw_below_drewN | apply below_drew1 | refine below_set ?_ (IsS59.ge HI321.out)) | exact HB.out)⟩
           ·
            rw [if_neg c42] at H
            have c42b0 : (t331 == (a0.size : Int)) = false := by simpa using c42
            (try (have c42b1 : decide (t331 = (a0.size : Int)) = false := by simpa using c42))
            (try (have c42b2 : (t331 == (a0.size : Int)) = false := by simpa using c42))
            (try (have c42b3 : ¬ (t331 = (a0.size : Int)) := by simpa using c42))
            clear c42
            have H' := Aside0.mk H
            clear H
            obtain ⟨HGz49, hgz49⟩ := HI321.out
            have hcz49_0 := cellS59_0 HGz49
            have hcz49_1 := cellS59_1 HGz49
            have hfz49_0 := blk_frozen HGz49 0
            have hfz49_1 := blk_frozen HGz49 1
            clear HGz49 hgz49
            go_wp2
            go_roundg kj15
            case measure => have := HK1.out; have := HJ15.out; omega
            case rel => exact ⟨(x5_1), (y332), (t330), (wrap64 (t331 + 1)), H', ⟨by have := HK1.out; have := HJ15.out; omega⟩, ⟨by (with_reducible repeat (first | apply Kd.S_alloc | apply Kd.S_drewN | apply Kd.S_drew)); exact Kd.S_mono (Kd.S_far (p := ⟨gb321, 1, none⟩) (IsS59.apartS HI321.out HO_5.out (by decide)) (fun _ hk => hk.2) (.int .i64 (wrap64 (t331 + 1)))) (fun _ hk => hk.1)⟩, ⟨by (with_reducible repeat (first | apply Kd.R_alloc | apply Kd.R_drewN | apply Kd.R_drew)); exact Kd.R_mono (Kd.R_far (p := ⟨gb321, 1, none⟩) (IsS59.apart HI321.out HO_6.out (by decide)) (fun _ hk => hk.2) (.int .i64 (wrap64 (t331 + 1)))) (fun _ hk => trivial)⟩, ⟨by repeat (first | (with_reducible first | exact HI321.out | apply IsS59.alloc | apply IsS59.drewN | apply IsS59.drew | apply IsS59.set_0 | apply IsS59.set_1) | exact HI321.out)⟩, ⟨by repeat (first | (with_reducible first | exact HB.out | apply below_alloc | apply pw_below_drewN | apply below_drew1 | refine below_set ?_ (IsS59.ge HI321.out)) | exact HB.out)⟩⟩
       ·
        rw [if_neg c15] at H
        exact absurd H (by simp)
      ·
       replace c14 := Bool.eq_false_iff.mpr c14
       subst c14
       rw [if_neg (show ¬ (false = true) by decide)] at H
       simp only [Option.some.injEq, Prod.mk.injEq] at H
       obtain ⟨rfl, rfl⟩ := H
       go_wp2_with (first | ((with_reducible refine gate_callee (f := 34) rfl ?_); refine goesL_ (some 28) rfl rfl Tryd.func34 (by kernel_rfl) rfl #[.pointer (some ⟨gb321, 0, none⟩)] rfl ap3 ?_; (with_reducible refine (Dxkind.calls k1 gb321 x322000_1 x322001_1 t324 true t326 t327 w _ ?side1 ?side2 ?side3 A11.out).mono ?_); (case side1 => exact apI59 HI321.out); (case side2 => exact apS59 HI321.out); (case side3 => first | exact HG.out | (refine Gw.below HG.out ?_; repeat (first | (with_reducible first | exact HB.out | apply below_alloc | apply pw_below_drewN | apply below_drew1 | refine below_set ?_ (IsS59.ge HI321.out)) | exact HB.out))); rintro e w50 ⟨rfl, hi, hb, hk⟩; refine ⟨_, rfl, ?_⟩; have n0_ := Aside0.mk (Kd.S_mono (Kd.S_keep (IsS59.apartS (show IsS59 w _ gb321 x322000_1 x322001_1 from by repeat (first | (with_reducible first | exact HI321.out | apply IsS59.alloc | apply IsS59.drewN | apply IsS59.drew | apply IsS59.set_0 | apply IsS59.set_1) | exact HI321.out)) (apAS HO_5.out) (by decide)) hk (fun _ h => h.2)) (fun _ h => h.1)); have n1_ := Aside0.mk (Kd.R_mono (Kd.R_keep (IsS59.apart (show IsS59 w _ gb321 x322000_1 x322001_1 from by repeat (first | (with_reducible first | exact HI321.out | apply IsS59.alloc | apply IsS59.drewN | apply IsS59.drew | apply IsS59.set_0 | apply IsS59.set_1) | exact HI321.out)) (apAR HO_6.out) (by decide)) hk (fun _ h => h.2)) (fun _ h => h.1)); have n2_ := Aside0.mk (hb); have n3_ := Aside0.mk (hi); clear HO_5; clear HO_6; clear HB; clear HI321; have HO_5 := n0_; have HO_6 := n1_; have HB := n2_; have HI321 := n3_; clear n0_ n1_ n2_ n3_; (try clear hb); (try clear hb2); (try clear hk); (try clear hi)) | ((with_reducible refine gate_callee (f := 35) rfl ?_); refine goesL_ (some 35) rfl rfl Tryd.func35 (by kernel_rfl) rfl #[.pointer (some ⟨gb321, 0, none⟩)] rfl ap3 ?_; (with_reducible refine (Dxvalue.calls k1 gb321 t326 t327 t328 false t330 t331 w _ ?side1 ?side2 A13.out).mono ?_); (case side1 => exact apI59 HI321.out); (case side2 => exact apS59 HI321.out); rintro e w51 ⟨rfl, hi, hb, hk⟩; refine ⟨_, rfl, ?_⟩; have n0_ := Aside0.mk (Kd.S_mono (Kd.S_keep (IsS59.apartS (show IsS59 w _ gb321 t326 t327 from by repeat (first | (with_reducible first | exact HI321.out | apply IsS59.alloc | apply IsS59.drewN | apply IsS59.drew | apply IsS59.set_0 | apply IsS59.set_1) | exact HI321.out)) (apAS HO_5.out) (by decide)) hk (fun _ h => h.2)) (fun _ h => h.1)); have n1_ := Aside0.mk (Kd.R_mono (Kd.R_keep (IsS59.apart (show IsS59 w _ gb321 t326 t327 from by repeat (first | (with_reducible first | exact HI321.out | apply IsS59.alloc | apply IsS59.drewN | apply IsS59.drew | apply IsS59.set_0 | apply IsS59.set_1) | exact HI321.out)) (apAR HO_6.out) (by decide)) hk (fun _ h => h.2)) (fun _ h => h.1)); have n2_ := Aside0.mk (hb); have n3_ := Aside0.mk (hi); clear HO_5; clear HO_6; clear HB; clear HI321; have HO_5 := n0_; have HO_6 := n1_; have HB := n2_; have HI321 := n3_; clear n0_ n1_ n2_ n3_; (try clear hb); (try clear hb2); (try clear hk); (try clear hi)))
       go_ret2
       exact ⟨_, by first | rfl | (simp [errW_none, errW_some, bne_nil8, beq_nil8]; done) | (simp [errW_none, errW_some] <;> rfl) | (simp [*, errW_none, errW_some] <;> rfl), by first | exact Kd.S_nil _ _ _ _ _ | exact Kd.N_nil _ _ _ _ _ | exact Kd.V_nil _ _ _ _ _ | exact Kd.Q_nil _ _ _ _ _ | exact Kd.R_nil _ _ _ _ _, by repeat (first | (with_reducible first | exact HB.out | apply below_alloc | apply pw_below_drewN | apply below_drew1 | refine below_set ?_ (IsS59.ge HI321.out)) | exact HB.out)⟩
     ·
      replace c12 := Bool.eq_false_iff.mpr c12
      subst c12
      rw [if_neg (show ¬ (false = true) by decide)] at H
      simp only [Option.some.injEq, Prod.mk.injEq] at H
      obtain ⟨rfl, rfl⟩ := H
      go_wp2_with (first | ((with_reducible refine gate_callee (f := 34) rfl ?_); refine goesL_ (some 28) rfl rfl Tryd.func34 (by kernel_rfl) rfl #[.pointer (some ⟨gb321, 0, none⟩)] rfl ap3 ?_; (with_reducible refine (Dxkind.calls k1 gb321 x322000_1 x322001_1 t324 false t326 t327 w _ ?side1 ?side2 ?side3 A11.out).mono ?_); (case side1 => exact apI59 HI321.out); (case side2 => exact apS59 HI321.out); (case side3 => first | exact HG.out | (refine Gw.below HG.out ?_; repeat (first | (with_reducible first | exact HB.out | apply below_alloc | apply pw_below_drewN | apply below_drew1 | refine below_set ?_ (IsS59.ge HI321.out)) | exact HB.out))); rintro e w52 ⟨rfl, hi, hb, hk⟩; refine ⟨_, rfl, ?_⟩; have n0_ := Aside0.mk (Kd.S_mono (Kd.S_keep (IsS59.apartS (show IsS59 w _ gb321 x322000_1 x322001_1 from by repeat (first | (with_reducible first | exact HI321.out | apply IsS59.alloc | apply IsS59.drewN | apply IsS59.drew | apply IsS59.set_0 | apply IsS59.set_1) | exact HI321.out)) (apAS HO_5.out) (by decide)) hk (fun _ h => h.2)) (fun _ h => h.1)); have n1_ := Aside0.mk (Kd.R_mono (Kd.R_keep (IsS59.apart (show IsS59 w _ gb321 x322000_1 x322001_1 from by repeat (first | (with_reducible first | exact HI321.out | apply IsS59.alloc | apply IsS59.drewN | apply IsS59.drew | apply IsS59.set_0 | apply IsS59.set_1) | exact HI321.out)) (apAR HO_6.out) (by decide)) hk (fun _ h => h.2)) (fun _ h => h.1)); have n2_ := Aside0.mk (hb); have n3_ := Aside0.mk (hi); clear HO_5; clear HO_6; clear HB; clear HI321; have HO_5 := n0_; have HO_6 := n1_; have HB := n2_; have HI321 := n3_; clear n0_ n1_ n2_ n3_; (try clear hb); (try clear hb2); (try clear hk); (try clear hi)))
      go_ret2
      exact ⟨_, by first | rfl | (simp [errW_none, errW_some, bne_nil8, beq_nil8]; done) | (simp [errW_none, errW_some] <;> rfl) | (simp [*, errW_none, errW_some] <;> rfl), by first | exact Kd.S_nil _ _ _ _ _ | exact Kd.N_nil _ _ _ _ _ | exact Kd.V_nil _ _ _ _ _ | exact Kd.Q_nil _ _ _ _ _ | exact Kd.R_nil _ _ _ _ _, by repeat (first | (with_reducible first | exact HB.out | apply below_alloc | apply pw_below_drewN | apply below_drew1 | refine below_set ?_ (IsS59.ge HI321.out)) | exact HB.out)⟩
end Go.Proofs.YtkklacijhmoopaaDoor.Print
namespace Go.Proofs.YtkklacijhmoopaaDoor.Print
open Go.RowKit Go.Proofs.YtkklacijhmoopaaDoorW.PrintWords Go.Proofs.YtkklacijhmoopaaDoorW.PrintLast Go.Proofs.YtkklacijhmoopaaDoorW.PrintMore Go.Proofs.YtkklacijhmoopaaDoor.Pure
set_option linter.unusedVariables false
set_option linter.unusedSimpArgs false
abbrev bl (s : ByteArray) : List UInt8 := s.data.toList
theorem bl_length (s : ByteArray) : (bl s).length = s.size := by simp [bl]
theorem bt_get {s : ByteArray} {p : Nat} {c : UInt8} (h : (bl s)[p]? = some c) : p < s.size ∧ bt s (p : Int) = (c.toNat : Int) := by
  obtain ⟨hp, hc⟩ := List.getElem?_eq_some_iff.1 h
  rw [bl_length] at hp
  refine ⟨hp, ?_⟩
  unfold bt
  rw [dif_pos (by simpa using hp)]
  simp only [Int.toNat_natCast]
  rw [← hc]; simp [bl]; rfl
theorem drop_cons {s : ByteArray} {p : Nat} {c : UInt8} {r : List UInt8} (h : (bl s).drop p = c :: r) : p < s.size ∧ bt s (p : Int) = (c.toNat : Int) ∧ (bl s).drop (p + 1) = r := by
  have h0 : (bl s)[p]? = some c := by
    have := congrArg List.head? h
    rw [List.head?_drop] at this; simpa using this
  obtain ⟨h1, h2⟩ := bt_get h0
  refine ⟨h1, h2, ?_⟩
  have := congrArg List.tail h
  rw [List.tail_drop] at this; simpa using this
theorem drop_nil {s : ByteArray} {p : Nat} (h : (bl s).drop p = []) : s.size ≤ p := by
  rw [← bl_length]; exact List.drop_eq_nil_iff.1 h
theorem drop_end {s : ByteArray} {p : Nat} (h : s.size ≤ p) : (bl s).drop p = [] := List.drop_eq_nil_iff.2 (by rw [bl_length]; exact h)
theorem wsucc {p : Nat} (h : p ≤ 2000000) : wrap64 ((p : Int) + 1) = ((p + 1 : Nat) : Int) := by unfold wrap64; omega
theorem ieq (c d : UInt8) : ((c.toNat : Int) = (d.toNat : Int)) ↔ c = d := by rw [Int.ofNat_inj]; exact UInt8.toNat_inj
theorem blanks_ev (s : ByteArray) (hs : s.size ≤ 1000000) : ∀ (n p : Nat), s.size - p = n → p ≤ s.size →
    ∃ q : Nat, p ≤ q ∧ q ≤ s.size ∧ (bl s).drop q = ((bl s).drop p).dropWhile (· == 32) ∧ Ev (fun k => Dxblanks.l0 k s (p : Int)) (s, (q : Int)) := by
  intro n
  induction n with
  | zero =>
    intro p hn hp
    refine ⟨p, Nat.le_refl _, hp, ?_, ?_⟩
    · rw [drop_end (by omega)]; rfl
    · exact Ev.step (fun k => by rw [Dxblanks.l0]) (Ev.neg (by omega) Ev.rfl')
  | succ n ih =>
    intro p hn hp
    cases hr : (bl s).drop p with
    | nil => have := drop_nil hr; omega
    | cons c r =>
      obtain ⟨h1, h2, h3⟩ := drop_cons hr
      have hc : ((c.toNat : Int) = 32) ↔ c = 32 := ieq c 32
      by_cases h32 : c = 32
      · obtain ⟨q, q1, q2, q3, q4⟩ := ih (p + 1) (by omega) (by omega)
        refine ⟨q, by omega, q2, ?_, ?_⟩
        · rw [q3, h3, List.dropWhile_cons_of_pos (by simp [h32])]
        · refine Ev.step (fun k => by rw [Dxblanks.l0]) (Ev.pos (by omega) (Ev.pos (by omega) (Ev.pos (by rw [h2]; exact hc.2 h32) ?_)))
          rw [wsucc (by omega)]; exact q4
      · refine ⟨p, Nat.le_refl _, hp, ?_, ?_⟩
        · rw [hr, List.dropWhile_cons_of_neg (by simp [h32])]
        · exact Ev.step (fun k => by rw [Dxblanks.l0]) (Ev.pos (by omega) (Ev.pos (by omega) (Ev.neg (by rw [h2]; exact fun h => h32 (hc.1 h)) Ev.rfl')))
theorem blanks_f (s : ByteArray) (hs : s.size ≤ 1000000) (p : Nat) (hp : p ≤ s.size) :
    ∃ q : Nat, p ≤ q ∧ q ≤ s.size ∧ (bl s).drop q = ((bl s).drop p).dropWhile (· == 32) ∧ Ev (fun k => Dxblanks.f k s (p : Int)) (s, (q : Int)) := blanks_ev s hs _ p rfl hp
theorem kindl_ev (s : ByteArray) (hs : s.size ≤ 1000000) : ∀ (n p : Nat), s.size - p = n → p ≤ s.size →
    ∃ q : Nat, p ≤ q ∧ q ≤ s.size ∧ (bl s).drop q = ((bl s).drop p).dropWhile tyB ∧ ((bl s).drop p).take (q - p) = ((bl s).drop p).takeWhile tyB ∧ Ev (fun k => Dxkind.l0 k s (p : Int)) (q : Int) := by
  intro n
  induction n with
  | zero =>
    intro p hn hp
    refine ⟨p, Nat.le_refl _, hp, ?_, ?_, ?_⟩
    · rw [drop_end (by omega)]; rfl
    · rw [drop_end (by omega)]; simp
    · exact Ev.step (fun k => by rw [Dxkind.l0]) (Ev.neg (by omega) Ev.rfl')
  | succ n ih =>
    intro p hn hp
    cases hr : (bl s).drop p with
    | nil => have := drop_nil hr; omega
    | cons c r =>
      obtain ⟨h1, h2, h3⟩ := drop_cons hr
      have hc : ((c.toNat : Int) = 32) ↔ c = 32 := ieq c 32
      have hd : ((c.toNat : Int) = 61) ↔ c = 61 := ieq c 61
      by_cases h61 : c = 61
      · refine ⟨p, Nat.le_refl _, hp, ?_, ?_, ?_⟩
        · rw [hr, List.dropWhile_cons_of_neg (by simp [tyB, h61])]
        · rw [List.takeWhile_cons_of_neg (by simp [tyB, h61])]; simp
        · exact Ev.step (fun k => by rw [Dxkind.l0]) (Ev.pos (by omega) (Ev.pos (by omega) (Ev.pos (by rw [h2]; exact hd.2 h61) Ev.rfl')))
      · by_cases h32 : c = 32
        · refine ⟨p, Nat.le_refl _, hp, ?_, ?_, ?_⟩
          · rw [hr, List.dropWhile_cons_of_neg (by simp [tyB, h32])]
          · rw [List.takeWhile_cons_of_neg (by simp [tyB, h32])]; simp
          · exact Ev.step (fun k => by rw [Dxkind.l0]) (Ev.pos (by omega) (Ev.pos (by omega) (Ev.neg (by rw [h2]; exact fun h => h61 (hd.1 h)) (Ev.pos (by rw [h2]; exact hc.2 h32) Ev.rfl'))))
        · obtain ⟨q, q1, q2, q3, q4, q5⟩ := ih (p + 1) (by omega) (by omega)
          refine ⟨q, by omega, q2, ?_, ?_, ?_⟩
          · rw [q3, h3, List.dropWhile_cons_of_pos (by simp [tyB, h32, h61])]
          · rw [h3] at q4
            rw [List.takeWhile_cons_of_pos (by simp [tyB, h32, h61]), ← q4, show q - p = (q - (p + 1)) + 1 from by omega]; rfl
          · refine Ev.step (fun k => by rw [Dxkind.l0]) (Ev.pos (by omega) (Ev.pos (by omega) (Ev.neg (by rw [h2]; exact fun h => h61 (hd.1 h)) (Ev.neg (by rw [h2]; exact fun h => h32 (hc.1 h)) ?_))))
            rw [wsucc (by omega)]; exact q5
theorem enc_high (r : Int) (h : ¬ (0 ≤ r ∧ r ≤ 127)) : ∃ b t, Lib.encodeRune r = b :: t ∧ 128 ≤ b.toNat := by
  unfold Lib.encodeRune
  by_cases h2 : 128 ≤ r ∧ r ≤ 2047
  · rw [Lib.encodeRuneZ_two h2.1 h2.2]
    refine ⟨_, _, rfl, ?_⟩
    rw [UInt8.toNat_ofNat']; omega
  by_cases h3 : (2048 ≤ r ∧ r < 55296) ∨ (57343 < r ∧ r ≤ 65535)
  · rw [Lib.encodeRuneZ_three h3]
    refine ⟨_, _, rfl, ?_⟩
    rw [UInt8.toNat_ofNat']; omega
  by_cases h4 : 65536 ≤ r ∧ r ≤ 1114111
  · rw [Lib.encodeRuneZ_four h4.1 h4.2]
    refine ⟨_, _, rfl, ?_⟩
    rw [UInt8.toNat_ofNat']; omega
  · rw [Lib.encodeRuneZ_bad (by omega)]
    exact ⟨_, _, rfl, by decide⟩
theorem dec_ascii {c : UInt8} {r : List UInt8} (h : c.toNat < 128) : Lib.decodeL (c :: r) = (c.toNat, 1) := by
  rw [Lib.decodeL_N]
  unfold Lib.decodeN
  rw [if_pos (by simpa using h)]; rfl
theorem dec_high {c : UInt8} {r : List UInt8} (h : 128 ≤ c.toNat) : 128 ≤ (Lib.decodeL (c :: r)).1 := by
  rw [Lib.decodeL_N]
  have h0 : ((c :: r).getD 0 0).toNat = c.toNat := rfl
  rcases Lib.decodeN_shape (c :: r).length ((c :: r).getD 0 0).toNat ((c :: r).getD 1 0).toNat ((c :: r).getD 2 0).toNat ((c :: r).getD 3 0).toNat with ⟨a, e⟩ | ⟨_, _, _, a, e⟩ | ⟨_, _, _, _, a, _, e⟩ | ⟨_, _, _, _, _, a, _, e⟩ | e
  · omega
  all_goals (rw [e]; dsimp only; omega)
theorem low_ascii {c : UInt8} (h : c.toNat < 128) : Lib.encodeRune (lowR (c.toNat : Int)) = [lowB c] := by
  unfold lowR lowB
  by_cases q : 65 ≤ c.toNat ∧ c.toNat ≤ 90
  · rw [if_pos (by omega), if_pos q]
    unfold Lib.encodeRune
    rw [Lib.encodeRuneZ_one (by omega) (by omega)]
    simp only [List.map_cons, List.map_nil, List.cons.injEq, and_true]
    apply UInt8.toNat_inj.1
    rw [UInt8.toNat_ofNat', UInt8.toNat_add]; simp; omega
  · rw [if_neg (by omega), if_neg q]
    unfold Lib.encodeRune
    rw [Lib.encodeRuneZ_one (by omega) (by omega)]
    simp
theorem mapD_low : ∀ (n : Nat) (l : List UInt8), l.length ≤ n → ((∀ c ∈ l, c.toNat < 128) ∧ Lib.mapD lowR l = l.map lowB) ∨ ((∃ c ∈ l, 128 ≤ c.toNat) ∧ ∃ c ∈ Lib.mapD lowR l, 128 ≤ c.toNat)
  | 0, l, h => by
    have : l = [] := List.eq_nil_of_length_eq_zero (by omega)
    subst this
    exact .inl ⟨by simp, rfl⟩
  | n + 1, [], _ => .inl ⟨by simp, rfl⟩
  | n + 1, c :: r, h => by
    simp only [List.length_cons] at h
    by_cases hc : c.toNat < 128
    · have e : Lib.mapD lowR (c :: r) = lowB c :: Lib.mapD lowR r := by
        rw [Lib.mapD_step _ _ (by simp), dec_ascii hc]
        dsimp only
        rw [low_ascii hc, if_pos (by unfold lowR; split <;> omega)]; rfl
      rw [e]
      rcases mapD_low n r (by omega) with ⟨h1, h2⟩ | ⟨⟨x, hx, hx2⟩, y, hy, hy2⟩
      · refine .inl ⟨?_, by rw [h2]; rfl⟩
        intro d hd
        rcases List.mem_cons.1 hd with rfl | hd
        · exact hc
        · exact h1 d hd
      · exact .inr ⟨⟨x, List.mem_cons_of_mem _ hx, hx2⟩, y, List.mem_cons_of_mem _ hy, hy2⟩
    · have hd := dec_high (r := r) (Nat.le_of_not_lt hc)
      refine .inr ⟨⟨c, by simp, by omega⟩, ?_⟩
      rw [Lib.mapD_step _ _ (by simp)]
      have e : lowR ((Lib.decodeL (c :: r)).1 : Int) = ((Lib.decodeL (c :: r)).1 : Int) := by unfold lowR; rw [if_neg (by omega)]
      rw [e, if_pos (by omega)]
      obtain ⟨b, t, hb, hb2⟩ := enc_high ((Lib.decodeL (c :: r)).1 : Int) (by omega)
      rw [hb]
      exact ⟨b, by simp, hb2⟩
theorem typeOk_high {l : List UInt8} (h : ∃ c ∈ l, 128 ≤ c.toNat) : typeOk l = false := by
  cases ht : typeOk l with
  | false => rfl
  | true =>
    obtain ⟨c, hc, h2⟩ := h
    have := (typeOk_all ht).2 c hc
    simp only [typeB, Bool.or_eq_true, Bool.and_eq_true, decide_eq_true_eq, beq_iff_eq] at this
    rcases this with (this | this) | rfl
    · omega
    · omega
    · revert h2; decide
theorem mapD_type (l : List UInt8) : typeOk (Lib.mapD lowR l) = typeOk (l.map lowB) ∧ (typeOk (l.map lowB) = true → Lib.mapD lowR l = l.map lowB) := by
  rcases mapD_low _ l (Nat.le_refl _) with ⟨_, h⟩ | ⟨⟨x, hx, hx2⟩, h⟩
  · rw [h]; exact ⟨rfl, fun _ => rfl⟩
  · have e : typeOk (l.map lowB) = false := typeOk_high ⟨lowB x, List.mem_map_of_mem hx, by unfold lowB; rw [if_neg (by omega)]; exact hx2⟩
    rw [typeOk_high h, e]; exact ⟨rfl, fun h => by cases h⟩
theorem rightType_l (s : ByteArray) (hs : s.size ≤ 1000000) : ∀ (n p : Nat), s.size - p = n → p ≤ s.size → 1 ≤ p →
    Ev (fun k => dn_rightType.l0 k s (s.size : Int) (p : Int)) (((bl s).drop p).all typeB && decide (s.size ≤ 32)) := by
  intro n
  induction n with
  | zero =>
    intro p hn hp h1
    rw [drop_end (by omega)]
    refine Ev.step (fun k => by rw [dn_rightType.l0]) (Ev.neg (by omega) (Ev.neg ?_ ?_))
    · rw [Lib.toList_data]; intro h; have := bl_length s; unfold bl at this; rw [h] at this; simp at this; omega
    · have : decide ((s.size : Int) ≤ 32) = decide (s.size ≤ 32) := decide_eq_decide.2 (by omega)
      rw [this]; exact Ev.rfl'
  | succ n ih =>
    intro p hn hp h1
    cases hr : (bl s).drop p with
    | nil => have := drop_nil hr; omega
    | cons c r =>
      obtain ⟨g1, g2, g3⟩ := drop_cons hr
      have hi := ih (p + 1) (by omega) (by omega) (by omega)
      rw [g3] at hi
      have hc := c.toNat_lt
      have h45 : ((c.toNat : Int) = 45) ↔ c = 45 := ieq c 45
      refine Ev.step (fun k => by rw [dn_rightType.l0]) ?_
      rw [g2, wsucc (by omega), List.all_cons]
      by_cases q1 : 97 ≤ c.toNat ∧ c.toNat ≤ 122
      · rw [show typeB c = true by simp [typeB, q1]]
        simp (disch := omega) only [if_pos, if_neg]
        simpa using hi
      by_cases q2 : c = 45
      · rw [show typeB c = true by subst q2; rfl]
        have := h45.2 q2
        simp (disch := omega) only [if_pos, if_neg]
        simpa using hi
      have q3 : (c.toNat : Int) ≠ 45 := fun h => q2 (h45.1 h)
      by_cases q4 : 48 ≤ c.toNat ∧ c.toNat ≤ 57
      · rw [show typeB c = true by simp [typeB, q4]]
        simp (disch := omega) only [if_pos, if_neg]
        simpa using hi
      · rw [show typeB c = false by simp [typeB, q2]; omega]
        have e : Ev (fun (_ : Nat) => some false) (false && r.all typeB && decide (s.size ≤ 32)) := Ev.rfl'
        by_cases a1 : 97 ≤ c.toNat
        · simp (disch := omega) only [if_pos, if_neg]; exact e
        · by_cases a2 : c.toNat < 48
          · simp (disch := omega) only [if_pos, if_neg]; exact e
          · simp (disch := omega) only [if_pos, if_neg]; exact e
theorem rightType_ev (s : ByteArray) (hs : s.size ≤ 1000000) : Ev (fun k => dn_rightType.f k s) (typeOk (bl s)) := by
  unfold dn_rightType.f
  cases hr : bl s with
  | nil =>
    have : s.size = 0 := by rw [← bl_length, hr]; rfl
    show Ev _ false
    refine Ev.step (fun k => by rw [dn_rightType.l0]) (Ev.neg (by omega) (Ev.pos ?_ Ev.rfl'))
    rw [Lib.toList_data]; exact hr
  | cons c r =>
    obtain ⟨g1, g2, g3⟩ := drop_cons (s := s) (p := 0) (by simpa using hr)
    have hi := rightType_l s hs _ 1 rfl (by omega) (by omega)
    rw [show (1 : Nat) = 0 + 1 from rfl, g3] at hi
    have hc := c.toNat_lt
    have hlen : s.size = (c :: r).length := by rw [← bl_length, hr]
    refine Ev.step (fun k => by rw [dn_rightType.l0]) ?_
    have g2' : bt s 0 = (c.toNat : Int) := g2
    rw [g2', show wrap64 ((0 : Int) + 1) = ((0 + 1 : Nat) : Int) from wsucc (p := 0) (by omega)]
    unfold typeOk
    dsimp only
    rw [← hlen, List.all_cons]
    by_cases q1 : 97 ≤ c.toNat ∧ c.toNat ≤ 122
    · rw [show typeB c = true by simp [typeB, q1], decide_eq_true q1]
      simp (disch := omega) only [if_pos, if_neg]
      simpa using hi
    · rw [decide_eq_false q1]
      have e : Ev (fun (_ : Nat) => some false) (false && (typeB c && r.all typeB) && decide (s.size ≤ 32)) := Ev.rfl'
      by_cases a1 : 97 ≤ c.toNat
      · simp (disch := omega) only [if_pos, if_neg]; exact e
      · simp (disch := omega) only [if_pos, if_neg]; exact e
theorem lower_f (s : ByteArray) (hs : s.size ≤ 1000000) (a b : Nat) : dn_lower.f (s.extract a b) = some ⟨(Lib.mapD lowR (((bl s).drop a).take (b - a))).toArray⟩ := by
  unfold dn_lower.f
  rw [if_pos (by simp; omega), Lib.extract_data]
theorem mapD_len (f : Int → Int) : ∀ (n : Nat) (l : List UInt8), l.length ≤ n → (Lib.mapD f l).length ≤ 4 * l.length
  | 0, l, h => by
    have : l = [] := List.eq_nil_of_length_eq_zero (by omega)
    subst this
    exact Nat.le_refl _
  | n + 1, l, h => by
    by_cases hne : l = []
    · subst hne; exact Nat.le_refl _
    · rw [Lib.mapD_step _ _ hne, List.length_append]
      have hw := Lib.decodeL_width l
      have hl := Lib.decodeL_le l hne
      have ih := mapD_len f n (l.drop (Lib.decodeL l).2) (by rw [List.length_drop]; omega)
      rw [List.length_drop] at ih
      have h4 : (if 0 ≤ f (Lib.decodeL l).1 then Lib.encodeRune (f (Lib.decodeL l).1) else []).length ≤ 4 := by
        split
        · have := Lib.runeCells_le (f (Lib.decodeL l).1)
          rw [Lib.runeCells_length] at this; exact this.2
        · simp
      omega
theorem kind_ev (s : ByteArray) (hs : s.size ≤ 100000) (p : Nat) (hp : p ≤ s.size) :
    (kindB ((bl s).drop p) = none → ∃ t s' q, Ev (fun k => Dxkind.f k s (p : Int)) (t, false, s', q)) ∧
    (∀ t r', kindB ((bl s).drop p) = some (t, r') → ∃ q : Nat, q ≤ s.size ∧ p < q ∧ (bl s).drop q = r' ∧ Ev (fun k => Dxkind.f k s (p : Int)) (⟨t.toArray⟩, true, s, (q : Int))) := by
  obtain ⟨q1, a1, a2, a3, a4⟩ := blanks_f s (by omega) p hp
  obtain ⟨q2, b1, b2, b3, b5, b4⟩ := kindl_ev s (by omega) _ q1 rfl a2
  obtain ⟨q3, c1, c2, c3, c4⟩ := blanks_f s (by omega) q2 b2
  have hl := lower_f s (by omega) q1 q2
  have h2 : (((bl s).drop q1).take (q2 - q1)).length ≤ s.size := by rw [List.length_take, List.length_drop, bl_length]; omega
  obtain ⟨m, hm⟩ : ∃ m, m = ((bl s).drop q1).take (q2 - q1) := ⟨_, rfl⟩
  rw [← hm] at hl h2 b5
  have hty := mapD_type m
  have hsz : (⟨(Lib.mapD lowR m).toArray⟩ : ByteArray).size ≤ 1000000 := by
    have h1 := mapD_len lowR _ m (Nat.le_refl _)
    have h3 : (⟨(Lib.mapD lowR m).toArray⟩ : ByteArray).size = (Lib.mapD lowR m).length := by rw [← bl_length]
    omega
  have ht := rightType_ev (⟨(Lib.mapD lowR m).toArray⟩) hsz
  rw [show bl (⟨(Lib.mapD lowR m).toArray⟩ : ByteArray) = Lib.mapD lowR m from rfl, hty.1] at ht
  rw [a3] at b3 b5
  rw [b3] at c3
  have hk : ∀ {v : ByteArray × Bool × ByteArray × Int}, Ev (fun k => if (s.size : Int) ≤ (q3 : Int) then some (⟨#[]⟩, false, s, (q3 : Int))
        else (if (0 : Int) ≤ (q3 : Int) then (if bt s (q3 : Int) = 61 then (dn_rightType.f k ⟨(Lib.mapD lowR m).toArray⟩).bind fun ok => if ok = true then some (⟨(Lib.mapD lowR m).toArray⟩, true, s, wrap64 ((q3 : Int) + 1)) else some (⟨#[]⟩, false, s, (q3 : Int))
          else some (⟨#[]⟩, false, s, (q3 : Int))) else none)) v → Ev (fun k => Dxkind.f k s (p : Int)) v := by
    intro v h
    unfold Dxkind.f
    refine Ev.bind a4 (Ev.bind b4 (Ev.pos (by dsimp only; omega) (Ev.pos (by dsimp only; omega) (Ev.pos (by dsimp only; omega) ?_))))
    refine Ev.bindc hl (Ev.bind c4 h)
  have hfail : ∃ t s' q, Ev (fun (_ : Nat) => some ((⟨#[]⟩ : ByteArray), false, s, (q3 : Int))) (t, false, s', q) := ⟨_, _, _, Ev.rfl'⟩
  unfold kindB
  rw [← c3, ← b5]
  cases hr : (bl s).drop q3 with
  | nil =>
    have := drop_nil hr
    exact ⟨fun _ => ⟨_, _, _, hk (Ev.pos (by omega) Ev.rfl')⟩, fun t r' h => by simp at h⟩
  | cons c r =>
    obtain ⟨g1, g2, g3⟩ := drop_cons hr
    have h61 : ((c.toNat : Int) = 61) ↔ c = 61 := ieq c 61
    dsimp only
    by_cases hc : c = 61
    · cases hT : typeOk (m.map lowB) with
      | false =>
        rw [if_neg (by rintro ⟨_, h⟩; cases h)]
        rw [hT] at ht
        exact ⟨fun _ => ⟨_, _, _, hk (Ev.neg (by omega) (Ev.pos (by omega) (Ev.pos (by rw [g2]; exact h61.2 hc) (Ev.bind ht (Ev.neg (by simp) Ev.rfl')))))⟩, fun t r' h => by simp at h⟩
      | true =>
        rw [if_pos ⟨hc, rfl⟩]
        refine ⟨fun h => (by simp at h), fun t r' h => ?_⟩
        simp only [Option.some.injEq, Prod.mk.injEq] at h
        obtain ⟨rfl, rfl⟩ := h
        rw [hT] at ht
        refine ⟨q3 + 1, by omega, by omega, g3, hk (Ev.neg (by omega) (Ev.pos (by omega) (Ev.pos (by rw [g2]; exact h61.2 hc) (Ev.bind ht (Ev.pos rfl ?_)))))⟩
        rw [wsucc (by omega), hty.2 hT]
        exact Ev.rfl'
    · rw [if_neg (fun h => hc h.1)]
      exact ⟨fun _ => ⟨_, _, _, hk (Ev.neg (by omega) (Ev.pos (by omega) (Ev.neg (by rw [g2]; exact fun h => hc (h61.1 h)) Ev.rfl')))⟩, fun t r' h => by simp at h⟩
def ints (l : List UInt8) : List Int := l.map fun c => (c.toNat : Int)
theorem strOfNums_ints (l : List UInt8) : strOfNums (ints l) = ⟨l.toArray⟩ := by
  unfold strOfNums ints
  rw [List.map_map]
  congr 1
  have : (List.map ((fun n => UInt8.ofNat n.toNat) ∘ fun c => ((c : UInt8).toNat : Int)) l) = l := by
    conv => rhs; rw [← List.map_id l]
    exact List.map_congr_left fun c _ => by simp
  rw [this]
theorem ints_length (l : List UInt8) : (ints l).length = l.length := by simp [ints]
theorem ints_take (l : List UInt8) (n : Nat) : (ints l).take n = ints (l.take n) := by simp [ints, List.map_take]
theorem ints_snoc (l : List UInt8) (c : UInt8) : ints l ++ [(c.toNat : Int)] = ints (l ++ [c]) := by simp [ints]
def hexI (c : UInt8) : Int := match hexv c with | some x => (x : Int) | none => -1
theorem ofNat_toNat8 (c : UInt8) : UInt8.ofNat c.toNat = c := by simp
set_option maxRecDepth 100000 in
theorem digit_all : ∀ n : Nat, n < 256 → b64_digit.f (n : Int) = some (hexI (UInt8.ofNat n)) := by decide +kernel
theorem digit_is (c : UInt8) : b64_digit.f (c.toNat : Int) = some (hexI c) := by
  have := digit_all c.toNat c.toNat_lt
  rwa [ofNat_toNat8] at this
theorem hexv_lt {c : UInt8} {x : Nat} (h : hexv c = some x) : x < 16 := by
  unfold hexv at h
  repeat' split at h
  all_goals first | (cases h; omega) | cases h
set_option maxRecDepth 100000 in
theorem bits_all : ∀ x : Nat, x < 16 → ∀ y : Nat, y < 16 → (Go.bits .or .i64 (wrap64 ((x : Int) * 16)) (y : Int)) % 256 = ((16 * x + y : Nat) : Int) := by decide +kernel
theorem esc_all : ∀ n : Nat, n < 256 → decide (Lib.indexByte [34, 43, 44, 59, 60, 61, 62, 92, 35, 32] (UInt8.ofNat n) ≥ 0) = isEsc (UInt8.ofNat n) := by decide +kernel
theorem esc_is (c : UInt8) : decide (Lib.indexByte [34, 43, 44, 59, 60, 61, 62, 92, 35, 32] c ≥ 0) = isEsc c := by
  have := esc_all c.toNat c.toNat_lt
  rwa [ofNat_toNat8] at this
theorem unhex_ev (u : ByteArray) (a b : UInt8) (hu : bl u = [a, b]) :
    (hex2 a b = none → Ev (fun k => b64_Unhex.f k u) (⟨#[]⟩, 4)) ∧ (∀ x, hex2 a b = some x → Ev (fun k => b64_Unhex.f k u) (⟨#[x]⟩, 0)) := by
  have hsz : u.size = 2 := by rw [← bl_length, hu]; rfl
  obtain ⟨_, ha⟩ := bt_get (s := u) (p := 0) (c := a) (by rw [hu]; rfl)
  obtain ⟨_, hb⟩ := bt_get (s := u) (p := 1) (c := b) (by rw [hu]; rfl)
  have hst : ∀ {v : ByteArray × Int}, Ev (fun k => if hexI a < 0 then (some ((⟨#[]⟩ : ByteArray), (4 : Int))) else (if hexI b < 0 then (some ((⟨#[]⟩ : ByteArray), 4)) else (b64_Unhex.l0 k u ([] ++ [(Go.bits .or .i64 (wrap64 (hexI a * 16)) (hexI b)) % 256]) (wrap64 ((0 : Int) + 2))))) v → Ev (fun k => b64_Unhex.f k u) v := by
    intro v h
    unfold b64_Unhex.f
    refine Ev.pos (by omega) (Ev.step (fun k => by rw [b64_Unhex.l0]) (Ev.pos (by omega) (Ev.pos (by omega) ?_)))
    have w1 : wrap64 ((0 : Int) + 1) = ((1 : Nat) : Int) := by unfold wrap64; omega
    have ha' : bt u 0 = (a.toNat : Int) := ha
    rw [w1, ha', hb]
    refine Ev.bindc (digit_is a) (Ev.pos (by omega) (Ev.pos (by omega) (Ev.bindc (digit_is b) ?_)))
    refine Ev.congr (fun k => ?_) h
    rw [if_pos (show ([] : List Int).length < 140737488355328 by decide)]
  unfold hex2
  cases hx : hexv a with
  | none =>
    have e : hexI a = -1 := by unfold hexI; rw [hx]
    rw [e] at hst
    exact ⟨fun _ => hst (Ev.pos (by omega) Ev.rfl'), fun x h => by simp at h⟩
  | some x =>
    have ea : hexI a = (x : Int) := by unfold hexI; rw [hx]
    rw [ea] at hst
    cases hy : hexv b with
    | none =>
      have e : hexI b = -1 := by unfold hexI; rw [hy]
      rw [e] at hst
      exact ⟨fun _ => hst (Ev.neg (by omega) (Ev.pos (by omega) Ev.rfl')), fun x h => by simp at h⟩
    | some y =>
      have eb : hexI b = (y : Int) := by unfold hexI; rw [hy]
      rw [eb, bits_all x (hexv_lt hx) y (hexv_lt hy)] at hst
      refine ⟨fun h => by simp at h, fun z h => hst (Ev.neg (by omega) (Ev.neg (by omega) ?_))⟩
      simp only [Option.bind_some, Option.map_some, Option.some.injEq] at h
      subst h
      refine Ev.step (fun k => by rw [b64_Unhex.l0]) (Ev.neg (by rw [hsz]; unfold wrap64; omega) ?_)
      have : strOfNums ([] ++ [((16 * x + y : Nat) : Int)]) = (⟨#[(16 * x + y).toUInt8]⟩ : ByteArray) := by
        show (⟨#[UInt8.ofNat ((16 * x + y : Nat) : Int).toNat]⟩ : ByteArray) = _
        rw [Int.toNat_natCast]
      rw [this]; exact Ev.rfl'
theorem escaped_ev (s : ByteArray) (hs : s.size ≤ 1000000) (p : Nat) (hp : p ≤ s.size) :
    (esc ((bl s).drop p) = none → ∃ n s' q, Ev (fun k => Dxescaped.f k s (p : Int)) (n, false, s', q)) ∧
    (∀ x r', esc ((bl s).drop p) = some (x, r') → ∃ q : Nat, q ≤ s.size ∧ p < q ∧ (bl s).drop q = r' ∧ Ev (fun k => Dxescaped.f k s (p : Int)) ((x.toNat : Int), true, s, (q : Int))) := by
  obtain ⟨u, hu⟩ : ∃ u, u = s.extract p s.size := ⟨_, rfl⟩
  have hbu : bl u = (bl s).drop p := by
    rw [hu]; unfold bl; rw [Lib.extract_data, List.take_of_length_le]
    rw [List.length_drop]; have := bl_length s; unfold bl at this; omega
  have hus : u.size = s.size - p := by rw [hu]; simp
  have hst : ∀ {v : Int × Bool × ByteArray × Int}, Ev (fun k => if u.toList = ([] : List UInt8) then (Dxescaped.j0 k u false s (p : Int)) else (if 0 < (u.size : Int) then ((strings_IndexByte.f (⟨#[34, 43, 44, 59, 60, 61, 62, 92, 35, 32]⟩ : ByteArray) (bt u 0)).bind fun t297 => (Dxescaped.j0 k u (decide (t297 ≥ 0)) s (p : Int))) else none)) v → Ev (fun k => Dxescaped.f k s (p : Int)) v := by
    intro v h
    unfold Dxescaped.f
    refine Ev.pos (by omega) (Ev.pos (by omega) ?_)
    rw [Int.toNat_natCast, ← hu]; exact h
  rw [Lib.toList_data, show u.data.toList = bl u from rfl, hbu] at hst
  cases hr : (bl s).drop p with
  | nil =>
    have := drop_nil hr
    rw [hr] at hst
    refine ⟨fun _ => ⟨_, _, _, hst (Ev.pos rfl (Ev.step (fun k => by rw [Dxescaped.j0]) (Ev.neg (by simp) (Ev.pos (by omega) Ev.rfl'))))⟩, fun x r' h => by simp [esc] at h⟩
  | cons a r =>
    obtain ⟨g1, g2, g3⟩ := drop_cons hr
    rw [hr] at hst hbu
    obtain ⟨_, ga⟩ := bt_get (s := u) (p := 0) (c := a) (by rw [hbu]; rfl)
    have ga' : bt u 0 = (a.toNat : Int) := ga
    rw [ga'] at hst
    have hix : strings_IndexByte.f (⟨#[34, 43, 44, 59, 60, 61, 62, 92, 35, 32]⟩ : ByteArray) (a.toNat : Int) = some (Lib.indexByte [34, 43, 44, 59, 60, 61, 62, 92, 35, 32] a) := by
      unfold strings_IndexByte.f
      rw [Int.toNat_natCast, show a.toNat.toUInt8 = a by simp]
    have hj : ∀ {v : Int × Bool × ByteArray × Int}, Ev (fun k => Dxescaped.j0 k u (isEsc a) s (p : Int)) v → Ev (fun k => Dxescaped.f k s (p : Int)) v := by
      intro v h
      refine hst (Ev.neg (by simp) (Ev.pos (by omega) (Ev.bindc hix ?_)))
      rw [esc_is]; exact h
    simp only [esc]
    cases he : isEsc a with
    | true =>
      rw [he] at hj
      rw [if_pos rfl]
      refine ⟨fun h => by simp at h, fun x r' h => ?_⟩
      simp only [Option.some.injEq, Prod.mk.injEq] at h
      obtain ⟨rfl, rfl⟩ := h
      refine ⟨p + 1, by omega, by omega, g3, hj (Ev.step (fun k => by rw [Dxescaped.j0]) (Ev.pos rfl (Ev.pos (by omega) ?_)))⟩
      rw [ga', wsucc (by omega)]; exact Ev.rfl'
    | false =>
      rw [he] at hj
      rw [if_neg (by simp)]
      cases r with
      | nil =>
        have := drop_nil (s := s) (p := p + 1) g3
        exact ⟨fun _ => ⟨_, _, _, hj (Ev.step (fun k => by rw [Dxescaped.j0]) (Ev.neg (by simp) (Ev.pos (by omega) Ev.rfl')))⟩, fun x r' h => by simp at h⟩
      | cons b r2 =>
        obtain ⟨f1, f2, f3⟩ := drop_cons g3
        have h2 : bl (u.extract 0 2) = [a, b] := by
          unfold bl; rw [Lib.extract_data, show u.data.toList = bl u from rfl, hbu]; rfl
        obtain ⟨k1, k2⟩ := unhex_ev _ a b h2
        dsimp only
        cases hx : hex2 a b with
        | none =>
          exact ⟨fun _ => ⟨_, _, _, hj (Ev.step (fun k => by rw [Dxescaped.j0]) (Ev.neg (by simp) (Ev.neg (by omega) (Ev.pos (by omega) (Ev.pos (by omega) (Ev.bind (k1 hx) (Ev.neg (show ¬ ((4 : Int) = 0) by decide) Ev.rfl')))))))⟩, fun x r' h => by simp at h⟩
        | some x =>
          refine ⟨fun h => by simp at h, fun y r' h => ?_⟩
          simp only [Option.map_some, Option.some.injEq, Prod.mk.injEq] at h
          obtain ⟨rfl, rfl⟩ := h
          refine ⟨p + 2, by omega, by omega, f3, hj (Ev.step (fun k => by rw [Dxescaped.j0]) (Ev.neg (by simp) (Ev.neg (by omega) (Ev.pos (by omega) (Ev.pos (by omega) (Ev.bind (k2 x hx) (Ev.pos rfl (Ev.pos ?_ ?_))))))))⟩
          · show (0 : Int) < ((1 : Nat) : Int); omega
          · have e1 : bt (⟨#[x]⟩ : ByteArray) 0 = (x.toNat : Int) := (bt_get (s := ⟨#[x]⟩) (p := 0) (c := x) rfl).2
            have e2 : wrap64 ((p : Int) + 2) = ((p + 2 : Nat) : Int) := by unfold wrap64; omega
            dsimp only
            rw [e1, e2]; exact Ev.rfl'
abbrev VOut := ByteArray × Bool × ByteArray × Int
theorem kept_out (b : List UInt8) (kept : Nat) (hk : kept ≤ b.length) (s : ByteArray) (q : Int) : Ev (fun (_ : Nat) => if (0 : Int) ≤ (kept : Int) then (if (kept : Int) ≤ ((ints b).length : Int) then (some (strOfNums ((ints b).take (kept : Int).toNat), true, s, q)) else (none)) else (none)) (⟨(b.take kept).toArray⟩, true, s, q) := by
  refine Ev.pos (by omega) (Ev.pos (by rw [ints_length]; omega) ?_)
  rw [Int.toNat_natCast, ints_take, strOfNums_ints]; exact Ev.rfl'
theorem scan_ev (s : ByteArray) (hs : s.size ≤ 1000000) : ∀ (n p : Nat) (b : List UInt8) (kept : Nat), p ≤ s.size → s.size - p < n → kept ≤ b.length → b.length ≤ p →
    (scanN n ((bl s).drop p) b kept = none → ∃ t s' q, Ev (fun k => Dxvalue.l0 k (ints b) (kept : Int) s (p : Int)) (t, false, s', q)) ∧
    (∀ v r', scanN n ((bl s).drop p) b kept = some (v, r') → ∃ q : Nat, q ≤ s.size ∧ p ≤ q ∧ (bl s).drop q = r' ∧ Ev (fun k => Dxvalue.l0 k (ints b) (kept : Int) s (p : Int)) (⟨v.toArray⟩, true, s, (q : Int))) := by
  intro n
  induction n with
  | zero => intro p b kept hp hn; omega
  | succ n ih =>
    intro p b kept hp hn hk hb
    have hil : (ints b).length < 140737488355328 := by rw [ints_length]; omega
    cases hr : (bl s).drop p with
    | nil =>
      have := drop_nil hr
      refine ⟨fun h => by simp [scanN] at h, fun v r' h => ?_⟩
      simp only [scanN, Option.some.injEq, Prod.mk.injEq] at h
      obtain ⟨rfl, rfl⟩ := h
      exact ⟨p, hp, Nat.le_refl _, hr, Ev.step (fun k => by rw [Dxvalue.l0]) (Ev.neg (by omega) (kept_out b kept hk s _))⟩
    | cons c r =>
      obtain ⟨g1, g2, g3⟩ := drop_cons hr
      have e44 : ((c.toNat : Int) = 44) ↔ c = 44 := ieq c 44
      have e59 : ((c.toNat : Int) = 59) ↔ c = 59 := ieq c 59
      have e43 : ((c.toNat : Int) = 43) ↔ c = 43 := ieq c 43
      have e34 : ((c.toNat : Int) = 34) ↔ c = 34 := ieq c 34
      have e60 : ((c.toNat : Int) = 60) ↔ c = 60 := ieq c 60
      have e62 : ((c.toNat : Int) = 62) ↔ c = 62 := ieq c 62
      have e92 : ((c.toNat : Int) = 92) ↔ c = 92 := ieq c 92
      have e32 : ((c.toNat : Int) = 32) ↔ c = 32 := ieq c 32
      have hst : ∀ {v : VOut}, Ev (fun k => if (c.toNat : Int) = 44 then (Dxvalue.j1 k (ints b) (kept : Int) (c.toNat : Int) (c.toNat : Int) ((c.toNat : Int) == 44) s (p : Int)) else (if (c.toNat : Int) = 59 then (Dxvalue.j1 k (ints b) (kept : Int) (c.toNat : Int) (c.toNat : Int) ((c.toNat : Int) == 59) s (p : Int)) else (Dxvalue.j1 k (ints b) (kept : Int) (c.toNat : Int) (c.toNat : Int) ((c.toNat : Int) == 43) s (p : Int)))) v → Ev (fun k => Dxvalue.l0 k (ints b) (kept : Int) s (p : Int)) v := by
        intro v h
        refine Ev.step (fun k => by rw [Dxvalue.l0]) (Ev.pos (by omega) (Ev.pos (by omega) ?_))
        rw [g2]; exact h
      by_cases hsep : c = 44 ∨ c = 59 ∨ c = 43
      · refine ⟨fun h => by rw [scanN, if_pos hsep] at h; simp at h, fun v r' h => ?_⟩
        rw [scanN, if_pos hsep] at h
        simp only [Option.some.injEq, Prod.mk.injEq] at h
        obtain ⟨rfl, rfl⟩ := h
        refine ⟨p, hp, Nat.le_refl _, hr, hst ?_⟩
        have hj : Ev (fun k => Dxvalue.j1 k (ints b) (kept : Int) (c.toNat : Int) (c.toNat : Int) true s (p : Int)) (⟨(b.take kept).toArray⟩, true, s, (p : Int)) :=
          Ev.step (fun k => by rw [Dxvalue.j1]) (Ev.pos rfl (kept_out b kept hk s _))
        rcases hsep with h | h | h
        · refine Ev.pos (e44.2 h) ?_
          rw [beq_iff_eq.2 (e44.2 h)]; exact hj
        · refine Ev.neg (fun h' => by have := e44.1 h'; rw [h] at this; revert this; decide) (Ev.pos (e59.2 h) ?_)
          rw [beq_iff_eq.2 (e59.2 h)]; exact hj
        · refine Ev.neg (fun h' => by have := e44.1 h'; rw [h] at this; revert this; decide) (Ev.neg (fun h' => by have := e59.1 h'; rw [h] at this; revert this; decide) ?_)
          rw [beq_iff_eq.2 (e43.2 h)]; exact hj
      · have hsep' := hsep
        simp only [not_or] at hsep
        have hst2 : ∀ {v : VOut}, Ev (fun k => if (c.toNat : Int) = 34 then (some ((⟨#[]⟩ : ByteArray), false, s, (p : Int))) else (if (c.toNat : Int) = 60 then (some ((⟨#[]⟩ : ByteArray), false, s, (p : Int))) else (if (c.toNat : Int) = 62 then (some ((⟨#[]⟩ : ByteArray), false, s, (p : Int))) else (if (c.toNat : Int) = 92 then ((Dxescaped.f k s ((p + 1 : Nat) : Int)).bind fun bt311 => (if bt311.2.1 = true then (if (ints b).length < 140737488355328 then ((some (ints b ++ [bt311.1] : List Int)).bind fun y315 => (Dxvalue.l0 k y315 (y315.length : Int) bt311.2.2.1 bt311.2.2.2)) else (none)) else (some ((⟨#[]⟩ : ByteArray), false, bt311.2.2.1, bt311.2.2.2)))) else ((if (c.toNat : Int) = 32 then (Dxvalue.l0 k (ints (b ++ [c])) (kept : Int) s ((p + 1 : Nat) : Int)) else (Dxvalue.l0 k (ints (b ++ [c])) ((b.length + 1 : Nat) : Int) s ((p + 1 : Nat) : Int)))))))) v → Ev (fun k => Dxvalue.l0 k (ints b) (kept : Int) s (p : Int)) v := by
          intro v h
          refine hst (Ev.neg (fun h' => hsep.1 (e44.1 h')) (Ev.neg (fun h' => hsep.2.1 (e59.1 h')) ?_))
          rw [beq_eq_false_iff_ne.2 (fun h' => hsep.2.2 (e43.1 h'))]
          refine Ev.step (fun k => by rw [Dxvalue.j1]) (Ev.neg (by simp) (Ev.congr (fun k => ?_) h))
          rw [if_pos hil, Option.bind_some, ints_snoc, ints_length (b ++ [c]), wsucc (by omega), List.length_append, List.length_singleton]
        by_cases hbad : c = 34 ∨ c = 60 ∨ c = 62
        · refine ⟨fun _ => ?_, fun v r' h => by rw [scanN, if_neg hsep', if_pos hbad] at h; simp at h⟩
          by_cases h34 : c = 34
          · exact ⟨_, _, _, hst2 (Ev.pos (e34.2 h34) Ev.rfl')⟩
          by_cases h60 : c = 60
          · exact ⟨_, _, _, hst2 (Ev.neg (fun h => h34 (e34.1 h)) (Ev.pos (e60.2 h60) Ev.rfl'))⟩
          have h62 : c = 62 := by rcases hbad with h | h | h; exact absurd h h34; exact absurd h h60; exact h
          exact ⟨_, _, _, hst2 (Ev.neg (fun h => h34 (e34.1 h)) (Ev.neg (fun h => h60 (e60.1 h)) (Ev.pos (e62.2 h62) Ev.rfl')))⟩
        · have hbad' := hbad
          simp only [not_or] at hbad
          rw [scanN, if_neg hsep', if_neg hbad']
          have hst3 := fun {v : VOut} (h) => hst2 (v := v) (Ev.neg (fun h => hbad.1 (e34.1 h)) (Ev.neg (fun h => hbad.2.1 (e60.1 h)) (Ev.neg (fun h => hbad.2.2 (e62.1 h)) h)))
          by_cases h92 : c = 92
          · rw [if_pos h92]
            obtain ⟨k1, k2⟩ := escaped_ev s hs (p + 1) (by omega)
            rw [g3] at k1 k2
            cases he : esc r with
            | none =>
              obtain ⟨n', s', q, hq⟩ := k1 he
              exact ⟨fun _ => ⟨_, _, _, hst3 (Ev.pos (e92.2 h92) (Ev.bind hq (Ev.neg (by simp) Ev.rfl')))⟩, fun v r' h => by simp at h⟩
            | some x =>
              obtain ⟨q, q1, q2, q3, q4⟩ := k2 x.1 x.2 he
              have hi := ih q (b ++ [x.1]) (b.length + 1) q1 (by omega) (by simp) (by simp; omega)
              rw [q3] at hi
              simp only [Option.bind_some]
              have hgo : ∀ {v : VOut}, Ev (fun k => Dxvalue.l0 k (ints (b ++ [x.1])) ((b.length + 1 : Nat) : Int) s (q : Int)) v → Ev (fun k => Dxvalue.l0 k (ints b) (kept : Int) s (p : Int)) v := by
                intro v h
                refine hst3 (Ev.pos (e92.2 h92) (Ev.bind q4 (Ev.pos rfl (Ev.pos hil ?_))))
                refine Ev.congr (fun k => ?_) h
                rw [Option.bind_some, ints_snoc, ints_length, List.length_append, List.length_singleton]
              refine ⟨fun h => ?_, fun v r' h => ?_⟩
              · obtain ⟨t, s', q', h'⟩ := hi.1 h
                exact ⟨t, s', q', hgo h'⟩
              · obtain ⟨q', d1, d2, d3, d4⟩ := hi.2 v r' h
                exact ⟨q', d1, by omega, d3, hgo d4⟩
          · rw [if_neg h92]
            have hi := ih (p + 1) (b ++ [c]) (if c = 32 then kept else b.length + 1) (by omega) (by omega) (by split <;> simp; omega) (by simp; omega)
            rw [g3] at hi
            have hgo : ∀ {v : VOut}, Ev (fun k => Dxvalue.l0 k (ints (b ++ [c])) ((if c = 32 then kept else b.length + 1 : Nat) : Int) s ((p + 1 : Nat) : Int)) v → Ev (fun k => Dxvalue.l0 k (ints b) (kept : Int) s (p : Int)) v := by
              intro v h
              refine hst3 (Ev.neg (fun h' => h92 (e92.1 h')) ?_)
              by_cases h32 : c = 32
              · rw [if_pos h32] at h
                exact Ev.pos (e32.2 h32) h
              · rw [if_neg h32] at h
                exact Ev.neg (fun h' => h32 (e32.1 h')) h
            refine ⟨fun h => ?_, fun v r' h => ?_⟩
            · obtain ⟨t, s', q', h'⟩ := hi.1 h
              exact ⟨t, s', q', hgo h'⟩
            · obtain ⟨q', d1, d2, d3, d4⟩ := hi.2 v r' h
              exact ⟨q', d1, by omega, d3, hgo d4⟩
theorem hasPrefix35 (u : ByteArray) : strings_HasPrefix.f u (⟨#[35]⟩ : ByteArray) = some (match bl u with | [] => false | c :: _ => c == 35) := by
  unfold strings_HasPrefix.f stringslite_HasPrefix.f
  have h1 : ((⟨#[35]⟩ : ByteArray)).size = 1 := rfl
  rw [h1]
  cases hu : bl u with
  | nil =>
    have : u.size = 0 := by rw [← bl_length, hu]; rfl
    rw [this]; rfl
  | cons c r =>
    have : u.size = r.length + 1 := by rw [← bl_length, hu]; rfl
    rw [if_pos (by omega), if_pos (by omega), if_pos (by omega)]
    simp only [Option.bind_some, Lib.toList_data, Option.some.injEq]
    rw [Lib.extract_data, show u.data.toList = bl u from rfl, hu]
    simp
theorem value_ev (s : ByteArray) (hs : s.size ≤ 1000000) (p : Nat) (hp : p ≤ s.size) :
    (valueB ((bl s).drop p) = none → ∃ t s' q, Ev (fun k => Dxvalue.f k s (p : Int)) (t, false, s', q)) ∧
    (∀ v r', valueB ((bl s).drop p) = some (v, r') → ∃ q : Nat, q ≤ s.size ∧ p ≤ q ∧ (bl s).drop q = r' ∧ Ev (fun k => Dxvalue.f k s (p : Int)) (⟨v.toArray⟩, true, s, (q : Int))) := by
  obtain ⟨q1, a1, a2, a3, a4⟩ := blanks_f s hs p hp
  have hbu : bl (s.extract q1 s.size) = (bl s).drop q1 := by
    unfold bl; rw [Lib.extract_data, List.take_of_length_le]
    rw [List.length_drop]; have := bl_length s; unfold bl at this; omega
  have hpre := hasPrefix35 (s.extract q1 s.size)
  rw [hbu] at hpre
  have hst : ∀ {v : VOut} {b : Bool}, strings_HasPrefix.f (s.extract q1 s.size) (⟨#[35]⟩ : ByteArray) = some b → Ev (fun k => if b = true then (some ((⟨#[]⟩ : ByteArray), false, s, (q1 : Int))) else (Dxvalue.l0 k ([] : List Int) 0 s (q1 : Int))) v → Ev (fun k => Dxvalue.f k s (p : Int)) v := by
    intro v b hb h
    unfold Dxvalue.f
    refine Ev.bind a4 (Ev.pos (by dsimp only; omega) (Ev.pos (by dsimp only; omega) ?_))
    dsimp only
    rw [Int.toNat_natCast]
    exact Ev.bindc hb h
  unfold valueB
  rw [← a3]
  cases hr : (bl s).drop q1 with
  | nil =>
    rw [hr] at hpre
    have h0 := scan_ev s hs 1 q1 [] 0 a2 (by have := drop_nil hr; omega) (Nat.le_refl _) (Nat.zero_le _)
    rw [hr] at h0
    refine ⟨fun h => by simp at h, fun v r' h => ?_⟩
    simp only [Option.some.injEq, Prod.mk.injEq] at h
    obtain ⟨rfl, rfl⟩ := h
    obtain ⟨q, d1, d2, d3, d4⟩ := h0.2 [] [] rfl
    exact ⟨q, d1, by omega, d3, hst hpre (Ev.neg (by simp) d4)⟩
  | cons c r =>
    rw [hr] at hpre
    have h0 := scan_ev s hs (r.length + 2) q1 [] 0 a2 (by have := congrArg List.length hr; rw [List.length_drop, bl_length] at this; simp at this; omega) (Nat.le_refl _) (Nat.zero_le _)
    rw [hr] at h0
    dsimp only at hpre ⊢
    by_cases h35 : c = 35
    · rw [if_pos h35]
      rw [beq_iff_eq.2 h35] at hpre
      exact ⟨fun _ => ⟨_, _, _, hst hpre (Ev.pos rfl Ev.rfl')⟩, fun v r' h => by simp at h⟩
    · rw [if_neg h35]
      rw [beq_eq_false_iff_ne.2 h35] at hpre
      refine ⟨fun h => ?_, fun v r' h => ?_⟩
      · obtain ⟨t, s', q', h'⟩ := h0.1 h
        exact ⟨t, s', q', hst hpre (Ev.neg (by simp) h')⟩
      · obtain ⟨q', d1, d2, d3, d4⟩ := h0.2 v r' h
        exact ⟨q', d1, by omega, d3, hst hpre (Ev.neg (by simp) d4)⟩
abbrev AvaS := S40
def mkA (x : Pr) : AvaS := ⟨⟨x.1.toArray⟩, ⟨x.2.toArray⟩⟩
def mkR (l : List Pr) : List AvaS := l.map mkA
def mkN (n : List (List Pr)) : List (List AvaS) := n.map mkR
theorem mkR_snoc (l : List Pr) (x : Pr) : mkR l ++ [mkA x] = mkR (l ++ [x]) := by simp [mkR]
theorem mkN_snoc (l : List (List Pr)) (x : List Pr) : mkN l ++ [mkR x] = mkN (l ++ [x]) := by simp [mkN]
theorem mkR_len (l : List Pr) : (mkR l).length = l.length := by simp [mkR]
theorem mkN_len (l : List (List Pr)) : (mkN l).length = l.length := by simp [mkN]
theorem parse_loop (s : ByteArray) (hs : s.size ≤ 100000) : ∀ (n p : Nat) (rdn : List Pr) (l : List (List Pr)), p ≤ s.size → s.size - p < n → rdn.length ≤ p → l.length ≤ p →
    (goB n ((bl s).drop p) rdn l = none → Ev (fun k => dn_Parse.l0 k s (mkN l) (mkR rdn) s (p : Int)) ([], 4)) ∧
    (∀ N b, goB n ((bl s).drop p) rdn l = some N → Ev (fun k => dn_Right.f k (mkN N)) b → Ev (fun k => dn_Parse.l0 k s (mkN l) (mkR rdn) s (p : Int)) (if b = true then (mkN N, 0) else ([], 4))) := by
  intro n
  induction n with
  | zero => intro p rdn l hp hn; omega
  | succ n ih =>
    intro p rdn l hp hn hr1 hl1
    obtain ⟨k1, k2⟩ := kind_ev s hs p hp
    rw [goB]
    cases hk : kindB ((bl s).drop p) with
    | none =>
      obtain ⟨t, s', q, hq⟩ := k1 hk
      refine ⟨fun _ => Ev.step (fun k => by rw [dn_Parse.l0]) ?_, fun N b h => by simp at h⟩
      exact Ev.bind hq (Ev.neg (by simp) Ev.rfl')
    | some x =>
      obtain ⟨q1, a1, a2, a3, a4⟩ := k2 x.1 x.2 hk
      obtain ⟨v1, v2⟩ := value_ev s (by omega) q1 a1
      rw [a3] at v1 v2
      simp only [Option.bind_some]
      cases hv : valueB x.2 with
      | none =>
        obtain ⟨t, s', q, hq⟩ := v1 hv
        refine ⟨fun _ => Ev.step (fun k => by rw [dn_Parse.l0]) ?_, fun N b h => by simp at h⟩
        exact Ev.bind a4 (Ev.pos rfl (Ev.bind hq (Ev.neg (by simp) Ev.rfl')))
      | some y =>
        obtain ⟨q2, b1, b2, b3, b4⟩ := v2 y.1 y.2 hv
        simp only [Option.bind_some]
        have hst : ∀ {o : List (List AvaS) × Int}, Ev (fun k => if (q2 : Int) = (s.size : Int) then (dn_Parse.j1 k s (mkN l) (mkR (rdn ++ [(x.1, y.1)])) ((q2 : Int) == (s.size : Int)) true s (q2 : Int)) else (if (0 : Int) ≤ (q2 : Int) then (if (q2 : Int) < (s.size : Int) then (dn_Parse.j1 k s (mkN l) (mkR (rdn ++ [(x.1, y.1)])) ((q2 : Int) == (s.size : Int)) ((bt s (q2 : Int)) != 43) s (q2 : Int)) else (none)) else (none))) o → Ev (fun k => dn_Parse.l0 k s (mkN l) (mkR rdn) s (p : Int)) o := by
          intro o h
          refine Ev.step (fun k => by rw [dn_Parse.l0]) ?_
          refine Ev.bind a4 (Ev.pos rfl (Ev.bind b4 (Ev.pos rfl (Ev.pos (by rw [mkR_len]; omega) ?_))))
          refine Ev.bindc rfl ?_
          dsimp only
          rw [show mkR rdn ++ [(⟨⟨x.1.toArray⟩, ⟨y.1.toArray⟩⟩ : AvaS)] = mkR (rdn ++ [(x.1, y.1)]) from mkR_snoc rdn (x.1, y.1)]
          exact h
        have hlen : (mkN l).length < 5864062014805 := by rw [mkN_len]; omega
        cases hr : y.2 with
        | nil =>
          rw [hr] at b3
          have hq : q2 = s.size := by have := drop_nil b3; omega
          refine ⟨fun h => by simp at h, fun N b h hR => ?_⟩
          simp only [Option.some.injEq] at h
          subst h
          refine hst (Ev.pos (by omega) ?_)
          rw [beq_iff_eq.2 (by omega : (q2 : Int) = (s.size : Int))]
          refine Ev.step (fun k => by rw [dn_Parse.j1]) ?_
          refine Ev.pos rfl (Ev.pos hlen (Ev.bindc rfl (Ev.pos rfl ?_)))
          rw [mkN_snoc]
          refine Ev.bind hR ?_
          cases b with
          | true => exact Ev.pos rfl Ev.rfl'
          | false => exact Ev.neg (by simp) Ev.rfl'
        | cons c r3 =>
          rw [hr] at b3
          obtain ⟨g1, g2, g3⟩ := drop_cons b3
          have e43 : ((c.toNat : Int) = 43) ↔ c = 43 := ieq c 43
          have hst2 : ∀ {o : List (List AvaS) × Int}, Ev (fun k => dn_Parse.j1 k s (mkN l) (mkR (rdn ++ [(x.1, y.1)])) false ((c.toNat : Int) != 43) s (q2 : Int)) o → Ev (fun k => dn_Parse.l0 k s (mkN l) (mkR rdn) s (p : Int)) o := by
            intro o h
            refine hst (Ev.neg (by omega) (Ev.pos (by omega) (Ev.pos (by omega) ?_)))
            rw [beq_eq_false_iff_ne.2 (by omega : (q2 : Int) ≠ (s.size : Int)), g2]
            exact h
          dsimp only
          by_cases hc : c = 43
          · rw [if_pos hc]
            have hi := ih (q2 + 1) (rdn ++ [(x.1, y.1)]) l (by omega) (by omega) (by simp; omega) (by omega)
            rw [g3] at hi
            have hgo : ∀ {o : List (List AvaS) × Int}, Ev (fun k => dn_Parse.l0 k s (mkN l) (mkR (rdn ++ [(x.1, y.1)])) s ((q2 + 1 : Nat) : Int)) o → Ev (fun k => dn_Parse.l0 k s (mkN l) (mkR rdn) s (p : Int)) o := by
              intro o h
              refine hst2 ?_
              rw [show ((c.toNat : Int) != 43) = false by rw [bne, beq_iff_eq.2 (e43.2 hc)]; rfl]
              refine Ev.step (fun k => by rw [dn_Parse.j1]) (Ev.neg (by simp) (Ev.neg (by simp) ?_))
              rw [wsucc (by omega)]; exact h
            exact ⟨fun h => hgo (hi.1 h), fun N b h hR => hgo (hi.2 N b h hR)⟩
          · rw [if_neg hc]
            have hi := ih (q2 + 1) [] (l ++ [rdn ++ [(x.1, y.1)]]) (by omega) (by omega) (by simp) (by simp; omega)
            rw [g3] at hi
            have hgo : ∀ {o : List (List AvaS) × Int}, Ev (fun k => dn_Parse.l0 k s (mkN (l ++ [rdn ++ [(x.1, y.1)]])) (mkR []) s ((q2 + 1 : Nat) : Int)) o → Ev (fun k => dn_Parse.l0 k s (mkN l) (mkR rdn) s (p : Int)) o := by
              intro o h
              refine hst2 ?_
              rw [show ((c.toNat : Int) != 43) = true by rw [bne, beq_eq_false_iff_ne.2 (fun h => hc (e43.1 h))]; rfl]
              refine Ev.step (fun k => by rw [dn_Parse.j1]) ?_
              refine Ev.pos rfl (Ev.pos hlen (Ev.bindc rfl (Ev.neg (by simp) ?_)))
              rw [wsucc (by omega), mkN_snoc]; exact h
            exact ⟨fun h => hgo (hi.1 h), fun N b h hR => hgo (hi.2 N b h hR)⟩
theorem dw_idem {α : Type} (p : α → Bool) (l : List α) : (l.dropWhile p).dropWhile p = l.dropWhile p := by
  cases h : l.dropWhile p with
  | nil => rfl
  | cons c r => exact List.dropWhile_cons_of_neg (by simp [dw_head h])
theorem goB_blank (n : Nat) (r : List UInt8) (rdn : List Pr) (l : List (List Pr)) : goB (n + 1) (r.dropWhile (· == 32)) rdn l = goB (n + 1) r rdn l := by
  rw [goB, goB]
  have : kindB (r.dropWhile (· == 32)) = kindB r := by unfold kindB; rw [dw_idem]
  rw [this]
theorem parse_ev (s : ByteArray) (hs : s.size ≤ 100000) :
    (s.size > 1000 → Ev (fun k => dn_Parse.f k s) ([], 5)) ∧
    (s.size ≤ 1000 → (bl s).dropWhile (· == 32) = [] → Ev (fun k => dn_Parse.f k s) ([], 0)) ∧
    (s.size ≤ 1000 → (bl s).dropWhile (· == 32) ≠ [] → ((signs (bl s)).bind fun L => goP L [] [] []) = none → Ev (fun k => dn_Parse.f k s) ([], 4)) ∧
    (s.size ≤ 1000 → (bl s).dropWhile (· == 32) ≠ [] → ∀ N b, ((signs (bl s)).bind fun L => goP L [] [] []) = some N → Ev (fun k => dn_Right.f k (mkN N)) b → Ev (fun k => dn_Parse.f k s) (if b = true then (mkN N, 0) else ([], 4))) := by
  refine ⟨fun h => ?_, ?_⟩
  · unfold dn_Parse.f
    exact Ev.pos (by omega) Ev.rfl'
  obtain ⟨q1, a1, a2, a3, a4⟩ := blanks_f s (by omega) 0 (Nat.zero_le _)
  rw [List.drop_zero] at a3
  have hstart : ∀ (h : s.size ≤ 1000) (hne : (bl s).dropWhile (· == 32) ≠ []) {o : List (List AvaS) × Int}, Ev (fun k => dn_Parse.l0 k s (mkN []) (mkR []) s (q1 : Int)) o → Ev (fun k => dn_Parse.f k s) o := by
    intro h hne o ho
    unfold dn_Parse.f
    refine Ev.neg (by omega) ?_
    refine Ev.bind a4 (Ev.neg ?_ ho)
    dsimp only
    intro h'
    exact hne (by rw [← a3]; exact drop_end (by omega))
  have hsig : ((signs (bl s)).bind fun L => goP L [] [] []) = goB (s.size + 1) ((bl s).drop q1) [] [] := by
    rw [a3, goB_blank]
    exact (goB_eq (s.size + 1) (bl s) [] [] (by rw [bl_length]; omega)).symm
  refine ⟨fun h he => ?_, fun h hne hn => ?_, fun h hne N b hn hR => ?_⟩
  · unfold dn_Parse.f
    refine Ev.neg (by omega) ?_
    refine Ev.bind a4 (Ev.pos ?_ Ev.rfl')
    dsimp only
    have := drop_nil (a3.trans he)
    omega
  · rw [hsig] at hn
    exact hstart h hne ((parse_loop s hs (s.size + 1) q1 [] [] a2 (by omega) (Nat.zero_le _) (Nat.zero_le _)).1 hn)
  · rw [hsig] at hn
    exact hstart h hne ((parse_loop s hs (s.size + 1) q1 [] [] a2 (by omega) (Nat.zero_le _) (Nat.zero_le _)).2 N b hn hR)
theorem u8s (n : Nat) (h : n < 256) : n.toUInt8.toNat = n := by
  have e : n.toUInt8.toNat = n % 2 ^ 8 := UInt8.toNat_ofNat'
  rw [e]; exact Nat.mod_eq_of_lt h
def cutAt {α : Type} [DecidableEq α] (b : α) : List α → List (List α)
  | [] => [[]]
  | c :: r => if c = b then [] :: cutAt b r else match cutAt b r with
    | [] => [[c]]
    | w :: ws => (c :: w) :: ws
theorem cutAt_ne {α : Type} [DecidableEq α] (b : α) (l : List α) : cutAt b l ≠ [] := by
  cases l with
  | nil => simp [cutAt]
  | cons c r =>
    unfold cutAt
    split
    · simp
    · split <;> simp
theorem cutAt_cons {α : Type} [DecidableEq α] {b c : α} {l : List α} {w : List α} {ws : List (List α)} (hc : c ≠ b) (h : cutAt b l = w :: ws) : cutAt b (c :: l) = (c :: w) :: ws := by
  unfold cutAt; rw [if_neg hc, h]
theorem cutAt_blank {α : Type} [DecidableEq α] (b : α) (l : List α) : cutAt b (b :: l) = [] :: cutAt b l := by rw [cutAt, if_pos rfl]
theorem cutAt_app {α : Type} [DecidableEq α] {b : α} : ∀ (a l : List α), (∀ x ∈ a, x ≠ b) → ∀ {w : List α} {ws : List (List α)}, cutAt b l = w :: ws → cutAt b (a ++ l) = (a ++ w) :: ws
  | [], l, _, w, ws, h => h
  | x :: a, l, ha, w, ws, h => cutAt_cons (ha x (by simp)) (cutAt_app a l (fun y hy => ha y (by simp [hy])) h)
theorem cutAt_none {α : Type} [DecidableEq α] {b : α} (a : List α) (h : ∀ x ∈ a, x ≠ b) : cutAt b a = [a] := by
  have := cutAt_app a [] h (w := []) (ws := []) rfl
  simpa using this
def words {α : Type} [DecidableEq α] (b : α) (l : List α) : List (List α) := (cutAt b l).filter (fun w => !w.isEmpty)
def nb (r : List Int) : Bool := match r with
  | [] => false
  | y :: _ => y != 32
def sq : List Int → Bool → List Int
  | [], _ => []
  | x :: r, ne => if x ≠ 32 ∨ (ne = true ∧ nb r = true) then x :: sq r true else sq r ne
theorem inter_cons {α : Type} (s w : List α) : ∀ (ws : List (List α)), s.intercalate (w :: ws) = w ++ ws.flatMap (s ++ ·)
  | [] => by simp [List.intercalate]
  | v :: ws => by
    have ih := inter_cons s v ws
    have : s.intercalate (w :: v :: ws) = w ++ (s ++ s.intercalate (v :: ws)) := by simp [List.intercalate, List.intersperse]
    rw [this, ih]; simp
theorem sq_true : ∀ (l w : List Int) (ws : List (List Int)), cutAt 32 l = w :: ws → sq l true = w ++ (ws.filter (fun w => !w.isEmpty)).flatMap ([32] ++ ·)
  | [], w, ws, h => by
    simp only [cutAt, List.cons.injEq] at h
    obtain ⟨rfl, rfl⟩ := h; rfl
  | x :: r, w, ws, h => by
    by_cases hx : x = 32
    · subst hx
      have h' : cutAt (32 : Int) (32 :: r) = [] :: cutAt 32 r := cutAt_blank 32 r
      rw [h'] at h
      simp only [List.cons.injEq] at h
      obtain ⟨rfl, rfl⟩ := h
      cases r with
      | nil => rfl
      | cons y r2 =>
        obtain ⟨w2, ws2, h2⟩ := List.exists_cons_of_ne_nil (cutAt_ne (32 : Int) (y :: r2))
        have ih := sq_true (y :: r2) w2 ws2 h2
        rw [h2]
        by_cases hy : y = 32
        · subst hy
          have e : sq (32 :: 32 :: r2) true = sq (32 :: r2) true := by
            conv => lhs; rw [sq]
            rw [if_neg (by simp [nb])]
          have hw : w2 = [] := by
            have h'' : cutAt (32 : Int) (32 :: r2) = [] :: cutAt 32 r2 := cutAt_blank 32 r2
            rw [h''] at h2; simp at h2; exact h2.1
          subst hw
          rw [e, ih]; simp
        · have e : sq (32 :: y :: r2) true = 32 :: sq (y :: r2) true := by
            conv => lhs; rw [sq]
            rw [if_pos (by simp [hy, nb])]
          have hw : w2 ≠ [] := by
            obtain ⟨w3, ws3, h3⟩ := List.exists_cons_of_ne_nil (cutAt_ne (32 : Int) r2)
            rw [cutAt_cons hy h3] at h2; simp at h2; rw [← h2.1]; simp
          rw [e, ih]
          rw [List.filter_cons_of_pos (by simp [hw])]; simp
    · obtain ⟨w2, ws2, h2⟩ := List.exists_cons_of_ne_nil (cutAt_ne (32 : Int) r)
      rw [cutAt_cons hx h2] at h
      simp only [List.cons.injEq] at h
      obtain ⟨rfl, rfl⟩ := h
      have ih := sq_true r w2 ws2 h2
      have e : sq (x :: r) true = x :: sq r true := by
        conv => lhs; rw [sq]
        rw [if_pos (Or.inl hx)]
      rw [e, ih]; rfl
theorem sq_words : ∀ (l : List Int), sq l false = [32].intercalate (words 32 l)
  | [] => rfl
  | x :: r => by
    by_cases hx : x = 32
    · subst hx
      have h' : words (32 : Int) (32 :: r) = words 32 r := by unfold words; rw [cutAt_blank, List.filter_cons_of_neg (by simp)]
      have e : sq (32 :: r) false = sq r false := by
        conv => lhs; rw [sq]
        rw [if_neg (by simp)]
      rw [e, h', sq_words r]
    · obtain ⟨w2, ws2, h2⟩ := List.exists_cons_of_ne_nil (cutAt_ne (32 : Int) r)
      have e : sq (x :: r) false = x :: sq r true := by
        conv => lhs; rw [sq]
        rw [if_pos (Or.inl hx)]
      rw [e, sq_true r w2 ws2 h2]
      unfold words
      rw [cutAt_cons hx h2, List.filter_cons_of_pos (by simp), inter_cons]; rfl
theorem enc_blank : Lib.encodeRune 32 = [32] := by decide
theorem enc_other (r : Int) (h : r ≠ 32) : Lib.encodeRune r ≠ [] ∧ ∀ c ∈ Lib.encodeRune r, c ≠ 32 := by
  by_cases h1 : 0 ≤ r ∧ r ≤ 127
  · unfold Lib.encodeRune
    rw [Lib.encodeRuneZ_one h1.1 h1.2]
    refine ⟨by simp, ?_⟩
    intro c hc
    simp only [List.map_cons, List.map_nil, List.mem_singleton] at hc
    subst hc
    intro h2
    have := congrArg UInt8.toNat h2
    rw [u8s _ (by omega)] at this
    have h32 : (32 : UInt8).toNat = 32 := rfl
    omega
  · have hall : ∀ z : List Int, (∀ x ∈ z, 128 ≤ x ∧ x < 256) → ∀ c ∈ z.map (fun x => x.toNat.toUInt8), c ≠ 32 := by
      intro z hz c hc h2
      obtain ⟨x, hx, rfl⟩ := List.mem_map.1 hc
      have := hz x hx
      have h3 := congrArg UInt8.toNat h2
      rw [u8s _ (by omega)] at h3
      have h32 : (32 : UInt8).toNat = 32 := rfl
      omega
    unfold Lib.encodeRune
    by_cases h2 : 128 ≤ r ∧ r ≤ 2047
    · rw [Lib.encodeRuneZ_two h2.1 h2.2]
      exact ⟨by simp, hall _ (by simp; omega)⟩
    by_cases h3 : (2048 ≤ r ∧ r < 55296) ∨ (57343 < r ∧ r ≤ 65535)
    · rw [Lib.encodeRuneZ_three h3]
      exact ⟨by simp, hall _ (by simp; omega)⟩
    by_cases h4 : 65536 ≤ r ∧ r ≤ 1114111
    · rw [Lib.encodeRuneZ_four h4.1 h4.2]
      exact ⟨by simp, hall _ (by simp; omega)⟩
    · rw [Lib.encodeRuneZ_bad (by omega)]
      exact ⟨by simp, hall _ (by simp)⟩
theorem encAll_cons (r : Int) (l : List Int) : encAll (r :: l) = Lib.encodeRune r ++ encAll l := rfl
theorem encAll_app (a b : List Int) : encAll (a ++ b) = encAll a ++ encAll b := by simp [encAll]
theorem encAll_nil' {l : List Int} : encAll l = [] ↔ l = [] := by
  cases l with
  | nil => simp [encAll]
  | cons r l =>
    rw [encAll_cons]
    by_cases h : r = 32
    · subst h; rw [enc_blank]; simp
    · simp [(enc_other r h).1]
theorem cut_enc : ∀ (l : List Int), cutAt 32 (encAll l) = (cutAt 32 l).map encAll
  | [] => rfl
  | r :: l => by
    have ih := cut_enc l
    rw [encAll_cons]
    by_cases h : r = 32
    · subst h
      rw [enc_blank]
      show cutAt 32 (32 :: encAll l) = _
      have h1 := cutAt_blank (32 : UInt8) (encAll l)
      have h2 := cutAt_blank (32 : Int) l
      rw [h1, h2, ih]; rfl
    · obtain ⟨w2, ws2, h2⟩ := List.exists_cons_of_ne_nil (cutAt_ne (32 : Int) l)
      rw [h2] at ih
      rw [cutAt_app _ _ (enc_other r h).2 ih, cutAt_cons h h2]; rfl
theorem words_enc (l : List Int) : words 32 (encAll l) = (words 32 l).map encAll := by
  unfold words
  rw [cut_enc, List.filter_map]
  congr 1
  refine List.filter_congr fun w _ => ?_
  have := @encAll_nil' w
  cases w with
  | nil => rfl
  | cons x w =>
    have : encAll (x :: w) ≠ [] := fun h => by simp [encAll_nil'] at h
    simp [this]
theorem encAll_inter (ws : List (List Int)) : encAll ([32].intercalate ws) = [32].intercalate (ws.map encAll) := by
  cases ws with
  | nil => rfl
  | cons w ws =>
    rw [inter_cons, List.map_cons, inter_cons, encAll_app]
    congr 1
    induction ws with
    | nil => rfl
    | cons v ws ih => rw [List.flatMap_cons, List.map_cons, List.flatMap_cons, encAll_app, encAll_app, ih, show encAll [32] = [32] from by decide]
def readyOf (fold : Bool) (s : ByteArray) : Option (List UInt8) := (runesN s s.size 0).map fun l => encAll (sq (l.filterMap (mapRune fold)) false)
theorem ready_words (l : List Int) : [32].intercalate (words 32 (encAll l)) = encAll (sq l false) := by rw [words_enc, sq_words, encAll_inter]
theorem index_blank (a b : List UInt8) (h : ∀ c ∈ a, c ≠ 32) : Lib.index (a ++ 32 :: b) [32] = (a.length : Int) := by
  rw [Lib.index_one]
  induction a with
  | nil => rfl
  | cons c a ih =>
    have hc := h c (by simp)
    have ih := ih fun x hx => h x (by simp [hx])
    rw [List.cons_append, Lib.indexByte, if_neg (by simpa using hc), ih, if_neg (by simp <;> omega)]
    simp
theorem index_noblank (a : List UInt8) (h : ∀ c ∈ a, c ≠ 32) : Lib.index a [32] = -1 := by
  rw [Lib.index_one]
  induction a with
  | nil => rfl
  | cons c a ih =>
    have hc := h c (by simp)
    have ih := ih fun x hx => h x (by simp [hx])
    rw [Lib.indexByte, if_neg (by simpa using hc), ih]; rfl
theorem first_blank (l : List UInt8) : (∀ c ∈ l, c ≠ 32) ∨ ∃ a b, l = a ++ 32 :: b ∧ ∀ c ∈ a, c ≠ 32 := by
  induction l with
  | nil => exact .inl (by simp)
  | cons c l ih =>
    by_cases hc : c = 32
    · exact .inr ⟨[], l, by rw [hc]; rfl, by simp⟩
    · rcases ih with h | ⟨a, b, rfl, h⟩
      · exact .inl fun x hx => by rcases List.mem_cons.1 hx with rfl | hx; exact hc; exact h x hx
      · exact .inr ⟨c :: a, b, rfl, fun x hx => by rcases List.mem_cons.1 hx with rfl | hx; exact hc; exact h x hx⟩
theorem splitK_blank : ∀ (k : Nat) (l : List UInt8), l.count 32 ≤ k → Lib.splitK [32] 0 k l = cutAt 32 l
  | 0, l, h => by
    have hn : ∀ c ∈ l, c ≠ 32 := by
      intro c hc h2; subst h2
      have := List.count_pos_iff.2 hc; omega
    rw [cutAt_none l hn]; rfl
  | k + 1, l, h => by
    rcases first_blank l with hn | ⟨a, b, rfl, hn⟩
    · rw [Lib.splitK, index_noblank l hn, if_pos (show ((-1 : Int) == -1) = true from rfl), cutAt_none l hn]
    · rw [Lib.splitK, index_blank a b hn, if_neg (by simp <;> omega)]
      have hc : b.count 32 ≤ k := by
        rw [List.count_append, List.count_cons] at h; simp at h; omega
      obtain ⟨w2, ws2, h2⟩ := List.exists_cons_of_ne_nil (cutAt_ne (32 : UInt8) (32 :: b))
      have h3 := cutAt_blank (32 : UInt8) b
      rw [cutAt_app a _ hn h3, List.append_nil]
      congr 1
      · simp
      · have e : (a ++ 32 :: b).drop ((a.length : Int).toNat + ([32] : List UInt8).length) = b := by simp
        rw [e]
        exact splitK_blank k b hc
theorem split_f (t : List UInt8) (ht : t.length ≤ 1000000) : ∃ ps : List ByteArray, strings_Split.f ⟨t.toArray⟩ (⟨#[32]⟩ : ByteArray) = some ps ∧ ps.map (·.data.toList) = cutAt 32 t := by
  unfold strings_Split.f
  refine ⟨_, by rw [if_pos (by rw [← bl_length]; exact ht), if_pos (show 1 ≤ (⟨#[32]⟩ : ByteArray).size from Nat.le_refl _)], ?_⟩
  rw [Lib.splitB_data]
  show Lib.splitK [32] 0 (Lib.count t [32]) t = _
  exact splitK_blank _ _ (by rw [Lib.count_one]; exact Nat.le_refl _)
theorem rdOf_at {L : List ByteArray} {i : Nat} {x : ByteArray} {r : List ByteArray} (h : L.drop i = x :: r) : i < L.length ∧ rdOf ByteArray.empty L (i : Int) = x ∧ L.drop (i + 1) = r := by
  have h1 : i < L.length := by
    rcases Nat.lt_or_ge i L.length with h' | h'
    · exact h'
    · rw [List.drop_eq_nil_of_le h'] at h; cases h
  refine ⟨h1, ?_, ?_⟩
  · have h0 : L[i]? = some x := by
      have := congrArg List.head? h
      rw [List.head?_drop] at this; simpa using this
    unfold rdOf
    rw [List.getD_eq_getElem?_getD, Int.toNat_natCast, h0]; rfl
  · have := congrArg List.tail h
    rw [List.tail_drop] at this; simpa using this
theorem ready_loop (ps : List ByteArray) (hps : ps.length ≤ 1000000) {t : ByteArray} : ∀ (n i : Nat) (acc : List ByteArray), ps.length - i = n → i ≤ ps.length → acc.length ≤ i →
    strings_Join.f (acc ++ (ps.drop i).filter (fun w => !w.data.toList.isEmpty)) (⟨#[32]⟩ : ByteArray) = some t →
    Ev (fun k => prep_Ready.l0 k acc ps (ps.length : Int) (i : Int)) (t, 0) := by
  intro n
  induction n with
  | zero =>
    intro i acc hn hi ha hj
    rw [List.drop_eq_nil_of_le (by omega)] at hj
    simp only [List.filter_nil, List.append_nil] at hj
    refine Ev.step (fun k => by rw [prep_Ready.l0]) ?_
    exact Ev.neg (by omega) (Ev.bindc hj Ev.rfl')
  | succ n ih =>
    intro i acc hn hi ha hj
    cases hr : ps.drop i with
    | nil => have := List.drop_eq_nil_iff.1 hr; omega
    | cons x r =>
      obtain ⟨g1, g2, g3⟩ := rdOf_at hr
      rw [hr] at hj
      refine Ev.step (fun k => by rw [prep_Ready.l0]) ?_
      rw [g2, wsucc (by omega), Lib.toList_data]
      refine Ev.pos (by omega) (Ev.pos (by omega) (Ev.pos (by omega) ?_))
      by_cases hx : x.data.toList = []
      · refine Ev.pos hx (ih (i + 1) acc (by omega) (by omega) (by omega) ?_)
        rw [g3]
        rw [List.filter_cons_of_neg (by simp [hx])] at hj; exact hj
      · refine Ev.neg hx (Ev.pos (by omega) (ih (i + 1) (acc ++ [x]) (by omega) (by omega) (by simp; omega) ?_))
        rw [g3]
        rw [List.filter_cons_of_pos (by simpa using hx)] at hj
        rw [List.append_assoc]; exact hj
theorem cutAt_len {α : Type} [DecidableEq α] (b : α) : ∀ l : List α, (cutAt b l).length ≤ l.length + 1
  | [] => by simp [cutAt]
  | c :: r => by
    have ih := cutAt_len b r
    by_cases hc : c = b
    · subst hc; rw [cutAt_blank]; simp; omega
    · obtain ⟨w2, ws2, h2⟩ := List.exists_cons_of_ne_nil (cutAt_ne b r)
      rw [h2] at ih
      rw [cutAt_cons hc h2]; simp at ih ⊢; omega
theorem sq_len : ∀ (l : List Int) (b : Bool), (sq l b).length ≤ l.length
  | [], _ => Nat.le_refl _
  | x :: r, b => by
    rw [sq]
    split
    · have := sq_len r true; simp; omega
    · have := sq_len r b; simp; omega
theorem ready_ev (s : ByteArray) (hs : s.size ≤ 100000) (fold : Bool) : Ev (fun k => prep_Ready.f k s fold) (match readyOf fold s with | some t => (⟨t.toArray⟩, 0) | none => (⟨#[]⟩, 19)) := by
  unfold prep_Ready.f
  have hm : prep_Map.f s fold = some (prep_Map.of fold (runesN s s.size 0)) := by unfold prep_Map.f; rw [if_pos (by omega)]
  refine Ev.bindc hm ?_
  unfold readyOf
  cases hr : runesN s s.size 0 with
  | none => exact Ev.neg (show ¬ ((19 : Int) = 0) by decide) Ev.rfl'
  | some l =>
    obtain ⟨_, hll⟩ := runesN_le s _ _ l hr
    have hfl : (l.filterMap (mapRune fold)).length ≤ s.size := Nat.le_trans (List.length_filterMap_le _ _) hll
    have hel := encAll_length (l.filterMap (mapRune fold))
    obtain ⟨ps, h1, h2⟩ := split_f (encAll (l.filterMap (mapRune fold))) (by omega)
    have hpl : ps.length ≤ 1000000 := by
      have := cutAt_len (32 : UInt8) (encAll (l.filterMap (mapRune fold)))
      rw [← h2, List.length_map] at this; omega
    refine Ev.pos (show (0 : Int) = 0 from rfl) (Ev.bindc h1 ?_)
    refine ready_loop ps hpl _ 0 [] rfl (Nat.zero_le _) (Nat.le_refl _) ?_
    rw [List.drop_zero, List.nil_append]
    unfold strings_Join.f
    have hj : joinB (ps.filter fun w => !w.data.toList.isEmpty) (⟨#[32]⟩ : ByteArray) = encAll (sq (l.filterMap (mapRune fold)) false) := by
      unfold joinB
      rw [← ready_words]
      unfold words
      rw [← h2, List.filter_map]; rfl
    have hfl2 : (ps.filter fun w => !w.data.toList.isEmpty).length ≤ ps.length := List.length_filter_le _ _
    have hsq := sq_len (l.filterMap (mapRune fold)) false
    have hel2 := encAll_length (sq (l.filterMap (mapRune fold)) false)
    rw [if_pos (by omega), hj, if_pos (by omega)]
end Go.Proofs.YtkklacijhmoopaaDoor.Print
namespace Go.Proofs.YtkklacijhmoopaaDoor.Print
open Go.RowKit Go.Proofs.YtkklacijhmoopaaDoorW.PrintWords Go.Proofs.YtkklacijhmoopaaDoorW.PrintLast Go.Proofs.YtkklacijhmoopaaDoorW.PrintMore
attribute [local go_sem] max2_int min2_int max_two min_two max_three min_three max_four min_four
set_option linter.unusedVariables false
set_option linter.unusedSimpArgs false
def R15Special.f (a0 : Int) : Option (Bool) := if a0 = 34 then (some true) else (if a0 = 43 then (some true) else (if a0 = 44 then (some true) else (if a0 = 59 then (some true) else (if a0 = 60 then (some true) else (if a0 = 61 then (some true) else (if a0 = 62 then (some true) else (some (a0 == 92))))))))
set_option maxHeartbeats 8000000 in
set_option maxRecDepth 100000 in
theorem R15Special.calls (a0 : Int) (r : Bool) (w : World) (h : R15Special.f a0 = some r) :
  Calls Tryd.prog 44 #[.int .u8 a0] w fun e w' => e = .returned (.bool r) ∧ Drawn0 w w' := by
 have H : (if a0 = 34 then (some true) else (if a0 = 43 then (some true) else (if a0 = 44 then (some true) else (if a0 = 59 then (some true) else (if a0 = 60 then (some true) else (if a0 = 61 then (some true) else (if a0 = 62 then (some true) else (some (a0 == 92))))))))) = some r := h
 clear h
 by_cases c2 : a0 = 34
 ·
  rw [if_pos c2] at H
  have c2b0 : (a0 == 34) = true := beq_iff_eq.mpr c2
  have c2b1 : (a0 != 34) = false := bne_eq_false_iff_eq.mpr c2
  clear c2
  obtain rfl := Option.some.inj H
  go_enter Tryd.func44, Tryd.ntmps44
  go_wp2
  go_ret
  exact ⟨ap2, ap7⟩
 ·
  rw [if_neg c2] at H
  have c2b0 : (a0 == 34) = false := beq_eq_false_iff_ne.mpr c2
  have c2b1 : (a0 != 34) = true := bne_iff_ne.mpr c2
  by_cases c3 : a0 = 43
  ·
   rw [if_pos c3] at H
   have c3b0 : (a0 == 43) = true := beq_iff_eq.mpr c3
   have c3b1 : (a0 != 43) = false := bne_eq_false_iff_eq.mpr c3
   clear c3
   obtain rfl := Option.some.inj H
   go_enter Tryd.func44, Tryd.ntmps44
   go_wp2
   go_ret
   exact ⟨ap2, ap7⟩
  ·
   rw [if_neg c3] at H
   have c3b0 : (a0 == 43) = false := beq_eq_false_iff_ne.mpr c3
   have c3b1 : (a0 != 43) = true := bne_iff_ne.mpr c3
   by_cases c4 : a0 = 44
   ·
    rw [if_pos c4] at H
    have c4b0 : (a0 == 44) = true := beq_iff_eq.mpr c4
    have c4b1 : (a0 != 44) = false := bne_eq_false_iff_eq.mpr c4
    clear c4
    obtain rfl := Option.some.inj H
    go_enter Tryd.func44, Tryd.ntmps44
    go_wp2
    go_ret
    exact ⟨ap2, ap7⟩
   ·
    rw [if_neg c4] at H
    have c4b0 : (a0 == 44) = false := beq_eq_false_iff_ne.mpr c4
    have c4b1 : (a0 != 44) = true := bne_iff_ne.mpr c4
    by_cases c5 : a0 = 59
    ·
     rw [if_pos c5] at H
     have c5b0 : (a0 == 59) = true := beq_iff_eq.mpr c5
     have c5b1 : (a0 != 59) = false := bne_eq_false_iff_eq.mpr c5
     clear c5
     obtain rfl := Option.some.inj H
     go_enter Tryd.func44, Tryd.ntmps44
     go_wp2
     go_ret
     exact ⟨ap2, ap7⟩
    ·
     rw [if_neg c5] at H
     have c5b0 : (a0 == 59) = false := beq_eq_false_iff_ne.mpr c5
     have c5b1 : (a0 != 59) = true := bne_iff_ne.mpr c5
     by_cases c6 : a0 = 60
     ·
      rw [if_pos c6] at H
      have c6b0 : (a0 == 60) = true := beq_iff_eq.mpr c6
      have c6b1 : (a0 != 60) = false := bne_eq_false_iff_eq.mpr c6
      clear c6
      obtain rfl := Option.some.inj H
      go_enter Tryd.func44, Tryd.ntmps44
      go_wp2
      go_ret
      exact ⟨ap2, ap7⟩
     ·
      rw [if_neg c6] at H
      have c6b0 : (a0 == 60) = false := beq_eq_false_iff_ne.mpr c6
      have c6b1 : (a0 != 60) = true := bne_iff_ne.mpr c6
      by_cases c7 : a0 = 61
      ·
       rw [if_pos c7] at H
       have c7b0 : (a0 == 61) = true := beq_iff_eq.mpr c7
       have c7b1 : (a0 != 61) = false := bne_eq_false_iff_eq.mpr c7
       clear c7
       obtain rfl := Option.some.inj H
       go_enter Tryd.func44, Tryd.ntmps44
       go_wp2
       go_ret
       exact ⟨ap2, ap7⟩
      ·
       rw [if_neg c7] at H
       have c7b0 : (a0 == 61) = false := beq_eq_false_iff_ne.mpr c7
       have c7b1 : (a0 != 61) = true := bne_iff_ne.mpr c7
       by_cases c8 : a0 = 62
       ·
        rw [if_pos c8] at H
        have c8b0 : (a0 == 62) = true := beq_iff_eq.mpr c8
        have c8b1 : (a0 != 62) = false := bne_eq_false_iff_eq.mpr c8
        clear c8
        obtain rfl := Option.some.inj H
        go_enter Tryd.func44, Tryd.ntmps44
        go_wp2
        go_ret
        exact ⟨ap2, ap7⟩
       ·
        rw [if_neg c8] at H
        have c8b0 : (a0 == 62) = false := beq_eq_false_iff_ne.mpr c8
        have c8b1 : (a0 != 62) = true := bne_iff_ne.mpr c8
        obtain rfl := Option.some.inj H
        go_enter Tryd.func44, Tryd.ntmps44
        go_wp2
        go_ret
        exact ⟨ap2, ap7⟩
end Go.Proofs.YtkklacijhmoopaaDoor.Print
namespace Go.Proofs.YtkklacijhmoopaaDoor.Print
open Go.RowKit Go.Proofs.YtkklacijhmoopaaDoorW.PrintWords Go.Proofs.YtkklacijhmoopaaDoorW.PrintLast Go.Proofs.YtkklacijhmoopaaDoorW.PrintMore Go.Proofs.YtkklacijhmoopaaDoor.Pure
set_option linter.unusedVariables false
set_option linter.unusedSimpArgs false
set_option maxRecDepth 100000 in
theorem special_all : ∀ n : Nat, n < 256 → R15Special.f (n : Int) = some (special (UInt8.ofNat n)) := by decide +kernel
theorem special_is (c : UInt8) : R15Special.f (c.toNat : Int) = some (special c) := by
  have := special_all c.toNat c.toNat_lt
  rwa [ofNat_toNat8] at this
theorem getD_at {α : Type} {L : List α} {i : Nat} {x d : α} {r : List α} (h : L.drop i = x :: r) : i < L.length ∧ L.getD ((i : Int).toNat) d = x ∧ L.drop (i + 1) = r := by
  have h1 : i < L.length := by
    rcases Nat.lt_or_ge i L.length with h' | h'
    · exact h'
    · rw [List.drop_eq_nil_of_le h'] at h; cases h
  refine ⟨h1, ?_, ?_⟩
  · have h0 : L[i]? = some x := by
      have := congrArg List.head? h
      rw [List.head?_drop] at this; simpa using this
    rw [List.getD_eq_getElem?_getD, Int.toNat_natCast, h0]; rfl
  · have := congrArg List.tail h
    rw [List.tail_drop] at this; simpa using this
abbrev rdR := rd_L7
theorem rdA_at {L : List AvaS} {i : Nat} {x : AvaS} {r : List AvaS} (h : L.drop i = x :: r) : rd_T40 L (i : Int) = x := (getD_at h).2.1
theorem rdR_at {L : List (List AvaS)} {i : Nat} {x : List AvaS} {r : List (List AvaS)} (h : L.drop i = x :: r) : rd_L7 L (i : Int) = x := (getD_at h).2.1
def valueOk (s : ByteArray) : Bool := match readyOf true s with
  | some t => decide (s.size ≤ 255) && !t.isEmpty
  | none => false
theorem rightValue_ev (s : ByteArray) (hs : s.size ≤ 100000) : Ev (fun k => dn_rightValue.f k s) (valueOk s) := by
  unfold dn_rightValue.f valueOk
  have h := ready_ev s hs true
  cases hr : readyOf true s with
  | none =>
    rw [hr] at h
    refine Ev.bind h ?_
    by_cases hz : s.size ≤ 255
    · exact Ev.pos (by omega) (Ev.neg (show ¬ ((19 : Int) = 0) by decide) Ev.rfl')
    · exact Ev.neg (by omega) Ev.rfl'
  | some t =>
    rw [hr] at h
    refine Ev.bind h ?_
    dsimp only
    by_cases hz : s.size ≤ 255
    · refine Ev.pos (by omega) (Ev.pos rfl ?_)
      rw [Lib.toList_data, decide_eq_true hz]
      have : (t != ([] : List UInt8)) = (true && !t.isEmpty) := by cases t <;> rfl
      rw [← this]; exact Ev.rfl'
    · rw [decide_eq_false hz]
      exact Ev.neg (by omega) Ev.rfl'
def szA (a : AvaS) : Prop := a.f0.size ≤ 100000 ∧ a.f1.size ≤ 100000
def rdnIn : List AvaS → List AvaS → Bool
  | _, [] => true
  | pre, a :: rest => typeOk (bl a.f0) && valueOk a.f1 && !(pre.any (sameType a)) && rdnIn (pre ++ [a]) rest
def rdnOk (l : List AvaS) : Bool := decide (1 ≤ l.length ∧ l.length ≤ 4) && rdnIn [] l
theorem rdnGo_ev : ∀ (l pre : List AvaS), (∀ a ∈ l, szA a) → Ev (fun k => rdnGo k pre l) (rdnIn pre l)
  | [], pre, _ => show Ev _ true from Ev.congr (fun k => by rw [rdnGo]) Ev.rfl'
  | a :: rest, pre, h => by
    have ha := h a (by simp)
    have ih := rdnGo_ev rest (pre ++ [a]) fun b hb => h b (by simp [hb])
    refine Ev.congr (fun k => by rw [rdnGo]) ?_
    rw [rdnIn]
    cases hp : pre.any (sameType a) with
    | true => exact Ev.pos rfl (by simpa using Ev.rfl')
    | false =>
      refine Ev.neg (by simp) (Ev.bind (rightType_ev a.f0 (by have := ha.1; omega)) ?_)
      cases ht : typeOk (bl a.f0) with
      | false => exact Ev.neg (by simp) (by simpa using Ev.rfl')
      | true =>
        refine Ev.pos rfl (Ev.bind (rightValue_ev a.f1 ha.2) ?_)
        cases hv : valueOk a.f1 with
        | false => exact Ev.neg (by simp) (by simpa using Ev.rfl')
        | true => exact Ev.pos rfl (by simpa using ih)
theorem rightRdn_ev (l : List AvaS) (h : ∀ a ∈ l, szA a) : Ev (fun k => dn_rightRdn.f k l) (rdnOk l) := by
  unfold dn_rightRdn.f rdnOk
  by_cases h1 : l.length < 1
  · rw [decide_eq_false (by omega)]; exact Ev.pos h1 Ev.rfl'
  by_cases h2 : l.length > 4
  · rw [decide_eq_false (by omega)]; exact Ev.neg h1 (Ev.pos h2 Ev.rfl')
  · rw [decide_eq_true (by omega), Bool.true_and]; exact Ev.neg h1 (Ev.neg h2 (rdnGo_ev l [] h))
def nameOk (n : List (List AvaS)) : Bool := decide (n.length ≤ 12) && n.all rdnOk
def szN (n : List (List AvaS)) : Prop := ∀ l ∈ n, l.length ≤ 1000000 ∧ ∀ a ∈ l, szA a
theorem right_loop (n : List (List AvaS)) (hl : n.length ≤ 1000000) (h : szN n) : ∀ (m i : Nat), n.length - i = m → i ≤ n.length → Ev (fun k => dn_Right.l0 k n (n.length : Int) (i : Int)) ((n.drop i).all rdnOk) := by
  intro m
  induction m with
  | zero =>
    intro i hm hi
    rw [List.drop_eq_nil_of_le (by omega)]
    show Ev _ true
    exact Ev.step (fun k => by rw [dn_Right.l0]) (Ev.neg (by omega) Ev.rfl')
  | succ m ih =>
    intro i hm hi
    cases hr : n.drop i with
    | nil => have := List.drop_eq_nil_iff.1 hr; omega
    | cons l r =>
      obtain ⟨g1, _, g3⟩ := getD_at (d := []) hr
      have g2 := rdR_at hr
      have hsz := h l (by
        have : l ∈ n.drop i := by rw [hr]; simp
        exact List.mem_of_mem_drop this)
      have hi2 := ih (i + 1) (by omega) (by omega)
      rw [g3] at hi2
      refine Ev.step (fun k => by rw [dn_Right.l0]) ?_
      rw [g2, wsucc (by omega), List.all_cons]
      refine Ev.pos (by omega) (Ev.pos (by omega) (Ev.pos (by omega) (Ev.bind (rightRdn_ev l hsz.2) ?_)))
      cases rdnOk l with
      | true => exact Ev.pos rfl (by simpa using hi2)
      | false => exact Ev.neg (by simp) (by simpa using Ev.rfl')
theorem right_ev (n : List (List AvaS)) (hl : n.length ≤ 1000000) (h : szN n) : Ev (fun k => dn_Right.f k n) (nameOk n) := by
  unfold dn_Right.f nameOk
  by_cases h1 : n.length ≤ 12
  · rw [decide_eq_true h1, Bool.true_and]
    refine Ev.neg (by omega) ?_
    have := right_loop n hl h _ 0 rfl (Nat.zero_le _)
    rw [List.drop_zero] at this; exact this
  · rw [decide_eq_false h1]; exact Ev.pos (by omega) Ev.rfl'
end Go.Proofs.YtkklacijhmoopaaDoor.Print
namespace Go.Proofs.YtkklacijhmoopaaDoor.Print
open Go.RowKit Go.Proofs.YtkklacijhmoopaaDoorW.PrintWords Go.Proofs.YtkklacijhmoopaaDoorW.PrintLast Go.Proofs.YtkklacijhmoopaaDoorW.PrintMore
set_option linter.unusedVariables false
set_option linter.unusedSimpArgs false
def hexTab : Array UInt8 := #[48, 49, 50, 51, 52, 53, 54, 55, 56, 57, 97, 98, 99, 100, 101, 102]
def hexDig (n : Nat) : UInt8 := hexTab.getD n 0
theorem byte_getD (a : Array UInt8) (n : Nat) (h : n < (ByteArray.mk a).size) : (ByteArray.mk a)[n] = a.getD n 0 := by
  have h' : n < a.size := h
  show a[n] = _
  simp [Array.getD, h']
theorem hexDig_at (n : Nat) (h : n < (ByteArray.mk #[48, 49, 50, 51, 52, 53, 54, 55, 56, 57, 97, 98, 99, 100, 101, 102]).size) : (ByteArray.mk #[48, 49, 50, 51, 52, 53, 54, 55, 56, 57, 97, 98, 99, 100, 101, 102])[n] = hexDig n := byte_getD _ n h
theorem take_succ_by (a0 : ByteArray) (k : Nat) (h : k < a0.size) : a0.data.toList.take (k + 1) = a0.data.toList.take k ++ [a0[k]] := by
  have h' : k < a0.data.toList.length := by simpa using h
  rw [List.take_succ_eq_append_getElem h']
  rfl
def hexOf (l : List UInt8) : List UInt8 := l.flatMap fun c => [hexDig (c.toNat / 16), hexDig (c.toNat % 16)]
def b64_Hex.f (a0 : ByteArray) : Option ByteArray := if a0.size ≤ 1000000 then some ⟨(hexOf a0.data.toList).toArray⟩ else none
set_option maxHeartbeats 4000000 in
set_option maxRecDepth 1000000 in
theorem b64_Hex.calls (a0 : ByteArray) (r1 : ByteArray) (w : World) (h : b64_Hex.f a0 = some r1) :
    Calls Tryd.prog 66 #[.string a0] w fun e w' => e = .returned (.string r1) ∧ Below w.heap.size w w' := by
  have hsz : a0.size ≤ 1000000 := by unfold b64_Hex.f at h; by_cases c : a0.size ≤ 1000000 <;> simp_all
  have hof : (⟨(hexOf a0.data.toList).toArray⟩ : ByteArray) = r1 := by
    unfold b64_Hex.f at h; rw [if_pos hsz] at h; simpa using h
  subst hof
  clear h
  go_enter Tryd.func66, Tryd.ntmps66
  go_wp2
  go_loopw [7] (fun i wr => ∃ (k : Nat) (acc : List UInt8), k ≤ a0.size ∧ i = .int .i64 k ∧ Aside0 (Bld w.heap.size w.heap.size (Lib.byteCells acc) wr) ∧ Aside0 (Below w.heap.size w wr) ∧ Aside0 (acc = hexOf (a0.data.toList.take k)) ∧ Aside0 (acc.length = 2 * k)) (fun i _ => (a0.size - intOf i).toNat)
  case atStart =>
    exact ⟨0, [], Nat.zero_le _, rfl, ⟨Lib.IsBuilderF.of (Lib.fresh_isBuilder 89 5 w)⟩, ⟨(Below.refl _ w).alloc (Nat.le_refl _) _⟩, ⟨rfl⟩, ⟨by simp⟩⟩
  case round =>
    obtain ⟨k, acc, hk, rfl, HB, hbw, hacc, hacl⟩ := hrel
    by_cases hlt : k < a0.size
    · have hby : (a0[k].toNat : Int) < 256 := by have := a0[k].toNat_lt; omega
      go_wp2_with (go_at_call 67; first
        | ((with_reducible refine (bld_WriteByte w.heap.size w.heap.size _ _ _ g1.out (by have := hacl.out; simp only [List.length_append, Lib.byteCells_length, List.length_cons, List.length_nil]; omega) (by have := g2.out.size; have := hbw.out.size; omega)).mono ?_); rintro e w2 ⟨rfl, f1, f2, _⟩; replace f1 := Aside0.mk f1; replace f2 := Aside0.mk f2)
        | ((with_reducible refine (bld_WriteByte w.heap.size w.heap.size _ _ _ HB.out (by have := hacl.out; rw [Lib.byteCells_length]; omega) (by have := hbw.out.size; omega)).mono ?_); rintro e w1 ⟨rfl, g1, g2, _⟩; replace g1 := Aside0.mk g1; replace g2 := Aside0.mk g2))
      go_roundw
      case rel =>
        refine ⟨k + 1, acc ++ [hexDig (a0[k].toNat / 16), hexDig (a0[k].toNat % 16)], by omega, by go_num, ⟨?_⟩, ⟨hbw.out.trans (g2.out.trans f2.out)⟩, ⟨?_⟩, ⟨?_⟩⟩
        · have := f1.out
          rw [hexDig_at, hexDig_at] at this
          rw [Lib.byteCells_append]
          simpa [Lib.byteCells, List.append_assoc] using this
        · rw [hacc.out, take_succ_by a0 k hlt, hexOf, hexOf, List.flatMap_append]
          rfl
        · have := hacl.out; simp only [List.length_append, List.length_cons, List.length_nil]; omega
      case measure => simp [intOf]; omega
    · obtain rfl : k = a0.size := by omega
      obtain rfl : acc = hexOf a0.data.toList := by rw [hacc.out, List.take_of_length_le (by simp)]
      go_wp2_with (go_at_call 68; (with_reducible refine (bld_String w.heap.size w.heap.size _ _ HB.out ?h1).mono ?_); (case h1 => have := hbw.out.size; omega); rintro e w2 ⟨rfl, h2⟩; replace h2 := Aside0.mk h2)
      go_ret
      exact ⟨rfl, hbw.out.trans h2.out⟩
theorem conv_one (W : World) (c : Int) : (convert 72 9 (.slice (some ⟨W.heap.size, 0, none⟩) 1 1)).run Tryd.prog (W.alloc (.cells #[.int .u8 c] 5)) = .ok (.string (strOfNums [c])) (W.alloc (.cells #[.int .u8 c] 5)) := by
  refine string_of_reads (e := 5) Tryd.underlying72 Tryd.underlying5 Tryd.underlying9 ⟨rfl, by decide, fun _ => ⟨_, rfl, ?_⟩⟩
  intro j hj
  obtain rfl : j = 0 := by omega
  have hb : (W.alloc (.cells #[.int .u8 c] 5)).heap[W.heap.size]? = some (.cells #[.int .u8 c] 5 (0, 0)) := by simp only [World.alloc, Array.getElem?_push_size]
  show (W.alloc (.cells #[.int .u8 c] 5)).cell? ⟨W.heap.size, 0, none⟩ = _
  rw [Lib.cell_of_heap hb]
  rfl
theorem hex_one (c : UInt8) : b64_Hex.f (strOfNums [(c.toNat : Int)]) = some ⟨(hexOf [c]).toArray⟩ := by
  have e : strOfNums [(c.toNat : Int)] = ⟨#[c]⟩ := by simp [strOfNums]
  have hs : (ByteArray.mk #[c]).size ≤ 1000000 := by show 1 ≤ 1000000; omega
  rw [e]
  simp only [b64_Hex.f, if_pos hs]
def dnSigns : List UInt8 := [34, 43, 44, 59, 60, 61, 62, 92]
def dnPiece (n i : Nat) (c : UInt8) : List UInt8 :=
  if c.toNat < 32 ∨ c.toNat = 127 then 92 :: hexOf [c]
  else if (c.toNat = 32 ∧ (i = 0 ∨ i + 1 = n)) ∨ (c.toNat = 35 ∧ i = 0) ∨ 0 ≤ Lib.indexByte dnSigns c then [92, c] else [c]
theorem hexsz (c : UInt8) : (ByteArray.mk #[92] ++ ByteArray.mk (hexOf [c]).toArray).size = 3 := by
  simp [hexOf, ByteArray.size_append]; rfl
theorem strCells_cons (c : UInt8) (l : List UInt8) : Lib.strCells (⟨#[c]⟩ ++ ⟨l.toArray⟩) = Lib.byteCells (c :: l) := by
  simp [Lib.strCells_eq]
theorem dnPiece_hex (n i : Nat) (c : UInt8) (h : c.toNat < 32 ∨ c.toNat = 127) : dnPiece n i c = 92 :: hexOf [c] := by unfold dnPiece; rw [if_pos h]
theorem dnPiece_esc (n i : Nat) (c : UInt8) (h : ¬(c.toNat < 32 ∨ c.toNat = 127)) (h2 : (c.toNat = 32 ∧ (i = 0 ∨ i + 1 = n)) ∨ (c.toNat = 35 ∧ i = 0) ∨ 0 ≤ Lib.indexByte dnSigns c) : dnPiece n i c = [92, c] := by unfold dnPiece; rw [if_neg h, if_pos h2]
theorem dnPiece_bare (n i : Nat) (c : UInt8) (h : ¬(c.toNat < 32 ∨ c.toNat = 127)) (h2 : ¬((c.toNat = 32 ∧ (i = 0 ∨ i + 1 = n)) ∨ (c.toNat = 35 ∧ i = 0) ∨ 0 ≤ Lib.indexByte dnSigns c)) : dnPiece n i c = [c] := by unfold dnPiece; rw [if_neg h, if_neg h2]
theorem getD_by (a0 : ByteArray) (k : Nat) (h : k < a0.size) : a0.data.toList.getD k 0 = a0[k] := by
  have h' : k < a0.data.toList.length := by simpa using h
  rw [List.getD_eq_getElem?_getD, List.getElem?_eq_getElem h']
  rfl
theorem dnPiece_le (n i : Nat) (c : UInt8) : (dnPiece n i c).length ≤ 3 := by
  unfold dnPiece; split
  · simp [hexOf]
  · split <;> simp
theorem dnIdx32 : Lib.indexByte dnSigns 32 = -1 := by decide
theorem dnIdx35 : Lib.indexByte dnSigns 35 = -1 := by decide
theorem dnIdxF (c : UInt8) : strings_IndexByte.f ⟨#[34, 43, 44, 59, 60, 61, 62, 92]⟩ (c.toNat : Int) = some (Lib.indexByte dnSigns c) := by
  simp [strings_IndexByte.f, dnSigns]
theorem dnIdxF32 : strings_IndexByte.f ⟨#[34, 43, 44, 59, 60, 61, 62, 92]⟩ 32 = some (-1) := congrArg some dnIdx32
theorem dnIdxF35 : strings_IndexByte.f ⟨#[34, 43, 44, 59, 60, 61, 62, 92]⟩ 35 = some (-1) := congrArg some dnIdx35
def dnText (l : List UInt8) : List UInt8 := (List.range l.length).flatMap fun i => dnPiece l.length i (l.getD i 0)
def dn_value.f (a0 : ByteArray) : Option ByteArray := if a0.size ≤ 1000000 then some ⟨(dnText a0.data.toList).toArray⟩ else none
set_option maxHeartbeats 4000000 in
set_option maxRecDepth 1000000 in
theorem dn_value.calls (a0 : ByteArray) (r1 : ByteArray) (w : World) (h : dn_value.f a0 = some r1) :
    Calls Tryd.prog 39 #[.string a0] w fun e w' => e = .returned (.string r1) ∧ Below w.heap.size w w' := by
  have hsz : a0.size ≤ 1000000 := by unfold dn_value.f at h; by_cases c : a0.size ≤ 1000000 <;> simp_all
  have hof : (⟨(dnText a0.data.toList).toArray⟩ : ByteArray) = r1 := by
    unfold dn_value.f at h; rw [if_pos hsz] at h; simpa using h
  subst hof
  clear h
  have hL : a0.data.toList.length = a0.size := by simp
  have HL := Aside0.mk hL
  clear hL
  go_enter Tryd.func39, Tryd.ntmps39
  go_wp2
  go_loopw [9] (fun i wr => ∃ (k : Nat) (acc : List UInt8), k ≤ a0.size ∧ i = .int .i64 k ∧ Aside0 (Bld w.heap.size w.heap.size (Lib.byteCells acc) wr) ∧ Aside0 (Below w.heap.size w wr) ∧ Aside0 (acc = (List.range k).flatMap fun i => dnPiece a0.size i (a0.data.toList.getD i 0)) ∧ Aside0 (acc.length ≤ 3 * k)) (fun i _ => (a0.size - intOf i).toNat)
  case atStart =>
    exact ⟨0, [], Nat.zero_le _, rfl, ⟨Lib.IsBuilderF.of (Lib.fresh_isBuilder 89 5 w)⟩, ⟨(Below.refl _ w).alloc (Nat.le_refl _) _⟩, ⟨rfl⟩, ⟨by simp⟩⟩
  case round =>
    obtain ⟨k, acc, hk, rfl, HB, hbw, hacc, hacl⟩ := hrel
    by_cases hlt : k < a0.size
    · have hby : (a0[k].toNat : Int) < 256 := by have := a0[k].toNat_lt; omega
      have hcv := conv_one wr (a0[k].toNat : Int)
      have hca : Bld w.heap.size w.heap.size (Lib.byteCells acc) (wr.alloc (.cells #[.int .u8 (a0[k].toNat : Int)] 5)) := Lib.IsBuilderF.alloc HB.out _
      have hcb : Below w.heap.size w (wr.alloc (.cells #[.int .u8 (a0[k].toNat : Int)] 5)) := hbw.out.alloc (by have := hbw.out.size; omega) _
      replace hca := Aside0.mk hca
      replace hcb := Aside0.mk hcb
      have HH := hex_one a0[k]
      replace HH := Aside0.mk HH
      obtain ⟨z, hz⟩ : ∃ z, z = Lib.indexByte dnSigns a0[k] := ⟨_, rfl⟩
      have HI := hz ▸ dnIdxF a0[k]
      have HI1 := dnIdxF32
      have HI2 := dnIdxF35
      have hz1 : a0[k].toNat = 32 → z = -1 := by
        intro e; rw [hz, show a0[k] = 32 from UInt8.toNat_inj.1 e]; exact dnIdx32
      have hz2 : a0[k].toNat = 35 → z = -1 := by
        intro e; rw [hz, show a0[k] = 35 from UInt8.toNat_inj.1 e]; exact dnIdx35
      replace HI := Aside0.mk HI
      replace HI1 := Aside0.mk HI1
      replace HI2 := Aside0.mk HI2
      replace hz1 := Aside0.mk hz1
      replace hz2 := Aside0.mk hz2
      replace hz := Aside0.mk hz
      have HBn : Aside0 (∀ n, Bld w.heap.size w.heap.size (Lib.byteCells acc) (wr.drewN n)) := ⟨fun n => bld_drewN HB.out n⟩
      have hbn : Aside0 (∀ n, Below w.heap.size w (wr.drewN n)) := ⟨fun n => by apply pw_below_drewN; exact hbw.out⟩
      go_wp2_with (first
        | (go_at_call 50; first
            | ((with_reducible refine (strings_IndexByte.calls _ _ _ _ HI.out).mono ?_); rintro e w2 ⟨rfl, ⟨nd, rfl⟩⟩)
            | ((with_reducible refine (strings_IndexByte.calls _ _ _ _ HI1.out).mono ?_); rintro e w2 ⟨rfl, ⟨nd, rfl⟩⟩)
            | ((with_reducible refine (strings_IndexByte.calls _ _ _ _ HI2.out).mono ?_); rintro e w2 ⟨rfl, ⟨nd, rfl⟩⟩))
        | (go_at_call 66; (with_reducible refine (b64_Hex.calls _ _ _ HH.out).mono ?_); rintro e w2 ⟨rfl, h2⟩; have hcc := Aside0.mk (Lib.IsBuilderF.below hca.out h2); replace h2 := Aside0.mk (hcb.out.trans (h2.mono hcb.out.size)))
        | (go_at_call 65; (with_reducible refine (bld_WriteString w.heap.size w.heap.size _ _ _ hcc.out (by have := hacl.out; rw [Lib.byteCells_length, hexsz]; omega) (by exact h2.out.size)).mono ?_); rintro e w1 ⟨rfl, f1, f2, _⟩; replace f1 := Aside0.mk f1; replace f2 := Aside0.mk (h2.out.trans f2))
        | (go_at_call 67; first
          | ((with_reducible refine (bld_WriteByte w.heap.size w.heap.size _ _ _ g1.out (by have := hacl.out; simp only [List.length_append, Lib.byteCells_length, List.length_cons, List.length_nil]; omega) (by have := g2.out.size; omega)).mono ?_); rintro e w2 ⟨rfl, f1, f2, _⟩; replace f1 := Aside0.mk f1; replace f2 := Aside0.mk (g2.out.trans f2))
          | ((with_reducible refine (bld_WriteByte w.heap.size w.heap.size _ _ _ HB.out (by have := hacl.out; rw [Lib.byteCells_length]; omega) (by exact hbw.out.size)).mono ?_); rintro e w1 ⟨rfl, g1, g2, _⟩; replace g1 := Aside0.mk g1; replace g2 := Aside0.mk (hbw.out.trans g2))
          | ((with_reducible refine (bld_WriteByte w.heap.size w.heap.size _ _ _ (HBn.out nd) (by have := hacl.out; rw [Lib.byteCells_length]; omega) ((hbn.out nd).size)).mono ?_); rintro e w1 ⟨rfl, g1, g2, _⟩; replace g1 := Aside0.mk g1; replace g2 := Aside0.mk ((hbn.out nd).trans g2))))
      all_goals go_roundw
      all_goals (try (case measure => simp [intOf]; omega))
      all_goals (clear HI HI1 HI2 HH hcv hca hcb; try simp only [beq_iff_eq, beq_eq_false_iff_ne, ne_eq] at *)
      all_goals
        refine ⟨k + 1, acc ++ dnPiece a0.size k a0[k], by omega, by go_num, ⟨?_⟩, ⟨by first | exact f2.out | exact g2.out⟩, ⟨?_⟩, ⟨?_⟩⟩
        · rw [Lib.byteCells_append]
          first
          | (rw [dnPiece_esc a0.size k a0[k] (by omega) (by have := hz.out; have := hz1.out; have := hz2.out; omega)]; have := f1.out; simp only [List.append_assoc, List.cons_append, List.nil_append] at this; simp only [Lib.byteCells, List.map_cons, List.map_nil]; first | exact this | (rw [show (a0[k].toNat : Int) = 32 from by omega]; exact this) | (rw [show (a0[k].toNat : Int) = 35 from by omega]; exact this))
          | (rw [dnPiece_bare a0.size k a0[k] (by omega) (by have := hz.out; have := hz1.out; have := hz2.out; omega)]; have := g1.out; simp only [Lib.byteCells, List.map_cons, List.map_nil]; first | exact this | (rw [show (a0[k].toNat : Int) = 32 from by omega]; exact this) | (rw [show (a0[k].toNat : Int) = 35 from by omega]; exact this))
          | (rw [dnPiece_hex a0.size k a0[k] (by omega)]; have := f1.out; rw [strCells_cons] at this; exact this)
          | (exfalso; omega)
        · rw [hacc.out, List.range_succ, List.flatMap_append]
          simp only [List.flatMap_cons, List.flatMap_nil, List.append_nil]
          rw [getD_by a0 k hlt]
        · have := dnPiece_le a0.size k a0[k]; have := hacl.out; simp only [List.length_append]; omega
    · obtain rfl : k = a0.size := by omega
      obtain rfl : acc = dnText a0.data.toList := by rw [hacc.out, dnText, HL.out]
      go_wp2_with (go_at_call 68; (with_reducible refine (bld_String w.heap.size w.heap.size _ _ HB.out ?h1).mono ?_); (case h1 => have := hbw.out.size; omega); rintro e w2 ⟨rfl, h2⟩; replace h2 := Aside0.mk h2)
      go_ret
      exact ⟨rfl, hbw.out.trans h2.out⟩
end Go.Proofs.YtkklacijhmoopaaDoor.Print
namespace Go.Proofs.YtkklacijhmoopaaDoor.Print
open Go.RowKit Go.Proofs.YtkklacijhmoopaaDoorW.PrintWords Go.Proofs.YtkklacijhmoopaaDoorW.PrintLast Go.Proofs.YtkklacijhmoopaaDoorW.PrintMore
attribute [local go_sem] max2_int min2_int max_two min_two max_three min_three max_four min_four
set_option linter.unusedVariables false
set_option linter.unusedSimpArgs false
mutual
def dn_Print.l0 : Nat → List ByteArray → List (List (S40)) → Int → Int → Option (ByteArray × Int)
 | 0, _, _, _, _ => none
 | k + 1, x4, x14, x15, x16 => if x16 < x15 then (if 0 ≤ x16 then (if x16 < (x14.length : Int) then (dn_Print.l1 k x4 ([] : List ByteArray) x14 x15 x16 (rd_L7 x14 x16) ((rd_L7 x14 x16).length : Int) 0) else (none)) else (none)) else ((strings_Join.f x4 (⟨#[44]⟩ : ByteArray)).bind fun t341 => (if (t341.size : Int) > 1000 then (some ((⟨#[]⟩ : ByteArray), 5)) else (some (t341, 0))))
def dn_Print.l1 : Nat → List ByteArray → List ByteArray → List (List (S40)) → Int → Int → List (S40) → Int → Int → Option (ByteArray × Int)
 | 0, _, _, _, _, _, _, _, _ => none
 | k + 1, x4, x7, x14, x15, x16, x20, x21, x22 => if x22 < x21 then (if 0 ≤ x22 then (if x22 < (x20.length : Int) then (if ((rd_T40 x20 x22).f0).size + 1 ≤ 9223372036854775807 then ((dn_value.f ((rd_T40 x20 x22).f1)).bind fun t345 => (if (((rd_T40 x20 x22).f0) ++ (⟨#[61]⟩ : ByteArray)).size + t345.size ≤ 9223372036854775807 then (if x7.length < 8796093022208 then (dn_Print.l1 k x4 (x7 ++ [(((rd_T40 x20 x22).f0) ++ (⟨#[61]⟩ : ByteArray)) ++ t345]) x14 x15 x16 x20 x21 (wrap64 (x22 + 1))) else (none)) else (none))) else (none)) else (none)) else (none)) else ((strings_Join.f x7 (⟨#[43]⟩ : ByteArray)).bind fun t349 => (if x4.length < 8796093022208 then (dn_Print.l0 k (x4 ++ [t349]) x14 x15 (wrap64 (x16 + 1))) else (none)))
end
def dn_Print.f (k : Nat) (l0 : List (List (S40))) : Option (ByteArray × Int) := (dn_Right.f k l0).bind fun t340 => (if t340 = true then (dn_Print.l0 k ([] : List ByteArray) l0 (l0.length : Int) 0) else (some ((⟨#[]⟩ : ByteArray), 4)))
def dn_Print.T11 : Bool × List (List Nat × List Nat) := (true, [([], []), ([], []), ([1], [1]), ([2], [2]), ([], []), ([4], [4]), ([5], [5]), ([3, 6], [3, 6]), ([7], [7]), ([0, 8, 6], [0, 8]), ([9, 9, 0, 1, 2, 3, 4, 5, 6, 7, 8, 9], [0, 9])])
def dn_Print.B11 : List Nat := [0, 0, 2, 6, 0, 16, 48, 126, 254, 511, 1023]
theorem dn_Print.tab11 : rtab .any (opsOf Tryd.f16 11) = dn_Print.T11 := by kernel_rfl
theorem dn_Print.bits11 : waitsOk dn_Print.T11.2 dn_Print.B11 = true := by kernel_rfl
set_option maxHeartbeats 8000000 in
set_option maxRecDepth 100000 in
theorem dn_Print.calls (k : Nat) (A0 : Option Addr) (c0 : Nat) (l0 : List (List (S40))) (r1 : ByteArray) (r2 : Int) (w : World) (hr0 : Kd.C (Kd.slice 40 k40) w A0 l0.length l0) (hc0 : l0.length ≤ c0) (hG : Gw w) (h : dn_Print.f k l0 = some (r1, r2)) :
  Calls Tryd.prog 16 #[.slice A0 l0.length c0] w fun e w' => e = .returned (.tuple #[.string r1, .int .i64 r2]) ∧ Below w.heap.size w w' := by
 have hu40 := Tryd.underlying40
 have HR0 := Aside0.mk hr0
 have HC0 := Aside0.mk hc0
 clear hr0 hc0
 have HB := Aside0.mk (Below.refl w.heap.size w)
 have HG := Aside0.mk hG
 clear hG
 have H : ((dn_Right.f k l0).bind fun t340 => (if t340 = true then (dn_Print.l0 k ([] : List ByteArray) l0 (l0.length : Int) 0) else (some ((⟨#[]⟩ : ByteArray), 4)))) = some (r1, r2) := h
 clear h
 replace H := Option.bind_eq_some_iff.mp H
 obtain ⟨t340, A20, H⟩ := H
 replace H : (if t340 = true then (dn_Print.l0 k ([] : List ByteArray) l0 (l0.length : Int) 0) else (some ((⟨#[]⟩ : ByteArray), 4))) = some (r1, r2) := H
 have A2 := Aside0.mk A20
 clear A20
 by_cases c3 : t340 = true
 ·
  subst c3
  rw [if_pos rfl] at H
  have H' := Aside0.mk H
  clear H
  go_enter Tryd.func16, Tryd.ntmps16
  go_wp2_with (first | ((with_reducible refine gate_callee (f := 18) rfl ?_); refine goesL_ (some 12) rfl rfl Tryd.func18 (by kernel_rfl) rfl #[.slice A0 l0.length c0] rfl ap3 ?_; (with_reducible refine (dn_Right.calls k _ _ l0 true _ ?side1 ?side2 ?side3 A2.out).mono ?_); (case side1 => repeat (first | exact HR0.out | (with_reducible refine Kd.C_alloc ?_ _) | (with_reducible refine Kd.C_drewN ?_ _) | (with_reducible refine Kd.C_drew ?_))); (case side2 => exact HC0.out); (case side3 => exact ap6); rintro e w4 ⟨rfl, hb⟩; refine ⟨_, rfl, ?_⟩; have n0_ := Aside0.mk (below_step ap1 hb); clear HB; have HB := n0_; clear n0_; (try clear hb); (try clear hb2); (try clear hk); (try clear hi)))
  go_loopg [4, 16] k (fun kq v4 v16 w' => ∃ (x4_1 : List ByteArray) (x16_1 : Int), v16 = .int .i64 x16_1 ∧ Aside0 (dn_Print.l0 kq x4_1 l0 (l0.length : Int) x16_1 = some (r1, r2)) ∧ Aside0 (kq ≤ k) ∧ Aside0 (Kd.R Kd.string 9 w' w.heap.size (fun _ => True) v4 x4_1) ∧ Aside0 (Below w.heap.size w w'))
  case atStart => exact ⟨(([] : List ByteArray)), (0), ap2, H', ⟨Nat.le_refl _⟩, ⟨by first | exact Kd.R_nil _ _ _ _ _ | exact Kd.N_nil _ _ _ _ _ | exact Kd.V_nil _ _ _ _ _ | exact Kd.Q_nil _ _ _ _ _ | exact Kd.S_nil _ _ _ _ _⟩, ⟨by repeat (first | (with_reducible first | exact HB.out | apply below_alloc | apply pw_below_drewN | apply below_drew1) | exact HB.out)⟩⟩
  case round =>
   clear H'
   try clear c1
   try clear p2
   try clear c3
   obtain ⟨x4_1, x16_1, rfl, HA, HK1, HO_4, HB⟩ := hrel
   cases gk with
   | zero => exact absurd HA.out (by simp [dn_Print.l0])
   | succ k1 =>
    have H := HA.out
    clear HA
    simp only [dn_Print.l0] at H
    by_cases c5 : x16_1 < (l0.length : Int)
    ·
     rw [if_pos c5] at H
     have c5b0 := decide_eq_true c5
     clear c5
     by_cases c6 : 0 ≤ x16_1
     ·
      rw [if_pos c6] at H
      have c6b0 := decide_eq_true c6
      clear c6
      by_cases c7 : x16_1 < (l0.length : Int)
      ·
       rw [if_pos c7] at H
       have c7b0 := decide_eq_true c7
       clear c7
       have H' := Aside0.mk H
       clear H
       have p342 : 0 ≤ (x16_1 : Int) := of_decide_eq_true ap0
       have q342 : x16_1 < (l0.length : Int) := of_decide_eq_true ap0
       obtain ⟨ad342, A342_0, c342_0, e342, hx342_0, hl342_0, hi342_0⟩ := at_L7 HR0.out x16_1 p342 q342
       cases e342
       replace hx342_0 := (HB.out.cell (World.block_lt_of_cell? w _ hx342_0)).trans hx342_0
       have HR342_0 := Aside0.mk hi342_0
       have HC342_0 := Aside0.mk hl342_0
       clear hi342_0 hl342_0
       replace p342 := eq_true p342
       replace q342 := eq_true q342
       go_wp2
       go_loopg [7, 22] k1 (fun kq v7 v22 w' => ∃ (x7_2 : List ByteArray) (x22_2 : Int), v22 = .int .i64 x22_2 ∧ Aside0 (dn_Print.l1 kq x4_1 x7_2 l0 (l0.length : Int) x16_1 (rd_L7 l0 x16_1) ((rd_L7 l0 x16_1).length : Int) x22_2 = some (r1, r2)) ∧ Aside0 (kq ≤ k1) ∧ Aside0 (Kd.R Kd.string 9 w' w.heap.size (fun k_ => some k_ ≠ (v7 : Value).ownBlock) u4 x4_1) ∧ Aside0 (Kd.R Kd.string 9 w' w.heap.size (fun k_ => some k_ ≠ (u4 : Value).ownBlock) v7 x7_2) ∧ Aside0 (Below w.heap.size w w'))
       case atStart => exact ⟨(([] : List ByteArray)), (0), ap2, H', ⟨Nat.le_refl _⟩, ⟨by (with_reducible repeat (first | apply Kd.R_alloc | apply Kd.R_drewN | apply Kd.R_drew)); exact Kd.R_mono HO_4.out (fun _ hk => (by simp [Value.ownBlock]))⟩, ⟨by first | exact Kd.R_nil _ _ _ _ _ | exact Kd.N_nil _ _ _ _ _ | exact Kd.V_nil _ _ _ _ _ | exact Kd.Q_nil _ _ _ _ _ | exact Kd.S_nil _ _ _ _ _⟩, ⟨by repeat (first | (with_reducible first | exact HB.out | apply below_alloc | apply pw_below_drewN | apply below_drew1) | exact HB.out)⟩⟩
       case round =>
        clear H'
        try clear c1
        try clear p2
        try clear c3
        try clear p3
        try clear q3
        try clear hx3
        try clear c5
        try clear c5b0
        try clear c6
        try clear c6b0
        try clear c7
        try clear c7b0
        try clear hx342_0
        try clear p2
        try clear p342
        try clear q342
        obtain ⟨x7_2, x22_2, rfl, HA, HK2, HO_4, HO_7, HB⟩ := hrel
        cases gk with
        | zero => exact absurd HA.out (by simp [dn_Print.l1])
        | succ k2 =>
         have H := HA.out
         clear HA
         simp only [dn_Print.l1] at H
         by_cases c8 : x22_2 < ((rd_L7 l0 x16_1).length : Int)
         ·
          rw [if_pos c8] at H
          have c8b0 := decide_eq_true c8
          clear c8
          by_cases c9 : 0 ≤ x22_2
          ·
           rw [if_pos c9] at H
           have c9b0 := decide_eq_true c9
           clear c9
           by_cases c10 : x22_2 < ((rd_L7 l0 x16_1).length : Int)
           ·
            rw [if_pos c10] at H
            have c10b0 := decide_eq_true c10
            clear c10
            by_cases c11 : ((rd_T40 (rd_L7 l0 x16_1) x22_2).f0).size + 1 ≤ 9223372036854775807
            ·
             rw [if_pos c11] at H
             have c11b0 := eq_true c11
             have c11b1 := decide_eq_true c11
             try have c11b2 : (9223372036854775807 < ((rd_T40 (rd_L7 l0 x16_1) x22_2).f0).size + 1) = False := eq_false (Nat.not_lt.2 c11)
             replace H := Option.bind_eq_some_iff.mp H
             obtain ⟨t345, A120, H⟩ := H
             replace H : (if (((rd_T40 (rd_L7 l0 x16_1) x22_2).f0) ++ (⟨#[61]⟩ : ByteArray)).size + t345.size ≤ 9223372036854775807 then (if x7_2.length < 8796093022208 then (dn_Print.l1 k2 x4_1 (x7_2 ++ [(((rd_T40 (rd_L7 l0 x16_1) x22_2).f0) ++ (⟨#[61]⟩ : ByteArray)) ++ t345]) l0 (l0.length : Int) x16_1 (rd_L7 l0 x16_1) ((rd_L7 l0 x16_1).length : Int) (wrap64 (x22_2 + 1))) else (none)) else (none)) = some (r1, r2) := H
             have A12 := Aside0.mk A120
             clear A120
             by_cases c13 : (((rd_T40 (rd_L7 l0 x16_1) x22_2).f0) ++ (⟨#[61]⟩ : ByteArray)).size + t345.size ≤ 9223372036854775807
             ·
              rw [if_pos c13] at H
              have c13b0 := eq_true c13
              have c13b1 := decide_eq_true c13
              try have c13b2 : (9223372036854775807 < (((rd_T40 (rd_L7 l0 x16_1) x22_2).f0) ++ (⟨#[61]⟩ : ByteArray)).size + t345.size) = False := eq_false (Nat.not_lt.2 c13)
              try (have c13f := eq_false (Nat.not_lt.2 c13); simp only [ByteArray.size_append, sz_lit1, sz_lit2, sz_lit3] at c13f)
              by_cases c14 : x7_2.length < 8796093022208
              ·
               rw [if_pos c14] at H
               have LMc14 := Aside0.mk c14
               clear c14
               obtain ⟨y346, hy346⟩ : ∃ y_ : List ByteArray, y_ = (x7_2 ++ [(((rd_T40 (rd_L7 l0 x16_1) x22_2).f0) ++ (⟨#[61]⟩ : ByteArray)) ++ t345]) := ⟨_, rfl⟩
               replace H : (dn_Print.l1 k2 x4_1 y346 l0 (l0.length : Int) x16_1 (rd_L7 l0 x16_1) ((rd_L7 l0 x16_1).length : Int) (wrap64 (x22_2 + 1))) = some (r1, r2) := by first | (rw [hy346]; with_reducible exact H) | (have H2_ := (Option.bind_some _ _).symm.trans H; rw [hy346]; with_reducible exact H2_) | (have H2_ := (Option.bind_some _ _).symm.trans H; with_reducible exact H2_) | with_reducible exact H | (rw [hy346]; exact H) | exact H
               have Ny346 := Aside0.mk hy346
               clear hy346
               have H' := Aside0.mk H
               clear H
               have p343 : 0 ≤ (x22_2 : Int) := of_decide_eq_true ap0
               have q343 : x22_2 < ((rd_L7 l0 x16_1).length : Int) := of_decide_eq_true ap0
               obtain ⟨ad343, e343, hx343_0, hx343_1⟩ := at_T40 HR342_0.out x22_2 p343 q343
               cases e343
               replace hx343_0 := (HB.out.cell (World.block_lt_of_cell? w _ hx343_0)).trans hx343_0
               replace hx343_1 := (HB.out.cell (World.block_lt_of_cell? w _ hx343_1)).trans hx343_1
               replace p343 := eq_true p343
               replace q343 := eq_true q343
               try go_wp2_with (first | ((with_reducible refine gate_dst (N := 9) rfl ?_); refine box_event ?hg (N := 9) ?hd (cs := #[.string (⟨#[]⟩ : ByteArray), .string (⟨#[]⟩ : ByteArray)]) (t := 40) ?hr ?_; (case hd => rfl); (case hg => rfl); (case hr => first | (go_simp; done) | (go_simp; rfl)); intro gb344 hg w15 hbox hb; have n0_ := Aside0.mk (Kd.R_below (apAR HO_4.out) hb); have n1_ := Aside0.mk (Kd.R_below (apAR HO_7.out) hb); have n2_ := Aside0.mk (below_step ap1 hb); have n3_ := Aside0.mk (hbox); have n4_ := Aside0.mk ((by rw [hg]; exact (below_size ap1) : w.heap.size ≤ gb344)); have n5_ := Aside0.mk ((by rw [hg]; exact (below_size ap1) : w.heap.size ≤ gb344)); clear HO_4; clear HO_7; clear HB; have HO_4 := n0_; have HO_7 := n1_; have HB := n2_; have BK344 := n3_; have GW344 := n4_; have GE344 := n5_; clear n0_ n1_ n2_ n3_ n4_ n5_; clear hb hbox hg; have hcz16_0 : w15.cell? ⟨gb344, 0, none⟩ = some (.string (⟨#[]⟩ : ByteArray)) := (blk_cell BK344.out 0).trans rfl; have hcz16_1 : w15.cell? ⟨gb344, 1, none⟩ = some (.string (⟨#[]⟩ : ByteArray)) := (blk_cell BK344.out 1).trans rfl; have hfz16_0 := blk_frozen BK344.out 0; have hfz16_1 := blk_frozen BK344.out 1))
               have n0_ : Aside0 (Kd.R Kd.string 9 ((w15.setCell ⟨gb344, 0, none⟩ (.string ((rd_T40 (rd_L7 l0 x16_1) x22_2).f0))).setCell ⟨gb344, 1, none⟩ (.string ((rd_T40 (rd_L7 l0 x16_1) x22_2).f1))) w.heap.size (fun k_ => some k_ ≠ (u7 : Value).ownBlock) u4 x4_1) := ⟨by (with_reducible repeat (first | apply Kd.R_alloc | apply Kd.R_drewN | apply Kd.R_drew)); exact Kd.R_mono (Kd.R_far (p := ⟨gb344, 1, none⟩) (Kd.R_far (p := ⟨gb344, 0, none⟩) (Kd.R_types HO_4.out BK344.out (by decide)) (fun _ hk => hk.2) (.string ((rd_T40 (rd_L7 l0 x16_1) x22_2).f0))) (fun _ hk => hk.2) (.string ((rd_T40 (rd_L7 l0 x16_1) x22_2).f1))) (fun _ hk => hk.1)⟩
               have n1_ : Aside0 (Kd.R Kd.string 9 ((w15.setCell ⟨gb344, 0, none⟩ (.string ((rd_T40 (rd_L7 l0 x16_1) x22_2).f0))).setCell ⟨gb344, 1, none⟩ (.string ((rd_T40 (rd_L7 l0 x16_1) x22_2).f1))) w.heap.size (fun k_ => some k_ ≠ (u4 : Value).ownBlock) u7 x7_2) := ⟨by (with_reducible repeat (first | apply Kd.R_alloc | apply Kd.R_drewN | apply Kd.R_drew)); exact Kd.R_mono (Kd.R_far (p := ⟨gb344, 1, none⟩) (Kd.R_far (p := ⟨gb344, 0, none⟩) (Kd.R_types HO_7.out BK344.out (by decide)) (fun _ hk => hk.2) (.string ((rd_T40 (rd_L7 l0 x16_1) x22_2).f0))) (fun _ hk => hk.2) (.string ((rd_T40 (rd_L7 l0 x16_1) x22_2).f1))) (fun _ hk => hk.1)⟩
               have n2_ : Aside0 (((w15.setCell ⟨gb344, 0, none⟩ (.string ((rd_T40 (rd_L7 l0 x16_1) x22_2).f0))).setCell ⟨gb344, 1, none⟩ (.string ((rd_T40 (rd_L7 l0 x16_1) x22_2).f1))).heap[gb344]? = some (.cells #[.string ((rd_T40 (rd_L7 l0 x16_1) x22_2).f0), .string ((rd_T40 (rd_L7 l0 x16_1) x22_2).f1)] 40 (0, 0))) := ⟨by (with_reducible repeat (first | refine blk_drewN ?_ _ | refine blk_drew ?_ | refine blk_alloc ?_ _)); refine blk_put (cs := #[.string ((rd_T40 (rd_L7 l0 x16_1) x22_2).f0), .string (⟨#[]⟩ : ByteArray)]) ?_ 1 _ rfl; (with_reducible repeat (first | refine blk_drewN ?_ _ | refine blk_drew ?_ | refine blk_alloc ?_ _)); refine blk_put (cs := #[.string (⟨#[]⟩ : ByteArray), .string (⟨#[]⟩ : ByteArray)]) ?_ 0 _ rfl; (with_reducible repeat (first | refine blk_drewN ?_ _ | refine blk_drew ?_ | refine blk_alloc ?_ _)); exact BK344.out⟩
               have n3_ : Aside0 (Below w.heap.size w ((w15.setCell ⟨gb344, 0, none⟩ (.string ((rd_T40 (rd_L7 l0 x16_1) x22_2).f0))).setCell ⟨gb344, 1, none⟩ (.string ((rd_T40 (rd_L7 l0 x16_1) x22_2).f1)))) := ⟨by repeat (first | (with_reducible first | exact HB.out | apply below_alloc | apply pw_below_drewN | apply below_drew1 | refine below_set ?_ GE344.out) | exact HB.out)⟩
               (try clear HO_4)
               (try clear HO_7)
               (try clear BK344)
               (try clear HB)
               generalize ((w15.setCell ⟨gb344, 0, none⟩ (.string ((rd_T40 (rd_L7 l0 x16_1) x22_2).f0))).setCell ⟨gb344, 1, none⟩ (.string ((rd_T40 (rd_L7 l0 x16_1) x22_2).f1))) = w17 at n0_ n1_ n2_ n3_ ⊢
               have HO_4 := n0_
               have HO_7 := n1_
               have BK344 := n2_
               have HB := n3_
               clear n0_ n1_ n2_ n3_
               have n0_ := Aside0.mk (Kd.R_drew HO_4.out)
               have n1_ := Aside0.mk (Kd.R_drew HO_7.out)
               have n2_ := Aside0.mk (blk_drew BK344.out)
               have n3_ := Aside0.mk (below_drew1 HB.out)
               clear HO_4
               clear HO_7
               clear BK344
               clear HB
               have HO_4 := n0_
               have HO_7 := n1_
               have BK344 := n2_
               have HB := n3_
               clear n0_ n1_ n2_ n3_
               refine start_ (n := 11) (S := fun w' => w'.cell? ⟨gb344, 0, none⟩ = some (.string ((rd_T40 (rd_L7 l0 x16_1) x22_2).f0)) ∧ w'.cell? ⟨gb344, 1, none⟩ = some (.string ((rd_T40 (rd_L7 l0 x16_1) x22_2).f1))) (ds := []) #[false, false, false, false, false, false, false, false, false, false, false] (by kernel_rfl) rfl rfl ⟨(blk_cell BK344.out 0).trans rfl, (blk_cell BK344.out 1).trans rfl⟩ (fun hHeld => ?_); refine with_tabW dn_Print.tab11 dn_Print.bits11 (fun HT_ HW_ => ?_)
               generalize w17.drew = w18 at HO_4 HO_7 BK344 HB hHeld ⊢
               refine pure_ (i := 0) (N := some 26) (v := ?_) (a' := ?_) #[true, false, false, false, false, false, false, false, false, false, false] rfl rfl (any_of HT_.out (by kernel_rfl)) (fun _ _ _ h => h) (Or.inl ⟨by rfl, ?_⟩) ?_ ?_
               rotate_left
               ·
                intro w'
                go_simp
                with_reducible rfl
               rotate_left
               ·
                simp only [Act.put, List.setIfInBounds_toArray, List.set_cons_zero, List.set_cons_succ, i64_w, i32_w]
                rfl
               refine pure_ (i := 1) (N := some 27) (v := ?_) (a' := ?_) #[true, true, false, false, false, false, false, false, false, false, false] rfl rfl (any_of HT_.out (by kernel_rfl)) (fun _ _ _ h => h) (Or.inl ⟨by rfl, ?_⟩) ?_ ?_
               rotate_left
               ·
                intro w'
                go_simp
                with_reducible rfl
               rotate_left
               ·
                simp only [Act.put, List.setIfInBounds_toArray, List.set_cons_zero, List.set_cons_succ, i64_w, i32_w]
                rfl
               refine pure_ (i := 4) (N := some 30) (v := ?_) (a' := ?_) #[true, true, false, false, true, false, false, false, false, false, false] rfl rfl (any_of HT_.out (by kernel_rfl)) (fun _ _ _ h => h) (Or.inl ⟨by rfl, ?_⟩) ?_ ?_
               rotate_left
               ·
                intro w'
                go_simp
                with_reducible rfl
               rotate_left
               ·
                simp only [Act.put, List.setIfInBounds_toArray, List.set_cons_zero, List.set_cons_succ, i64_w, i32_w]
                rfl
               refine take_ (i := 2) (N := some 28) (v := ?_) (a' := ?_) #[true, true, true, false, true, false, false, false, false, false, false] rfl rfl (take_ofW HT_.out HW_.out (by kernel_rfl)) (fun _ _ _ h => h) (Or.inl ⟨by rfl, ?_⟩) hHeld ?_ ?_
               rotate_left
               ·
                rintro w' ⟨s0, s1⟩
                go_simp
                with_reducible rfl
               rotate_left
               ·
                simp only [Act.put, List.setIfInBounds_toArray, List.set_cons_zero, List.set_cons_succ, i64_w, i32_w]
                rfl
               refine pure_ (i := 3) (N := some 29) (v := ?_) (a' := ?_) #[true, true, true, true, true, false, false, false, false, false, false] rfl rfl (any_of HT_.out (by kernel_rfl)) (fun _ _ _ h => h) (Or.inl ⟨by rfl, ?_⟩) ?_ ?_
               rotate_left
               ·
                intro w'
                go_simp
                with_reducible rfl
               rotate_left
               ·
                simp only [Act.put, List.setIfInBounds_toArray, List.set_cons_zero, List.set_cons_succ, i64_w, i32_w]
                rfl
               refine take_ (i := 5) (N := some 31) (v := ?_) (a' := ?_) #[true, true, true, true, true, true, false, false, false, false, false] rfl rfl (take_ofW HT_.out HW_.out (by kernel_rfl)) (fun _ _ _ h => h) (Or.inl ⟨by rfl, ?_⟩) hHeld ?_ ?_
               rotate_left
               ·
                rintro w' ⟨s0, s1⟩
                go_simp
                with_reducible rfl
               rotate_left
               ·
                simp only [Act.put, List.setIfInBounds_toArray, List.set_cons_zero, List.set_cons_succ, i64_w, i32_w]
                rfl
               refine one_ (i := 6) (N := some 32) #[true, true, true, true, true, true, true, false, false, false, false] rfl rfl (one_of HT_.out (by kernel_rfl)) (by decide) (fun K hK => ?_)
               refine goes_ Tryd.func39 (by kernel_rfl) rfl #[.string ((rd_T40 (rd_L7 l0 x16_1) x22_2).f1)] (by rfl) rfl rfl ap3 ?_
               with_reducible refine (dn_value.calls ((rd_T40 (rd_L7 l0 x16_1) x22_2).f1) t345 _ A12.out).mono ?_
               rintro e w19 ⟨rfl, hb⟩
               refine ⟨_, rfl, ?_⟩
               have n0_ := Aside0.mk (Kd.R_below (apAR HO_4.out) hb)
               have n1_ := Aside0.mk (Kd.R_below (apAR HO_7.out) hb)
               have n2_ := Aside0.mk (blk_below (g := gb344) (o := .cells #[.string ((rd_T40 (rd_L7 l0 x16_1) x22_2).f0), .string ((rd_T40 (rd_L7 l0 x16_1) x22_2).f1)] 40 (0, 0)) (apB BK344.out) hb)
               have n3_ := Aside0.mk (below_step (apG GE344.out) hb)
               clear HO_4
               clear HO_7
               clear BK344
               clear HB
               have HO_4 := n0_
               have HO_7 := n1_
               have BK344 := n2_
               have HB := n3_
               clear n0_ n1_ n2_ n3_
               (try clear hb)
               (try clear hb2)
               (try clear hk)
               (try clear hi)
               refine hK.out _ _ ⟨(blk_cell BK344.out 0).trans rfl, (blk_cell BK344.out 1).trans rfl⟩ (fun hHeld => ?_)
               clear hK K
               refine norm_ (a' := ?_) ?_ ?_
               rotate_left
               ·
                show Act.put _ (some 32) _ = _
                simp only [Act.put, List.setIfInBounds_toArray, List.set_cons_zero, List.set_cons_succ, i64_w, i32_w]
                rfl
               refine pure_ (i := 7) (N := some 33) (v := ?_) (a' := ?_) #[true, true, true, true, true, true, true, true, false, false, false] rfl rfl (any_of HT_.out (by kernel_rfl)) (fun _ _ _ h => h) (Or.inl ⟨by rfl, ?_⟩) ?_ ?_
               rotate_left
               ·
                intro w'
                go_simp
                with_reducible rfl
               rotate_left
               ·
                simp only [Act.put, List.setIfInBounds_toArray, List.set_cons_zero, List.set_cons_succ, i64_w, i32_w]
                rfl
               refine one_ (i := 8) (N := some 34) #[true, true, true, true, true, true, true, true, true, false, false] rfl rfl (one_of HT_.out (by kernel_rfl)) (by decide) (fun K hK => ?_)
               refine value_ (w1 := ?_) (v := ?_) (by rfl) rfl ?_ ?_
               rotate_left 2
               ·
                go_simp
                constructor
                ·
                 rfl
                ·
                 rfl
               refine hK.out _ _ ⟨(blk_cell (blk_alloc BK344.out _) 0).trans rfl, (blk_cell (blk_alloc BK344.out _) 1).trans rfl⟩ (fun hHeld => ?_)
               clear hK K
               refine norm_ (a' := ?_) ?_ ?_
               rotate_left
               ·
                show Act.put _ (some 34) _ = _
                simp only [Act.put, List.setIfInBounds_toArray, List.set_cons_zero, List.set_cons_succ, i64_w, i32_w]
                rfl
               refine one_ (i := 9) (N := some 35) #[true, true, true, true, true, true, true, true, true, true, false] rfl rfl (one_of HT_.out (by kernel_rfl)) (by decide) (fun K hK => ?_)
               refine Kd.R_append_step Kd.string (w0 := w) w.heap.size (by rfl) (.tmp 26) (.tmp 34) 69 9 (.string ⟨#[]⟩) 16 rfl Tryd.underlying69 info9 rfl (by decide) (by omega) u7 x7_2 ((((rd_T40 (rd_L7 l0 x16_1) x22_2).f0) ++ (⟨#[61]⟩ : ByteArray)) ++ t345) [.string ((((rd_T40 (rd_L7 l0 x16_1) x22_2).f0) ++ (⟨#[61]⟩ : ByteArray)) ++ t345)] (fun k_ => some k_ ≠ (u4 : Value).ownBlock) (fun _ => False) rfl rfl ?aP (fun _ hk => hk.elim) ?aF ?aO ?aB ?aS ?aL ?_
               (case aP => exact rfl)
               (case aB => exact (apG GE344.out))
               (case aF => exact (fun k_ hk => Kd.fresh' (Kd.R_lt (apAR HO_4.out)) k_ hk))
               (case aO => exact (apAR HO_7.out))
               (case aS => exact (below_size (apG GE344.out)))
               (case aL => have := LMc14.out; omega)
               intro v347 w20 ho hb hg hat
               rw [← Ny346.out] at ho
               have n0_ := Aside0.mk (Kd.R_after (ok := (fun _ => True)) (by (with_reducible repeat (first | apply Kd.R_alloc | apply Kd.R_drewN | apply Kd.R_drew)); exact Kd.R_mono HO_4.out (fun _ hk => ⟨trivial, hk⟩)) hg hat)
               have n1_ := Aside0.mk (blk_grown (g := gb344) (o := .cells #[.string ((rd_T40 (rd_L7 l0 x16_1) x22_2).f0), .string ((rd_T40 (rd_L7 l0 x16_1) x22_2).f1)] 40 (0, 0)) (apB BK344.out) hg (Kd.R_ne HO_7.out BK344.out (by decide)))
               have n2_ := Aside0.mk (hb)
               have n3_ := Aside0.mk (ho)
               clear HO_4
               clear BK344
               clear HB
               clear HO_7
               have HO_4 := n0_
               have BK344 := n1_
               have HB := n2_
               have HO348 := n3_
               clear n0_ n1_ n2_ n3_
               clear ho hb hg hat
               refine hK.out _ _ ⟨(blk_cell BK344.out 0).trans rfl, (blk_cell BK344.out 1).trans rfl⟩ (fun hHeld => ?_)
               clear hK K
               refine norm_ (a' := ?_) ?_ ?_
               rotate_left
               ·
                show Act.put _ (some 35) _ = _
                simp only [Act.put, List.setIfInBounds_toArray, List.set_cons_zero, List.set_cons_succ, i64_w, i32_w]
                rfl
               refine pure_ (i := 10) (N := some 7) (v := ?_) (a' := ?_) #[true, true, true, true, true, true, true, true, true, true, true] rfl rfl (any_of HT_.out (by kernel_rfl)) (fun _ _ _ h => h) (Or.inl ⟨by rfl, ?_⟩) ?_ ?_
               rotate_left
               ·
                intro w'
                go_simp
                with_reducible rfl
               rotate_left
               ·
                simp only [Act.put, List.setIfInBounds_toArray, List.set_cons_zero, List.set_cons_succ, i64_w, i32_w]
                rfl
               refine done_ (done_of HT_.out (by kernel_rfl)) ?_
               try go_wp2
               go_roundg k2
               case measure => have := HK1.out; have := HK2.out; omega
               case rel => exact ⟨(y346), (wrap64 (x22_2 + 1)), ap2, H', ⟨by have := HK1.out; have := HK2.out; omega⟩, ⟨by (with_reducible repeat (first | apply Kd.R_alloc | apply Kd.R_drewN | apply Kd.R_drew)); exact Kd.R_mono HO_4.out (fun _ hk => hk.2)⟩, ⟨by (with_reducible repeat (first | apply Kd.R_alloc | apply Kd.R_drewN | apply Kd.R_drew)); exact HO348.out⟩, ⟨by repeat (first | (with_reducible first | exact HB.out | apply below_alloc | apply pw_below_drewN | apply below_drew1 | refine below_set ?_ GE344.out) | exact HB.out)⟩⟩
              ·
               rw [if_neg c14] at H
               exact absurd H (by simp)
             ·
              rw [if_neg c13] at H
              exact absurd H (by simp)
            ·
             rw [if_neg c11] at H
             exact absurd H (by simp)
           ·
            rw [if_neg c10] at H
            exact absurd H (by simp)
          ·
           rw [if_neg c9] at H
           exact absurd H (by simp)
         ·
          rw [if_neg c8] at H
          have c8b0 := decide_eq_false c8
          clear c8
          replace H := Option.bind_eq_some_iff.mp H
          obtain ⟨t349, A210, H⟩ := H
          replace H : (if x4_1.length < 8796093022208 then (dn_Print.l0 k2 (x4_1 ++ [t349]) l0 (l0.length : Int) (wrap64 (x16_1 + 1))) else (none)) = some (r1, r2) := H
          have A21 := Aside0.mk A210
          clear A210
          by_cases c22 : x4_1.length < 8796093022208
          ·
           rw [if_pos c22] at H
           have LMc22 := Aside0.mk c22
           clear c22
           obtain ⟨y350, hy350⟩ : ∃ y_ : List ByteArray, y_ = (x4_1 ++ [t349]) := ⟨_, rfl⟩
           replace H : (dn_Print.l0 k2 y350 l0 (l0.length : Int) (wrap64 (x16_1 + 1))) = some (r1, r2) := by first | (rw [hy350]; with_reducible exact H) | (have H2_ := (Option.bind_some _ _).symm.trans H; rw [hy350]; with_reducible exact H2_) | (have H2_ := (Option.bind_some _ _).symm.trans H; with_reducible exact H2_) | with_reducible exact H | (rw [hy350]; exact H) | exact H
           have Ny350 := Aside0.mk hy350
           clear hy350
           have H' := Aside0.mk H
           clear H
           obtain ⟨Ao23, co23, eo23⟩ := Kd.R_slice HO_7.out
           subst eo23
           go_wp2_with (first | ((with_reducible refine gate_callee (f := 40) rfl ?_); refine goesL_ (some 39) rfl rfl Tryd.func40 (by kernel_rfl) rfl #[.slice Ao23 x7_2.length co23, .string (⟨#[43]⟩ : ByteArray)] rfl ap3 ?_; (with_reducible refine (strings_Join.calls _ _ x7_2 (⟨#[43]⟩ : ByteArray) t349 _ ?side1 ?side2 A21.out).mono ?_); (case side1 => repeat (first | exact (Kd.R_reads' HO_7.out).2.2 | (with_reducible refine Kd.C_alloc ?_ _) | (with_reducible refine Kd.C_drewN ?_ _) | (with_reducible refine Kd.C_drew ?_))); (case side2 => exact (Kd.R_reads' HO_7.out).2.1); rintro e w24 ⟨rfl, hb⟩; refine ⟨_, rfl, ?_⟩; have n0_ := Aside0.mk (Kd.R_below (apAR HO_4.out) hb); have n1_ := Aside0.mk (Kd.R_below (apAR HO_7.out) hb); have n2_ := Aside0.mk (below_step ap1 hb); clear HO_4; clear HO_7; clear HB; have HO_4 := n0_; have HO_7 := n1_; have HB := n2_; clear n0_ n1_ n2_; (try clear hb); (try clear hb2); (try clear hk); (try clear hi)) | ((with_reducible refine gate_builtin (b := .append) (xs := #[.tmp 37, .tmp 40]) rfl ?_); at_builtin; refine Kd.R_append Kd.string (w0 := w) w.heap.size rfl (.tmp 37) (.tmp 40) 69 9 (.string ⟨#[]⟩) 16 rfl Tryd.underlying69 info9 rfl (by decide) (by omega) u4 x4_1 t349 [.string t349] (fun k_ => some k_ ≠ (.slice Ao23 x7_2.length co23 : Value).ownBlock) (fun _ => False) rfl rfl ?aP (fun _ hk => hk.elim) ?aF ?aO ?aB ?aS ?aL ?_; (case aP => exact rfl); (case aB => exact ap1); (case aF => exact (fun k_ hk => Kd.fresh' (Kd.R_lt (apAR HO_7.out)) k_ hk)); (case aO => exact (apAR HO_4.out)); (case aS => exact (below_size ap1)); (case aL => have := LMc22.out; omega); intro v351 w25 ho hb hg hat; rw [← Ny350.out] at ho; have n0_ := Aside0.mk (Kd.R_after (ok := (fun _ => True)) (by (with_reducible repeat (first | apply Kd.R_alloc | apply Kd.R_drewN | apply Kd.R_drew)); exact Kd.R_mono HO_7.out (fun _ hk => ⟨trivial, hk⟩)) hg hat); have n1_ := Aside0.mk (hb); have n2_ := Aside0.mk (ho); clear HO_7; clear HB; clear HO_4; have HO_7 := n0_; have HB := n1_; have HO352 := n2_; clear n0_ n1_ n2_; clear ho hb hg hat))
           go_roundg k2
           case measure => have := HK1.out; have := HK2.out; omega
           case rel => exact ⟨(y350), (wrap64 (x16_1 + 1)), ap2, H', ⟨by have := HK1.out; have := HK2.out; omega⟩, ⟨by (with_reducible repeat (first | apply Kd.R_alloc | apply Kd.R_drewN | apply Kd.R_drew)); exact Kd.R_mono HO352.out (fun _ hk => trivial)⟩, ⟨by repeat (first | (with_reducible first | exact HB.out | apply below_alloc | apply pw_below_drewN | apply below_drew1) | exact HB.out)⟩⟩
          ·
           rw [if_neg c22] at H
           exact absurd H (by simp)
      ·
       rw [if_neg c7] at H
       exact absurd H (by simp)
     ·
      rw [if_neg c6] at H
      exact absurd H (by simp)
    ·
     rw [if_neg c5] at H
     have c5b0 := decide_eq_false c5
     clear c5
     replace H := Option.bind_eq_some_iff.mp H
     obtain ⟨t341, A260, H⟩ := H
     replace H : (if (t341.size : Int) > 1000 then (some ((⟨#[]⟩ : ByteArray), 5)) else (some (t341, 0))) = some (r1, r2) := H
     have A26 := Aside0.mk A260
     clear A260
     by_cases c27 : (t341.size : Int) > 1000
     ·
      rw [if_pos c27] at H
      have c27b0 := decide_eq_true c27
      have c27b1 : decide (1000 < t341.size) = true := decide_eq_true (by omega)
      clear c27
      simp only [Option.some.injEq, Prod.mk.injEq] at H
      obtain ⟨rfl, rfl⟩ := H
      obtain ⟨Ao28, co28, eo28⟩ := Kd.R_slice HO_4.out
      subst eo28
      go_wp2_with (first | ((with_reducible refine gate_callee (f := 40) rfl ?_); refine goesL_ (some 44) rfl rfl Tryd.func40 (by kernel_rfl) rfl #[.slice Ao28 x4_1.length co28, .string (⟨#[44]⟩ : ByteArray)] rfl ap3 ?_; (with_reducible refine (strings_Join.calls _ _ x4_1 (⟨#[44]⟩ : ByteArray) t341 _ ?side1 ?side2 A26.out).mono ?_); (case side1 => repeat (first | exact (Kd.R_reads' HO_4.out).2.2 | (with_reducible refine Kd.C_alloc ?_ _) | (with_reducible refine Kd.C_drewN ?_ _) | (with_reducible refine Kd.C_drew ?_))); (case side2 => exact (Kd.R_reads' HO_4.out).2.1); rintro e w29 ⟨rfl, hb⟩; refine ⟨_, rfl, ?_⟩; have n0_ := Aside0.mk (Kd.R_below (apAR HO_4.out) hb); have n1_ := Aside0.mk (below_step ap1 hb); clear HO_4; clear HB; have HO_4 := n0_; have HB := n1_; clear n0_ n1_; (try clear hb); (try clear hb2); (try clear hk); (try clear hi)))
      go_ret2
      exact ⟨by first | rfl | (simp [errW_none, errW_some, bne_nil8, beq_nil8]; done) | (simp [errW_none, errW_some] <;> rfl) | (simp [*, errW_none, errW_some] <;> rfl), by repeat (first | (with_reducible first | exact HB.out | apply below_alloc | apply pw_below_drewN | apply below_drew1) | exact HB.out)⟩
     ·
      rw [if_neg c27] at H
      have c27b0 := decide_eq_false c27
      have c27b1 : decide (1000 < t341.size) = false := decide_eq_false (by omega)
      clear c27
      simp only [Option.some.injEq, Prod.mk.injEq] at H
      obtain ⟨rfl, rfl⟩ := H
      obtain ⟨Ao30, co30, eo30⟩ := Kd.R_slice HO_4.out
      subst eo30
      go_wp2_with (first | ((with_reducible refine gate_callee (f := 40) rfl ?_); refine goesL_ (some 44) rfl rfl Tryd.func40 (by kernel_rfl) rfl #[.slice Ao30 x4_1.length co30, .string (⟨#[44]⟩ : ByteArray)] rfl ap3 ?_; (with_reducible refine (strings_Join.calls _ _ x4_1 (⟨#[44]⟩ : ByteArray) t341 _ ?side1 ?side2 A26.out).mono ?_); (case side1 => repeat (first | exact (Kd.R_reads' HO_4.out).2.2 | (with_reducible refine Kd.C_alloc ?_ _) | (with_reducible refine Kd.C_drewN ?_ _) | (with_reducible refine Kd.C_drew ?_))); (case side2 => exact (Kd.R_reads' HO_4.out).2.1); rintro e w31 ⟨rfl, hb⟩; refine ⟨_, rfl, ?_⟩; have n0_ := Aside0.mk (Kd.R_below (apAR HO_4.out) hb); have n1_ := Aside0.mk (below_step ap1 hb); clear HO_4; clear HB; have HO_4 := n0_; have HB := n1_; clear n0_ n1_; (try clear hb); (try clear hb2); (try clear hk); (try clear hi)))
      go_ret2
      exact ⟨by first | rfl | (simp [errW_none, errW_some, bne_nil8, beq_nil8]; done) | (simp [errW_none, errW_some] <;> rfl) | (simp [*, errW_none, errW_some] <;> rfl), by repeat (first | (with_reducible first | exact HB.out | apply below_alloc | apply pw_below_drewN | apply below_drew1) | exact HB.out)⟩
 ·
  replace c3 := Bool.eq_false_iff.mpr c3
  subst c3
  rw [if_neg (show ¬ (false = true) by decide)] at H
  simp only [Option.some.injEq, Prod.mk.injEq] at H
  obtain ⟨rfl, rfl⟩ := H
  go_enter Tryd.func16, Tryd.ntmps16
  go_wp2_with (first | ((with_reducible refine gate_callee (f := 18) rfl ?_); refine goesL_ (some 12) rfl rfl Tryd.func18 (by kernel_rfl) rfl #[.slice A0 l0.length c0] rfl ap3 ?_; (with_reducible refine (dn_Right.calls k _ _ l0 false _ ?side1 ?side2 ?side3 A2.out).mono ?_); (case side1 => repeat (first | exact HR0.out | (with_reducible refine Kd.C_alloc ?_ _) | (with_reducible refine Kd.C_drewN ?_ _) | (with_reducible refine Kd.C_drew ?_))); (case side2 => exact HC0.out); (case side3 => exact ap6); rintro e w32 ⟨rfl, hb⟩; refine ⟨_, rfl, ?_⟩; have n0_ := Aside0.mk (below_step ap1 hb); clear HB; have HB := n0_; clear n0_; (try clear hb); (try clear hb2); (try clear hk); (try clear hi)))
  go_ret2
  exact ⟨by first | rfl | (simp [errW_none, errW_some, bne_nil8, beq_nil8]; done) | (simp [errW_none, errW_some] <;> rfl) | (simp [*, errW_none, errW_some] <;> rfl), by repeat (first | (with_reducible first | exact HB.out | apply below_alloc | apply pw_below_drewN | apply below_drew1) | exact HB.out)⟩
def R14Digit.f (a0 : Int) : Option (Int) := if a0 < 10 then (some ((wrap64 (48 + a0)) % 256)) else (some ((wrap64 (87 + a0)) % 256))
set_option maxHeartbeats 8000000 in
set_option maxRecDepth 100000 in
theorem R14Digit.calls (a0 : Int) (r : Int) (w : World) (h : R14Digit.f a0 = some r) :
  Calls Tryd.prog 43 #[.int .i64 a0] w fun e w' => e = .returned (.int .u8 r) ∧ Drawn0 w w' := by
 have H : (if a0 < 10 then (some ((wrap64 (48 + a0)) % 256)) else (some ((wrap64 (87 + a0)) % 256))) = some r := h
 clear h
 by_cases c2 : a0 < 10
 ·
  rw [if_pos c2] at H
  have c2b0 := decide_eq_true c2
  clear c2
  obtain rfl := Option.some.inj H
  go_enter Tryd.func43, Tryd.ntmps43
  go_wp2
  go_ret
  exact ⟨ap2, ap7⟩
 ·
  rw [if_neg c2] at H
  have c2b0 := decide_eq_false c2
  clear c2
  obtain rfl := Option.some.inj H
  go_enter Tryd.func43, Tryd.ntmps43
  go_wp2
  go_ret
  exact ⟨ap2, ap7⟩
mutual
def R15Text.l0 : Nat → ByteArray → List Int → Int → Option (ByteArray)
 | 0, _, _, _ => none
 | k + 1, x0, x3, x4 => if x4 < (x0.size : Int) then (if 0 ≤ x4 then (if (bt x0 x4) < 32 then (R15Text.j1 k x0 x3 x4 (bt x0 x4) true) else (R15Text.j1 k x0 x3 x4 (bt x0 x4) ((bt x0 x4) == 127))) else (none)) else (some (strOfNums x3))
def R15Text.j1 : Nat → ByteArray → List Int → Int → Int → Bool → Option (ByteArray)
 | 0, _, _, _, _, _ => none
 | k + 1, x0, x3, x4, x5, x21 => if x21 = true then ((R14Digit.f (wrap64 (Int.tdiv (wrap64 (x5)) 16))).bind fun t583 => ((R14Digit.f (Int.tmod (wrap64 (x5)) 16)).bind fun t584 => ((some (([92, t583, t584] : List Int) : List Int)).bind fun y585 => (if x3.length + y585.length < 140737488355328 then (R15Text.l0 k x0 (x3 ++ y585) (wrap64 (x4 + 1))) else (none))))) else ((R15Special.f x5).bind fun t591 => (if t591 = true then (if x3.length < 140737488355328 then ((some (x3 ++ [92] : List Int)).bind fun y592 => (if y592.length < 140737488355328 then (R15Text.l0 k x0 (y592 ++ [x5]) (wrap64 (x4 + 1))) else (none))) else (none)) else (if x5 = 32 then (if x4 = 0 then (if x3.length < 140737488355328 then ((some (x3 ++ [92] : List Int)).bind fun y598 => (if y598.length < 140737488355328 then (R15Text.l0 k x0 (y598 ++ [x5]) (wrap64 (x4 + 1))) else (none))) else (none)) else (if (wrap64 (x4 + 1)) = (x0.size : Int) then (if x3.length < 140737488355328 then ((some (x3 ++ [92] : List Int)).bind fun y604 => (if y604.length < 140737488355328 then (R15Text.l0 k x0 (y604 ++ [x5]) (wrap64 (x4 + 1))) else (none))) else (none)) else (if x5 = 35 then (if x3.length < 140737488355328 then (R15Text.l0 k x0 (x3 ++ [x5]) (wrap64 (x4 + 1))) else (none)) else (if x3.length < 140737488355328 then (R15Text.l0 k x0 (x3 ++ [x5]) (wrap64 (x4 + 1))) else (none))))) else (if x5 = 35 then (if x4 = 0 then (if x3.length < 140737488355328 then ((some (x3 ++ [92] : List Int)).bind fun y616 => (if y616.length < 140737488355328 then (R15Text.l0 k x0 (y616 ++ [x5]) (wrap64 (x4 + 1))) else (none))) else (none)) else (if x3.length < 140737488355328 then (R15Text.l0 k x0 (x3 ++ [x5]) (wrap64 (x4 + 1))) else (none))) else (if x3.length < 140737488355328 then (R15Text.l0 k x0 (x3 ++ [x5]) (wrap64 (x4 + 1))) else (none))))))
end
def R15Text.f (k : Nat) (a0 : ByteArray) : Option (ByteArray) := R15Text.l0 k a0 (([] : List Int)) 0
set_option maxHeartbeats 8000000 in
set_option maxRecDepth 100000 in
theorem R15Text.calls (k : Nat) (a0 : ByteArray) (r : ByteArray) (w : World) (h : R15Text.f k a0 = some r) :
  Calls Tryd.prog 23 #[.string a0] w fun e w' => e = .returned (.string r) ∧ Below w.heap.size w w' := by
 have HB := Aside0.mk (Below.refl w.heap.size w)
 have H : (R15Text.l0 k a0 (([] : List Int)) 0) = some r := h
 clear h
 obtain ⟨y580, hy580⟩ : ∃ y_ : List Int, y_ = (([] : List Int)) := ⟨_, rfl⟩
 replace H : (R15Text.l0 k a0 y580 0) = some r := by first | (rw [hy580]; with_reducible exact H) | (have H2_ := (Option.bind_some _ _).symm.trans H; rw [hy580]; with_reducible exact H2_) | (have H2_ := (Option.bind_some _ _).symm.trans H; with_reducible exact H2_) | with_reducible exact H | (rw [hy580]; exact H) | exact H
 have Ny580 := Aside0.mk hy580
 clear hy580
 have H' := Aside0.mk H
 clear H
 go_enter Tryd.func23, Tryd.ntmps23
 go_wp2_with (first | ((with_reducible refine gate_dst (N := 6) rfl ?_); (try (refine gate_guard (by rfl) ?_; dsimp only)); refine Kd.R_lit (Kd.int .u8) _ 5 ?hg (N := 6) ?hd (xs := ([] : List Int)) (inner := []) (ok := fun _ => True) (okp := fun _ => True) ?hr ?hp (fun _ hk => hk) trivial (Below.refl _ _) (Nat.le_refl _) (by simp) ?_; (case hd => rfl); (case hg => rfl); (case hr => first | (go_simp; done) | (go_simp; rfl)); (case hp => exact (Reps.none _ _)); intro v581 w2 ho3 hb hg_ hnew_; clear hg_ hnew_; (first | rw [← Ny580.out] at ho3 | (simp only [Int.reduceToNat] at ho3; rw [← Ny580.out] at ho3)); have n0_ := Aside0.mk (Kd.R_lower ho3 (below_size ap1)); have n1_ := Aside0.mk (below_step ap1 hb); clear HB; have HO582 := n0_; have HB := n1_; clear n0_ n1_; clear hb ho3))
 go_loopg [3, 4] k (fun kq v3 v4 w' => ∃ (x3_1 : List Int) (x4_1 : Int), v4 = .int .i64 x4_1 ∧ Aside0 (R15Text.l0 kq a0 x3_1 x4_1 = some r) ∧ Aside0 (kq ≤ k) ∧ Aside0 (Kd.R (Kd.int .u8) 5 w' w.heap.size (fun _ => True) v3 x3_1) ∧ Aside0 (Below w.heap.size w w'))
 case atStart => exact ⟨(y580), (0), ap2, H', ⟨Nat.le_refl _⟩, ⟨by (with_reducible repeat (first | apply Kd.R_alloc | apply Kd.R_drewN | apply Kd.R_drew)); exact HO582.out⟩, ⟨by repeat (first | (with_reducible first | exact HB.out | apply below_alloc | apply pw_below_drewN | apply below_drew1) | exact HB.out)⟩⟩
 case round =>
  clear H'
  try clear c2
  try clear p2
  obtain ⟨x3_1, x4_1, rfl, HA, HK1, HO_3, HB⟩ := hrel
  cases gk with
  | zero => exact absurd HA.out (by simp [R15Text.l0])
  | succ k1 =>
   have H := HA.out
   clear HA
   simp only [R15Text.l0] at H
   by_cases c4 : x4_1 < (a0.size : Int)
   ·
    rw [if_pos c4] at H
    have c4b0 := decide_eq_true c4
    clear c4
    by_cases c5 : 0 ≤ x4_1
    ·
     rw [if_pos c5] at H
     have c5b0 := decide_eq_true c5
     clear c5
     have HC7 := Aside0.mk H
     clear H
     have p6 : 0 ≤ (x4_1 : Int) := of_decide_eq_true ap0
     have q6 : x4_1 < (a0.size : Int) := of_decide_eq_true ap0
     have hx6 := bt_at a0 x4_1
     replace p6 := eq_true p6
     replace q6 := eq_true q6
     go_upto_region 6 with (fail)
     go_cut [21] (fun v21 wc => ∃ (kq : Nat) (x21_6 : Bool), v21 = .bool x21_6 ∧ Aside0 (R15Text.j1 kq a0 x3_1 x4_1 (bt a0 x4_1) x21_6 = some r) ∧ Aside0 (kq ≤ k1) ∧ Aside0 (Kd.R (Kd.int .u8) 5 wc w.heap.size (fun _ => True) u3 x3_1) ∧ Aside0 (Below w.heap.size w wc))
     case first =>
      have H := HC7.out
      clear HC7
      by_cases c8 : (bt a0 x4_1) < 32
      ·
       rw [if_pos c8] at H
       have c8b0 := decide_eq_true c8
       clear c8
       (first | rw [c8b0] | (simp only [i64_w, i32_w]; rw [c8b0]) | skip)
       have H' := Aside0.mk H
       clear H
       go_wp2
       go_meet
       case rel => exact ⟨_, (true), ap2, H', ⟨by have := HK1.out; first | omega | exact Nat.le_refl _⟩, ⟨by (with_reducible repeat (first | apply Kd.R_alloc | apply Kd.R_drewN | apply Kd.R_drew)); exact HO_3.out⟩, ⟨by repeat (first | (with_reducible first | exact HB.out | apply below_alloc | apply pw_below_drewN | apply below_drew1) | exact HB.out)⟩⟩
      ·
       rw [if_neg c8] at H
       have c8b0 := decide_eq_false c8
       clear c8
       (first | rw [c8b0] | (simp only [i64_w, i32_w]; rw [c8b0]) | skip)
       have H' := Aside0.mk H
       clear H
       go_wp2
       go_meet
       case rel => exact ⟨_, (((bt a0 x4_1) == 127)), ap2, H', ⟨by have := HK1.out; first | omega | exact Nat.le_refl _⟩, ⟨by (with_reducible repeat (first | apply Kd.R_alloc | apply Kd.R_drewN | apply Kd.R_drew)); exact HO_3.out⟩, ⟨by repeat (first | (with_reducible first | exact HB.out | apply below_alloc | apply pw_below_drewN | apply below_drew1) | exact HB.out)⟩⟩
     case rest =>
      clear HC7
      try clear c2
      try clear p2
      try clear c4
      try clear c4b0
      try clear c5
      try clear c5b0
      try clear p6
      try clear q6
      try clear hx6
      try clear c8
      try clear c8b0
      try clear p2
      try clear p6
      try clear q6
      obtain ⟨kq, x21_6, rfl, HA, HJ6, HO_3, HB⟩ := hcut
      cases kq with
      | zero => exact absurd HA.out (by simp [R15Text.j1])
      | succ kj6 =>
       have H := HA.out
       clear HA
       simp only [R15Text.j1] at H
       by_cases c9 : x21_6 = true
       ·
        subst c9
        rw [if_pos rfl] at H
        replace H := Option.bind_eq_some_iff.mp H
        obtain ⟨t583, A100, H⟩ := H
        replace H : ((R14Digit.f (Int.tmod (wrap64 ((bt a0 x4_1))) 16)).bind fun t584 => ((some (([92, t583, t584] : List Int) : List Int)).bind fun y585 => (if x3_1.length + y585.length < 140737488355328 then (R15Text.l0 kj6 a0 (x3_1 ++ y585) (wrap64 (x4_1 + 1))) else (none)))) = some r := H
        have A10 := Aside0.mk A100
        clear A100
        replace H := Option.bind_eq_some_iff.mp H
        obtain ⟨t584, A110, H⟩ := H
        replace H : ((some (([92, t583, t584] : List Int) : List Int)).bind fun y585 => (if x3_1.length + y585.length < 140737488355328 then (R15Text.l0 kj6 a0 (x3_1 ++ y585) (wrap64 (x4_1 + 1))) else (none))) = some r := H
        have A11 := Aside0.mk A110
        clear A110
        obtain ⟨y585, hy585⟩ : ∃ y_ : List Int, y_ = (([92, t583, t584] : List Int)) := ⟨_, rfl⟩
        replace H : (if x3_1.length + y585.length < 140737488355328 then (R15Text.l0 kj6 a0 (x3_1 ++ y585) (wrap64 (x4_1 + 1))) else (none)) = some r := by first | (rw [hy585]; with_reducible exact H) | (have H2_ := (Option.bind_some _ _).symm.trans H; rw [hy585]; with_reducible exact H2_) | (have H2_ := (Option.bind_some _ _).symm.trans H; with_reducible exact H2_) | with_reducible exact H | (rw [hy585]; exact H) | exact H
        have Ny585 := Aside0.mk hy585
        clear hy585
        by_cases c12 : x3_1.length + y585.length < 140737488355328
        ·
         rw [if_pos c12] at H
         have LMc12 := Aside0.mk c12
         clear c12
         obtain ⟨y588, hy588⟩ : ∃ y_ : List Int, y_ = (x3_1 ++ y585) := ⟨_, rfl⟩
         replace H : (R15Text.l0 kj6 a0 y588 (wrap64 (x4_1 + 1))) = some r := by first | (rw [hy588]; with_reducible exact H) | (have H2_ := (Option.bind_some _ _).symm.trans H; rw [hy588]; with_reducible exact H2_) | (have H2_ := (Option.bind_some _ _).symm.trans H; with_reducible exact H2_) | with_reducible exact H | (rw [hy588]; exact H) | exact H
         have Ny588 := Aside0.mk hy588
         clear hy588
         have H' := Aside0.mk H
         clear H
         go_wp2_with (first | ((with_reducible refine gate_callee (f := 43) rfl ?_); refine goesL_ (some 26) rfl rfl Tryd.func43 (by kernel_rfl) rfl #[.int .i64 (wrap64 (Int.tdiv (wrap64 ((bt a0 x4_1))) 16))] rfl ap3 ?_; (with_reducible refine (R14Digit.calls (wrap64 (Int.tdiv (wrap64 ((bt a0 x4_1))) 16)) t583 _ A10.out).mono ?_); rintro e w' ⟨rfl, ⟨nd, rfl⟩⟩; refine ⟨_, rfl, ?_⟩) | ((with_reducible refine gate_callee (f := 43) rfl ?_); refine goesL_ (some 30) rfl rfl Tryd.func43 (by kernel_rfl) rfl #[.int .i64 (Int.tmod (wrap64 ((bt a0 x4_1))) 16)] rfl ap3 ?_; (with_reducible refine (R14Digit.calls (Int.tmod (wrap64 ((bt a0 x4_1))) 16) t584 _ A11.out).mono ?_); rintro e w' ⟨rfl, ⟨nd, rfl⟩⟩; refine ⟨_, rfl, ?_⟩) | ((with_reducible refine gate_dst (N := 31) rfl ?_); (try (refine gate_guard (by rfl) ?_; dsimp only)); refine Kd.R_lit (Kd.int .u8) _ 5 ?hg (N := 31) ?hd (xs := ([92, t583, t584] : List Int)) (inner := [.int .u8 92, .int .u8 t583, .int .u8 t584]) (ok := fun _ => True) (okp := fun _ => True) ?hr ?hp (fun _ hk => hk) trivial (Below.refl _ _) (Nat.le_refl _) (by simp) ?_; (case hd => rfl); (case hg => rfl); (case hr => first | (go_simp; done) | (go_simp; rfl)); (case hp => exact (Reps.one (show Kd.M (Kd.int .u8) _ _ _ 92 [.int .u8 92] from rfl) (Reps.one (show Kd.M (Kd.int .u8) _ _ _ t583 [.int .u8 t583] from rfl) (Reps.one (show Kd.M (Kd.int .u8) _ _ _ t584 [.int .u8 t584] from rfl) (Reps.none _ _))))); intro v586 w13 ho14 hb hg_ hnew_; clear hg_ hnew_; (first | rw [← Ny585.out] at ho14 | (simp only [Int.reduceToNat] at ho14; rw [← Ny585.out] at ho14)); have n0_ := Aside0.mk (Kd.R_elder' (apAR HO_3.out) (Kd.R_base ho14) hb); have n1_ := Aside0.mk (Kd.R_lower (Kd.R_new' ho14 (Kd.R_lt (apAR HO_3.out))) (below_size ap1)); have n2_ := Aside0.mk (below_step ap1 hb); clear HO_3; clear HB; have HO_3 := n0_; have HO587 := n1_; have HB := n2_; clear n0_ n1_ n2_; clear hb ho14; obtain ⟨Ao16, co16, eo16⟩ := Kd.R_slice HO587.out; subst eo16) | ((with_reducible refine gate_builtin (b := .append) (xs := #[.tmp 22, .tmp 31]) rfl ?_); (try (refine gate_guard (by rfl) ?_; dsimp only)); at_builtin; refine Kd.R_append_rows (Kd.int .u8) (w0 := w) w.heap.size rfl (.tmp 22) (.tmp 31) 72 5 (.int .u8 0) 1 rfl Tryd.underlying72 info5 rfl (by decide) (by omega) u3 x3_1 y585 _ _ _ (fun k_ => some k_ ≠ (.slice Ao16 y585.length co16 : Value).ownBlock) (fun _ => False) rfl rfl ?aO ?aR (fun _ _ h => h) (fun _ h => h.elim) ?aF ?aB ?aS ?aL ?_; (case aR => repeat (first | exact (Kd.R_reads' HO587.out).2.2 | (with_reducible refine Kd.C_alloc ?_ _) | (with_reducible refine Kd.C_drewN ?_ _) | (with_reducible refine Kd.C_drew ?_))); (case aB => exact ap1); (case aF => exact (fun k_ hk => Kd.fresh' (Kd.R_lt (apAR HO587.out)) k_ hk)); (case aO => exact (by (with_reducible repeat (first | apply Kd.R_alloc | apply Kd.R_drewN | apply Kd.R_drew)); exact Kd.R_mono HO_3.out (fun _ hk => hk.2))); (case aS => exact (below_size ap1)); (case aL => have := LMc12.out; omega); intro v589 w15 ho hb hg hat; rw [← Ny588.out] at ho; have n0_ := Aside0.mk (Kd.R_after (ok := (fun _ => True)) (apAR HO587.out) hg hat); have n1_ := Aside0.mk (hb); have n2_ := Aside0.mk (ho); clear HO587; clear HB; clear HO_3; have HO587 := n0_; have HB := n1_; have HO590 := n2_; clear n0_ n1_ n2_; clear ho hb hg hat))
         go_roundg kj6
         case measure => have := HK1.out; have := HJ6.out; omega
         case rel => exact ⟨(y588), (wrap64 (x4_1 + 1)), ap2, H', ⟨by have := HK1.out; have := HJ6.out; omega⟩, ⟨by (with_reducible repeat (first | apply Kd.R_alloc | apply Kd.R_drewN | apply Kd.R_drew)); exact Kd.R_mono HO590.out (fun _ hk => trivial)⟩, ⟨by repeat (first | (with_reducible first | exact HB.out | apply below_alloc | apply pw_below_drewN | apply below_drew1) | exact HB.out)⟩⟩
        ·
         rw [if_neg c12] at H
         exact absurd H (by simp)
       ·
        replace c9 := Bool.eq_false_iff.mpr c9
        subst c9
        rw [if_neg (show ¬ (false = true) by decide)] at H
        replace H := Option.bind_eq_some_iff.mp H
        obtain ⟨t591, A170, H⟩ := H
        replace H : (if t591 = true then (if x3_1.length < 140737488355328 then ((some (x3_1 ++ [92] : List Int)).bind fun y592 => (if y592.length < 140737488355328 then (R15Text.l0 kj6 a0 (y592 ++ [(bt a0 x4_1)]) (wrap64 (x4_1 + 1))) else (none))) else (none)) else (if (bt a0 x4_1) = 32 then (if x4_1 = 0 then (if x3_1.length < 140737488355328 then ((some (x3_1 ++ [92] : List Int)).bind fun y598 => (if y598.length < 140737488355328 then (R15Text.l0 kj6 a0 (y598 ++ [(bt a0 x4_1)]) (wrap64 (x4_1 + 1))) else (none))) else (none)) else (if (wrap64 (x4_1 + 1)) = (a0.size : Int) then (if x3_1.length < 140737488355328 then ((some (x3_1 ++ [92] : List Int)).bind fun y604 => (if y604.length < 140737488355328 then (R15Text.l0 kj6 a0 (y604 ++ [(bt a0 x4_1)]) (wrap64 (x4_1 + 1))) else (none))) else (none)) else (if (bt a0 x4_1) = 35 then (if x3_1.length < 140737488355328 then (R15Text.l0 kj6 a0 (x3_1 ++ [(bt a0 x4_1)]) (wrap64 (x4_1 + 1))) else (none)) else (if x3_1.length < 140737488355328 then (R15Text.l0 kj6 a0 (x3_1 ++ [(bt a0 x4_1)]) (wrap64 (x4_1 + 1))) else (none))))) else (if (bt a0 x4_1) = 35 then (if x4_1 = 0 then (if x3_1.length < 140737488355328 then ((some (x3_1 ++ [92] : List Int)).bind fun y616 => (if y616.length < 140737488355328 then (R15Text.l0 kj6 a0 (y616 ++ [(bt a0 x4_1)]) (wrap64 (x4_1 + 1))) else (none))) else (none)) else (if x3_1.length < 140737488355328 then (R15Text.l0 kj6 a0 (x3_1 ++ [(bt a0 x4_1)]) (wrap64 (x4_1 + 1))) else (none))) else (if x3_1.length < 140737488355328 then (R15Text.l0 kj6 a0 (x3_1 ++ [(bt a0 x4_1)]) (wrap64 (x4_1 + 1))) else (none))))) = some r := H
        have A17 := Aside0.mk A170
        clear A170
        by_cases c18 : t591 = true
        ·
         subst c18
         rw [if_pos rfl] at H
         by_cases c19 : x3_1.length < 140737488355328
         ·
          rw [if_pos c19] at H
          have LMc19 := Aside0.mk c19
          clear c19
          obtain ⟨y592, hy592⟩ : ∃ y_ : List Int, y_ = (x3_1 ++ [92]) := ⟨_, rfl⟩
          replace H : (if y592.length < 140737488355328 then (R15Text.l0 kj6 a0 (y592 ++ [(bt a0 x4_1)]) (wrap64 (x4_1 + 1))) else (none)) = some r := by first | (rw [hy592]; with_reducible exact H) | (have H2_ := (Option.bind_some _ _).symm.trans H; rw [hy592]; with_reducible exact H2_) | (have H2_ := (Option.bind_some _ _).symm.trans H; with_reducible exact H2_) | with_reducible exact H | (rw [hy592]; exact H) | exact H
          have Ny592 := Aside0.mk hy592
          clear hy592
          by_cases c20 : y592.length < 140737488355328
          ·
           rw [if_pos c20] at H
           have LMc20 := Aside0.mk c20
           clear c20
           obtain ⟨y595, hy595⟩ : ∃ y_ : List Int, y_ = (y592 ++ [(bt a0 x4_1)]) := ⟨_, rfl⟩
           replace H : (R15Text.l0 kj6 a0 y595 (wrap64 (x4_1 + 1))) = some r := by first | (rw [hy595]; with_reducible exact H) | (have H2_ := (Option.bind_some _ _).symm.trans H; rw [hy595]; with_reducible exact H2_) | (have H2_ := (Option.bind_some _ _).symm.trans H; with_reducible exact H2_) | with_reducible exact H | (rw [hy595]; exact H) | exact H
           have Ny595 := Aside0.mk hy595
           clear hy595
           have H' := Aside0.mk H
           clear H
           go_wp2_with (first | ((with_reducible refine gate_callee (f := 44) rfl ?_); refine goesL_ (some 34) rfl rfl Tryd.func44 (by kernel_rfl) rfl #[.int .u8 (bt a0 x4_1)] rfl ap3 ?_; (with_reducible refine (R15Special.calls (bt a0 x4_1) true _ A17.out).mono ?_); rintro e w' ⟨rfl, ⟨nd, rfl⟩⟩; refine ⟨_, rfl, ?_⟩) | ((with_reducible refine gate_builtin (b := .append) (xs := #[.tmp 58, .tmp 59]) rfl ?_); (try (refine gate_guard (by rfl) ?_; dsimp only)); at_builtin; refine Kd.R_append (Kd.int .u8) (w0 := w) w.heap.size rfl (.tmp 58) (.tmp 59) 72 5 (.int .u8 0) 1 rfl Tryd.underlying72 info5 rfl (by decide) (by omega) u3 x3_1 92 [.int .u8 92] (fun _ => True) (fun _ => False) rfl rfl ?aP (fun _ hk => hk.elim) ?aF ?aO ?aB ?aS ?aL ?_; (case aP => exact rfl); (case aB => exact ap1); (case aF => exact (fun _ _ => trivial)); (case aO => exact (apAR HO_3.out)); (case aS => exact (below_size ap1)); (case aL => have := LMc19.out; omega); intro v593 w21 ho hb hg hat; rw [← Ny592.out] at ho; have n0_ := Aside0.mk (hb); have n1_ := Aside0.mk (ho); clear HB; clear HO_3; have HB := n0_; have HO594 := n1_; clear n0_ n1_; clear ho hb hg hat) | ((with_reducible refine gate_builtin (b := .append) (xs := #[.tmp 61, .tmp 63]) rfl ?_); (try (refine gate_guard (by rfl) ?_; dsimp only)); at_builtin; refine Kd.R_append (Kd.int .u8) (w0 := w) w.heap.size rfl (.tmp 61) (.tmp 63) 72 5 (.int .u8 0) 1 rfl Tryd.underlying72 info5 rfl (by decide) (by omega) v593 y592 (bt a0 x4_1) [.int .u8 (bt a0 x4_1)] (fun _ => True) (fun _ => False) rfl rfl ?aP (fun _ hk => hk.elim) ?aF ?aO ?aB ?aS ?aL ?_; (case aP => exact rfl); (case aB => exact ap1); (case aF => exact (fun _ _ => trivial)); (case aO => exact (apAR HO594.out)); (case aS => exact (below_size ap1)); (case aL => have := LMc20.out; omega); intro v596 w22 ho hb hg hat; rw [← Ny595.out] at ho; have n0_ := Aside0.mk (hb); have n1_ := Aside0.mk (ho); clear HB; clear HO594; have HB := n0_; have HO597 := n1_; clear n0_ n1_; clear ho hb hg hat))
           go_roundg kj6
           case measure => have := HK1.out; have := HJ6.out; omega
           case rel => exact ⟨(y595), (wrap64 (x4_1 + 1)), ap2, H', ⟨by have := HK1.out; have := HJ6.out; omega⟩, ⟨by (with_reducible repeat (first | apply Kd.R_alloc | apply Kd.R_drewN | apply Kd.R_drew)); exact HO597.out⟩, ⟨by repeat (first | (with_reducible first | exact HB.out | apply below_alloc | apply pw_below_drewN | apply below_drew1) | exact HB.out)⟩⟩
          ·
           rw [if_neg c20] at H
           exact absurd H (by simp)
         ·
          rw [if_neg c19] at H
          exact absurd H (by simp)
        ·
         replace c18 := Bool.eq_false_iff.mpr c18
         subst c18
         rw [if_neg (show ¬ (false = true) by decide)] at H
         by_cases c23 : (bt a0 x4_1) = 32
         ·
          rw [if_pos c23] at H
          have c23b0 : ((bt a0 x4_1) == 32) = true := beq_iff_eq.mpr c23
          have c23b1 : ((bt a0 x4_1) != 32) = false := bne_eq_false_iff_eq.mpr c23
          clear c23
          by_cases c24 : x4_1 = 0
          ·
           rw [if_pos c24] at H
           have c24b0 : (x4_1 == 0) = true := beq_iff_eq.mpr c24
           have c24b1 : (x4_1 != 0) = false := bne_eq_false_iff_eq.mpr c24
           clear c24
           by_cases c25 : x3_1.length < 140737488355328
           ·
            rw [if_pos c25] at H
            have LMc25 := Aside0.mk c25
            clear c25
            obtain ⟨y598, hy598⟩ : ∃ y_ : List Int, y_ = (x3_1 ++ [92]) := ⟨_, rfl⟩
            replace H : (if y598.length < 140737488355328 then (R15Text.l0 kj6 a0 (y598 ++ [(bt a0 x4_1)]) (wrap64 (x4_1 + 1))) else (none)) = some r := by first | (rw [hy598]; with_reducible exact H) | (have H2_ := (Option.bind_some _ _).symm.trans H; rw [hy598]; with_reducible exact H2_) | (have H2_ := (Option.bind_some _ _).symm.trans H; with_reducible exact H2_) | with_reducible exact H | (rw [hy598]; exact H) | exact H
            have Ny598 := Aside0.mk hy598
            clear hy598
            by_cases c26 : y598.length < 140737488355328
            ·
             rw [if_pos c26] at H
             have LMc26 := Aside0.mk c26
             clear c26
             obtain ⟨y601, hy601⟩ : ∃ y_ : List Int, y_ = (y598 ++ [(bt a0 x4_1)]) := ⟨_, rfl⟩
             replace H : (R15Text.l0 kj6 a0 y601 (wrap64 (x4_1 + 1))) = some r := by first | (rw [hy601]; with_reducible exact H) | (have H2_ := (Option.bind_some _ _).symm.trans H; rw [hy601]; with_reducible exact H2_) | (have H2_ := (Option.bind_some _ _).symm.trans H; with_reducible exact H2_) | with_reducible exact H | (rw [hy601]; exact H) | exact H
             have Ny601 := Aside0.mk hy601
             clear hy601
             have H' := Aside0.mk H
             clear H
             go_wp2_with (first | ((with_reducible refine gate_callee (f := 44) rfl ?_); refine goesL_ (some 34) rfl rfl Tryd.func44 (by kernel_rfl) rfl #[.int .u8 (bt a0 x4_1)] rfl ap3 ?_; (with_reducible refine (R15Special.calls (bt a0 x4_1) false _ A17.out).mono ?_); rintro e w' ⟨rfl, ⟨nd, rfl⟩⟩; refine ⟨_, rfl, ?_⟩) | ((with_reducible refine gate_builtin (b := .append) (xs := #[.tmp 58, .tmp 59]) rfl ?_); (try (refine gate_guard (by rfl) ?_; dsimp only)); at_builtin; refine Kd.R_append (Kd.int .u8) (w0 := w) w.heap.size rfl (.tmp 58) (.tmp 59) 72 5 (.int .u8 0) 1 rfl Tryd.underlying72 info5 rfl (by decide) (by omega) u3 x3_1 92 [.int .u8 92] (fun _ => True) (fun _ => False) rfl rfl ?aP (fun _ hk => hk.elim) ?aF ?aO ?aB ?aS ?aL ?_; (case aP => exact rfl); (case aB => exact ap1); (case aF => exact (fun _ _ => trivial)); (case aO => exact (apAR HO_3.out)); (case aS => exact (below_size ap1)); (case aL => have := LMc25.out; omega); intro v599 w27 ho hb hg hat; rw [← Ny598.out] at ho; have n0_ := Aside0.mk (hb); have n1_ := Aside0.mk (ho); clear HB; clear HO_3; have HB := n0_; have HO600 := n1_; clear n0_ n1_; clear ho hb hg hat) | ((with_reducible refine gate_builtin (b := .append) (xs := #[.tmp 61, .tmp 63]) rfl ?_); (try (refine gate_guard (by rfl) ?_; dsimp only)); at_builtin; refine Kd.R_append (Kd.int .u8) (w0 := w) w.heap.size rfl (.tmp 61) (.tmp 63) 72 5 (.int .u8 0) 1 rfl Tryd.underlying72 info5 rfl (by decide) (by omega) v599 y598 (bt a0 x4_1) [.int .u8 (bt a0 x4_1)] (fun _ => True) (fun _ => False) rfl rfl ?aP (fun _ hk => hk.elim) ?aF ?aO ?aB ?aS ?aL ?_; (case aP => exact rfl); (case aB => exact ap1); (case aF => exact (fun _ _ => trivial)); (case aO => exact (apAR HO600.out)); (case aS => exact (below_size ap1)); (case aL => have := LMc26.out; omega); intro v602 w28 ho hb hg hat; rw [← Ny601.out] at ho; have n0_ := Aside0.mk (hb); have n1_ := Aside0.mk (ho); clear HB; clear HO600; have HB := n0_; have HO603 := n1_; clear n0_ n1_; clear ho hb hg hat))
             go_roundg kj6
             case measure => have := HK1.out; have := HJ6.out; omega
             case rel => exact ⟨(y601), (wrap64 (x4_1 + 1)), ap2, H', ⟨by have := HK1.out; have := HJ6.out; omega⟩, ⟨by (with_reducible repeat (first | apply Kd.R_alloc | apply Kd.R_drewN | apply Kd.R_drew)); exact HO603.out⟩, ⟨by repeat (first | (with_reducible first | exact HB.out | apply below_alloc | apply pw_below_drewN | apply below_drew1) | exact HB.out)⟩⟩
            ·
             rw [if_neg c26] at H
             exact absurd H (by simp)
           ·
            rw [if_neg c25] at H
            exact absurd H (by simp)
          ·
           rw [if_neg c24] at H
           have c24b0 : (x4_1 == 0) = false := beq_eq_false_iff_ne.mpr c24
           have c24b1 : (x4_1 != 0) = true := bne_iff_ne.mpr c24
           by_cases c29 : (wrap64 (x4_1 + 1)) = (a0.size : Int)
           ·
            rw [if_pos c29] at H
            have c29b0 : ((wrap64 (x4_1 + 1)) == (a0.size : Int)) = true := beq_iff_eq.mpr c29
            have c29b1 : ((wrap64 (x4_1 + 1)) != (a0.size : Int)) = false := bne_eq_false_iff_eq.mpr c29
            clear c29
            by_cases c30 : x3_1.length < 140737488355328
            ·
             rw [if_pos c30] at H
             have LMc30 := Aside0.mk c30
             clear c30
             obtain ⟨y604, hy604⟩ : ∃ y_ : List Int, y_ = (x3_1 ++ [92]) := ⟨_, rfl⟩
             replace H : (if y604.length < 140737488355328 then (R15Text.l0 kj6 a0 (y604 ++ [(bt a0 x4_1)]) (wrap64 (x4_1 + 1))) else (none)) = some r := by first | (rw [hy604]; with_reducible exact H) | (have H2_ := (Option.bind_some _ _).symm.trans H; rw [hy604]; with_reducible exact H2_) | (have H2_ := (Option.bind_some _ _).symm.trans H; with_reducible exact H2_) | with_reducible exact H | (rw [hy604]; exact H) | exact H
             have Ny604 := Aside0.mk hy604
             clear hy604
             by_cases c31 : y604.length < 140737488355328
             ·
              rw [if_pos c31] at H
              have LMc31 := Aside0.mk c31
              clear c31
              obtain ⟨y607, hy607⟩ : ∃ y_ : List Int, y_ = (y604 ++ [(bt a0 x4_1)]) := ⟨_, rfl⟩
              replace H : (R15Text.l0 kj6 a0 y607 (wrap64 (x4_1 + 1))) = some r := by first | (rw [hy607]; with_reducible exact H) | (have H2_ := (Option.bind_some _ _).symm.trans H; rw [hy607]; with_reducible exact H2_) | (have H2_ := (Option.bind_some _ _).symm.trans H; with_reducible exact H2_) | with_reducible exact H | (rw [hy607]; exact H) | exact H
              have Ny607 := Aside0.mk hy607
              clear hy607
              have H' := Aside0.mk H
              clear H
              go_wp2_with (first | ((with_reducible refine gate_callee (f := 44) rfl ?_); refine goesL_ (some 34) rfl rfl Tryd.func44 (by kernel_rfl) rfl #[.int .u8 (bt a0 x4_1)] rfl ap3 ?_; (with_reducible refine (R15Special.calls (bt a0 x4_1) false _ A17.out).mono ?_); rintro e w' ⟨rfl, ⟨nd, rfl⟩⟩; refine ⟨_, rfl, ?_⟩) | ((with_reducible refine gate_builtin (b := .append) (xs := #[.tmp 58, .tmp 59]) rfl ?_); (try (refine gate_guard (by rfl) ?_; dsimp only)); at_builtin; refine Kd.R_append (Kd.int .u8) (w0 := w) w.heap.size rfl (.tmp 58) (.tmp 59) 72 5 (.int .u8 0) 1 rfl Tryd.underlying72 info5 rfl (by decide) (by omega) u3 x3_1 92 [.int .u8 92] (fun _ => True) (fun _ => False) rfl rfl ?aP (fun _ hk => hk.elim) ?aF ?aO ?aB ?aS ?aL ?_; (case aP => exact rfl); (case aB => exact ap1); (case aF => exact (fun _ _ => trivial)); (case aO => exact (apAR HO_3.out)); (case aS => exact (below_size ap1)); (case aL => have := LMc30.out; omega); intro v605 w32 ho hb hg hat; rw [← Ny604.out] at ho; have n0_ := Aside0.mk (hb); have n1_ := Aside0.mk (ho); clear HB; clear HO_3; have HB := n0_; have HO606 := n1_; clear n0_ n1_; clear ho hb hg hat) | ((with_reducible refine gate_builtin (b := .append) (xs := #[.tmp 61, .tmp 63]) rfl ?_); (try (refine gate_guard (by rfl) ?_; dsimp only)); at_builtin; refine Kd.R_append (Kd.int .u8) (w0 := w) w.heap.size rfl (.tmp 61) (.tmp 63) 72 5 (.int .u8 0) 1 rfl Tryd.underlying72 info5 rfl (by decide) (by omega) v605 y604 (bt a0 x4_1) [.int .u8 (bt a0 x4_1)] (fun _ => True) (fun _ => False) rfl rfl ?aP (fun _ hk => hk.elim) ?aF ?aO ?aB ?aS ?aL ?_; (case aP => exact rfl); (case aB => exact ap1); (case aF => exact (fun _ _ => trivial)); (case aO => exact (apAR HO606.out)); (case aS => exact (below_size ap1)); (case aL => have := LMc31.out; omega); intro v608 w33 ho hb hg hat; rw [← Ny607.out] at ho; have n0_ := Aside0.mk (hb); have n1_ := Aside0.mk (ho); clear HB; clear HO606; have HB := n0_; have HO609 := n1_; clear n0_ n1_; clear ho hb hg hat))
              go_roundg kj6
              case measure => have := HK1.out; have := HJ6.out; omega
              case rel => exact ⟨(y607), (wrap64 (x4_1 + 1)), ap2, H', ⟨by have := HK1.out; have := HJ6.out; omega⟩, ⟨by (with_reducible repeat (first | apply Kd.R_alloc | apply Kd.R_drewN | apply Kd.R_drew)); exact HO609.out⟩, ⟨by repeat (first | (with_reducible first | exact HB.out | apply below_alloc | apply pw_below_drewN | apply below_drew1) | exact HB.out)⟩⟩
             ·
              rw [if_neg c31] at H
              exact absurd H (by simp)
            ·
             rw [if_neg c30] at H
             exact absurd H (by simp)
           ·
            rw [if_neg c29] at H
            have c29b0 : ((wrap64 (x4_1 + 1)) == (a0.size : Int)) = false := beq_eq_false_iff_ne.mpr c29
            have c29b1 : ((wrap64 (x4_1 + 1)) != (a0.size : Int)) = true := bne_iff_ne.mpr c29
            by_cases c34 : (bt a0 x4_1) = 35
            ·
             rw [if_pos c34] at H
             have c34b0 : ((bt a0 x4_1) == 35) = true := beq_iff_eq.mpr c34
             have c34b1 : ((bt a0 x4_1) != 35) = false := bne_eq_false_iff_eq.mpr c34
             clear c34
             by_cases c35 : x3_1.length < 140737488355328
             ·
              rw [if_pos c35] at H
              have LMc35 := Aside0.mk c35
              clear c35
              obtain ⟨y610, hy610⟩ : ∃ y_ : List Int, y_ = (x3_1 ++ [(bt a0 x4_1)]) := ⟨_, rfl⟩
              replace H : (R15Text.l0 kj6 a0 y610 (wrap64 (x4_1 + 1))) = some r := by first | (rw [hy610]; with_reducible exact H) | (have H2_ := (Option.bind_some _ _).symm.trans H; rw [hy610]; with_reducible exact H2_) | (have H2_ := (Option.bind_some _ _).symm.trans H; with_reducible exact H2_) | with_reducible exact H | (rw [hy610]; exact H) | exact H
              have Ny610 := Aside0.mk hy610
              clear hy610
              have H' := Aside0.mk H
              clear H
              go_wp2_with (first | ((with_reducible refine gate_callee (f := 44) rfl ?_); refine goesL_ (some 34) rfl rfl Tryd.func44 (by kernel_rfl) rfl #[.int .u8 (bt a0 x4_1)] rfl ap3 ?_; (with_reducible refine (R15Special.calls (bt a0 x4_1) false _ A17.out).mono ?_); rintro e w' ⟨rfl, ⟨nd, rfl⟩⟩; refine ⟨_, rfl, ?_⟩) | ((with_reducible refine gate_builtin (b := .append) (xs := #[.tmp 61, .tmp 63]) rfl ?_); (try (refine gate_guard (by rfl) ?_; dsimp only)); at_builtin; refine Kd.R_append (Kd.int .u8) (w0 := w) w.heap.size rfl (.tmp 61) (.tmp 63) 72 5 (.int .u8 0) 1 rfl Tryd.underlying72 info5 rfl (by decide) (by omega) u3 x3_1 (bt a0 x4_1) [.int .u8 (bt a0 x4_1)] (fun _ => True) (fun _ => False) rfl rfl ?aP (fun _ hk => hk.elim) ?aF ?aO ?aB ?aS ?aL ?_; (case aP => exact rfl); (case aB => exact ap1); (case aF => exact (fun _ _ => trivial)); (case aO => exact (apAR HO_3.out)); (case aS => exact (below_size ap1)); (case aL => have := LMc35.out; omega); intro v611 w36 ho hb hg hat; rw [← Ny610.out] at ho; have n0_ := Aside0.mk (hb); have n1_ := Aside0.mk (ho); clear HB; clear HO_3; have HB := n0_; have HO612 := n1_; clear n0_ n1_; clear ho hb hg hat))
              go_roundg kj6
              case measure => have := HK1.out; have := HJ6.out; omega
              case rel => exact ⟨(y610), (wrap64 (x4_1 + 1)), ap2, H', ⟨by have := HK1.out; have := HJ6.out; omega⟩, ⟨by (with_reducible repeat (first | apply Kd.R_alloc | apply Kd.R_drewN | apply Kd.R_drew)); exact HO612.out⟩, ⟨by repeat (first | (with_reducible first | exact HB.out | apply below_alloc | apply pw_below_drewN | apply below_drew1) | exact HB.out)⟩⟩
             ·
              rw [if_neg c35] at H
              exact absurd H (by simp)
            ·
             rw [if_neg c34] at H
             have c34b0 : ((bt a0 x4_1) == 35) = false := beq_eq_false_iff_ne.mpr c34
             have c34b1 : ((bt a0 x4_1) != 35) = true := bne_iff_ne.mpr c34
             by_cases c37 : x3_1.length < 140737488355328
             ·
              rw [if_pos c37] at H
              have LMc37 := Aside0.mk c37
              clear c37
              obtain ⟨y613, hy613⟩ : ∃ y_ : List Int, y_ = (x3_1 ++ [(bt a0 x4_1)]) := ⟨_, rfl⟩
              replace H : (R15Text.l0 kj6 a0 y613 (wrap64 (x4_1 + 1))) = some r := by first | (rw [hy613]; with_reducible exact H) | (have H2_ := (Option.bind_some _ _).symm.trans H; rw [hy613]; with_reducible exact H2_) | (have H2_ := (Option.bind_some _ _).symm.trans H; with_reducible exact H2_) | with_reducible exact H | (rw [hy613]; exact H) | exact H
              have Ny613 := Aside0.mk hy613
              clear hy613
              have H' := Aside0.mk H
              clear H
              go_wp2_with (first | ((with_reducible refine gate_callee (f := 44) rfl ?_); refine goesL_ (some 34) rfl rfl Tryd.func44 (by kernel_rfl) rfl #[.int .u8 (bt a0 x4_1)] rfl ap3 ?_; (with_reducible refine (R15Special.calls (bt a0 x4_1) false _ A17.out).mono ?_); rintro e w' ⟨rfl, ⟨nd, rfl⟩⟩; refine ⟨_, rfl, ?_⟩) | ((with_reducible refine gate_builtin (b := .append) (xs := #[.tmp 61, .tmp 63]) rfl ?_); (try (refine gate_guard (by rfl) ?_; dsimp only)); at_builtin; refine Kd.R_append (Kd.int .u8) (w0 := w) w.heap.size rfl (.tmp 61) (.tmp 63) 72 5 (.int .u8 0) 1 rfl Tryd.underlying72 info5 rfl (by decide) (by omega) u3 x3_1 (bt a0 x4_1) [.int .u8 (bt a0 x4_1)] (fun _ => True) (fun _ => False) rfl rfl ?aP (fun _ hk => hk.elim) ?aF ?aO ?aB ?aS ?aL ?_; (case aP => exact rfl); (case aB => exact ap1); (case aF => exact (fun _ _ => trivial)); (case aO => exact (apAR HO_3.out)); (case aS => exact (below_size ap1)); (case aL => have := LMc37.out; omega); intro v614 w38 ho hb hg hat; rw [← Ny613.out] at ho; have n0_ := Aside0.mk (hb); have n1_ := Aside0.mk (ho); clear HB; clear HO_3; have HB := n0_; have HO615 := n1_; clear n0_ n1_; clear ho hb hg hat))
              go_roundg kj6
              case measure => have := HK1.out; have := HJ6.out; omega
              case rel => exact ⟨(y613), (wrap64 (x4_1 + 1)), ap2, H', ⟨by have := HK1.out; have := HJ6.out; omega⟩, ⟨by (with_reducible repeat (first | apply Kd.R_alloc | apply Kd.R_drewN | apply Kd.R_drew)); exact HO615.out⟩, ⟨by repeat (first | (with_reducible first | exact HB.out | apply below_alloc | apply pw_below_drewN | apply below_drew1) | exact HB.out)⟩⟩
             ·
              rw [if_neg c37] at H
              exact absurd H (by simp)
         ·
          rw [if_neg c23] at H
          have c23b0 : ((bt a0 x4_1) == 32) = false := beq_eq_false_iff_ne.mpr c23
          have c23b1 : ((bt a0 x4_1) != 32) = true := bne_iff_ne.mpr c23
          by_cases c39 : (bt a0 x4_1) = 35
          ·
           rw [if_pos c39] at H
           have c39b0 : ((bt a0 x4_1) == 35) = true := beq_iff_eq.mpr c39
           have c39b1 : ((bt a0 x4_1) != 35) = false := bne_eq_false_iff_eq.mpr c39
           clear c39
           by_cases c40 : x4_1 = 0
           ·
            rw [if_pos c40] at H
            have c40b0 : (x4_1 == 0) = true := beq_iff_eq.mpr c40
            have c40b1 : (x4_1 != 0) = false := bne_eq_false_iff_eq.mpr c40
            clear c40
            by_cases c41 : x3_1.length < 140737488355328
            ·
             rw [if_pos c41] at H
             have LMc41 := Aside0.mk c41
             clear c41
             obtain ⟨y616, hy616⟩ : ∃ y_ : List Int, y_ = (x3_1 ++ [92]) := ⟨_, rfl⟩
             replace H : (if y616.length < 140737488355328 then (R15Text.l0 kj6 a0 (y616 ++ [(bt a0 x4_1)]) (wrap64 (x4_1 + 1))) else (none)) = some r := by first | (rw [hy616]; with_reducible exact H) | (have H2_ := (Option.bind_some _ _).symm.trans H; rw [hy616]; with_reducible exact H2_) | (have H2_ := (Option.bind_some _ _).symm.trans H; with_reducible exact H2_) | with_reducible exact H | (rw [hy616]; exact H) | exact H
             have Ny616 := Aside0.mk hy616
             clear hy616
             by_cases c42 : y616.length < 140737488355328
             ·
              rw [if_pos c42] at H
              have LMc42 := Aside0.mk c42
              clear c42
              obtain ⟨y619, hy619⟩ : ∃ y_ : List Int, y_ = (y616 ++ [(bt a0 x4_1)]) := ⟨_, rfl⟩
              replace H : (R15Text.l0 kj6 a0 y619 (wrap64 (x4_1 + 1))) = some r := by first | (rw [hy619]; with_reducible exact H) | (have H2_ := (Option.bind_some _ _).symm.trans H; rw [hy619]; with_reducible exact H2_) | (have H2_ := (Option.bind_some _ _).symm.trans H; with_reducible exact H2_) | with_reducible exact H | (rw [hy619]; exact H) | exact H
              have Ny619 := Aside0.mk hy619
              clear hy619
              have H' := Aside0.mk H
              clear H
              go_wp2_with (first | ((with_reducible refine gate_callee (f := 44) rfl ?_); refine goesL_ (some 34) rfl rfl Tryd.func44 (by kernel_rfl) rfl #[.int .u8 (bt a0 x4_1)] rfl ap3 ?_; (with_reducible refine (R15Special.calls (bt a0 x4_1) false _ A17.out).mono ?_); rintro e w' ⟨rfl, ⟨nd, rfl⟩⟩; refine ⟨_, rfl, ?_⟩) | ((with_reducible refine gate_builtin (b := .append) (xs := #[.tmp 58, .tmp 59]) rfl ?_); (try (refine gate_guard (by rfl) ?_; dsimp only)); at_builtin; refine Kd.R_append (Kd.int .u8) (w0 := w) w.heap.size rfl (.tmp 58) (.tmp 59) 72 5 (.int .u8 0) 1 rfl Tryd.underlying72 info5 rfl (by decide) (by omega) u3 x3_1 92 [.int .u8 92] (fun _ => True) (fun _ => False) rfl rfl ?aP (fun _ hk => hk.elim) ?aF ?aO ?aB ?aS ?aL ?_; (case aP => exact rfl); (case aB => exact ap1); (case aF => exact (fun _ _ => trivial)); (case aO => exact (apAR HO_3.out)); (case aS => exact (below_size ap1)); (case aL => have := LMc41.out; omega); intro v617 w43 ho hb hg hat; rw [← Ny616.out] at ho; have n0_ := Aside0.mk (hb); have n1_ := Aside0.mk (ho); clear HB; clear HO_3; have HB := n0_; have HO618 := n1_; clear n0_ n1_; clear ho hb hg hat) | ((with_reducible refine gate_builtin (b := .append) (xs := #[.tmp 61, .tmp 63]) rfl ?_); (try (refine gate_guard (by rfl) ?_; dsimp only)); at_builtin; refine Kd.R_append (Kd.int .u8) (w0 := w) w.heap.size rfl (.tmp 61) (.tmp 63) 72 5 (.int .u8 0) 1 rfl Tryd.underlying72 info5 rfl (by decide) (by omega) v617 y616 (bt a0 x4_1) [.int .u8 (bt a0 x4_1)] (fun _ => True) (fun _ => False) rfl rfl ?aP (fun _ hk => hk.elim) ?aF ?aO ?aB ?aS ?aL ?_; (case aP => exact rfl); (case aB => exact ap1); (case aF => exact (fun _ _ => trivial)); (case aO => exact (apAR HO618.out)); (case aS => exact (below_size ap1)); (case aL => have := LMc42.out; omega); intro v620 w44 ho hb hg hat; rw [← Ny619.out] at ho; have n0_ := Aside0.mk (hb); have n1_ := Aside0.mk (ho); clear HB; clear HO618; have HB := n0_; have HO621 := n1_; clear n0_ n1_; clear ho hb hg hat))
              go_roundg kj6
              case measure => have := HK1.out; have := HJ6.out; omega
              case rel => exact ⟨(y619), (wrap64 (x4_1 + 1)), ap2, H', ⟨by have := HK1.out; have := HJ6.out; omega⟩, ⟨by (with_reducible repeat (first | apply Kd.R_alloc | apply Kd.R_drewN | apply Kd.R_drew)); exact HO621.out⟩, ⟨by repeat (first | (with_reducible first | exact HB.out | apply below_alloc | apply pw_below_drewN | apply below_drew1) | exact HB.out)⟩⟩
             ·
              rw [if_neg c42] at H
              exact absurd H (by simp)
            ·
             rw [if_neg c41] at H
             exact absurd H (by simp)
           ·
            rw [if_neg c40] at H
            have c40b0 : (x4_1 == 0) = false := beq_eq_false_iff_ne.mpr c40
            have c40b1 : (x4_1 != 0) = true := bne_iff_ne.mpr c40
            by_cases c45 : x3_1.length < 140737488355328
            ·
             rw [if_pos c45] at H
             have LMc45 := Aside0.mk c45
             clear c45
             obtain ⟨y622, hy622⟩ : ∃ y_ : List Int, y_ = (x3_1 ++ [(bt a0 x4_1)]) := ⟨_, rfl⟩
             replace H : (R15Text.l0 kj6 a0 y622 (wrap64 (x4_1 + 1))) = some r := by first | (rw [hy622]; with_reducible exact H) | (have H2_ := (Option.bind_some _ _).symm.trans H; rw [hy622]; with_reducible exact H2_) | (have H2_ := (Option.bind_some _ _).symm.trans H; with_reducible exact H2_) | with_reducible exact H | (rw [hy622]; exact H) | exact H
             have Ny622 := Aside0.mk hy622
             clear hy622
             have H' := Aside0.mk H
             clear H
             go_wp2_with (first | ((with_reducible refine gate_callee (f := 44) rfl ?_); refine goesL_ (some 34) rfl rfl Tryd.func44 (by kernel_rfl) rfl #[.int .u8 (bt a0 x4_1)] rfl ap3 ?_; (with_reducible refine (R15Special.calls (bt a0 x4_1) false _ A17.out).mono ?_); rintro e w' ⟨rfl, ⟨nd, rfl⟩⟩; refine ⟨_, rfl, ?_⟩) | ((with_reducible refine gate_builtin (b := .append) (xs := #[.tmp 61, .tmp 63]) rfl ?_); (try (refine gate_guard (by rfl) ?_; dsimp only)); at_builtin; refine Kd.R_append (Kd.int .u8) (w0 := w) w.heap.size rfl (.tmp 61) (.tmp 63) 72 5 (.int .u8 0) 1 rfl Tryd.underlying72 info5 rfl (by decide) (by omega) u3 x3_1 (bt a0 x4_1) [.int .u8 (bt a0 x4_1)] (fun _ => True) (fun _ => False) rfl rfl ?aP (fun _ hk => hk.elim) ?aF ?aO ?aB ?aS ?aL ?_; (case aP => exact rfl); (case aB => exact ap1); (case aF => exact (fun _ _ => trivial)); (case aO => exact (apAR HO_3.out)); (case aS => exact (below_size ap1)); (case aL => have := LMc45.out; omega); intro v623 w46 ho hb hg hat; rw [← Ny622.out] at ho; have n0_ := Aside0.mk (hb); have n1_ := Aside0.mk (ho); clear HB; clear HO_3; have HB := n0_; have HO624 := n1_; clear n0_ n1_; clear ho hb hg hat))
             go_roundg kj6
             case measure => have := HK1.out; have := HJ6.out; omega
             case rel => exact ⟨(y622), (wrap64 (x4_1 + 1)), ap2, H', ⟨by have := HK1.out; have := HJ6.out; omega⟩, ⟨by (with_reducible repeat (first | apply Kd.R_alloc | apply Kd.R_drewN | apply Kd.R_drew)); exact HO624.out⟩, ⟨by repeat (first | (with_reducible first | exact HB.out | apply below_alloc | apply pw_below_drewN | apply below_drew1) | exact HB.out)⟩⟩
            ·
             rw [if_neg c45] at H
             exact absurd H (by simp)
          ·
           rw [if_neg c39] at H
           have c39b0 : ((bt a0 x4_1) == 35) = false := beq_eq_false_iff_ne.mpr c39
           have c39b1 : ((bt a0 x4_1) != 35) = true := bne_iff_ne.mpr c39
           by_cases c47 : x3_1.length < 140737488355328
           ·
            rw [if_pos c47] at H
            have LMc47 := Aside0.mk c47
            clear c47
            obtain ⟨y625, hy625⟩ : ∃ y_ : List Int, y_ = (x3_1 ++ [(bt a0 x4_1)]) := ⟨_, rfl⟩
            replace H : (R15Text.l0 kj6 a0 y625 (wrap64 (x4_1 + 1))) = some r := by first | (rw [hy625]; with_reducible exact H) | (have H2_ := (Option.bind_some _ _).symm.trans H; rw [hy625]; with_reducible exact H2_) | (have H2_ := (Option.bind_some _ _).symm.trans H; with_reducible exact H2_) | with_reducible exact H | (rw [hy625]; exact H) | exact H
            have Ny625 := Aside0.mk hy625
            clear hy625
            have H' := Aside0.mk H
            clear H
            go_wp2_with (first | ((with_reducible refine gate_callee (f := 44) rfl ?_); refine goesL_ (some 34) rfl rfl Tryd.func44 (by kernel_rfl) rfl #[.int .u8 (bt a0 x4_1)] rfl ap3 ?_; (with_reducible refine (R15Special.calls (bt a0 x4_1) false _ A17.out).mono ?_); rintro e w' ⟨rfl, ⟨nd, rfl⟩⟩; refine ⟨_, rfl, ?_⟩) | ((with_reducible refine gate_builtin (b := .append) (xs := #[.tmp 61, .tmp 63]) rfl ?_); (try (refine gate_guard (by rfl) ?_; dsimp only)); at_builtin; refine Kd.R_append (Kd.int .u8) (w0 := w) w.heap.size rfl (.tmp 61) (.tmp 63) 72 5 (.int .u8 0) 1 rfl Tryd.underlying72 info5 rfl (by decide) (by omega) u3 x3_1 (bt a0 x4_1) [.int .u8 (bt a0 x4_1)] (fun _ => True) (fun _ => False) rfl rfl ?aP (fun _ hk => hk.elim) ?aF ?aO ?aB ?aS ?aL ?_; (case aP => exact rfl); (case aB => exact ap1); (case aF => exact (fun _ _ => trivial)); (case aO => exact (apAR HO_3.out)); (case aS => exact (below_size ap1)); (case aL => have := LMc47.out; omega); intro v626 w48 ho hb hg hat; rw [← Ny625.out] at ho; have n0_ := Aside0.mk (hb); have n1_ := Aside0.mk (ho); clear HB; clear HO_3; have HB := n0_; have HO627 := n1_; clear n0_ n1_; clear ho hb hg hat))
            go_roundg kj6
            case measure => have := HK1.out; have := HJ6.out; omega
            case rel => exact ⟨(y625), (wrap64 (x4_1 + 1)), ap2, H', ⟨by have := HK1.out; have := HJ6.out; omega⟩, ⟨by (with_reducible repeat (first | apply Kd.R_alloc | apply Kd.R_drewN | apply Kd.R_drew)); exact HO627.out⟩, ⟨by repeat (first | (with_reducible first | exact HB.out | apply below_alloc | apply pw_below_drewN | apply below_drew1) | exact HB.out)⟩⟩
           ·
            rw [if_neg c47] at H
            exact absurd H (by simp)
    ·
     rw [if_neg c5] at H
     exact absurd H (by simp)
   ·
    rw [if_neg c4] at H
    have c4b0 := decide_eq_false c4
    clear c4
    obtain rfl := Option.some.inj H
    have hcv49 := own_string (P := Tryd.prog) Tryd.underlying72 Tryd.underlying5 Tryd.underlying9 (Kd.own_of_R HO_3.out)
    go_wp2
    go_ret
    exact ⟨by first | rfl | (simp [errW_none, errW_some, bne_nil8, beq_nil8]; done) | (simp [errW_none, errW_some] <;> rfl) | (simp [*, errW_none, errW_some] <;> rfl), by repeat (first | (with_reducible first | exact HB.out | apply below_alloc | apply pw_below_drewN | apply below_drew1) | exact HB.out)⟩
end Go.Proofs.YtkklacijhmoopaaDoor.Print
namespace Go.Proofs.YtkklacijhmoopaaDoor.Print
open Go.RowKit Go.Proofs.YtkklacijhmoopaaDoorW.PrintWords Go.Proofs.YtkklacijhmoopaaDoorW.PrintLast Go.Proofs.YtkklacijhmoopaaDoorW.PrintMore Go.Proofs.YtkklacijhmoopaaDoor.Pure
set_option linter.unusedVariables false
set_option linter.unusedSimpArgs false
def escd (n i : Nat) (c : UInt8) : Bool := decide (c.toNat < 32) || decide (c.toNat = 127) || ((c == 32) && (decide (i = 0) || decide (i + 1 = n))) || ((c == 35) && decide (i = 0)) || special c
theorem idx_all : ∀ n : Nat, n < 256 → decide (0 ≤ Lib.indexByte dnSigns (UInt8.ofNat n)) = special (UInt8.ofNat n) := by decide +kernel
theorem idx_is (c : UInt8) : (0 ≤ Lib.indexByte dnSigns c) ↔ special c = true := by
  have := idx_all c.toNat c.toNat_lt
  rw [ofNat_toNat8] at this
  rw [← this, decide_eq_true_iff]
theorem piece_is (n i : Nat) (c : UInt8) : dnPiece n i c = if c.toNat < 32 ∨ c.toNat = 127 then 92 :: hexOf [c] else if (c = 32 ∧ (i = 0 ∨ i + 1 = n)) ∨ (c = 35 ∧ i = 0) ∨ special c = true then [92, c] else [c] := by
  have h1 : (c.toNat = 32) ↔ c = 32 := ⟨fun h => UInt8.toNat_inj.1 h, fun h => by rw [h]; rfl⟩
  have h2 : (c.toNat = 35) ↔ c = 35 := ⟨fun h => UInt8.toNat_inj.1 h, fun h => by rw [h]; rfl⟩
  unfold dnPiece
  simp only [h1, h2, idx_is]
def sgOf (n i : Nat) (c : UInt8) : Sg := (c, !escd n i c)
def sgsN (n : Nat) : Nat → List UInt8 → List Sg
  | _, [] => []
  | i, c :: r => sgOf n i c :: sgsN n (i + 1) r
def sgs (l : List UInt8) : List Sg := sgsN l.length 0 l
def textN (n : Nat) : Nat → List UInt8 → List UInt8
  | _, [] => []
  | i, c :: r => dnPiece n i c ++ textN n (i + 1) r
theorem textN_is (l : List UInt8) : ∀ (r : List UInt8) (i : Nat), l.drop i = r → ((List.range' i r.length).flatMap fun i => dnPiece l.length i (l.getD i 0)) = textN l.length i r
  | [], i, h => rfl
  | c :: r, i, h => by
    obtain ⟨h1, h2, h3⟩ := getD_at (d := (0 : UInt8)) h
    rw [Int.toNat_natCast] at h2
    rw [List.length_cons, List.range'_succ, List.flatMap_cons, h2, textN_is l r (i + 1) h3]; rfl
theorem dnText_is (l : List UInt8) : dnText l = textN l.length 0 l := by
  unfold dnText
  rw [List.range_eq_range']
  exact textN_is l l 0 rfl
theorem hex_all : ∀ n : Nat, n < 256 → hex2 (hexDig (n / 16)) (hexDig (n % 16)) = some (UInt8.ofNat n) ∧ isEsc (hexDig (n / 16)) = false := by decide +kernel
theorem signs_piece (n i : Nat) (c : UInt8) (t : List UInt8) : signs (dnPiece n i c ++ t) = (signs t).map (sgOf n i c :: ·) := by
  rw [piece_is]
  by_cases h1 : c.toNat < 32 ∨ c.toNat = 127
  · rw [if_pos h1]
    have he : escd n i c = true := by unfold escd; rcases h1 with h | h <;> simp [h]
    obtain ⟨k1, k2⟩ := hex_all c.toNat c.toNat_lt
    rw [ofNat_toNat8] at k1
    have : hexOf [c] = [hexDig (c.toNat / 16), hexDig (c.toNat % 16)] := rfl
    rw [this, List.cons_append, signs_esc]
    simp only [List.cons_append, List.nil_append, esc]
    rw [if_neg (by rw [k2]; simp), k1]
    unfold sgOf; rw [he]; rfl
  · rw [if_neg h1]
    by_cases h2 : (c = 32 ∧ (i = 0 ∨ i + 1 = n)) ∨ (c = 35 ∧ i = 0) ∨ special c = true
    · rw [if_pos h2]
      have he : escd n i c = true := by
        unfold escd
        rcases h2 with ⟨rfl, h | h⟩ | ⟨rfl, h⟩ | h <;> simp [h]
      have hi : isEsc c = true := by
        unfold isEsc
        rcases h2 with ⟨rfl, _⟩ | ⟨rfl, _⟩ | h
        · rfl
        · rfl
        · rw [h]; rfl
      show signs (92 :: c :: t) = _
      rw [signs_esc]
      simp only [esc]
      rw [if_pos hi]
      unfold sgOf; rw [he]; rfl
    · rw [if_neg h2]
      have he : escd n i c = false := by
        unfold escd
        simp only [not_or] at h1 h2
        have h3 : special c = false := by simpa using h2.2.2
        have h4 : ((c == 32) && (decide (i = 0) || decide (i + 1 = n))) = false := by
          cases hb : (c == 32) && (decide (i = 0) || decide (i + 1 = n)) with
          | false => rfl
          | true => simp only [Bool.and_eq_true, beq_iff_eq, Bool.or_eq_true, decide_eq_true_eq] at hb; exact absurd hb h2.1
        have h5 : ((c == 35) && decide (i = 0)) = false := by
          cases hb : (c == 35) && decide (i = 0) with
          | false => rfl
          | true => simp only [Bool.and_eq_true, beq_iff_eq, decide_eq_true_eq] at hb; exact absurd hb h2.2.1
        rw [h3, h4, h5, decide_eq_false h1.1, decide_eq_false h1.2]; rfl
      have h92 : c ≠ 92 := by rintro rfl; simp [special] at h2
      show signs (c :: t) = _
      rw [signs_bare h92]
      unfold sgOf; rw [he]; rfl
theorem signs_text (n : Nat) : ∀ (l : List UInt8) (i : Nat) (t : List UInt8), signs (textN n i l ++ t) = (signs t).map (sgsN n i l ++ ·)
  | [], i, t => by simp [textN, sgsN]
  | c :: r, i, t => by
    rw [textN, List.append_assoc, signs_piece, signs_text n r (i + 1) t]
    cases signs t <;> simp [sgsN]
theorem sgs_fst (n : Nat) : ∀ (l : List UInt8) (i : Nat), (sgsN n i l).map (·.1) = l
  | [], i => rfl
  | c :: r, i => by rw [sgsN, List.map_cons, sgs_fst n r (i + 1)]; rfl
theorem special_vals {c : UInt8} (h : special c = false) : c ≠ 34 ∧ c ≠ 43 ∧ c ≠ 44 ∧ c ≠ 59 ∧ c ≠ 60 ∧ c ≠ 61 ∧ c ≠ 62 ∧ c ≠ 92 := by
  refine ⟨?_, ?_, ?_, ?_, ?_, ?_, ?_, ?_⟩ <;> (rintro rfl; simp [special] at h)
theorem bare_plain {n i : Nat} {c : UInt8} (h : (sgOf n i c).2 = true) : special c = false := by
  have : escd n i c = false := by simpa [sgOf] using h
  unfold escd at this
  simp only [Bool.or_eq_false_iff] at this
  exact this.2
theorem sgs_mem (n : Nat) : ∀ (l : List UInt8) (i : Nat) (s : Sg), s ∈ sgsN n i l → sep s = false ∧ badV s = false
  | [], i, s, h => by simp [sgsN] at h
  | c :: r, i, s, h => by
    rw [sgsN] at h
    rcases List.mem_cons.1 h with rfl | h
    · by_cases hb : (sgOf n i c).2 = true
      · have hp := special_vals (bare_plain hb)
        have h1 : (sgOf n i c).1 = c := rfl
        simp [sep, badV, h1, hp]
      · simp [sep, badV, hb]
    · exact sgs_mem n r (i + 1) s h
theorem trim_sgs (l : List UInt8) : trim (sgs l) = sgs l := by
  unfold sgs
  cases l with
  | nil => rfl
  | cons c r =>
    have hd : isBlank (sgOf (c :: r).length 0 c) = false := by
      unfold sgOf isBlank escd
      by_cases h : c = 32
      · subst h; simp
      · simp [h]
    rw [sgsN, trim_head hd]
    have hl : ∀ (r : List UInt8) (c : UInt8) (i n : Nat), i + (c :: r).length = n → trimR (sgsN n i (c :: r)) = sgsN n i (c :: r) := by
      intro r
      induction r with
      | nil =>
        intro c i n hn
        simp only [List.length_cons, List.length_nil] at hn
        have : isBlank (sgOf n i c) = false := by
          unfold sgOf isBlank escd
          by_cases h : c = 32
          · subst h; simp; omega
          · simp [h]
        have := trimR_cons this []
        rw [sgsN, sgsN, this]; rfl
      | cons d r ih =>
        intro c i n hn
        have ih := ih d (i + 1) n (by simp at hn ⊢; omega)
        rw [sgsN]
        cases hb : isBlank (sgOf n i c) with
        | false => rw [trimR_cons hb, ih]
        | true =>
          obtain ⟨M, x, hM⟩ : ∃ M x, sgsN n (i + 1) (d :: r) = M ++ [x] := by
            rcases List.eq_nil_or_concat (sgsN n (i + 1) (d :: r)) with h | ⟨M, x, h⟩
            · simp [sgsN] at h
            · exact ⟨M, x, by rw [h, List.concat_eq_append]⟩
          rw [hM] at ih ⊢
          rw [trimR_snoc] at ih
          rw [← List.cons_append, trimR_snoc]
          split at ih
          · have := congrArg List.length ih
            obtain ⟨z, hz, _⟩ := trimR_split M
            have h2 := congrArg List.length hz
            rw [List.length_append] at h2
            simp at this; omega
          · rename_i hx; rw [if_neg hx]
    have := hl r c 0 (c :: r).length (by simp)
    rw [sgsN] at this; exact this
theorem valOk_sgs (l : List UInt8) : valOk (sgs l) = true := by
  unfold valOk
  have h1 : (sgs l).any badV = false := by
    rw [List.any_eq_false]
    intro s hs
    have := (sgs_mem _ _ _ _ hs).2
    simp [this]
  rw [h1]
  cases l with
  | nil => rfl
  | cons c r =>
    show (!false && !((sgOf (c :: r).length 0 c).2 && (sgOf (c :: r).length 0 c).1 == 35)) = true
    unfold sgOf escd
    by_cases h : c = 35
    · subst h; simp
    · simp [h]
def pairText (a : Pr) : List UInt8 := a.1 ++ 61 :: dnText a.2
def joinT (c : UInt8) : List (List UInt8) → List UInt8
  | [] => []
  | [x] => x
  | x :: y :: r => x ++ c :: joinT c (y :: r)
def rdnText (l : List Pr) : List UInt8 := joinT 43 (l.map pairText)
def nameText (n : List (List Pr)) : List UInt8 := joinT 44 (n.map rdnText)
theorem dw_len {α : Type} (p : α → Bool) (l : List α) : (l.dropWhile p).length ≤ l.length := by
  have := congrArg List.length (split_dw p l)
  rw [List.length_append] at this; omega
def shortN (B : Nat) (n : List (List Pr)) : Prop := n.length ≤ B ∧ ∀ l ∈ n, l.length ≤ B ∧ ∀ a ∈ l, a.1.length ≤ B ∧ a.2.length ≤ B
end Go.Proofs.YtkklacijhmoopaaDoor.Print
