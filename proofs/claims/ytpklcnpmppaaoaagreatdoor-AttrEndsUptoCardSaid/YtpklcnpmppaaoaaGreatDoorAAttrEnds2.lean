-- laid together by pack.py (a program of this session)
import Derived.Test.YtpklcnpmppaaoaaGreatDoorAAttrEnds1
namespace Go.Proofs.YtpklcnpmppaaoaaGreatDoor.Print
open Go.RowKit Go.Proofs.YtpklcnpmppaaoaaGreatDoorW.PrintWords Go.Proofs.YtpklcnpmppaaoaaGreatDoorW.PrintLast Go.Proofs.YtpklcnpmppaaoaaGreatDoorW.PrintMore
attribute [local go_sem] max2_int min2_int max_two min_two max_three min_three max_four min_four
set_option linter.unusedVariables false
set_option linter.unusedSimpArgs false
set_option maxHeartbeats 8000000 in
set_option maxRecDepth 100000 in
theorem Dxvalue.calls (k : Nat) (g : Nat) (s0_0 : ByteArray) (s0_1 : Int) (r1 : ByteArray) (r2 : Bool) (r3 : ByteArray) (r4 : Int) (w0 w : World) (hI : IsS120 w0 w g s0_0 s0_1) (hB : Below w0.heap.size w0 w) (h : Dxvalue.f k s0_0 s0_1 = some (r1, r2, r3, r4)) :
  Calls Tryz.prog 98 #[.pointer (some ⟨g, 0, none⟩)] w fun e w' => e = .returned (.tuple #[.string r1, .bool r2]) ∧ IsS120 w0 w' g r3 r4 ∧ Below w0.heap.size w0 w' ∧ KeepBut w w' g none := by
 have HI0 := Aside0.mk hI
 have HK := Aside0.mk (KeepBut.refl w g none)
 have HL := Aside0.mk hB.size
 clear hI
 have HW0 := Aside0.mk hB.size
 have HB := Aside0.mk hB
 clear hB
 have H : ((Dxblanks.f k s0_0 s0_1).bind fun bt169 => (if 0 ≤ bt169.2 then (if bt169.2 ≤ (bt169.1.size : Int) then ((strings_HasPrefix.f (bt169.1.extract (bt169.2 : Int).toNat bt169.1.size) (⟨#[35]⟩ : ByteArray)).bind fun t171 => (if t171 = true then (some ((⟨#[]⟩ : ByteArray), false, bt169.1, bt169.2)) else (Dxvalue.l0 k ([] : List Int) 0 bt169.1 bt169.2))) else (none)) else (none))) = some (r1, r2, r3, r4) := h
 clear h
 replace H := Option.bind_eq_some_iff.mp H
 obtain ⟨⟨t169, t170⟩, A20, H⟩ := H
 replace H : (if 0 ≤ t170 then (if t170 ≤ (t169.size : Int) then ((strings_HasPrefix.f (t169.extract (t170 : Int).toNat t169.size) (⟨#[35]⟩ : ByteArray)).bind fun t171 => (if t171 = true then (some ((⟨#[]⟩ : ByteArray), false, t169, t170)) else (Dxvalue.l0 k ([] : List Int) 0 t169 t170))) else (none)) else (none)) = some (r1, r2, r3, r4) := H
 have A2 := Aside0.mk A20
 clear A20
 by_cases c3 : 0 ≤ t170
 ·
  rw [if_pos c3] at H
  have c3b0 := eq_true c3
  have c3b1 := decide_eq_true c3
  clear c3
  by_cases c4 : t170 ≤ (t169.size : Int)
  ·
   rw [if_pos c4] at H
   have c4b0 := eq_true c4
   have c4b1 := decide_eq_true c4
   clear c4
   replace H := Option.bind_eq_some_iff.mp H
   obtain ⟨t171, A50, H⟩ := H
   replace H : (if t171 = true then (some ((⟨#[]⟩ : ByteArray), false, t169, t170)) else (Dxvalue.l0 k ([] : List Int) 0 t169 t170)) = some (r1, r2, r3, r4) := H
   have A5 := Aside0.mk A50
   clear A50
   by_cases c6 : t171 = true
   ·
    subst c6
    rw [if_pos rfl] at H
    simp only [Option.some.injEq, Prod.mk.injEq] at H
    obtain ⟨rfl, rfl, rfl, rfl⟩ := H
    go_enter Tryz.func98, Tryz.ntmps98
    go_wp2_with (first | (go_at_call 96; (with_reducible refine (Dxblanks.calls k g s0_0 s0_1 t169 t170 w0 _ ?side1 ?side2 A2.out).mono ?_); (case side1 => exact apI120 HI0.out); (case side2 => exact apS120 HI0.out); rintro e w7 ⟨rfl, hi, hb, hk⟩; have n0_ := Aside0.mk (KeepBut.trans ap5 hk (.inl rfl)); have n1_ := Aside0.mk (hb); have n2_ := Aside0.mk (hi); clear HK; clear HB; clear HI0; have HK := n0_; have HB := n1_; have HI0 := n2_; clear n0_ n1_ n2_; (try clear hb); (try clear hb2); (try clear hk); (try clear hi); obtain ⟨HGz8, hgz8⟩ := HI0.out; have hcz8_0 := cellS120_0 HGz8; have hcz8_1 := cellS120_1 HGz8; have hfz8_0 := blk_frozen HGz8 0; have hfz8_1 := blk_frozen HGz8 1; clear HGz8 hgz8) | (go_at_call 113; (with_reducible refine (strings_HasPrefix.calls (t169.extract (t170 : Int).toNat t169.size) (⟨#[35]⟩ : ByteArray) true _ A5.out).mono ?_); rintro e w' ⟨rfl, ⟨nd, rfl⟩⟩; (try exact ap4)))
    repeat (go_quiet (first | (go_at_call 96; (with_reducible refine (Dxblanks.calls k g s0_0 s0_1 t169 t170 w0 _ ?side1 ?side2 A2.out).mono ?_); (case side1 => exact apI120 HI0.out); (case side2 => exact apS120 HI0.out); rintro e w7 ⟨rfl, hi, hb, hk⟩; have n0_ := Aside0.mk (KeepBut.trans ap5 hk (.inl rfl)); have n1_ := Aside0.mk (hb); have n2_ := Aside0.mk (hi); clear HK; clear HB; clear HI0; have HK := n0_; have HB := n1_; have HI0 := n2_; clear n0_ n1_ n2_; (try clear hb); (try clear hb2); (try clear hk); (try clear hi); obtain ⟨HGz8, hgz8⟩ := HI0.out; have hcz8_0 := cellS120_0 HGz8; have hcz8_1 := cellS120_1 HGz8; have hfz8_0 := blk_frozen HGz8 0; have hfz8_1 := blk_frozen HGz8 1; clear HGz8 hgz8) | (go_at_call 113; (with_reducible refine (strings_HasPrefix.calls (t169.extract (t170 : Int).toNat t169.size) (⟨#[35]⟩ : ByteArray) true _ A5.out).mono ?_); rintro e w' ⟨rfl, ⟨nd, rfl⟩⟩; (try exact ap4))); try go_wp2_with (first | (go_at_call 96; (with_reducible refine (Dxblanks.calls k g s0_0 s0_1 t169 t170 w0 _ ?side1 ?side2 A2.out).mono ?_); (case side1 => exact apI120 HI0.out); (case side2 => exact apS120 HI0.out); rintro e w7 ⟨rfl, hi, hb, hk⟩; have n0_ := Aside0.mk (KeepBut.trans ap5 hk (.inl rfl)); have n1_ := Aside0.mk (hb); have n2_ := Aside0.mk (hi); clear HK; clear HB; clear HI0; have HK := n0_; have HB := n1_; have HI0 := n2_; clear n0_ n1_ n2_; (try clear hb); (try clear hb2); (try clear hk); (try clear hi); obtain ⟨HGz8, hgz8⟩ := HI0.out; have hcz8_0 := cellS120_0 HGz8; have hcz8_1 := cellS120_1 HGz8; have hfz8_0 := blk_frozen HGz8 0; have hfz8_1 := blk_frozen HGz8 1; clear HGz8 hgz8) | (go_at_call 113; (with_reducible refine (strings_HasPrefix.calls (t169.extract (t170 : Int).toNat t169.size) (⟨#[35]⟩ : ByteArray) true _ A5.out).mono ?_); rintro e w' ⟨rfl, ⟨nd, rfl⟩⟩; (try exact ap4))))
    go_ret2
    exact ⟨by first | rfl | (simp [errW_none, errW_some, bne_nil8, beq_nil8]; done) | (simp [errW_none, errW_some] <;> rfl) | (simp [*, errW_none, errW_some] <;> rfl), by repeat (first | (with_reducible first | exact HI0.out | apply IsS120.alloc | apply IsS120.drewN | apply IsS120.drew | apply IsS120.set_0 | apply IsS120.set_1) | exact HI0.out), by repeat (first | (with_reducible first | exact HB.out | apply below_alloc | apply pw_below_drewN | apply below_drew1 | refine below_set ?_ (IsS120.ge HI0.out)) | exact HB.out), by repeat (first | (with_reducible first | exact HK.out | apply KeepBut.set_ | apply keep_drewN | apply keep_drew | apply keep_alloc) | exact HK.out)⟩
   ·
    replace c6 := Bool.eq_false_iff.mpr c6
    subst c6
    rw [if_neg (show ¬ (false = true) by decide)] at H
    have H' := Aside0.mk H
    clear H
    go_enter Tryz.func98, Tryz.ntmps98
    go_wp2_with (first | (go_at_call 96; (with_reducible refine (Dxblanks.calls k g s0_0 s0_1 t169 t170 w0 _ ?side1 ?side2 A2.out).mono ?_); (case side1 => exact apI120 HI0.out); (case side2 => exact apS120 HI0.out); rintro e w9 ⟨rfl, hi, hb, hk⟩; have n0_ := Aside0.mk (KeepBut.trans ap5 hk (.inl rfl)); have n1_ := Aside0.mk (hb); have n2_ := Aside0.mk (hi); clear HK; clear HB; clear HI0; have HK := n0_; have HB := n1_; have HI0 := n2_; clear n0_ n1_ n2_; (try clear hb); (try clear hb2); (try clear hk); (try clear hi); obtain ⟨HGz10, hgz10⟩ := HI0.out; have hcz10_0 := cellS120_0 HGz10; have hcz10_1 := cellS120_1 HGz10; have hfz10_0 := blk_frozen HGz10 0; have hfz10_1 := blk_frozen HGz10 1; clear HGz10 hgz10) | (go_at_call 113; (with_reducible refine (strings_HasPrefix.calls (t169.extract (t170 : Int).toNat t169.size) (⟨#[35]⟩ : ByteArray) false _ A5.out).mono ?_); rintro e w' ⟨rfl, ⟨nd, rfl⟩⟩; (try exact ap4)))
    repeat (go_quiet (first | (go_at_call 96; (with_reducible refine (Dxblanks.calls k g s0_0 s0_1 t169 t170 w0 _ ?side1 ?side2 A2.out).mono ?_); (case side1 => exact apI120 HI0.out); (case side2 => exact apS120 HI0.out); rintro e w9 ⟨rfl, hi, hb, hk⟩; have n0_ := Aside0.mk (KeepBut.trans ap5 hk (.inl rfl)); have n1_ := Aside0.mk (hb); have n2_ := Aside0.mk (hi); clear HK; clear HB; clear HI0; have HK := n0_; have HB := n1_; have HI0 := n2_; clear n0_ n1_ n2_; (try clear hb); (try clear hb2); (try clear hk); (try clear hi); obtain ⟨HGz10, hgz10⟩ := HI0.out; have hcz10_0 := cellS120_0 HGz10; have hcz10_1 := cellS120_1 HGz10; have hfz10_0 := blk_frozen HGz10 0; have hfz10_1 := blk_frozen HGz10 1; clear HGz10 hgz10) | (go_at_call 113; (with_reducible refine (strings_HasPrefix.calls (t169.extract (t170 : Int).toNat t169.size) (⟨#[35]⟩ : ByteArray) false _ A5.out).mono ?_); rintro e w' ⟨rfl, ⟨nd, rfl⟩⟩; (try exact ap4))); try go_wp2_with (first | (go_at_call 96; (with_reducible refine (Dxblanks.calls k g s0_0 s0_1 t169 t170 w0 _ ?side1 ?side2 A2.out).mono ?_); (case side1 => exact apI120 HI0.out); (case side2 => exact apS120 HI0.out); rintro e w9 ⟨rfl, hi, hb, hk⟩; have n0_ := Aside0.mk (KeepBut.trans ap5 hk (.inl rfl)); have n1_ := Aside0.mk (hb); have n2_ := Aside0.mk (hi); clear HK; clear HB; clear HI0; have HK := n0_; have HB := n1_; have HI0 := n2_; clear n0_ n1_ n2_; (try clear hb); (try clear hb2); (try clear hk); (try clear hi); obtain ⟨HGz10, hgz10⟩ := HI0.out; have hcz10_0 := cellS120_0 HGz10; have hcz10_1 := cellS120_1 HGz10; have hfz10_0 := blk_frozen HGz10 0; have hfz10_1 := blk_frozen HGz10 1; clear HGz10 hgz10) | (go_at_call 113; (with_reducible refine (strings_HasPrefix.calls (t169.extract (t170 : Int).toNat t169.size) (⟨#[35]⟩ : ByteArray) false _ A5.out).mono ?_); rintro e w' ⟨rfl, ⟨nd, rfl⟩⟩; (try exact ap4))))
    go_loopg [4, 5] k (fun kq v4 v5 w' => ∃ (x4_1 : List Int) (x5_1 : Int) (x1000_1 : ByteArray) (x1001_1 : Int), v5 = .int .i64 x5_1 ∧ Aside0 (Dxvalue.l0 kq x4_1 x5_1 x1000_1 x1001_1 = some (r1, r2, r3, r4)) ∧ Aside0 (kq ≤ k) ∧ Aside0 (Kd.R (Kd.int .u8) 5 w' w.heap.size (fun _ => True) v4 x4_1) ∧ Aside0 (IsS120 w0 w' g x1000_1 x1001_1) ∧ Aside0 (KeepBut w w' g none) ∧ Aside0 (Below w0.heap.size w0 w'))
    case atStart => exact ⟨(([] : List Int)), (0), (t169), (t170), ap2, H', ⟨Nat.le_refl _⟩, ⟨by first | exact Kd.R_nil _ _ _ _ _ | exact Kd.N_nil _ _ _ _ _ | exact Kd.V_nil _ _ _ _ _ | exact Kd.Q_nil _ _ _ _ _ | exact Kd.S_nil _ _ _ _ _⟩, ⟨by repeat (first | (with_reducible first | exact HI0.out | apply IsS120.alloc | apply IsS120.drewN | apply IsS120.drew | apply IsS120.set_0 | apply IsS120.set_1) | exact HI0.out)⟩, ⟨by repeat (first | (with_reducible first | exact HK.out | apply KeepBut.set_ | apply keep_drewN | apply keep_drew | apply keep_alloc) | exact HK.out)⟩, ⟨by repeat (first | (with_reducible first | exact HB.out | apply below_alloc | apply pw_below_drewN | apply below_drew1 | refine below_set ?_ (IsS120.ge HI0.out)) | exact HB.out)⟩⟩
    case round =>
     clear H'
     try clear p2
     try clear c3
     try clear c3b0
     try clear c3b1
     try clear c4
     try clear c4b0
     try clear c4b1
     try clear c6
     try clear c9
     try clear hcz10_0
     try clear hcz10_1
     try clear hcz8_0
     try clear hcz8_1
     try clear hfz10_0
     try clear hfz10_1
     try clear hfz8_0
     try clear hfz8_1
     obtain ⟨x4_1, x5_1, x1000_1, x1001_1, rfl, HA, HK1, HO_4, HI0, HK, HB⟩ := hrel
     cases gk with
     | zero => exact absurd HA.out (by simp [Dxvalue.l0])
     | succ k1 =>
      have H := HA.out
      clear HA
      simp only [Dxvalue.l0] at H
      by_cases c11 : x1001_1 < (x1000_1.size : Int)
      ·
       rw [if_pos c11] at H
       have c11b0 := decide_eq_true c11
       clear c11
       by_cases c12 : 0 ≤ x1001_1
       ·
        rw [if_pos c12] at H
        have c12b0 := decide_eq_true c12
        clear c12
        have HC14 := Aside0.mk H
        clear H
        obtain ⟨HGz15, hgz15⟩ := HI0.out
        have hcz15_0 := cellS120_0 HGz15
        have hcz15_1 := cellS120_1 HGz15
        have hfz15_0 := blk_frozen HGz15 0
        have hfz15_1 := blk_frozen HGz15 1
        clear HGz15 hgz15
        have p13 : 0 ≤ (x1001_1 : Int) := of_decide_eq_true ap0
        have q13 : x1001_1 < (x1000_1.size : Int) := of_decide_eq_true ap0
        have hx13 := bt_at x1000_1 x1001_1
        replace p13 := eq_true p13
        replace q13 := eq_true q13
        go_upto_if 41 with (fail)
        repeat (go_quiet (fail); go_upto_if 41 with (fail))
        go_cut [41] (fun v41 wc => ∃ (kq : Nat) (x41_13 : Bool), v41 = .bool x41_13 ∧ Aside0 (Dxvalue.j1 kq x4_1 x5_1 (bt x1000_1 x1001_1) (bt x1000_1 x1001_1) x41_13 x1000_1 x1001_1 = some (r1, r2, r3, r4)) ∧ Aside0 (kq ≤ k1) ∧ Aside0 (Kd.R (Kd.int .u8) 5 wc w.heap.size (fun _ => True) u4 x4_1) ∧ Aside0 (IsS120 w0 wc g x1000_1 x1001_1) ∧ Aside0 (KeepBut w wc g none) ∧ Aside0 (Below w0.heap.size w0 wc))
        case first =>
         have H := HC14.out
         clear HC14
         by_cases c16 : (bt x1000_1 x1001_1) = 44
         ·
          rw [if_pos c16] at H
          have c16b0 : ((bt x1000_1 x1001_1) == 44) = true := beq_iff_eq.mpr c16
          have c16b1 : ((bt x1000_1 x1001_1) != 44) = false := bne_eq_false_iff_eq.mpr c16
          clear c16
          (first | rw [c16b0] | (simp only [i64_w, i32_w]; rw [c16b0]) | skip)
          have H' := Aside0.mk H
          clear H
          go_wp2
          repeat (go_quiet (fail); try go_wp2)
          first | go_meet | (simp only [c16b0] at *; go_meet)
          case rel => exact ⟨_, (((bt x1000_1 x1001_1) == 44)), ap2, H', ⟨by have := HK1.out; first | omega | exact Nat.le_refl _⟩, ⟨by (with_reducible repeat (first | apply Kd.R_alloc | apply Kd.R_drewN | apply Kd.R_drew)); exact HO_4.out⟩, ⟨by repeat (first | (with_reducible first | exact HI0.out | apply IsS120.alloc | apply IsS120.drewN | apply IsS120.drew | apply IsS120.set_0 | apply IsS120.set_1) | exact HI0.out)⟩, ⟨by repeat (first | (with_reducible first | exact HK.out | apply KeepBut.set_ | apply keep_drewN | apply keep_drew | apply keep_alloc) | exact HK.out)⟩, ⟨by repeat (first | (with_reducible first | exact HB.out | apply below_alloc | apply pw_below_drewN | apply below_drew1 | refine below_set ?_ (IsS120.ge HI0.out)) | exact HB.out)⟩⟩
         ·
          rw [if_neg c16] at H
          have c16b0 : ((bt x1000_1 x1001_1) == 44) = false := beq_eq_false_iff_ne.mpr c16
          have c16b1 : ((bt x1000_1 x1001_1) != 44) = true := bne_iff_ne.mpr c16
          (first | rw [c16b0] | (simp only [i64_w, i32_w]; rw [c16b0]) | skip)
          by_cases c17 : (bt x1000_1 x1001_1) = 59
          ·
           rw [if_pos c17] at H
           have c17b0 : ((bt x1000_1 x1001_1) == 59) = true := beq_iff_eq.mpr c17
           have c17b1 : ((bt x1000_1 x1001_1) != 59) = false := bne_eq_false_iff_eq.mpr c17
           clear c17
           have H' := Aside0.mk H
           clear H
           go_wp2
           repeat (go_quiet (fail); try go_wp2)
           first | go_meet | (simp only [c17b0] at *; go_meet) | (simp only [c16b0] at *; go_meet) | (simp only [c16b0] at *; go_meet)
           case rel => exact ⟨_, (((bt x1000_1 x1001_1) == 59)), ap2, H', ⟨by have := HK1.out; first | omega | exact Nat.le_refl _⟩, ⟨by (with_reducible repeat (first | apply Kd.R_alloc | apply Kd.R_drewN | apply Kd.R_drew)); exact HO_4.out⟩, ⟨by repeat (first | (with_reducible first | exact HI0.out | apply IsS120.alloc | apply IsS120.drewN | apply IsS120.drew | apply IsS120.set_0 | apply IsS120.set_1) | exact HI0.out)⟩, ⟨by repeat (first | (with_reducible first | exact HK.out | apply KeepBut.set_ | apply keep_drewN | apply keep_drew | apply keep_alloc) | exact HK.out)⟩, ⟨by repeat (first | (with_reducible first | exact HB.out | apply below_alloc | apply pw_below_drewN | apply below_drew1 | refine below_set ?_ (IsS120.ge HI0.out)) | exact HB.out)⟩⟩
          ·
           rw [if_neg c17] at H
           have c17b0 : ((bt x1000_1 x1001_1) == 59) = false := beq_eq_false_iff_ne.mpr c17
           have c17b1 : ((bt x1000_1 x1001_1) != 59) = true := bne_iff_ne.mpr c17
           have H' := Aside0.mk H
           clear H
           go_wp2
           repeat (go_quiet (fail); try go_wp2)
           first | go_meet | (simp only [c17b0] at *; go_meet) | (simp only [c17b0] at *; go_meet) | (simp only [c16b0] at *; go_meet)
           case rel => exact ⟨_, (((bt x1000_1 x1001_1) == 43)), ap2, H', ⟨by have := HK1.out; first | omega | exact Nat.le_refl _⟩, ⟨by (with_reducible repeat (first | apply Kd.R_alloc | apply Kd.R_drewN | apply Kd.R_drew)); exact HO_4.out⟩, ⟨by repeat (first | (with_reducible first | exact HI0.out | apply IsS120.alloc | apply IsS120.drewN | apply IsS120.drew | apply IsS120.set_0 | apply IsS120.set_1) | exact HI0.out)⟩, ⟨by repeat (first | (with_reducible first | exact HK.out | apply KeepBut.set_ | apply keep_drewN | apply keep_drew | apply keep_alloc) | exact HK.out)⟩, ⟨by repeat (first | (with_reducible first | exact HB.out | apply below_alloc | apply pw_below_drewN | apply below_drew1 | refine below_set ?_ (IsS120.ge HI0.out)) | exact HB.out)⟩⟩
        case rest =>
         clear HC14
         try clear c1
         try clear p1
         try clear q1
         try clear hx1
         try clear p2
         try clear c3
         try clear c3b0
         try clear c3b1
         try clear c4
         try clear c4b0
         try clear c4b1
         try clear c6
         try clear c9
         try clear c11
         try clear c11b0
         try clear c12
         try clear c12b0
         try clear p13
         try clear q13
         try clear hx13
         try clear c16
         try clear c16b0
         try clear c16b1
         try clear c17
         try clear c17b0
         try clear c17b1
         try clear hcz10_0
         try clear hcz10_1
         try clear hcz15_0
         try clear hcz15_1
         try clear hcz8_0
         try clear hcz8_1
         try clear hfz10_0
         try clear hfz10_1
         try clear hfz15_0
         try clear hfz15_1
         try clear hfz8_0
         try clear hfz8_1
         try clear p13
         try clear p2
         try clear q13
         obtain ⟨kq, x41_13, rfl, HA, HJ13, HO_4, HI0, HK, HB⟩ := hcut
         cases kq with
         | zero => exact absurd HA.out (by simp [Dxvalue.j1])
         | succ kj13 =>
          have H := HA.out
          clear HA
          simp only [Dxvalue.j1] at H
          by_cases c18 : x41_13 = true
          ·
           subst c18
           rw [if_pos rfl] at H
           by_cases c19 : 0 ≤ x5_1
           ·
            rw [if_pos c19] at H
            have c19b0 := eq_true c19
            have c19b1 := decide_eq_true c19
            clear c19
            by_cases c20 : x5_1 ≤ (x4_1.length : Int)
            ·
             rw [if_pos c20] at H
             have c20b0 := eq_true c20
             have c20b1 := decide_eq_true c20
             clear c20
             obtain ⟨y176, hy176⟩ : ∃ y_ : List Int, y_ = (x4_1.take (x5_1 : Int).toNat) := ⟨_, rfl⟩
             replace H : (some (strOfNums y176, true, x1000_1, x1001_1)) = some (r1, r2, r3, r4) := by first | (rw [hy176]; with_reducible exact H) | (have H2_ := (Option.bind_some _ _).symm.trans H; rw [hy176]; with_reducible exact H2_) | (have H2_ := (Option.bind_some _ _).symm.trans H; with_reducible exact H2_) | with_reducible exact H | (rw [hy176]; exact H) | exact H
             have Ny176 := Aside0.mk hy176
             clear hy176
             simp only [Option.some.injEq, Prod.mk.injEq] at H
             obtain ⟨rfl, rfl, rfl, rfl⟩ := H
             obtain ⟨Ao22, co22, eo22⟩ := Kd.R_slice HO_4.out
             subst eo22
             have q21 : (x5_1 : Int) ≤ ((x4_1.length : Int) : Int) := of_decide_eq_true ap0
             obtain ⟨i021, hi021, _, hsz21, _⟩ := info_parts info5
             have hroom21 : x4_1.length ≤ co22 := (Kd.R_reads' HO_4.out).2.1
             have hC21 : Kd.C (Kd.int .u8) _ Ao22 x4_1.length x4_1 := (Kd.R_reads' HO_4.out).2.2
             have hcut21 := cut_to (P := Tryz.prog) 82 5 .i64 Tryz.underlying82 hi021 Ao22 x4_1.length co22 x5_1 (of_decide_eq_true ap0) q21 hroom21
             have hr21 := Kd.C_take (m := (x5_1 : Int).toNat) hC21 (by omega)
             have hy21 : y176.length = (x5_1 : Int).toNat := (by rw [Ny176.out, List.length_take]; omega)
             rw [← Ny176.out] at hr21
             rw [← hy21] at hcut21
             have HR179 := Aside0.mk hr21
             have HC179 := Aside0.mk (show y176.length ≤ co22 from by omega)
             clear hr21 hC21 hroom21 hi021 hsz21
             have KY21 := Aside0.mk hy21
             clear hy21
             have KL21 := Aside0.mk (show (x5_1 : Int).toNat ≤ x4_1.length from by omega)
             replace q21 := eq_true q21
             have hcv23 := Kd.C_string (P := Tryz.prog) (A := Ao22) (c := co22) Tryz.underlying82 Tryz.underlying5 Tryz.underlying9 (apC HR179.out)
             have hcv23n := fun m_ => Kd.C_string (P := Tryz.prog) (A := Ao22) (c := co22) Tryz.underlying82 Tryz.underlying5 Tryz.underlying9 (Kd.C_drewN (apC HR179.out) m_)
             go_wp2
             repeat (go_quiet (fail); try go_wp2)
             go_ret2
             exact ⟨by first | rfl | (simp [errW_none, errW_some, bne_nil8, beq_nil8]; done) | (simp [errW_none, errW_some] <;> rfl) | (simp [*, errW_none, errW_some] <;> rfl), by repeat (first | (with_reducible first | exact HI0.out | apply IsS120.alloc | apply IsS120.drewN | apply IsS120.drew | apply IsS120.set_0 | apply IsS120.set_1) | exact HI0.out), by repeat (first | (with_reducible first | exact HB.out | apply below_alloc | apply pw_below_drewN | apply below_drew1 | refine below_set ?_ (IsS120.ge HI0.out)) | exact HB.out), by repeat (first | (with_reducible first | exact HK.out | apply KeepBut.set_ | apply keep_drewN | apply keep_drew | apply keep_alloc) | exact HK.out)⟩
            ·
             rw [if_neg c20] at H
             exact absurd H (by simp)
           ·
            rw [if_neg c19] at H
            exact absurd H (by simp)
          ·
           replace c18 := Bool.eq_false_iff.mpr c18
           subst c18
           rw [if_neg (show ¬ (false = true) by decide)] at H
           by_cases c24 : (bt x1000_1 x1001_1) = 34
           ·
            rw [if_pos c24] at H
            have c24b0 : ((bt x1000_1 x1001_1) == 34) = true := beq_iff_eq.mpr c24
            have c24b1 : ((bt x1000_1 x1001_1) != 34) = false := bne_eq_false_iff_eq.mpr c24
            clear c24
            simp only [Option.some.injEq, Prod.mk.injEq] at H
            obtain ⟨rfl, rfl, rfl, rfl⟩ := H
            go_wp2
            repeat (go_quiet (fail); try go_wp2)
            go_ret2
            exact ⟨by first | rfl | (simp [errW_none, errW_some, bne_nil8, beq_nil8]; done) | (simp [errW_none, errW_some] <;> rfl) | (simp [*, errW_none, errW_some] <;> rfl), by repeat (first | (with_reducible first | exact HI0.out | apply IsS120.alloc | apply IsS120.drewN | apply IsS120.drew | apply IsS120.set_0 | apply IsS120.set_1) | exact HI0.out), by repeat (first | (with_reducible first | exact HB.out | apply below_alloc | apply pw_below_drewN | apply below_drew1 | refine below_set ?_ (IsS120.ge HI0.out)) | exact HB.out), by repeat (first | (with_reducible first | exact HK.out | apply KeepBut.set_ | apply keep_drewN | apply keep_drew | apply keep_alloc) | exact HK.out)⟩
           ·
            rw [if_neg c24] at H
            have c24b0 : ((bt x1000_1 x1001_1) == 34) = false := beq_eq_false_iff_ne.mpr c24
            have c24b1 : ((bt x1000_1 x1001_1) != 34) = true := bne_iff_ne.mpr c24
            by_cases c25 : (bt x1000_1 x1001_1) = 60
            ·
             rw [if_pos c25] at H
             have c25b0 : ((bt x1000_1 x1001_1) == 60) = true := beq_iff_eq.mpr c25
             have c25b1 : ((bt x1000_1 x1001_1) != 60) = false := bne_eq_false_iff_eq.mpr c25
             clear c25
             simp only [Option.some.injEq, Prod.mk.injEq] at H
             obtain ⟨rfl, rfl, rfl, rfl⟩ := H
             go_wp2
             repeat (go_quiet (fail); try go_wp2)
             go_ret2
             exact ⟨by first | rfl | (simp [errW_none, errW_some, bne_nil8, beq_nil8]; done) | (simp [errW_none, errW_some] <;> rfl) | (simp [*, errW_none, errW_some] <;> rfl), by repeat (first | (with_reducible first | exact HI0.out | apply IsS120.alloc | apply IsS120.drewN | apply IsS120.drew | apply IsS120.set_0 | apply IsS120.set_1) | exact HI0.out), by repeat (first | (with_reducible first | exact HB.out | apply below_alloc | apply pw_below_drewN | apply below_drew1 | refine below_set ?_ (IsS120.ge HI0.out)) | exact HB.out), by repeat (first | (with_reducible first | exact HK.out | apply KeepBut.set_ | apply keep_drewN | apply keep_drew | apply keep_alloc) | exact HK.out)⟩
            ·
             rw [if_neg c25] at H
             have c25b0 : ((bt x1000_1 x1001_1) == 60) = false := beq_eq_false_iff_ne.mpr c25
             have c25b1 : ((bt x1000_1 x1001_1) != 60) = true := bne_iff_ne.mpr c25
             by_cases c26 : (bt x1000_1 x1001_1) = 62
             ·
              rw [if_pos c26] at H
              have c26b0 : ((bt x1000_1 x1001_1) == 62) = true := beq_iff_eq.mpr c26
              have c26b1 : ((bt x1000_1 x1001_1) != 62) = false := bne_eq_false_iff_eq.mpr c26
              clear c26
              simp only [Option.some.injEq, Prod.mk.injEq] at H
              obtain ⟨rfl, rfl, rfl, rfl⟩ := H
              go_wp2
              repeat (go_quiet (fail); try go_wp2)
              go_ret2
              exact ⟨by first | rfl | (simp [errW_none, errW_some, bne_nil8, beq_nil8]; done) | (simp [errW_none, errW_some] <;> rfl) | (simp [*, errW_none, errW_some] <;> rfl), by repeat (first | (with_reducible first | exact HI0.out | apply IsS120.alloc | apply IsS120.drewN | apply IsS120.drew | apply IsS120.set_0 | apply IsS120.set_1) | exact HI0.out), by repeat (first | (with_reducible first | exact HB.out | apply below_alloc | apply pw_below_drewN | apply below_drew1 | refine below_set ?_ (IsS120.ge HI0.out)) | exact HB.out), by repeat (first | (with_reducible first | exact HK.out | apply KeepBut.set_ | apply keep_drewN | apply keep_drew | apply keep_alloc) | exact HK.out)⟩
             ·
              rw [if_neg c26] at H
              have c26b0 : ((bt x1000_1 x1001_1) == 62) = false := beq_eq_false_iff_ne.mpr c26
              have c26b1 : ((bt x1000_1 x1001_1) != 62) = true := bne_iff_ne.mpr c26
              by_cases c27 : (bt x1000_1 x1001_1) = 92
              ·
               rw [if_pos c27] at H
               have c27b0 : ((bt x1000_1 x1001_1) == 92) = true := beq_iff_eq.mpr c27
               have c27b1 : ((bt x1000_1 x1001_1) != 92) = false := bne_eq_false_iff_eq.mpr c27
               clear c27
               replace H := Option.bind_eq_some_iff.mp H
               obtain ⟨⟨t180, t181, t182, t183⟩, A280, H⟩ := H
               replace H : (if t181 = true then (if x4_1.length < 140737488355328 then ((some (x4_1 ++ [t180] : List Int)).bind fun y184 => (Dxvalue.l0 kj13 y184 (y184.length : Int) t182 t183)) else (none)) else (some ((⟨#[]⟩ : ByteArray), false, t182, t183))) = some (r1, r2, r3, r4) := H
               have A28 := Aside0.mk A280
               clear A280
               by_cases c29 : t181 = true
               ·
                subst c29
                rw [if_pos rfl] at H
                by_cases c30 : x4_1.length < 140737488355328
                ·
                 rw [if_pos c30] at H
                 have LMc30 := Aside0.mk c30
                 clear c30
                 obtain ⟨y184, hy184⟩ : ∃ y_ : List Int, y_ = (x4_1 ++ [t180]) := ⟨_, rfl⟩
                 replace H : (Dxvalue.l0 kj13 y184 (y184.length : Int) t182 t183) = some (r1, r2, r3, r4) := by first | (rw [hy184]; with_reducible exact H) | (have H2_ := (Option.bind_some _ _).symm.trans H; rw [hy184]; with_reducible exact H2_) | (have H2_ := (Option.bind_some _ _).symm.trans H; with_reducible exact H2_) | with_reducible exact H | (rw [hy184]; exact H) | exact H
                 have Ny184 := Aside0.mk hy184
                 clear hy184
                 have H' := Aside0.mk H
                 clear H
                 obtain ⟨HGz31, hgz31⟩ := HI0.out
                 have hcz31_0 := cellS120_0 HGz31
                 have hcz31_1 := cellS120_1 HGz31
                 have hfz31_0 := blk_frozen HGz31 0
                 have hfz31_1 := blk_frozen HGz31 1
                 clear HGz31 hgz31
                 go_wp2_with (first | (go_at_call 124; (with_reducible refine (Dxescaped.calls kj13 g x1000_1 (wrap64 (x1001_1 + 1)) t180 true t182 t183 w0 _ ?side1 ?side2 A28.out).mono ?_); (case side1 => exact apI120 HI0.out); (case side2 => exact apS120 HI0.out); rintro e w32 ⟨rfl, hi, hb, hk⟩; have n0_ := Aside0.mk (Kd.R_mono (Kd.R_keep (IsS120.apart (show IsS120 w0 _ g x1000_1 (wrap64 (x1001_1 + 1)) from by repeat (first | (with_reducible first | exact HI0.out | apply IsS120.alloc | apply IsS120.drewN | apply IsS120.drew | apply IsS120.set_0 | apply IsS120.set_1) | exact HI0.out)) (by (with_reducible repeat (first | apply Kd.R_alloc | apply Kd.R_drewN | apply Kd.R_drew)); exact (Kd.R_mono (Kd.R_far (p := ⟨g, 1, none⟩) (IsS120.apart HI0.out HO_4.out (by decide)) (fun _ hk => hk.2) (.int .i64 (wrap64 (x1001_1 + 1)))) (fun _ h_ => h_.1))) (by decide)) hk (fun _ h => h.2)) (fun _ h => h.1)); have n1_ := Aside0.mk (KeepBut.trans ap5 hk (.inl rfl)); have n2_ := Aside0.mk (hb); have n3_ := Aside0.mk (hi); clear HO_4; clear HK; clear HB; clear HI0; have HO_4 := n0_; have HK := n1_; have HB := n2_; have HI0 := n3_; clear n0_ n1_ n2_ n3_; (try clear hb); (try clear hb2); (try clear hk); (try clear hi)) | ((with_reducible refine gate_builtin (b := .append) (xs := #[.tmp 69, .tmp 71]) rfl ?_); at_builtin; refine Kd.R_append (Kd.int .u8) w.heap.size rfl (.tmp 69) (.tmp 71) 82 5 (.int .u8 0) 1 rfl Tryz.underlying82 info5 rfl (by decide) (by omega) u4 x4_1 t180 [.int .u8 t180] (fun _ => True) (fun _ => False) rfl rfl ?aP (fun _ hk => hk.elim) ?aF ?aO (Below.refl _ _) ?aS ?aL ?_; (case aP => exact rfl); (case aF => exact (fun _ _ => trivial)); (case aO => exact (apAR HO_4.out)); (case aS => exact (keep_size (w := w) (g := g) (row := none) ap5)); (case aL => have := LMc30.out; omega); intro v185 w33 ho hb hg hat; rw [← Ny184.out] at ho; have n0_ := Aside0.mk (IsS120.grown (apI120 HI0.out) hg (IsS120.own_ne HI0.out HO_4.out (by decide))); have n1_ := Aside0.mk (below_weaken (apS120 HI0.out) HL.out hb); have n2_ := Aside0.mk (KeepBut.trans ap5 (KeepBut.of_grown hg g) (Kd.R_base2 HO_4.out)); have n3_ := Aside0.mk (ho); clear HI0; clear HB; clear HK; clear HO_4; have HI0 := n0_; have HB := n1_; have HK := n2_; have HO186 := n3_; clear n0_ n1_ n2_ n3_; clear ho hb hg hat; obtain ⟨Ao34, co34, eo34⟩ := Kd.R_slice HO186.out; subst eo34))
                 repeat (go_quiet (first | (go_at_call 124; (with_reducible refine (Dxescaped.calls kj13 g x1000_1 (wrap64 (x1001_1 + 1)) t180 true t182 t183 w0 _ ?side1 ?side2 A28.out).mono ?_); (case side1 => exact apI120 HI0.out); (case side2 => exact apS120 HI0.out); rintro e w32 ⟨rfl, hi, hb, hk⟩; have n0_ := Aside0.mk (Kd.R_mono (Kd.R_keep (IsS120.apart (show IsS120 w0 _ g x1000_1 (wrap64 (x1001_1 + 1)) from by repeat (first | (with_reducible first | exact HI0.out | apply IsS120.alloc | apply IsS120.drewN | apply IsS120.drew | apply IsS120.set_0 | apply IsS120.set_1) | exact HI0.out)) (by (with_reducible repeat (first | apply Kd.R_alloc | apply Kd.R_drewN | apply Kd.R_drew)); exact (Kd.R_mono (Kd.R_far (p := ⟨g, 1, none⟩) (IsS120.apart HI0.out HO_4.out (by decide)) (fun _ hk => hk.2) (.int .i64 (wrap64 (x1001_1 + 1)))) (fun _ h_ => h_.1))) (by decide)) hk (fun _ h => h.2)) (fun _ h => h.1)); have n1_ := Aside0.mk (KeepBut.trans ap5 hk (.inl rfl)); have n2_ := Aside0.mk (hb); have n3_ := Aside0.mk (hi); clear HO_4; clear HK; clear HB; clear HI0; have HO_4 := n0_; have HK := n1_; have HB := n2_; have HI0 := n3_; clear n0_ n1_ n2_ n3_; (try clear hb); (try clear hb2); (try clear hk); (try clear hi)) | ((with_reducible refine gate_builtin (b := .append) (xs := #[.tmp 69, .tmp 71]) rfl ?_); at_builtin; refine Kd.R_append (Kd.int .u8) w.heap.size rfl (.tmp 69) (.tmp 71) 82 5 (.int .u8 0) 1 rfl Tryz.underlying82 info5 rfl (by decide) (by omega) u4 x4_1 t180 [.int .u8 t180] (fun _ => True) (fun _ => False) rfl rfl ?aP (fun _ hk => hk.elim) ?aF ?aO (Below.refl _ _) ?aS ?aL ?_; (case aP => exact rfl); (case aF => exact (fun _ _ => trivial)); (case aO => exact (apAR HO_4.out)); (case aS => exact (keep_size (w := w) (g := g) (row := none) ap5)); (case aL => have := LMc30.out; omega); intro v185 w33 ho hb hg hat; rw [← Ny184.out] at ho; have n0_ := Aside0.mk (IsS120.grown (apI120 HI0.out) hg (IsS120.own_ne HI0.out HO_4.out (by decide))); have n1_ := Aside0.mk (below_weaken (apS120 HI0.out) HL.out hb); have n2_ := Aside0.mk (KeepBut.trans ap5 (KeepBut.of_grown hg g) (Kd.R_base2 HO_4.out)); have n3_ := Aside0.mk (ho); clear HI0; clear HB; clear HK; clear HO_4; have HI0 := n0_; have HB := n1_; have HK := n2_; have HO186 := n3_; clear n0_ n1_ n2_ n3_; clear ho hb hg hat; obtain ⟨Ao34, co34, eo34⟩ := Kd.R_slice HO186.out; subst eo34)); try go_wp2_with (first | (go_at_call 124; (with_reducible refine (Dxescaped.calls kj13 g x1000_1 (wrap64 (x1001_1 + 1)) t180 true t182 t183 w0 _ ?side1 ?side2 A28.out).mono ?_); (case side1 => exact apI120 HI0.out); (case side2 => exact apS120 HI0.out); rintro e w32 ⟨rfl, hi, hb, hk⟩; have n0_ := Aside0.mk (Kd.R_mono (Kd.R_keep (IsS120.apart (show IsS120 w0 _ g x1000_1 (wrap64 (x1001_1 + 1)) from by repeat (first | (with_reducible first | exact HI0.out | apply IsS120.alloc | apply IsS120.drewN | apply IsS120.drew | apply IsS120.set_0 | apply IsS120.set_1) | exact HI0.out)) (by (with_reducible repeat (first | apply Kd.R_alloc | apply Kd.R_drewN | apply Kd.R_drew)); exact (Kd.R_mono (Kd.R_far (p := ⟨g, 1, none⟩) (IsS120.apart HI0.out HO_4.out (by decide)) (fun _ hk => hk.2) (.int .i64 (wrap64 (x1001_1 + 1)))) (fun _ h_ => h_.1))) (by decide)) hk (fun _ h => h.2)) (fun _ h => h.1)); have n1_ := Aside0.mk (KeepBut.trans ap5 hk (.inl rfl)); have n2_ := Aside0.mk (hb); have n3_ := Aside0.mk (hi); clear HO_4; clear HK; clear HB; clear HI0; have HO_4 := n0_; have HK := n1_; have HB := n2_; have HI0 := n3_; clear n0_ n1_ n2_ n3_; (try clear hb); (try clear hb2); (try clear hk); (try clear hi)) | ((with_reducible refine gate_builtin (b := .append) (xs := #[.tmp 69, .tmp 71]) rfl ?_); at_builtin; refine Kd.R_append (Kd.int .u8) w.heap.size rfl (.tmp 69) (.tmp 71) 82 5 (.int .u8 0) 1 rfl Tryz.underlying82 info5 rfl (by decide) (by omega) u4 x4_1 t180 [.int .u8 t180] (fun _ => True) (fun _ => False) rfl rfl ?aP (fun _ hk => hk.elim) ?aF ?aO (Below.refl _ _) ?aS ?aL ?_; (case aP => exact rfl); (case aF => exact (fun _ _ => trivial)); (case aO => exact (apAR HO_4.out)); (case aS => exact (keep_size (w := w) (g := g) (row := none) ap5)); (case aL => have := LMc30.out; omega); intro v185 w33 ho hb hg hat; rw [← Ny184.out] at ho; have n0_ := Aside0.mk (IsS120.grown (apI120 HI0.out) hg (IsS120.own_ne HI0.out HO_4.out (by decide))); have n1_ := Aside0.mk (below_weaken (apS120 HI0.out) HL.out hb); have n2_ := Aside0.mk (KeepBut.trans ap5 (KeepBut.of_grown hg g) (Kd.R_base2 HO_4.out)); have n3_ := Aside0.mk (ho); clear HI0; clear HB; clear HK; clear HO_4; have HI0 := n0_; have HB := n1_; have HK := n2_; have HO186 := n3_; clear n0_ n1_ n2_ n3_; clear ho hb hg hat; obtain ⟨Ao34, co34, eo34⟩ := Kd.R_slice HO186.out; subst eo34)))
                 go_roundg kj13
                 case measure => have := HK1.out; have := HJ13.out; omega
                 case rel => exact ⟨(y184), ((y184.length : Int)), (t182), (t183), ap2, H', ⟨by have := HK1.out; have := HJ13.out; omega⟩, ⟨by (with_reducible repeat (first | apply Kd.R_alloc | apply Kd.R_drewN | apply Kd.R_drew)); exact HO186.out⟩, ⟨by repeat (first | (with_reducible first | exact HI0.out | apply IsS120.alloc | apply IsS120.drewN | apply IsS120.drew | apply IsS120.set_0 | apply IsS120.set_1) | exact HI0.out)⟩, ⟨by repeat (first | (with_reducible first | exact HK.out | apply KeepBut.set_ | apply keep_drewN | apply keep_drew | apply keep_alloc) | exact HK.out)⟩, ⟨by repeat (first | (with_reducible first | exact HB.out | apply below_alloc | apply pw_below_drewN | apply below_drew1 | refine below_set ?_ (IsS120.ge HI0.out)) | exact HB.out)⟩⟩
                ·
                 rw [if_neg c30] at H
                 exact absurd H (by simp)
               ·
                replace c29 := Bool.eq_false_iff.mpr c29
                subst c29
                rw [if_neg (show ¬ (false = true) by decide)] at H
                simp only [Option.some.injEq, Prod.mk.injEq] at H
                obtain ⟨rfl, rfl, rfl, rfl⟩ := H
                obtain ⟨HGz35, hgz35⟩ := HI0.out
                have hcz35_0 := cellS120_0 HGz35
                have hcz35_1 := cellS120_1 HGz35
                have hfz35_0 := blk_frozen HGz35 0
                have hfz35_1 := blk_frozen HGz35 1
                clear HGz35 hgz35
                go_wp2_with (first | (go_at_call 124; (with_reducible refine (Dxescaped.calls kj13 g x1000_1 (wrap64 (x1001_1 + 1)) t180 false t182 t183 w0 _ ?side1 ?side2 A28.out).mono ?_); (case side1 => exact apI120 HI0.out); (case side2 => exact apS120 HI0.out); rintro e w36 ⟨rfl, hi, hb, hk⟩; have n0_ := Aside0.mk (Kd.R_mono (Kd.R_keep (IsS120.apart (show IsS120 w0 _ g x1000_1 (wrap64 (x1001_1 + 1)) from by repeat (first | (with_reducible first | exact HI0.out | apply IsS120.alloc | apply IsS120.drewN | apply IsS120.drew | apply IsS120.set_0 | apply IsS120.set_1) | exact HI0.out)) (by (with_reducible repeat (first | apply Kd.R_alloc | apply Kd.R_drewN | apply Kd.R_drew)); exact (Kd.R_mono (Kd.R_far (p := ⟨g, 1, none⟩) (IsS120.apart HI0.out HO_4.out (by decide)) (fun _ hk => hk.2) (.int .i64 (wrap64 (x1001_1 + 1)))) (fun _ h_ => h_.1))) (by decide)) hk (fun _ h => h.2)) (fun _ h => h.1)); have n1_ := Aside0.mk (KeepBut.trans ap5 hk (.inl rfl)); have n2_ := Aside0.mk (hb); have n3_ := Aside0.mk (hi); clear HO_4; clear HK; clear HB; clear HI0; have HO_4 := n0_; have HK := n1_; have HB := n2_; have HI0 := n3_; clear n0_ n1_ n2_ n3_; (try clear hb); (try clear hb2); (try clear hk); (try clear hi)))
                repeat (go_quiet (first | (go_at_call 124; (with_reducible refine (Dxescaped.calls kj13 g x1000_1 (wrap64 (x1001_1 + 1)) t180 false t182 t183 w0 _ ?side1 ?side2 A28.out).mono ?_); (case side1 => exact apI120 HI0.out); (case side2 => exact apS120 HI0.out); rintro e w36 ⟨rfl, hi, hb, hk⟩; have n0_ := Aside0.mk (Kd.R_mono (Kd.R_keep (IsS120.apart (show IsS120 w0 _ g x1000_1 (wrap64 (x1001_1 + 1)) from by repeat (first | (with_reducible first | exact HI0.out | apply IsS120.alloc | apply IsS120.drewN | apply IsS120.drew | apply IsS120.set_0 | apply IsS120.set_1) | exact HI0.out)) (by (with_reducible repeat (first | apply Kd.R_alloc | apply Kd.R_drewN | apply Kd.R_drew)); exact (Kd.R_mono (Kd.R_far (p := ⟨g, 1, none⟩) (IsS120.apart HI0.out HO_4.out (by decide)) (fun _ hk => hk.2) (.int .i64 (wrap64 (x1001_1 + 1)))) (fun _ h_ => h_.1))) (by decide)) hk (fun _ h => h.2)) (fun _ h => h.1)); have n1_ := Aside0.mk (KeepBut.trans ap5 hk (.inl rfl)); have n2_ := Aside0.mk (hb); have n3_ := Aside0.mk (hi); clear HO_4; clear HK; clear HB; clear HI0; have HO_4 := n0_; have HK := n1_; have HB := n2_; have HI0 := n3_; clear n0_ n1_ n2_ n3_; (try clear hb); (try clear hb2); (try clear hk); (try clear hi))); try go_wp2_with (first | (go_at_call 124; (with_reducible refine (Dxescaped.calls kj13 g x1000_1 (wrap64 (x1001_1 + 1)) t180 false t182 t183 w0 _ ?side1 ?side2 A28.out).mono ?_); (case side1 => exact apI120 HI0.out); (case side2 => exact apS120 HI0.out); rintro e w36 ⟨rfl, hi, hb, hk⟩; have n0_ := Aside0.mk (Kd.R_mono (Kd.R_keep (IsS120.apart (show IsS120 w0 _ g x1000_1 (wrap64 (x1001_1 + 1)) from by repeat (first | (with_reducible first | exact HI0.out | apply IsS120.alloc | apply IsS120.drewN | apply IsS120.drew | apply IsS120.set_0 | apply IsS120.set_1) | exact HI0.out)) (by (with_reducible repeat (first | apply Kd.R_alloc | apply Kd.R_drewN | apply Kd.R_drew)); exact (Kd.R_mono (Kd.R_far (p := ⟨g, 1, none⟩) (IsS120.apart HI0.out HO_4.out (by decide)) (fun _ hk => hk.2) (.int .i64 (wrap64 (x1001_1 + 1)))) (fun _ h_ => h_.1))) (by decide)) hk (fun _ h => h.2)) (fun _ h => h.1)); have n1_ := Aside0.mk (KeepBut.trans ap5 hk (.inl rfl)); have n2_ := Aside0.mk (hb); have n3_ := Aside0.mk (hi); clear HO_4; clear HK; clear HB; clear HI0; have HO_4 := n0_; have HK := n1_; have HB := n2_; have HI0 := n3_; clear n0_ n1_ n2_ n3_; (try clear hb); (try clear hb2); (try clear hk); (try clear hi))))
                go_ret2
                exact ⟨by first | rfl | (simp [errW_none, errW_some, bne_nil8, beq_nil8]; done) | (simp [errW_none, errW_some] <;> rfl) | (simp [*, errW_none, errW_some] <;> rfl), by repeat (first | (with_reducible first | exact HI0.out | apply IsS120.alloc | apply IsS120.drewN | apply IsS120.drew | apply IsS120.set_0 | apply IsS120.set_1) | exact HI0.out), by repeat (first | (with_reducible first | exact HB.out | apply below_alloc | apply pw_below_drewN | apply below_drew1 | refine below_set ?_ (IsS120.ge HI0.out)) | exact HB.out), by repeat (first | (with_reducible first | exact HK.out | apply KeepBut.set_ | apply keep_drewN | apply keep_drew | apply keep_alloc) | exact HK.out)⟩
              ·
               rw [if_neg c27] at H
               have c27b0 : ((bt x1000_1 x1001_1) == 92) = false := beq_eq_false_iff_ne.mpr c27
               have c27b1 : ((bt x1000_1 x1001_1) != 92) = true := bne_iff_ne.mpr c27
               by_cases c37 : x4_1.length < 140737488355328
               ·
                rw [if_pos c37] at H
                have LMc37 := Aside0.mk c37
                clear c37
                obtain ⟨y187, hy187⟩ : ∃ y_ : List Int, y_ = (x4_1 ++ [(bt x1000_1 x1001_1)]) := ⟨_, rfl⟩
                replace H : (if (bt x1000_1 x1001_1) = 32 then (Dxvalue.l0 kj13 y187 x5_1 x1000_1 (wrap64 (x1001_1 + 1))) else (Dxvalue.l0 kj13 y187 (y187.length : Int) x1000_1 (wrap64 (x1001_1 + 1)))) = some (r1, r2, r3, r4) := by first | (rw [hy187]; with_reducible exact H) | (have H2_ := (Option.bind_some _ _).symm.trans H; rw [hy187]; with_reducible exact H2_) | (have H2_ := (Option.bind_some _ _).symm.trans H; with_reducible exact H2_) | with_reducible exact H | (rw [hy187]; exact H) | exact H
                have Ny187 := Aside0.mk hy187
                clear hy187
                by_cases c38 : (bt x1000_1 x1001_1) = 32
                ·
                 rw [if_pos c38] at H
                 have c38b0 : ((bt x1000_1 x1001_1) == 32) = true := beq_iff_eq.mpr c38
                 have c38b1 : ((bt x1000_1 x1001_1) != 32) = false := bne_eq_false_iff_eq.mpr c38
                 clear c38
                 have H' := Aside0.mk H
                 clear H
                 obtain ⟨HGz39, hgz39⟩ := HI0.out
                 have hcz39_0 := cellS120_0 HGz39
                 have hcz39_1 := cellS120_1 HGz39
                 have hfz39_0 := blk_frozen HGz39 0
                 have hfz39_1 := blk_frozen HGz39 1
                 clear HGz39 hgz39
                 go_wp2_with (first | ((with_reducible refine gate_builtin (b := .append) (xs := #[.tmp 75, .tmp 77]) rfl ?_); at_builtin; refine Kd.R_append (Kd.int .u8) w.heap.size rfl (.tmp 75) (.tmp 77) 82 5 (.int .u8 0) 1 rfl Tryz.underlying82 info5 rfl (by decide) (by omega) u4 x4_1 (bt x1000_1 x1001_1) [.int .u8 (bt x1000_1 x1001_1)] (fun _ => True) (fun _ => False) rfl (by first | (go_simp; done) | (go_simp; rfl)) ?aP (fun _ hk => hk.elim) ?aF ?aO (Below.refl _ _) ?aS ?aL ?_; (case aP => exact rfl); (case aF => exact (fun _ _ => trivial)); (case aO => exact (by (with_reducible repeat (first | apply Kd.R_alloc | apply Kd.R_drewN | apply Kd.R_drew)); exact Kd.R_mono (Kd.R_far (p := ⟨g, 1, none⟩) (IsS120.apart HI0.out HO_4.out (by decide)) (fun _ hk => hk.2) (.int .i64 (wrap64 (x1001_1 + 1)))) (fun _ hk => trivial))); (case aS => exact (keep_size (w := w) (g := g) (row := none) ap5)); (case aL => have := LMc37.out; omega); intro v188 w40 ho hb hg hat; rw [← Ny187.out] at ho; have n0_ := Aside0.mk (IsS120.grown (apI120 HI0.out) hg (IsS120.own_ne HI0.out HO_4.out (by decide))); have n1_ := Aside0.mk (below_weaken (apS120 HI0.out) HL.out hb); have n2_ := Aside0.mk (KeepBut.trans ap5 (KeepBut.of_grown hg g) (Kd.R_base2 HO_4.out)); have n3_ := Aside0.mk (ho); clear HI0; clear HB; clear HK; clear HO_4; have HI0 := n0_; have HB := n1_; have HK := n2_; have HO189 := n3_; clear n0_ n1_ n2_ n3_; clear ho hb hg hat))
                 repeat (go_quiet (first | ((with_reducible refine gate_builtin (b := .append) (xs := #[.tmp 75, .tmp 77]) rfl ?_); at_builtin; refine Kd.R_append (Kd.int .u8) w.heap.size rfl (.tmp 75) (.tmp 77) 82 5 (.int .u8 0) 1 rfl Tryz.underlying82 info5 rfl (by decide) (by omega) u4 x4_1 (bt x1000_1 x1001_1) [.int .u8 (bt x1000_1 x1001_1)] (fun _ => True) (fun _ => False) rfl (by first | (go_simp; done) | (go_simp; rfl)) ?aP (fun _ hk => hk.elim) ?aF ?aO (Below.refl _ _) ?aS ?aL ?_; (case aP => exact rfl); (case aF => exact (fun _ _ => trivial)); (case aO => exact (by (with_reducible repeat (first | apply Kd.R_alloc | apply Kd.R_drewN | apply Kd.R_drew)); exact Kd.R_mono (Kd.R_far (p := ⟨g, 1, none⟩) (IsS120.apart HI0.out HO_4.out (by decide)) (fun _ hk => hk.2) (.int .i64 (wrap64 (x1001_1 + 1)))) (fun _ hk => trivial))); (case aS => exact (keep_size (w := w) (g := g) (row := none) ap5)); (case aL => have := LMc37.out; omega); intro v188 w40 ho hb hg hat; rw [← Ny187.out] at ho; have n0_ := Aside0.mk (IsS120.grown (apI120 HI0.out) hg (IsS120.own_ne HI0.out HO_4.out (by decide))); have n1_ := Aside0.mk (below_weaken (apS120 HI0.out) HL.out hb); have n2_ := Aside0.mk (KeepBut.trans ap5 (KeepBut.of_grown hg g) (Kd.R_base2 HO_4.out)); have n3_ := Aside0.mk (ho); clear HI0; clear HB; clear HK; clear HO_4; have HI0 := n0_; have HB := n1_; have HK := n2_; have HO189 := n3_; clear n0_ n1_ n2_ n3_; clear ho hb hg hat)); try go_wp2_with (first | ((with_reducible refine gate_builtin (b := .append) (xs := #[.tmp 75, .tmp 77]) rfl ?_); at_builtin; refine Kd.R_append (Kd.int .u8) w.heap.size rfl (.tmp 75) (.tmp 77) 82 5 (.int .u8 0) 1 rfl Tryz.underlying82 info5 rfl (by decide) (by omega) u4 x4_1 (bt x1000_1 x1001_1) [.int .u8 (bt x1000_1 x1001_1)] (fun _ => True) (fun _ => False) rfl (by first | (go_simp; done) | (go_simp; rfl)) ?aP (fun _ hk => hk.elim) ?aF ?aO (Below.refl _ _) ?aS ?aL ?_; (case aP => exact rfl); (case aF => exact (fun _ _ => trivial)); (case aO => exact (by (with_reducible repeat (first | apply Kd.R_alloc | apply Kd.R_drewN | apply Kd.R_drew)); exact Kd.R_mono (Kd.R_far (p := ⟨g, 1, none⟩) (IsS120.apart HI0.out HO_4.out (by decide)) (fun _ hk => hk.2) (.int .i64 (wrap64 (x1001_1 + 1)))) (fun _ hk => trivial))); (case aS => exact (keep_size (w := w) (g := g) (row := none) ap5)); (case aL => have := LMc37.out; omega); intro v188 w40 ho hb hg hat; rw [← Ny187.out] at ho; have n0_ := Aside0.mk (IsS120.grown (apI120 HI0.out) hg (IsS120.own_ne HI0.out HO_4.out (by decide))); have n1_ := Aside0.mk (below_weaken (apS120 HI0.out) HL.out hb); have n2_ := Aside0.mk (KeepBut.trans ap5 (KeepBut.of_grown hg g) (Kd.R_base2 HO_4.out)); have n3_ := Aside0.mk (ho); clear HI0; clear HB; clear HK; clear HO_4; have HI0 := n0_; have HB := n1_; have HK := n2_; have HO189 := n3_; clear n0_ n1_ n2_ n3_; clear ho hb hg hat)))
                 go_roundg kj13
                 case measure => have := HK1.out; have := HJ13.out; omega
                 case rel => exact ⟨(y187), (x5_1), (x1000_1), (wrap64 (x1001_1 + 1)), ap2, H', ⟨by have := HK1.out; have := HJ13.out; omega⟩, ⟨by (with_reducible repeat (first | apply Kd.R_alloc | apply Kd.R_drewN | apply Kd.R_drew)); exact HO189.out⟩, ⟨by repeat (first | (with_reducible first | exact HI0.out | apply IsS120.alloc | apply IsS120.drewN | apply IsS120.drew | apply IsS120.set_0 | apply IsS120.set_1) | exact HI0.out)⟩, ⟨by repeat (first | (with_reducible first | exact HK.out | apply KeepBut.set_ | apply keep_drewN | apply keep_drew | apply keep_alloc) | exact HK.out)⟩, ⟨by repeat (first | (with_reducible first | exact HB.out | apply below_alloc | apply pw_below_drewN | apply below_drew1 | refine below_set ?_ (IsS120.ge HI0.out)) | exact HB.out)⟩⟩
                ·
                 rw [if_neg c38] at H
                 have c38b0 : ((bt x1000_1 x1001_1) == 32) = false := beq_eq_false_iff_ne.mpr c38
                 have c38b1 : ((bt x1000_1 x1001_1) != 32) = true := bne_iff_ne.mpr c38
                 have H' := Aside0.mk H
                 clear H
                 obtain ⟨HGz41, hgz41⟩ := HI0.out
                 have hcz41_0 := cellS120_0 HGz41
                 have hcz41_1 := cellS120_1 HGz41
                 have hfz41_0 := blk_frozen HGz41 0
                 have hfz41_1 := blk_frozen HGz41 1
                 clear HGz41 hgz41
                 go_wp2_with (first | ((with_reducible refine gate_builtin (b := .append) (xs := #[.tmp 75, .tmp 77]) rfl ?_); at_builtin; refine Kd.R_append (Kd.int .u8) w.heap.size rfl (.tmp 75) (.tmp 77) 82 5 (.int .u8 0) 1 rfl Tryz.underlying82 info5 rfl (by decide) (by omega) u4 x4_1 (bt x1000_1 x1001_1) [.int .u8 (bt x1000_1 x1001_1)] (fun _ => True) (fun _ => False) rfl (by first | (go_simp; done) | (go_simp; rfl)) ?aP (fun _ hk => hk.elim) ?aF ?aO (Below.refl _ _) ?aS ?aL ?_; (case aP => exact rfl); (case aF => exact (fun _ _ => trivial)); (case aO => exact (by (with_reducible repeat (first | apply Kd.R_alloc | apply Kd.R_drewN | apply Kd.R_drew)); exact Kd.R_mono (Kd.R_far (p := ⟨g, 1, none⟩) (IsS120.apart HI0.out HO_4.out (by decide)) (fun _ hk => hk.2) (.int .i64 (wrap64 (x1001_1 + 1)))) (fun _ hk => trivial))); (case aS => exact (keep_size (w := w) (g := g) (row := none) ap5)); (case aL => have := LMc37.out; omega); intro v188 w42 ho hb hg hat; rw [← Ny187.out] at ho; have n0_ := Aside0.mk (IsS120.grown (apI120 HI0.out) hg (IsS120.own_ne HI0.out HO_4.out (by decide))); have n1_ := Aside0.mk (below_weaken (apS120 HI0.out) HL.out hb); have n2_ := Aside0.mk (KeepBut.trans ap5 (KeepBut.of_grown hg g) (Kd.R_base2 HO_4.out)); have n3_ := Aside0.mk (ho); clear HI0; clear HB; clear HK; clear HO_4; have HI0 := n0_; have HB := n1_; have HK := n2_; have HO189 := n3_; clear n0_ n1_ n2_ n3_; clear ho hb hg hat; obtain ⟨Ao43, co43, eo43⟩ := Kd.R_slice HO189.out; subst eo43))
                 repeat (go_quiet (first | ((with_reducible refine gate_builtin (b := .append) (xs := #[.tmp 75, .tmp 77]) rfl ?_); at_builtin; refine Kd.R_append (Kd.int .u8) w.heap.size rfl (.tmp 75) (.tmp 77) 82 5 (.int .u8 0) 1 rfl Tryz.underlying82 info5 rfl (by decide) (by omega) u4 x4_1 (bt x1000_1 x1001_1) [.int .u8 (bt x1000_1 x1001_1)] (fun _ => True) (fun _ => False) rfl (by first | (go_simp; done) | (go_simp; rfl)) ?aP (fun _ hk => hk.elim) ?aF ?aO (Below.refl _ _) ?aS ?aL ?_; (case aP => exact rfl); (case aF => exact (fun _ _ => trivial)); (case aO => exact (by (with_reducible repeat (first | apply Kd.R_alloc | apply Kd.R_drewN | apply Kd.R_drew)); exact Kd.R_mono (Kd.R_far (p := ⟨g, 1, none⟩) (IsS120.apart HI0.out HO_4.out (by decide)) (fun _ hk => hk.2) (.int .i64 (wrap64 (x1001_1 + 1)))) (fun _ hk => trivial))); (case aS => exact (keep_size (w := w) (g := g) (row := none) ap5)); (case aL => have := LMc37.out; omega); intro v188 w42 ho hb hg hat; rw [← Ny187.out] at ho; have n0_ := Aside0.mk (IsS120.grown (apI120 HI0.out) hg (IsS120.own_ne HI0.out HO_4.out (by decide))); have n1_ := Aside0.mk (below_weaken (apS120 HI0.out) HL.out hb); have n2_ := Aside0.mk (KeepBut.trans ap5 (KeepBut.of_grown hg g) (Kd.R_base2 HO_4.out)); have n3_ := Aside0.mk (ho); clear HI0; clear HB; clear HK; clear HO_4; have HI0 := n0_; have HB := n1_; have HK := n2_; have HO189 := n3_; clear n0_ n1_ n2_ n3_; clear ho hb hg hat; obtain ⟨Ao43, co43, eo43⟩ := Kd.R_slice HO189.out; subst eo43)); try go_wp2_with (first | ((with_reducible refine gate_builtin (b := .append) (xs := #[.tmp 75, .tmp 77]) rfl ?_); at_builtin; refine Kd.R_append (Kd.int .u8) w.heap.size rfl (.tmp 75) (.tmp 77) 82 5 (.int .u8 0) 1 rfl Tryz.underlying82 info5 rfl (by decide) (by omega) u4 x4_1 (bt x1000_1 x1001_1) [.int .u8 (bt x1000_1 x1001_1)] (fun _ => True) (fun _ => False) rfl (by first | (go_simp; done) | (go_simp; rfl)) ?aP (fun _ hk => hk.elim) ?aF ?aO (Below.refl _ _) ?aS ?aL ?_; (case aP => exact rfl); (case aF => exact (fun _ _ => trivial)); (case aO => exact (by (with_reducible repeat (first | apply Kd.R_alloc | apply Kd.R_drewN | apply Kd.R_drew)); exact Kd.R_mono (Kd.R_far (p := ⟨g, 1, none⟩) (IsS120.apart HI0.out HO_4.out (by decide)) (fun _ hk => hk.2) (.int .i64 (wrap64 (x1001_1 + 1)))) (fun _ hk => trivial))); (case aS => exact (keep_size (w := w) (g := g) (row := none) ap5)); (case aL => have := LMc37.out; omega); intro v188 w42 ho hb hg hat; rw [← Ny187.out] at ho; have n0_ := Aside0.mk (IsS120.grown (apI120 HI0.out) hg (IsS120.own_ne HI0.out HO_4.out (by decide))); have n1_ := Aside0.mk (below_weaken (apS120 HI0.out) HL.out hb); have n2_ := Aside0.mk (KeepBut.trans ap5 (KeepBut.of_grown hg g) (Kd.R_base2 HO_4.out)); have n3_ := Aside0.mk (ho); clear HI0; clear HB; clear HK; clear HO_4; have HI0 := n0_; have HB := n1_; have HK := n2_; have HO189 := n3_; clear n0_ n1_ n2_ n3_; clear ho hb hg hat; obtain ⟨Ao43, co43, eo43⟩ := Kd.R_slice HO189.out; subst eo43)))
                 go_roundg kj13
                 case measure => have := HK1.out; have := HJ13.out; omega
                 case rel => exact ⟨(y187), ((y187.length : Int)), (x1000_1), (wrap64 (x1001_1 + 1)), ap2, H', ⟨by have := HK1.out; have := HJ13.out; omega⟩, ⟨by (with_reducible repeat (first | apply Kd.R_alloc | apply Kd.R_drewN | apply Kd.R_drew)); exact HO189.out⟩, ⟨by repeat (first | (with_reducible first | exact HI0.out | apply IsS120.alloc | apply IsS120.drewN | apply IsS120.drew | apply IsS120.set_0 | apply IsS120.set_1) | exact HI0.out)⟩, ⟨by repeat (first | (with_reducible first | exact HK.out | apply KeepBut.set_ | apply keep_drewN | apply keep_drew | apply keep_alloc) | exact HK.out)⟩, ⟨by repeat (first | (with_reducible first | exact HB.out | apply below_alloc | apply pw_below_drewN | apply below_drew1 | refine below_set ?_ (IsS120.ge HI0.out)) | exact HB.out)⟩⟩
               ·
                rw [if_neg c37] at H
                exact absurd H (by simp)
       ·
        rw [if_neg c12] at H
        exact absurd H (by simp)
      ·
       rw [if_neg c11] at H
       have c11b0 := decide_eq_false c11
       clear c11
       by_cases c44 : 0 ≤ x5_1
       ·
        rw [if_pos c44] at H
        have c44b0 := eq_true c44
        have c44b1 := decide_eq_true c44
        clear c44
        by_cases c45 : x5_1 ≤ (x4_1.length : Int)
        ·
         rw [if_pos c45] at H
         have c45b0 := eq_true c45
         have c45b1 := decide_eq_true c45
         clear c45
         obtain ⟨y172, hy172⟩ : ∃ y_ : List Int, y_ = (x4_1.take (x5_1 : Int).toNat) := ⟨_, rfl⟩
         replace H : (some (strOfNums y172, true, x1000_1, x1001_1)) = some (r1, r2, r3, r4) := by first | (rw [hy172]; with_reducible exact H) | (have H2_ := (Option.bind_some _ _).symm.trans H; rw [hy172]; with_reducible exact H2_) | (have H2_ := (Option.bind_some _ _).symm.trans H; with_reducible exact H2_) | with_reducible exact H | (rw [hy172]; exact H) | exact H
         have Ny172 := Aside0.mk hy172
         clear hy172
         simp only [Option.some.injEq, Prod.mk.injEq] at H
         obtain ⟨rfl, rfl, rfl, rfl⟩ := H
         obtain ⟨HGz46, hgz46⟩ := HI0.out
         have hcz46_0 := cellS120_0 HGz46
         have hcz46_1 := cellS120_1 HGz46
         have hfz46_0 := blk_frozen HGz46 0
         have hfz46_1 := blk_frozen HGz46 1
         clear HGz46 hgz46
         obtain ⟨Ao48, co48, eo48⟩ := Kd.R_slice HO_4.out
         subst eo48
         have q47 : (x5_1 : Int) ≤ ((x4_1.length : Int) : Int) := of_decide_eq_true ap0
         obtain ⟨i047, hi047, _, hsz47, _⟩ := info_parts info5
         have hroom47 : x4_1.length ≤ co48 := (Kd.R_reads' HO_4.out).2.1
         have hC47 : Kd.C (Kd.int .u8) _ Ao48 x4_1.length x4_1 := (Kd.R_reads' HO_4.out).2.2
         have hcut47 := cut_to (P := Tryz.prog) 82 5 .i64 Tryz.underlying82 hi047 Ao48 x4_1.length co48 x5_1 (of_decide_eq_true ap0) q47 hroom47
         have hr47 := Kd.C_take (m := (x5_1 : Int).toNat) hC47 (by omega)
         have hy47 : y172.length = (x5_1 : Int).toNat := (by rw [Ny172.out, List.length_take]; omega)
         rw [← Ny172.out] at hr47
         rw [← hy47] at hcut47
         have HR175 := Aside0.mk hr47
         have HC175 := Aside0.mk (show y172.length ≤ co48 from by omega)
         clear hr47 hC47 hroom47 hi047 hsz47
         have KY47 := Aside0.mk hy47
         clear hy47
         have KL47 := Aside0.mk (show (x5_1 : Int).toNat ≤ x4_1.length from by omega)
         replace q47 := eq_true q47
         have hcv49 := Kd.C_string (P := Tryz.prog) (A := Ao48) (c := co48) Tryz.underlying82 Tryz.underlying5 Tryz.underlying9 (apC HR175.out)
         have hcv49n := fun m_ => Kd.C_string (P := Tryz.prog) (A := Ao48) (c := co48) Tryz.underlying82 Tryz.underlying5 Tryz.underlying9 (Kd.C_drewN (apC HR175.out) m_)
         go_wp2
         repeat (go_quiet (fail); try go_wp2)
         go_ret2
         exact ⟨by first | rfl | (simp [errW_none, errW_some, bne_nil8, beq_nil8]; done) | (simp [errW_none, errW_some] <;> rfl) | (simp [*, errW_none, errW_some] <;> rfl), by repeat (first | (with_reducible first | exact HI0.out | apply IsS120.alloc | apply IsS120.drewN | apply IsS120.drew | apply IsS120.set_0 | apply IsS120.set_1) | exact HI0.out), by repeat (first | (with_reducible first | exact HB.out | apply below_alloc | apply pw_below_drewN | apply below_drew1 | refine below_set ?_ (IsS120.ge HI0.out)) | exact HB.out), by repeat (first | (with_reducible first | exact HK.out | apply KeepBut.set_ | apply keep_drewN | apply keep_drew | apply keep_alloc) | exact HK.out)⟩
        ·
         rw [if_neg c45] at H
         exact absurd H (by simp)
       ·
        rw [if_neg c44] at H
        exact absurd H (by simp)
  ·
   rw [if_neg c4] at H
   exact absurd H (by simp)
 ·
  rw [if_neg c3] at H
  exact absurd H (by simp)
mutual
def dn_Parse.l0 : Nat → ByteArray → List (List (S96)) → List (S96) → ByteArray → Int → Option ((List (List (S96))) × Int)
 | 0, _, _, _, _, _ => none
 | k + 1, x0, x5, x6, x195000, x195001 => (Dxkind.f k x195000 x195001).bind fun bt197 => (if bt197.2.1 = true then ((Dxvalue.f k bt197.2.2.1 bt197.2.2.2).bind fun bt201 => (if bt201.2.1 = true then (if x6.length < 4398046511104 then ((some (x6 ++ [(⟨bt197.1, bt201.1⟩ : S96)] : List (S96))).bind fun y205 => (if bt201.2.2.2 = (x0.size : Int) then (dn_Parse.j1 k x0 x5 y205 (bt201.2.2.2 == (x0.size : Int)) true bt201.2.2.1 bt201.2.2.2) else (if 0 ≤ bt201.2.2.2 then (if bt201.2.2.2 < (x0.size : Int) then (dn_Parse.j1 k x0 x5 y205 (bt201.2.2.2 == (x0.size : Int)) ((bt x0 bt201.2.2.2) != 43) bt201.2.2.1 bt201.2.2.2) else (none)) else (none)))) else (none)) else (some (([] : List (List (S96))), 4)))) else (some (([] : List (List (S96))), 4)))
def dn_Parse.j1 : Nat → ByteArray → List (List (S96)) → List (S96) → Bool → Bool → ByteArray → Int → Option ((List (List (S96))) × Int)
 | 0, _, _, _, _, _, _, _ => none
 | k + 1, x0, x5, x6, x10, x62, x195000, x195001 => if x62 = true then (if x5.length < 5864062014805 then ((some (x5 ++ [x6] : List (List (S96)))).bind fun y208 => (if x10 = true then ((dn_Right.f k y208).bind fun t211 => (if t211 = true then (some (y208, 0)) else (some (([] : List (List (S96))), 4)))) else (dn_Parse.l0 k x0 y208 ([] : List (S96)) x195000 (wrap64 (x195001 + 1))))) else (none)) else (if x10 = true then ((dn_Right.f k x5).bind fun t212 => (if t212 = true then (some (x5, 0)) else (some (([] : List (List (S96))), 4)))) else (dn_Parse.l0 k x0 x5 x6 x195000 (wrap64 (x195001 + 1))))
end
def dn_Parse.f (k : Nat) (a0 : ByteArray) : Option ((List (List (S96))) × Int) := if (a0.size : Int) > 1000 then (some (([] : List (List (S96))), 5)) else ((Dxblanks.f k a0 0).bind fun bt195 => (if bt195.2 = (a0.size : Int) then (some (([] : List (List (S96))), 0)) else (dn_Parse.l0 k a0 ([] : List (List (S96))) ([] : List (S96)) bt195.1 bt195.2)))
theorem dn_Parse.mono_l : ∀ k, (∀ y0 y1 y2 y3 y4, LeO (dn_Parse.l0 k y0 y1 y2 y3 y4) (dn_Parse.l0 (k + 1) y0 y1 y2 y3 y4)) ∧ (∀ y0 y1 y2 y3 y4 y5 y6, LeO (dn_Parse.j1 k y0 y1 y2 y3 y4 y5 y6) (dn_Parse.j1 (k + 1) y0 y1 y2 y3 y4 y5 y6))
 | 0 => ⟨fun _ _ _ _ _ r h => by simp [dn_Parse.l0] at h, fun _ _ _ _ _ _ _ r h => by simp [dn_Parse.j1] at h⟩
 | k + 1 => by
  obtain ⟨ih0, ih1⟩ := dn_Parse.mono_l k
  refine ⟨?_, ?_⟩
  ·
   intro y0 y1 y2 y3 y4
   unfold dn_Parse.l0
   repeat' first
   | (with_reducible exact ih0 _ _ _ _ _)
   | (with_reducible exact ih1 _ _ _ _ _ _ _)
   | (with_reducible exact dn_Right.mono _ _)
   | (with_reducible exact Dxblanks.mono _ _ _)
   | (with_reducible exact Dxkind.mono _ _ _)
   | (with_reducible exact Dxvalue.mono _ _ _)
   | (with_reducible exact LeO.refl _)
   | (with_reducible exact LeO.none _)
   | (with_reducible refine LeO.ite ?_ ?_)
   | (with_reducible refine LeO.bind ?_ (fun _ => ?_))
  ·
   intro y0 y1 y2 y3 y4 y5 y6
   unfold dn_Parse.j1
   repeat' first
   | (with_reducible exact ih0 _ _ _ _ _)
   | (with_reducible exact ih1 _ _ _ _ _ _ _)
   | (with_reducible exact dn_Right.mono _ _)
   | (with_reducible exact Dxblanks.mono _ _ _)
   | (with_reducible exact Dxkind.mono _ _ _)
   | (with_reducible exact Dxvalue.mono _ _ _)
   | (with_reducible exact LeO.refl _)
   | (with_reducible exact LeO.none _)
   | (with_reducible refine LeO.ite ?_ ?_)
   | (with_reducible refine LeO.bind ?_ (fun _ => ?_))
theorem dn_Parse.mono : ∀ a0 k, LeO (dn_Parse.f k a0) (dn_Parse.f (k + 1) a0) := by
 intro a0 k
 obtain ⟨ih0, ih1⟩ := dn_Parse.mono_l k
 unfold dn_Parse.f
 repeat' first
   | (with_reducible exact ih0 _ _ _ _ _)
   | (with_reducible exact ih1 _ _ _ _ _ _ _)
   | (with_reducible exact dn_Right.mono _ _)
   | (with_reducible exact Dxblanks.mono _ _ _)
   | (with_reducible exact Dxkind.mono _ _ _)
   | (with_reducible exact Dxvalue.mono _ _ _)
   | (with_reducible exact LeO.refl _)
   | (with_reducible exact LeO.none _)
   | (with_reducible refine LeO.ite ?_ ?_)
   | (with_reducible refine LeO.bind ?_ (fun _ => ?_))
set_option maxHeartbeats 8000000 in
set_option maxRecDepth 100000 in
theorem dn_Parse.calls (k : Nat) (a0 : ByteArray) (r1 : List (List (S96))) (r2 : Int) (w : World) (hG : Gw w) (h : dn_Parse.f k a0 = some (r1, r2)) :
  Calls Tryz.prog 69 #[.string a0] w fun e w' => ∃ v0_ : Value, e = .returned (.tuple #[v0_, .int .i64 r2]) ∧ Kd.S (Kd.slice 96 k96) 92 w' w.heap.size (fun _ => True) v0_ r1 ∧ Below w.heap.size w w' := by
 have hu120 := Tryz.underlying120
 have hu96 := Tryz.underlying96
 have HB := Aside0.mk (Below.refl w.heap.size w)
 have HG := Aside0.mk hG
 clear hG
 have H : (if (a0.size : Int) > 1000 then (some (([] : List (List (S96))), 5)) else ((Dxblanks.f k a0 0).bind fun bt195 => (if bt195.2 = (a0.size : Int) then (some (([] : List (List (S96))), 0)) else (dn_Parse.l0 k a0 ([] : List (List (S96))) ([] : List (S96)) bt195.1 bt195.2)))) = some (r1, r2) := h
 clear h
 by_cases c2 : (a0.size : Int) > 1000
 ·
  rw [if_pos c2] at H
  have c2b0 := decide_eq_true c2
  have c2b1 : decide (1000 < a0.size) = true := decide_eq_true (by omega)
  clear c2
  simp only [Option.some.injEq, Prod.mk.injEq] at H
  obtain ⟨rfl, rfl⟩ := H
  go_enter Tryz.func69, Tryz.ntmps69
  go_wp2
  go_ret2
  exact ⟨_, by first | rfl | (simp [errW_none, errW_some, bne_nil8, beq_nil8]; done) | (simp [errW_none, errW_some] <;> rfl) | (simp [*, errW_none, errW_some] <;> rfl), by first | exact Kd.S_nil _ _ _ _ _ | exact Kd.N_nil _ _ _ _ _ | exact Kd.V_nil _ _ _ _ _ | exact Kd.Q_nil _ _ _ _ _ | exact Kd.R_nil _ _ _ _ _, by repeat (first | (with_reducible first | exact HB.out | apply below_alloc | apply pw_below_drewN | apply below_drew1) | exact HB.out)⟩
 ·
  rw [if_neg c2] at H
  have c2b0 := decide_eq_false c2
  have c2b1 : decide (1000 < a0.size) = false := decide_eq_false (by omega)
  clear c2
  replace H := Option.bind_eq_some_iff.mp H
  obtain ⟨⟨t195, t196⟩, A30, H⟩ := H
  replace H : (if t196 = (a0.size : Int) then (some (([] : List (List (S96))), 0)) else (dn_Parse.l0 k a0 ([] : List (List (S96))) ([] : List (S96)) t195 t196)) = some (r1, r2) := H
  have A3 := Aside0.mk A30
  clear A30
  by_cases c4 : t196 = (a0.size : Int)
  ·
   rw [if_pos c4] at H
   have c4b0 : (t196 == (a0.size : Int)) = true := beq_iff_eq.mpr c4
   have c4b1 : (t196 != (a0.size : Int)) = false := bne_eq_false_iff_eq.mpr c4
   clear c4
   simp only [Option.some.injEq, Prod.mk.injEq] at H
   obtain ⟨rfl, rfl⟩ := H
   go_enter Tryz.func69, Tryz.ntmps69
   go_wp2_with (first | ((with_reducible refine gate_dst (N := 16) rfl ?_); refine box_event ?hg (N := 16) ?hd (cs := #[.string a0, .int .i64 0]) (t := 120) ?hr ?_; (case hd => rfl); (case hg => rfl); (case hr => first | (go_simp; done) | (go_simp; rfl)); intro gb194 hg w5 hbox hb; have n0_ := Aside0.mk (below_step ap1 hb); have n1_ := Aside0.mk ((show IsS120 w w5 gb194 a0 0 from ⟨hbox, (by rw [hg]; exact (below_size ap1) : w.heap.size ≤ gb194)⟩)); have n2_ := Aside0.mk ((by rw [hg]; exact (below_size ap1) : w.heap.size ≤ gb194)); have n3_ := Aside0.mk ((by rw [hg]; exact (below_size ap1) : w.heap.size ≤ gb194)); clear HB; have HB := n0_; have HI194 := n1_; have GW194 := n2_; have GE194 := n3_; clear n0_ n1_ n2_ n3_; clear hb hbox hg) | ((with_reducible refine gate_callee (f := 96) rfl ?_); refine goesL_ (some 18) rfl rfl Tryz.func96 (by kernel_rfl) rfl #[.pointer (some ⟨gb194, 0, none⟩)] rfl ap3 ?_; (with_reducible refine (Dxblanks.calls k gb194 a0 0 t195 t196 w _ ?side1 ?side2 A3.out).mono ?_); (case side1 => exact apI120 HI194.out); (case side2 => exact apS120 HI194.out); rintro e w6 ⟨rfl, hi, hb, hk⟩; refine ⟨_, rfl, ?_⟩; have n0_ := Aside0.mk (hb); have n1_ := Aside0.mk (hi); clear HB; clear HI194; have HB := n0_; have HI194 := n1_; clear n0_ n1_; (try clear hb); (try clear hb2); (try clear hk); (try clear hi); obtain ⟨HGz7, hgz7⟩ := HI194.out; have hcz7_0 := cellS120_0 HGz7; have hcz7_1 := cellS120_1 HGz7; have hfz7_0 := blk_frozen HGz7 0; have hfz7_1 := blk_frozen HGz7 1; clear HGz7 hgz7))
   go_ret2
   exact ⟨_, by first | rfl | (simp [errW_none, errW_some, bne_nil8, beq_nil8]; done) | (simp [errW_none, errW_some] <;> rfl) | (simp [*, errW_none, errW_some] <;> rfl), by first | exact Kd.S_nil _ _ _ _ _ | exact Kd.N_nil _ _ _ _ _ | exact Kd.V_nil _ _ _ _ _ | exact Kd.Q_nil _ _ _ _ _ | exact Kd.R_nil _ _ _ _ _, by repeat (first | (with_reducible first | exact HB.out | apply below_alloc | apply pw_below_drewN | apply below_drew1 | refine below_set ?_ (IsS120.ge HI194.out)) | exact HB.out)⟩
  ·
   rw [if_neg c4] at H
   have c4b0 : (t196 == (a0.size : Int)) = false := beq_eq_false_iff_ne.mpr c4
   have c4b1 : (t196 != (a0.size : Int)) = true := bne_iff_ne.mpr c4
   have H' := Aside0.mk H
   clear H
   go_enter Tryz.func69, Tryz.ntmps69
   go_wp2_with (first | ((with_reducible refine gate_dst (N := 16) rfl ?_); refine box_event ?hg (N := 16) ?hd (cs := #[.string a0, .int .i64 0]) (t := 120) ?hr ?_; (case hd => rfl); (case hg => rfl); (case hr => first | (go_simp; done) | (go_simp; rfl)); intro gb194 hg w8 hbox hb; have n0_ := Aside0.mk (below_step ap1 hb); have n1_ := Aside0.mk ((show IsS120 w w8 gb194 a0 0 from ⟨hbox, (by rw [hg]; exact (below_size ap1) : w.heap.size ≤ gb194)⟩)); have n2_ := Aside0.mk ((by rw [hg]; exact (below_size ap1) : w.heap.size ≤ gb194)); have n3_ := Aside0.mk ((by rw [hg]; exact (below_size ap1) : w.heap.size ≤ gb194)); clear HB; have HB := n0_; have HI194 := n1_; have GW194 := n2_; have GE194 := n3_; clear n0_ n1_ n2_ n3_; clear hb hbox hg) | ((with_reducible refine gate_callee (f := 96) rfl ?_); refine goesL_ (some 18) rfl rfl Tryz.func96 (by kernel_rfl) rfl #[.pointer (some ⟨gb194, 0, none⟩)] rfl ap3 ?_; (with_reducible refine (Dxblanks.calls k gb194 a0 0 t195 t196 w _ ?side1 ?side2 A3.out).mono ?_); (case side1 => exact apI120 HI194.out); (case side2 => exact apS120 HI194.out); rintro e w9 ⟨rfl, hi, hb, hk⟩; refine ⟨_, rfl, ?_⟩; have n0_ := Aside0.mk (hb); have n1_ := Aside0.mk (hi); clear HB; clear HI194; have HB := n0_; have HI194 := n1_; clear n0_ n1_; (try clear hb); (try clear hb2); (try clear hk); (try clear hi); obtain ⟨HGz10, hgz10⟩ := HI194.out; have hcz10_0 := cellS120_0 HGz10; have hcz10_1 := cellS120_1 HGz10; have hfz10_0 := blk_frozen HGz10 0; have hfz10_1 := blk_frozen HGz10 1; clear HGz10 hgz10))
   go_loopg [5, 6] k (fun kq v5 v6 w' => ∃ (x5_1 : List (List (S96))) (x6_1 : List (S96)) (x195000_1 : ByteArray) (x195001_1 : Int), Aside0 (dn_Parse.l0 kq a0 x5_1 x6_1 x195000_1 x195001_1 = some (r1, r2)) ∧ Aside0 (kq ≤ k) ∧ Aside0 (Kd.S (Kd.slice 96 k96) 92 w' w.heap.size (fun k_ => some k_ ≠ (v6 : Value).ownBlock) v5 x5_1) ∧ Aside0 (Kd.R k96 96 w' w.heap.size (fun _ => True) v6 x6_1) ∧ Aside0 (IsS120 w w' gb194 x195000_1 x195001_1) ∧ Aside0 (Below w.heap.size w w'))
   case atStart => exact ⟨(([] : List (List (S96)))), (([] : List (S96))), (t195), (t196), H', ⟨Nat.le_refl _⟩, ⟨by first | exact Kd.S_nil _ _ _ _ _ | exact Kd.N_nil _ _ _ _ _ | exact Kd.V_nil _ _ _ _ _ | exact Kd.Q_nil _ _ _ _ _ | exact Kd.R_nil _ _ _ _ _⟩, ⟨by first | exact Kd.R_nil _ _ _ _ _ | exact Kd.N_nil _ _ _ _ _ | exact Kd.V_nil _ _ _ _ _ | exact Kd.Q_nil _ _ _ _ _ | exact Kd.S_nil _ _ _ _ _⟩, ⟨by repeat (first | (with_reducible first | exact HI194.out | apply IsS120.alloc | apply IsS120.drewN | apply IsS120.drew | apply IsS120.set_0 | apply IsS120.set_1) | exact HI194.out)⟩, ⟨by repeat (first | (with_reducible first | exact HB.out | apply below_alloc | apply pw_below_drewN | apply below_drew1 | refine below_set ?_ (IsS120.ge HI194.out)) | exact HB.out)⟩⟩
   case round =>
    clear H'
    try clear c2
    try clear c2b0
    try clear c2b1
    try clear p2
    try clear c4
    try clear c4b0
    try clear c4b1
    try clear c6
    try clear c9
    try clear hcz10_0
    try clear hcz10_1
    try clear hcz7_0
    try clear hcz7_1
    try clear hfz10_0
    try clear hfz10_1
    try clear hfz7_0
    try clear hfz7_1
    obtain ⟨x5_1, x6_1, x195000_1, x195001_1, HA, HK1, HO_5, HO_6, HI194, HB⟩ := hrel
    cases gk with
    | zero => exact absurd HA.out (by simp [dn_Parse.l0])
    | succ k1 =>
     have H := HA.out
     clear HA
     simp only [dn_Parse.l0] at H
     replace H := Option.bind_eq_some_iff.mp H
     obtain ⟨⟨t197, t198, t199, t200⟩, A110, H⟩ := H
     replace H : (if t198 = true then ((Dxvalue.f k1 t199 t200).bind fun bt201 => (if bt201.2.1 = true then (if x6_1.length < 4398046511104 then ((some (x6_1 ++ [(⟨t197, bt201.1⟩ : S96)] : List (S96))).bind fun y205 => (if bt201.2.2.2 = (a0.size : Int) then (dn_Parse.j1 k1 a0 x5_1 y205 (bt201.2.2.2 == (a0.size : Int)) true bt201.2.2.1 bt201.2.2.2) else (if 0 ≤ bt201.2.2.2 then (if bt201.2.2.2 < (a0.size : Int) then (dn_Parse.j1 k1 a0 x5_1 y205 (bt201.2.2.2 == (a0.size : Int)) ((bt a0 bt201.2.2.2) != 43) bt201.2.2.1 bt201.2.2.2) else (none)) else (none)))) else (none)) else (some (([] : List (List (S96))), 4)))) else (some (([] : List (List (S96))), 4))) = some (r1, r2) := H
     have A11 := Aside0.mk A110
     clear A110
     by_cases c12 : t198 = true
     ·
      subst c12
      rw [if_pos rfl] at H
      replace H := Option.bind_eq_some_iff.mp H
      obtain ⟨⟨t201, t202, t203, t204⟩, A130, H⟩ := H
      replace H : (if t202 = true then (if x6_1.length < 4398046511104 then ((some (x6_1 ++ [(⟨t197, t201⟩ : S96)] : List (S96))).bind fun y205 => (if t204 = (a0.size : Int) then (dn_Parse.j1 k1 a0 x5_1 y205 (t204 == (a0.size : Int)) true t203 t204) else (if 0 ≤ t204 then (if t204 < (a0.size : Int) then (dn_Parse.j1 k1 a0 x5_1 y205 (t204 == (a0.size : Int)) ((bt a0 t204) != 43) t203 t204) else (none)) else (none)))) else (none)) else (some (([] : List (List (S96))), 4))) = some (r1, r2) := H
      have A13 := Aside0.mk A130
      clear A130
      by_cases c14 : t202 = true
      ·
       subst c14
       rw [if_pos rfl] at H
       by_cases c15 : x6_1.length < 4398046511104
       ·
        rw [if_pos c15] at H
        have LMc15 := Aside0.mk c15
        clear c15
        obtain ⟨y205, hy205⟩ : ∃ y_ : List (S96), y_ = (x6_1 ++ [(⟨t197, t201⟩ : S96)]) := ⟨_, rfl⟩
        replace H : (if t204 = (a0.size : Int) then (dn_Parse.j1 k1 a0 x5_1 y205 (t204 == (a0.size : Int)) true t203 t204) else (if 0 ≤ t204 then (if t204 < (a0.size : Int) then (dn_Parse.j1 k1 a0 x5_1 y205 (t204 == (a0.size : Int)) ((bt a0 t204) != 43) t203 t204) else (none)) else (none))) = some (r1, r2) := by first | (rw [hy205]; with_reducible exact H) | (have H2_ := (Option.bind_some _ _).symm.trans H; rw [hy205]; with_reducible exact H2_) | (have H2_ := (Option.bind_some _ _).symm.trans H; with_reducible exact H2_) | with_reducible exact H | (rw [hy205]; exact H) | exact H
        have Ny205 := Aside0.mk hy205
        clear hy205
        have HC16 := Aside0.mk H
        clear H
        go_upto_region 17 with (first | ((with_reducible refine gate_callee (f := 97) rfl ?_); refine goesL_ (some 28) rfl rfl Tryz.func97 (by kernel_rfl) rfl #[.pointer (some ⟨gb194, 0, none⟩)] rfl ap3 ?_; (with_reducible refine (Dxkind.calls k1 gb194 x195000_1 x195001_1 t197 true t199 t200 w _ ?side1 ?side2 ?side3 A11.out).mono ?_); (case side1 => exact apI120 HI194.out); (case side2 => exact apS120 HI194.out); (case side3 => first | exact HG.out | (refine Gw.below HG.out ?_; repeat (first | (with_reducible first | exact HB.out | apply below_alloc | apply pw_below_drewN | apply below_drew1 | refine below_set ?_ (IsS120.ge HI194.out)) | exact HB.out))); rintro e w17 ⟨rfl, hi, hb, hk⟩; refine ⟨_, rfl, ?_⟩; have n0_ := Aside0.mk (Kd.S_mono (Kd.S_keep (IsS120.apartS (show IsS120 w _ gb194 x195000_1 x195001_1 from by repeat (first | (with_reducible first | exact HI194.out | apply IsS120.alloc | apply IsS120.drewN | apply IsS120.drew | apply IsS120.set_0 | apply IsS120.set_1) | exact HI194.out)) (apAS HO_5.out) (by decide)) hk (fun _ h => h.2)) (fun _ h => h.1)); have n1_ := Aside0.mk (Kd.R_mono (Kd.R_keep (IsS120.apart (show IsS120 w _ gb194 x195000_1 x195001_1 from by repeat (first | (with_reducible first | exact HI194.out | apply IsS120.alloc | apply IsS120.drewN | apply IsS120.drew | apply IsS120.set_0 | apply IsS120.set_1) | exact HI194.out)) (apAR HO_6.out) (by decide)) hk (fun _ h => h.2)) (fun _ h => h.1)); have n2_ := Aside0.mk (hb); have n3_ := Aside0.mk (hi); clear HO_5; clear HO_6; clear HB; clear HI194; have HO_5 := n0_; have HO_6 := n1_; have HB := n2_; have HI194 := n3_; clear n0_ n1_ n2_ n3_; (try clear hb); (try clear hb2); (try clear hk); (try clear hi)) | ((with_reducible refine gate_callee (f := 98) rfl ?_); refine goesL_ (some 35) rfl rfl Tryz.func98 (by kernel_rfl) rfl #[.pointer (some ⟨gb194, 0, none⟩)] rfl ap3 ?_; (with_reducible refine (Dxvalue.calls k1 gb194 t199 t200 t201 true t203 t204 w _ ?side1 ?side2 A13.out).mono ?_); (case side1 => exact apI120 HI194.out); (case side2 => exact apS120 HI194.out); rintro e w18 ⟨rfl, hi, hb, hk⟩; refine ⟨_, rfl, ?_⟩; have n0_ := Aside0.mk (Kd.S_mono (Kd.S_keep (IsS120.apartS (show IsS120 w _ gb194 t199 t200 from by repeat (first | (with_reducible first | exact HI194.out | apply IsS120.alloc | apply IsS120.drewN | apply IsS120.drew | apply IsS120.set_0 | apply IsS120.set_1) | exact HI194.out)) (apAS HO_5.out) (by decide)) hk (fun _ h => h.2)) (fun _ h => h.1)); have n1_ := Aside0.mk (Kd.R_mono (Kd.R_keep (IsS120.apart (show IsS120 w _ gb194 t199 t200 from by repeat (first | (with_reducible first | exact HI194.out | apply IsS120.alloc | apply IsS120.drewN | apply IsS120.drew | apply IsS120.set_0 | apply IsS120.set_1) | exact HI194.out)) (apAR HO_6.out) (by decide)) hk (fun _ h => h.2)) (fun _ h => h.1)); have n2_ := Aside0.mk (hb); have n3_ := Aside0.mk (hi); clear HO_5; clear HO_6; clear HB; clear HI194; have HO_5 := n0_; have HO_6 := n1_; have HB := n2_; have HI194 := n3_; clear n0_ n1_ n2_ n3_; (try clear hb); (try clear hb2); (try clear hk); (try clear hi)) | ((with_reducible refine gate_builtin (b := .append) (xs := #[.tmp 40, .tmp 44]) rfl ?_); at_builtin; refine Kd.R_append k96 (w0 := w) w.heap.size rfl (.tmp 40) (.tmp 44) 92 96 (.agg #[(.string ⟨#[]⟩), (.string ⟨#[]⟩)]) 32 rfl Tryz.underlying92 info96 rfl (by decide) (by omega) u6 x6_1 (⟨t197, t201⟩ : S96) [.string t197, .string t201] (fun _ => True) (fun _ => False) rfl rfl ?aP (fun _ hk => hk.elim) ?aF ?aO ?aB ?aS ?aL ?_; (case aP => exact k96_mkM _ _ _ (⟨t197, t201⟩ : S96)); (case aB => exact (apS120 HI194.out)); (case aF => exact (fun _ _ => trivial)); (case aO => exact (apAR HO_6.out)); (case aS => exact (below_size (apS120 HI194.out))); (case aL => have := LMc15.out; omega); intro v206 w19 ho hb hg hat; rw [← Ny205.out] at ho; have n0_ := Aside0.mk (Kd.S_after (ok := (fun _ => True)) (by (with_reducible repeat (first | apply Kd.S_alloc | apply Kd.S_drewN | apply Kd.S_drew)); exact Kd.S_mono HO_5.out (fun _ hk => ⟨trivial, hk⟩)) hg hat); have n1_ := Aside0.mk (IsS120.grown (apI120 HI194.out) hg (IsS120.own_ne HI194.out HO_6.out (by decide))); have n2_ := Aside0.mk (hb); have n3_ := Aside0.mk (ho); clear HO_5; clear HI194; clear HB; clear HO_6; have HO_5 := n0_; have HI194 := n1_; have HB := n2_; have HO207 := n3_; clear n0_ n1_ n2_ n3_; clear ho hb hg hat; obtain ⟨HGz20, hgz20⟩ := HI194.out; have hcz20_0 := cellS120_0 HGz20; have hcz20_1 := cellS120_1 HGz20; have hfz20_0 := blk_frozen HGz20 0; have hfz20_1 := blk_frozen HGz20 1; clear HGz20 hgz20))
        (try simp only [Act.put, List.setIfInBounds_toArray, List.set_cons_zero, List.set_cons_succ])
        go_cut [62] (fun v62 wc => ∃ (kq : Nat) (x62_15 : Bool), v62 = .bool x62_15 ∧ Aside0 (dn_Parse.j1 kq a0 x5_1 y205 (t204 == (a0.size : Int)) x62_15 t203 t204 = some (r1, r2)) ∧ Aside0 (kq ≤ k1) ∧ Aside0 (Kd.S (Kd.slice 96 k96) 92 wc w.heap.size (fun k_ => some k_ ≠ (v206 : Value).ownBlock) u5 x5_1) ∧ Aside0 (Kd.R k96 96 wc w.heap.size (fun _ => True) v206 y205) ∧ Aside0 (IsS120 w wc gb194 t203 t204) ∧ Aside0 (Below w.heap.size w wc))
        case first =>
         have H := HC16.out
         clear HC16
         by_cases c21 : t204 = (a0.size : Int)
         ·
          rw [if_pos c21] at H
          have c21b0 : (t204 == (a0.size : Int)) = true := beq_iff_eq.mpr c21
          have c21b1 : (t204 != (a0.size : Int)) = false := bne_eq_false_iff_eq.mpr c21
          clear c21
          (first | rw [c21b0] | (simp only [i64_w, i32_w]; rw [c21b0]) | skip)
          have H' := Aside0.mk H
          clear H
          go_wp2
          first | go_meet | (simp only [c21b0] at *; go_meet) | (simp only [c4b0] at *; go_meet) | (simp only [c4b0] at *; go_meet)
          case rel => exact ⟨_, (true), ap2, H', ⟨by have := HK1.out; first | omega | exact Nat.le_refl _⟩, ⟨by (with_reducible repeat (first | apply Kd.S_alloc | apply Kd.S_drewN | apply Kd.S_drew)); exact Kd.S_mono HO_5.out (fun _ hk => hk.2)⟩, ⟨by (with_reducible repeat (first | apply Kd.R_alloc | apply Kd.R_drewN | apply Kd.R_drew)); exact HO207.out⟩, ⟨by repeat (first | (with_reducible first | exact HI194.out | apply IsS120.alloc | apply IsS120.drewN | apply IsS120.drew | apply IsS120.set_0 | apply IsS120.set_1) | exact HI194.out)⟩, ⟨by repeat (first | (with_reducible first | exact HB.out | apply below_alloc | apply pw_below_drewN | apply below_drew1 | refine below_set ?_ (IsS120.ge HI194.out)) | exact HB.out)⟩⟩
         ·
          rw [if_neg c21] at H
          have c21b0 : (t204 == (a0.size : Int)) = false := beq_eq_false_iff_ne.mpr c21
          have c21b1 : (t204 != (a0.size : Int)) = true := bne_iff_ne.mpr c21
          (first | rw [c21b0] | (simp only [i64_w, i32_w]; rw [c21b0]) | skip)
          by_cases c22 : 0 ≤ t204
          ·
           rw [if_pos c22] at H
           have c22b0 := decide_eq_true c22
           clear c22
           by_cases c23 : t204 < (a0.size : Int)
           ·
            rw [if_pos c23] at H
            have c23b0 := decide_eq_true c23
            clear c23
            have H' := Aside0.mk H
            clear H
            obtain ⟨HGz25, hgz25⟩ := HI194.out
            have hcz25_0 := cellS120_0 HGz25
            have hcz25_1 := cellS120_1 HGz25
            have hfz25_0 := blk_frozen HGz25 0
            have hfz25_1 := blk_frozen HGz25 1
            clear HGz25 hgz25
            have p24 : 0 ≤ (t204 : Int) := of_decide_eq_true ap0
            have q24 : t204 < (a0.size : Int) := of_decide_eq_true ap0
            have hx24 := bt_at a0 t204
            replace p24 := eq_true p24
            replace q24 := eq_true q24
            go_wp2
            first | go_meet | (simp only [c21b0] at *; go_meet) | (simp only [c21b0] at *; go_meet) | (simp only [c4b0] at *; go_meet)
            case rel => exact ⟨_, (((bt a0 t204) != 43)), ap2, H', ⟨by have := HK1.out; first | omega | exact Nat.le_refl _⟩, ⟨by (with_reducible repeat (first | apply Kd.S_alloc | apply Kd.S_drewN | apply Kd.S_drew)); exact Kd.S_mono HO_5.out (fun _ hk => hk.2)⟩, ⟨by (with_reducible repeat (first | apply Kd.R_alloc | apply Kd.R_drewN | apply Kd.R_drew)); exact HO207.out⟩, ⟨by repeat (first | (with_reducible first | exact HI194.out | apply IsS120.alloc | apply IsS120.drewN | apply IsS120.drew | apply IsS120.set_0 | apply IsS120.set_1) | exact HI194.out)⟩, ⟨by repeat (first | (with_reducible first | exact HB.out | apply below_alloc | apply pw_below_drewN | apply below_drew1 | refine below_set ?_ (IsS120.ge HI194.out)) | exact HB.out)⟩⟩
           ·
            rw [if_neg c23] at H
            exact absurd H (by simp)
          ·
           rw [if_neg c22] at H
           exact absurd H (by simp)
        case rest =>
         clear HC16
         try clear c1
         try clear c2
         try clear c2b0
         try clear c2b1
         try clear p2
         try clear q2
         try clear hx2
         try clear c4
         try clear c4b0
         try clear c4b1
         try clear c6
         try clear c9
         try clear c12
         try clear c14
         try clear c15
         try clear c21
         try clear c21b0
         try clear c21b1
         try clear c22
         try clear c22b0
         try clear c23
         try clear c23b0
         try clear p24
         try clear q24
         try clear hx24
         try clear hcz10_0
         try clear hcz10_1
         try clear hcz20_0
         try clear hcz20_1
         try clear hcz25_0
         try clear hcz25_1
         try clear hcz7_0
         try clear hcz7_1
         try clear hfz10_0
         try clear hfz10_1
         try clear hfz20_0
         try clear hfz20_1
         try clear hfz25_0
         try clear hfz25_1
         try clear hfz7_0
         try clear hfz7_1
         try clear p2
         try clear p24
         try clear q24
         obtain ⟨kq, x62_15, rfl, HA, HJ15, HO_5, HO_6, HI194, HB⟩ := hcut
         cases kq with
         | zero => exact absurd HA.out (by simp [dn_Parse.j1])
         | succ kj15 =>
          have H := HA.out
          clear HA
          simp only [dn_Parse.j1] at H
          by_cases c26 : x62_15 = true
          ·
           subst c26
           rw [if_pos rfl] at H
           by_cases c27 : x5_1.length < 5864062014805
           ·
            rw [if_pos c27] at H
            have LMc27 := Aside0.mk c27
            clear c27
            obtain ⟨y208, hy208⟩ : ∃ y_ : List (List (S96)), y_ = (x5_1 ++ [y205]) := ⟨_, rfl⟩
            replace H : (if (t204 == (a0.size : Int)) = true then ((dn_Right.f kj15 y208).bind fun t211 => (if t211 = true then (some (y208, 0)) else (some (([] : List (List (S96))), 4)))) else (dn_Parse.l0 kj15 a0 y208 ([] : List (S96)) t203 (wrap64 (t204 + 1)))) = some (r1, r2) := by first | (rw [hy208]; with_reducible exact H) | (have H2_ := (Option.bind_some _ _).symm.trans H; rw [hy208]; with_reducible exact H2_) | (have H2_ := (Option.bind_some _ _).symm.trans H; with_reducible exact H2_) | with_reducible exact H | (rw [hy208]; exact H) | exact H
            have Ny208 := Aside0.mk hy208
            clear hy208
            by_cases c28 : (t204 == (a0.size : Int)) = true
            ·
             rw [if_pos c28] at H
             have c28b0 : (t204 == (a0.size : Int)) = true := c28
             (try (have c28b1 : decide (t204 = (a0.size : Int)) = true := by simpa using c28))
             (try (have c28b2 : (t204 == (a0.size : Int)) = true := by simpa using c28))
             clear c28
             replace H := Option.bind_eq_some_iff.mp H
             obtain ⟨t211, A290, H⟩ := H
             replace H : (if t211 = true then (some (y208, 0)) else (some (([] : List (List (S96))), 4))) = some (r1, r2) := H
             have A29 := Aside0.mk A290
             clear A290
             by_cases c30 : t211 = true
             ·
              subst c30
              rw [if_pos rfl] at H
              simp only [Option.some.injEq, Prod.mk.injEq] at H
              obtain ⟨rfl, rfl⟩ := H
              obtain ⟨Ao32, co32, eo32⟩ := Kd.R_slice HO_6.out
              subst eo32
              go_wp2_with (first | ((with_reducible refine gate_builtin (b := .append) (xs := #[.tmp 63, .tmp 65]) rfl ?_); at_builtin; refine Kd.S_append (Kd.slice 96 k96) (w0 := w) w.heap.size rfl (.tmp 63) (.tmp 65) 71 92 (.slice none 0 0) 24 rfl Tryz.underlying71 info92 rfl (by decide) (by omega) u5 x5_1 y205 [.slice Ao32 y205.length co32] (fun _ => True) (fun k_ => some k_ = (.slice Ao32 y205.length co32 : Value).ownBlock) rfl rfl ?aP (fun k_ hk_ => ((Kd.R_mono (ok' := fun k_ => ((fun _ => True)) k_ ∧ some k_ ≠ (u5 : Value).ownBlock) (Kd.R_apart' (HO_6.out) (Kd.S_typed HO_5.out) (by decide)) (fun k_ hk => ⟨trivial, hk.2⟩))).1 k_ hk_.symm) ?aF ?aO ?aB ?aS ?aL ?_; (case aP => exact Kd.M_row (Kd.R_mono (Kd.R_tight rfl (Kd.R_mono (ok' := fun k_ => ((fun _ => True)) k_ ∧ some k_ ≠ (u5 : Value).ownBlock) (Kd.R_apart' (HO_6.out) (Kd.S_typed HO_5.out) (by decide)) (fun k_ hk => ⟨trivial, hk.2⟩))) (fun _ h_ => h_))); (case aB => exact (apS120 HI194.out)); (case aF => exact (fun _ _ => trivial)); (case aO => exact (by (with_reducible repeat (first | apply Kd.S_alloc | apply Kd.S_drewN | apply Kd.S_drew)); exact Kd.S_mono HO_5.out (fun k_ hk => ⟨trivial, fun e_ => hk e_⟩))); (case aS => exact (below_size (apS120 HI194.out))); (case aL => have := LMc27.out; omega); intro v209 w31 ho hb hg hat; rw [← Ny208.out] at ho; have n0_ := Aside0.mk (IsS120.grown (apI120 HI194.out) hg (IsS120.own_neS HI194.out HO_5.out (by decide))); have n1_ := Aside0.mk (hb); have n2_ := Aside0.mk (ho); clear HI194; clear HB; clear HO_5; clear HO_6; have HI194 := n0_; have HB := n1_; have HO210 := n2_; clear n0_ n1_ n2_; clear ho hb hg hat; obtain ⟨Ao33, co33, eo33⟩ := Kd.S_slice HO210.out; subst eo33) | ((with_reducible refine gate_callee (f := 99) rfl ?_); refine goesL_ (some 76) rfl rfl Tryz.func99 (by kernel_rfl) rfl #[.slice Ao33 y208.length co33] rfl ap3 ?_; (with_reducible refine (dn_Right.calls kj15 _ _ y208 true _ ?side1 ?side2 ?side3 A29.out).mono ?_); (case side1 => repeat (first | exact (Kd.S_reads' HO210.out).2.2 | (with_reducible refine Kd.C_alloc ?_ _) | (with_reducible refine Kd.C_drewN ?_ _) | (with_reducible refine Kd.C_drew ?_))); (case side2 => exact (Kd.S_reads' HO210.out).2.1); (case side3 => first | exact HG.out | (refine Gw.below HG.out ?_; repeat (first | (with_reducible first | exact HB.out | apply below_alloc | apply pw_below_drewN | apply below_drew1 | refine below_set ?_ (IsS120.ge HI194.out)) | exact HB.out))); rintro e w34 ⟨rfl, hb⟩; refine ⟨_, rfl, ?_⟩; have n0_ := Aside0.mk (Kd.S_below (apAS HO210.out) hb); have n1_ := Aside0.mk (IsS120.below (apI120 HI194.out) hb); have n2_ := Aside0.mk (below_step (apS120 HI194.out) hb); clear HO210; clear HI194; clear HB; have HO210 := n0_; have HI194 := n1_; have HB := n2_; clear n0_ n1_ n2_; (try clear hb); (try clear hb2); (try clear hk); (try clear hi)))
              go_ret2
              exact ⟨_, by first | rfl | (simp [errW_none, errW_some, bne_nil8, beq_nil8]; done) | (simp [errW_none, errW_some] <;> rfl) | (simp [*, errW_none, errW_some] <;> rfl), by (with_reducible repeat (first | apply Kd.S_alloc | apply Kd.S_drewN | apply Kd.S_drew)); exact HO210.out, by repeat (first | (with_reducible first | exact HB.out | apply below_alloc | apply pw_below_drewN | apply below_drew1 | refine below_set ?_ (IsS120.ge HI194.out)) | exact HB.out)⟩
             ·
              replace c30 := Bool.eq_false_iff.mpr c30
              subst c30
              rw [if_neg (show ¬ (false = true) by decide)] at H
              simp only [Option.some.injEq, Prod.mk.injEq] at H
              obtain ⟨rfl, rfl⟩ := H
              obtain ⟨Ao36, co36, eo36⟩ := Kd.R_slice HO_6.out
              subst eo36
              go_wp2_with (first | ((with_reducible refine gate_builtin (b := .append) (xs := #[.tmp 63, .tmp 65]) rfl ?_); at_builtin; refine Kd.S_append (Kd.slice 96 k96) (w0 := w) w.heap.size rfl (.tmp 63) (.tmp 65) 71 92 (.slice none 0 0) 24 rfl Tryz.underlying71 info92 rfl (by decide) (by omega) u5 x5_1 y205 [.slice Ao36 y205.length co36] (fun _ => True) (fun k_ => some k_ = (.slice Ao36 y205.length co36 : Value).ownBlock) rfl rfl ?aP (fun k_ hk_ => ((Kd.R_mono (ok' := fun k_ => ((fun _ => True)) k_ ∧ some k_ ≠ (u5 : Value).ownBlock) (Kd.R_apart' (HO_6.out) (Kd.S_typed HO_5.out) (by decide)) (fun k_ hk => ⟨trivial, hk.2⟩))).1 k_ hk_.symm) ?aF ?aO ?aB ?aS ?aL ?_; (case aP => exact Kd.M_row (Kd.R_mono (Kd.R_tight rfl (Kd.R_mono (ok' := fun k_ => ((fun _ => True)) k_ ∧ some k_ ≠ (u5 : Value).ownBlock) (Kd.R_apart' (HO_6.out) (Kd.S_typed HO_5.out) (by decide)) (fun k_ hk => ⟨trivial, hk.2⟩))) (fun _ h_ => h_))); (case aB => exact (apS120 HI194.out)); (case aF => exact (fun _ _ => trivial)); (case aO => exact (by (with_reducible repeat (first | apply Kd.S_alloc | apply Kd.S_drewN | apply Kd.S_drew)); exact Kd.S_mono HO_5.out (fun k_ hk => ⟨trivial, fun e_ => hk e_⟩))); (case aS => exact (below_size (apS120 HI194.out))); (case aL => have := LMc27.out; omega); intro v209 w35 ho hb hg hat; rw [← Ny208.out] at ho; have n0_ := Aside0.mk (IsS120.grown (apI120 HI194.out) hg (IsS120.own_neS HI194.out HO_5.out (by decide))); have n1_ := Aside0.mk (hb); have n2_ := Aside0.mk (ho); clear HI194; clear HB; clear HO_5; clear HO_6; have HI194 := n0_; have HB := n1_; have HO210 := n2_; clear n0_ n1_ n2_; clear ho hb hg hat; obtain ⟨Ao37, co37, eo37⟩ := Kd.S_slice HO210.out; subst eo37) | ((with_reducible refine gate_callee (f := 99) rfl ?_); refine goesL_ (some 76) rfl rfl Tryz.func99 (by kernel_rfl) rfl #[.slice Ao37 y208.length co37] rfl ap3 ?_; (with_reducible refine (dn_Right.calls kj15 _ _ y208 false _ ?side1 ?side2 ?side3 A29.out).mono ?_); (case side1 => repeat (first | exact (Kd.S_reads' HO210.out).2.2 | (with_reducible refine Kd.C_alloc ?_ _) | (with_reducible refine Kd.C_drewN ?_ _) | (with_reducible refine Kd.C_drew ?_))); (case side2 => exact (Kd.S_reads' HO210.out).2.1); (case side3 => first | exact HG.out | (refine Gw.below HG.out ?_; repeat (first | (with_reducible first | exact HB.out | apply below_alloc | apply pw_below_drewN | apply below_drew1 | refine below_set ?_ (IsS120.ge HI194.out)) | exact HB.out))); rintro e w38 ⟨rfl, hb⟩; refine ⟨_, rfl, ?_⟩; have n0_ := Aside0.mk (Kd.S_below (apAS HO210.out) hb); have n1_ := Aside0.mk (IsS120.below (apI120 HI194.out) hb); have n2_ := Aside0.mk (below_step (apS120 HI194.out) hb); clear HO210; clear HI194; clear HB; have HO210 := n0_; have HI194 := n1_; have HB := n2_; clear n0_ n1_ n2_; (try clear hb); (try clear hb2); (try clear hk); (try clear hi)))
              go_ret2
              exact ⟨_, by first | rfl | (simp [errW_none, errW_some, bne_nil8, beq_nil8]; done) | (simp [errW_none, errW_some] <;> rfl) | (simp [*, errW_none, errW_some] <;> rfl), by first | exact Kd.S_nil _ _ _ _ _ | exact Kd.N_nil _ _ _ _ _ | exact Kd.V_nil _ _ _ _ _ | exact Kd.Q_nil _ _ _ _ _ | exact Kd.R_nil _ _ _ _ _, by repeat (first | (with_reducible first | exact HB.out | apply below_alloc | apply pw_below_drewN | apply below_drew1 | refine below_set ?_ (IsS120.ge HI194.out)) | exact HB.out)⟩
            ·
             rw [if_neg c28] at H
             have c28b0 : (t204 == (a0.size : Int)) = false := by simpa using c28
             (try (have c28b1 : decide (t204 = (a0.size : Int)) = false := by simpa using c28))
             (try (have c28b2 : (t204 == (a0.size : Int)) = false := by simpa using c28))
             (try (have c28b3 : ¬ (t204 = (a0.size : Int)) := by simpa using c28))
             clear c28
             have H' := Aside0.mk H
             clear H
             obtain ⟨Ao40, co40, eo40⟩ := Kd.R_slice HO_6.out
             subst eo40
             go_wp2_with (first | ((with_reducible refine gate_builtin (b := .append) (xs := #[.tmp 63, .tmp 65]) rfl ?_); at_builtin; refine Kd.S_append (Kd.slice 96 k96) (w0 := w) w.heap.size rfl (.tmp 63) (.tmp 65) 71 92 (.slice none 0 0) 24 rfl Tryz.underlying71 info92 rfl (by decide) (by omega) u5 x5_1 y205 [.slice Ao40 y205.length co40] (fun _ => True) (fun k_ => some k_ = (.slice Ao40 y205.length co40 : Value).ownBlock) rfl rfl ?aP (fun k_ hk_ => ((Kd.R_mono (ok' := fun k_ => ((fun _ => True)) k_ ∧ some k_ ≠ (u5 : Value).ownBlock) (Kd.R_apart' (HO_6.out) (Kd.S_typed HO_5.out) (by decide)) (fun k_ hk => ⟨trivial, hk.2⟩))).1 k_ hk_.symm) ?aF ?aO ?aB ?aS ?aL ?_; (case aP => exact Kd.M_row (Kd.R_mono (Kd.R_tight rfl (Kd.R_mono (ok' := fun k_ => ((fun _ => True)) k_ ∧ some k_ ≠ (u5 : Value).ownBlock) (Kd.R_apart' (HO_6.out) (Kd.S_typed HO_5.out) (by decide)) (fun k_ hk => ⟨trivial, hk.2⟩))) (fun _ h_ => h_))); (case aB => exact (apS120 HI194.out)); (case aF => exact (fun _ _ => trivial)); (case aO => exact (by (with_reducible repeat (first | apply Kd.S_alloc | apply Kd.S_drewN | apply Kd.S_drew)); exact Kd.S_mono HO_5.out (fun k_ hk => ⟨trivial, fun e_ => hk e_⟩))); (case aS => exact (below_size (apS120 HI194.out))); (case aL => have := LMc27.out; omega); intro v209 w39 ho hb hg hat; rw [← Ny208.out] at ho; have n0_ := Aside0.mk (IsS120.grown (apI120 HI194.out) hg (IsS120.own_neS HI194.out HO_5.out (by decide))); have n1_ := Aside0.mk (hb); have n2_ := Aside0.mk (ho); clear HI194; clear HB; clear HO_5; clear HO_6; have HI194 := n0_; have HB := n1_; have HO210 := n2_; clear n0_ n1_ n2_; clear ho hb hg hat; obtain ⟨HGz41, hgz41⟩ := HI194.out; have hcz41_0 := cellS120_0 HGz41; have hcz41_1 := cellS120_1 HGz41; have hfz41_0 := blk_frozen HGz41 0; have hfz41_1 := blk_frozen HGz41 1; clear HGz41 hgz41))
             go_roundg kj15
             case measure => have := HK1.out; have := HJ15.out; omega
             case rel => exact ⟨(y208), (([] : List (S96))), (t203), (wrap64 (t204 + 1)), H', ⟨by have := HK1.out; have := HJ15.out; omega⟩, ⟨by (with_reducible repeat (first | apply Kd.S_alloc | apply Kd.S_drewN | apply Kd.S_drew)); exact Kd.S_mono (Kd.S_far (p := ⟨gb194, 1, none⟩) (IsS120.apartS HI194.out HO210.out (by decide)) (fun _ hk => hk.2) (.int .i64 (wrap64 (t204 + 1)))) (fun _ hk => (by simp [Value.ownBlock]))⟩, ⟨by first | exact Kd.R_nil _ _ _ _ _ | exact Kd.N_nil _ _ _ _ _ | exact Kd.V_nil _ _ _ _ _ | exact Kd.Q_nil _ _ _ _ _ | exact Kd.S_nil _ _ _ _ _⟩, ⟨by repeat (first | (with_reducible first | exact HI194.out | apply IsS120.alloc | apply IsS120.drewN | apply IsS120.drew | apply IsS120.set_0 | apply IsS120.set_1) | exact HI194.out)⟩, ⟨by repeat (first | (with_reducible first | exact HB.out | apply below_alloc | apply pw_below_drewN | apply below_drew1 | refine below_set ?_ (IsS120.ge HI194.out)) | exact HB.out)⟩⟩
           ·
            rw [if_neg c27] at H
            exact absurd H (by simp)
          ·
           replace c26 := Bool.eq_false_iff.mpr c26
           subst c26
           rw [if_neg (show ¬ (false = true) by decide)] at H
           by_cases c42 : (t204 == (a0.size : Int)) = true
           ·
            rw [if_pos c42] at H
            have c42b0 : (t204 == (a0.size : Int)) = true := c42
            (try (have c42b1 : decide (t204 = (a0.size : Int)) = true := by simpa using c42))
            (try (have c42b2 : (t204 == (a0.size : Int)) = true := by simpa using c42))
            clear c42
            replace H := Option.bind_eq_some_iff.mp H
            obtain ⟨t212, A430, H⟩ := H
            replace H : (if t212 = true then (some (x5_1, 0)) else (some (([] : List (List (S96))), 4))) = some (r1, r2) := H
            have A43 := Aside0.mk A430
            clear A430
            by_cases c44 : t212 = true
            ·
             subst c44
             rw [if_pos rfl] at H
             simp only [Option.some.injEq, Prod.mk.injEq] at H
             obtain ⟨rfl, rfl⟩ := H
             obtain ⟨Ao45, co45, eo45⟩ := Kd.S_slice HO_5.out
             subst eo45
             go_wp2_with (first | ((with_reducible refine gate_callee (f := 99) rfl ?_); refine goesL_ (some 76) rfl rfl Tryz.func99 (by kernel_rfl) rfl #[.slice Ao45 x5_1.length co45] rfl ap3 ?_; (with_reducible refine (dn_Right.calls kj15 _ _ x5_1 true _ ?side1 ?side2 ?side3 A43.out).mono ?_); (case side1 => repeat (first | exact (Kd.S_reads' HO_5.out).2.2 | (with_reducible refine Kd.C_alloc ?_ _) | (with_reducible refine Kd.C_drewN ?_ _) | (with_reducible refine Kd.C_drew ?_))); (case side2 => exact (Kd.S_reads' HO_5.out).2.1); (case side3 => first | exact HG.out | (refine Gw.below HG.out ?_; repeat (first | (with_reducible first | exact HB.out | apply below_alloc | apply pw_below_drewN | apply below_drew1 | refine below_set ?_ (IsS120.ge HI194.out)) | exact HB.out))); rintro e w46 ⟨rfl, hb⟩; refine ⟨_, rfl, ?_⟩; have n0_ := Aside0.mk (Kd.S_below (apAS HO_5.out) hb); have n1_ := Aside0.mk (Kd.R_below (apAR HO_6.out) hb); have n2_ := Aside0.mk (IsS120.below (apI120 HI194.out) hb); have n3_ := Aside0.mk (below_step (apS120 HI194.out) hb); clear HO_5; clear HO_6; clear HI194; clear HB; have HO_5 := n0_; have HO_6 := n1_; have HI194 := n2_; have HB := n3_; clear n0_ n1_ n2_ n3_; (try clear hb); (try clear hb2); (try clear hk); (try clear hi)))
             go_ret2
             exact ⟨_, by first | rfl | (simp [errW_none, errW_some, bne_nil8, beq_nil8]; done) | (simp [errW_none, errW_some] <;> rfl) | (simp [*, errW_none, errW_some] <;> rfl), by (with_reducible repeat (first | apply Kd.S_alloc | apply Kd.S_drewN | apply Kd.S_drew)); exact Kd.S_mono HO_5.out (fun _ hk => trivial), by repeat (first | (with_reducible first | exact HB.out | apply below_alloc | apply pw_below_drewN | apply below_drew1 | refine below_set ?_ (IsS120.ge HI194.out)) | exact HB.out)⟩
            ·
             replace c44 := Bool.eq_false_iff.mpr c44
             subst c44
             rw [if_neg (show ¬ (false = true) by decide)] at H
             simp only [Option.some.injEq, Prod.mk.injEq] at H
             obtain ⟨rfl, rfl⟩ := H
             obtain ⟨Ao47, co47, eo47⟩ := Kd.S_slice HO_5.out
             subst eo47
             go_wp2_with (first | ((with_reducible refine gate_callee (f := 99) rfl ?_); refine goesL_ (some 76) rfl rfl Tryz.func99 (by kernel_rfl) rfl #[.slice Ao47 x5_1.length co47] rfl ap3 ?_; (with_reducible refine (dn_Right.calls kj15 _ _ x5_1 false _ ?side1 ?side2 ?side3 A43.out).mono ?_); (case side1 => repeat (first | exact (Kd.S_reads' HO_5.out).2.2 | (with_reducible refine Kd.C_alloc ?_ _) | (with_reducible refine Kd.C_drewN ?_ _) | (with_reducible refine Kd.C_drew ?_))); (case side2 => exact (Kd.S_reads' HO_5.out).2.1); (case side3 => first | exact HG.out | (refine Gw.below HG.out ?_; repeat (first | (with_reducible first | exact HB.out | apply below_alloc | apply pw_below_drewN | apply below_drew1 | refine below_set ?_ (IsS120.ge HI194.out)) | exact HB.out))); rintro e w48 ⟨rfl, hb⟩; refine ⟨_, rfl, ?_⟩; have n0_ := Aside0.mk (Kd.S_below (apAS HO_5.out) hb); have n1_ := Aside0.mk (Kd.R_below (apAR HO_6.out) hb); have n2_ := Aside0.mk (IsS120.below (apI120 HI194.out) hb); have n3_ := Aside0.mk (below_step (apS120 HI194.out) hb); clear HO_5; clear HO_6; clear HI194; clear HB; have HO_5 := n0_; have HO_6 := n1_; have HI194 := n2_; have HB := n3_; clear n0_ n1_ n2_ n3_; (try clear hb); (try clear hb2); (try clear hk); (try clear hi)))
             go_ret2
             exact ⟨_, by first | rfl | (simp [errW_none, errW_some, bne_nil8, beq_nil8]; done) | (simp [errW_none, errW_some] <;> rfl) | (simp [*, errW_none, errW_some] <;> rfl), by first | exact Kd.S_nil _ _ _ _ _ | exact Kd.N_nil _ _ _ _ _ | exact Kd.V_nil _ _ _ _ _ | exact Kd.Q_nil _ _ _ _ _ | exact Kd.R_nil _ _ _ _ _, by repeat (first | (with_reducible first | exact HB.out | apply below_alloc | apply pw_below_drewN | apply below_drew1 | refine below_set ?_ (IsS120.ge HI194.out)) | exact HB.out)⟩
           ·
            rw [if_neg c42] at H
            have c42b0 : (t204 == (a0.size : Int)) = false := by simpa using c42
            (try (have c42b1 : decide (t204 = (a0.size : Int)) = false := by simpa using c42))
            (try (have c42b2 : (t204 == (a0.size : Int)) = false := by simpa using c42))
            (try (have c42b3 : ¬ (t204 = (a0.size : Int)) := by simpa using c42))
            clear c42
            have H' := Aside0.mk H
            clear H
            obtain ⟨HGz49, hgz49⟩ := HI194.out
            have hcz49_0 := cellS120_0 HGz49
            have hcz49_1 := cellS120_1 HGz49
            have hfz49_0 := blk_frozen HGz49 0
            have hfz49_1 := blk_frozen HGz49 1
            clear HGz49 hgz49
            go_wp2
            go_roundg kj15
            case measure => have := HK1.out; have := HJ15.out; omega
            case rel => exact ⟨(x5_1), (y205), (t203), (wrap64 (t204 + 1)), H', ⟨by have := HK1.out; have := HJ15.out; omega⟩, ⟨by (with_reducible repeat (first | apply Kd.S_alloc | apply Kd.S_drewN | apply Kd.S_drew)); exact Kd.S_mono (Kd.S_far (p := ⟨gb194, 1, none⟩) (IsS120.apartS HI194.out HO_5.out (by decide)) (fun _ hk => hk.2) (.int .i64 (wrap64 (t204 + 1)))) (fun _ hk => hk.1)⟩, ⟨by (with_reducible repeat (first | apply Kd.R_alloc | apply Kd.R_drewN | apply Kd.R_drew)); exact Kd.R_mono (Kd.R_far (p := ⟨gb194, 1, none⟩) (IsS120.apart HI194.out HO_6.out (by decide)) (fun _ hk => hk.2) (.int .i64 (wrap64 (t204 + 1)))) (fun _ hk => trivial)⟩, ⟨by repeat (first | (with_reducible first | exact HI194.out | apply IsS120.alloc | apply IsS120.drewN | apply IsS120.drew | apply IsS120.set_0 | apply IsS120.set_1) | exact HI194.out)⟩, ⟨by repeat (first | (with_reducible first | exact HB.out | apply below_alloc | apply pw_below_drewN | apply below_drew1 | refine below_set ?_ (IsS120.ge HI194.out)) | exact HB.out)⟩⟩
       ·
        rw [if_neg c15] at H
        exact absurd H (by simp)
      ·
       replace c14 := Bool.eq_false_iff.mpr c14
       subst c14
       rw [if_neg (show ¬ (false = true) by decide)] at H
       simp only [Option.some.injEq, Prod.mk.injEq] at H
       obtain ⟨rfl, rfl⟩ := H
       go_wp2_with (first | ((with_reducible refine gate_callee (f := 97) rfl ?_); refine goesL_ (some 28) rfl rfl Tryz.func97 (by kernel_rfl) rfl #[.pointer (some ⟨gb194, 0, none⟩)] rfl ap3 ?_; (with_reducible refine (Dxkind.calls k1 gb194 x195000_1 x195001_1 t197 true t199 t200 w _ ?side1 ?side2 ?side3 A11.out).mono ?_); (case side1 => exact apI120 HI194.out); (case side2 => exact apS120 HI194.out); (case side3 => first | exact HG.out | (refine Gw.below HG.out ?_; repeat (first | (with_reducible first | exact HB.out | apply below_alloc | apply pw_below_drewN | apply below_drew1 | refine below_set ?_ (IsS120.ge HI194.out)) | exact HB.out))); rintro e w50 ⟨rfl, hi, hb, hk⟩; refine ⟨_, rfl, ?_⟩; have n0_ := Aside0.mk (Kd.S_mono (Kd.S_keep (IsS120.apartS (show IsS120 w _ gb194 x195000_1 x195001_1 from by repeat (first | (with_reducible first | exact HI194.out | apply IsS120.alloc | apply IsS120.drewN | apply IsS120.drew | apply IsS120.set_0 | apply IsS120.set_1) | exact HI194.out)) (apAS HO_5.out) (by decide)) hk (fun _ h => h.2)) (fun _ h => h.1)); have n1_ := Aside0.mk (Kd.R_mono (Kd.R_keep (IsS120.apart (show IsS120 w _ gb194 x195000_1 x195001_1 from by repeat (first | (with_reducible first | exact HI194.out | apply IsS120.alloc | apply IsS120.drewN | apply IsS120.drew | apply IsS120.set_0 | apply IsS120.set_1) | exact HI194.out)) (apAR HO_6.out) (by decide)) hk (fun _ h => h.2)) (fun _ h => h.1)); have n2_ := Aside0.mk (hb); have n3_ := Aside0.mk (hi); clear HO_5; clear HO_6; clear HB; clear HI194; have HO_5 := n0_; have HO_6 := n1_; have HB := n2_; have HI194 := n3_; clear n0_ n1_ n2_ n3_; (try clear hb); (try clear hb2); (try clear hk); (try clear hi)) | ((with_reducible refine gate_callee (f := 98) rfl ?_); refine goesL_ (some 35) rfl rfl Tryz.func98 (by kernel_rfl) rfl #[.pointer (some ⟨gb194, 0, none⟩)] rfl ap3 ?_; (with_reducible refine (Dxvalue.calls k1 gb194 t199 t200 t201 false t203 t204 w _ ?side1 ?side2 A13.out).mono ?_); (case side1 => exact apI120 HI194.out); (case side2 => exact apS120 HI194.out); rintro e w51 ⟨rfl, hi, hb, hk⟩; refine ⟨_, rfl, ?_⟩; have n0_ := Aside0.mk (Kd.S_mono (Kd.S_keep (IsS120.apartS (show IsS120 w _ gb194 t199 t200 from by repeat (first | (with_reducible first | exact HI194.out | apply IsS120.alloc | apply IsS120.drewN | apply IsS120.drew | apply IsS120.set_0 | apply IsS120.set_1) | exact HI194.out)) (apAS HO_5.out) (by decide)) hk (fun _ h => h.2)) (fun _ h => h.1)); have n1_ := Aside0.mk (Kd.R_mono (Kd.R_keep (IsS120.apart (show IsS120 w _ gb194 t199 t200 from by repeat (first | (with_reducible first | exact HI194.out | apply IsS120.alloc | apply IsS120.drewN | apply IsS120.drew | apply IsS120.set_0 | apply IsS120.set_1) | exact HI194.out)) (apAR HO_6.out) (by decide)) hk (fun _ h => h.2)) (fun _ h => h.1)); have n2_ := Aside0.mk (hb); have n3_ := Aside0.mk (hi); clear HO_5; clear HO_6; clear HB; clear HI194; have HO_5 := n0_; have HO_6 := n1_; have HB := n2_; have HI194 := n3_; clear n0_ n1_ n2_ n3_; (try clear hb); (try clear hb2); (try clear hk); (try clear hi)))
       go_ret2
       exact ⟨_, by first | rfl | (simp [errW_none, errW_some, bne_nil8, beq_nil8]; done) | (simp [errW_none, errW_some] <;> rfl) | (simp [*, errW_none, errW_some] <;> rfl), by first | exact Kd.S_nil _ _ _ _ _ | exact Kd.N_nil _ _ _ _ _ | exact Kd.V_nil _ _ _ _ _ | exact Kd.Q_nil _ _ _ _ _ | exact Kd.R_nil _ _ _ _ _, by repeat (first | (with_reducible first | exact HB.out | apply below_alloc | apply pw_below_drewN | apply below_drew1 | refine below_set ?_ (IsS120.ge HI194.out)) | exact HB.out)⟩
     ·
      replace c12 := Bool.eq_false_iff.mpr c12
      subst c12
      rw [if_neg (show ¬ (false = true) by decide)] at H
      simp only [Option.some.injEq, Prod.mk.injEq] at H
      obtain ⟨rfl, rfl⟩ := H
      go_wp2_with (first | ((with_reducible refine gate_callee (f := 97) rfl ?_); refine goesL_ (some 28) rfl rfl Tryz.func97 (by kernel_rfl) rfl #[.pointer (some ⟨gb194, 0, none⟩)] rfl ap3 ?_; (with_reducible refine (Dxkind.calls k1 gb194 x195000_1 x195001_1 t197 false t199 t200 w _ ?side1 ?side2 ?side3 A11.out).mono ?_); (case side1 => exact apI120 HI194.out); (case side2 => exact apS120 HI194.out); (case side3 => first | exact HG.out | (refine Gw.below HG.out ?_; repeat (first | (with_reducible first | exact HB.out | apply below_alloc | apply pw_below_drewN | apply below_drew1 | refine below_set ?_ (IsS120.ge HI194.out)) | exact HB.out))); rintro e w52 ⟨rfl, hi, hb, hk⟩; refine ⟨_, rfl, ?_⟩; have n0_ := Aside0.mk (Kd.S_mono (Kd.S_keep (IsS120.apartS (show IsS120 w _ gb194 x195000_1 x195001_1 from by repeat (first | (with_reducible first | exact HI194.out | apply IsS120.alloc | apply IsS120.drewN | apply IsS120.drew | apply IsS120.set_0 | apply IsS120.set_1) | exact HI194.out)) (apAS HO_5.out) (by decide)) hk (fun _ h => h.2)) (fun _ h => h.1)); have n1_ := Aside0.mk (Kd.R_mono (Kd.R_keep (IsS120.apart (show IsS120 w _ gb194 x195000_1 x195001_1 from by repeat (first | (with_reducible first | exact HI194.out | apply IsS120.alloc | apply IsS120.drewN | apply IsS120.drew | apply IsS120.set_0 | apply IsS120.set_1) | exact HI194.out)) (apAR HO_6.out) (by decide)) hk (fun _ h => h.2)) (fun _ h => h.1)); have n2_ := Aside0.mk (hb); have n3_ := Aside0.mk (hi); clear HO_5; clear HO_6; clear HB; clear HI194; have HO_5 := n0_; have HO_6 := n1_; have HB := n2_; have HI194 := n3_; clear n0_ n1_ n2_ n3_; (try clear hb); (try clear hb2); (try clear hk); (try clear hi)))
      go_ret2
      exact ⟨_, by first | rfl | (simp [errW_none, errW_some, bne_nil8, beq_nil8]; done) | (simp [errW_none, errW_some] <;> rfl) | (simp [*, errW_none, errW_some] <;> rfl), by first | exact Kd.S_nil _ _ _ _ _ | exact Kd.N_nil _ _ _ _ _ | exact Kd.V_nil _ _ _ _ _ | exact Kd.Q_nil _ _ _ _ _ | exact Kd.R_nil _ _ _ _ _, by repeat (first | (with_reducible first | exact HB.out | apply below_alloc | apply pw_below_drewN | apply below_drew1 | refine below_set ?_ (IsS120.ge HI194.out)) | exact HB.out)⟩
end Go.Proofs.YtpklcnpmppaaoaaGreatDoor.Print
namespace Go.Proofs.YtpklcnpmppaaoaaGreatDoor.Print
open Go.RowKit Go.Proofs.YtpklcnpmppaaoaaGreatDoorW.PrintWords Go.Proofs.YtpklcnpmppaaoaaGreatDoorW.PrintLast Go.Proofs.YtpklcnpmppaaoaaGreatDoorW.PrintMore Go.Proofs.YtpklcnpmppaaoaaGreatDoor.Pure
set_option linter.unusedVariables false
set_option linter.unusedSimpArgs false
abbrev bl (s : ByteArray) : List UInt8 := s.data.toList
theorem bl_length (s : ByteArray) : (bl s).length = s.size := by simp [bl]
theorem bt_get {s : ByteArray} {p : Nat} {c : UInt8} (h : (bl s)[p]? = some c) : p < s.size ∧ bt s (p : Int) = (c.toNat : Int) := by
  obtain ⟨hp, hc⟩ := List.getElem?_eq_some_iff.1 h
  rw [bl_length] at hp
  refine ⟨hp, ?_⟩
  unfold bt
  rw [dif_pos (by simpa using hp)]
  simp only [Int.toNat_natCast]
  rw [← hc]; simp [bl]; rfl
theorem drop_cons {s : ByteArray} {p : Nat} {c : UInt8} {r : List UInt8} (h : (bl s).drop p = c :: r) : p < s.size ∧ bt s (p : Int) = (c.toNat : Int) ∧ (bl s).drop (p + 1) = r := by
  have h0 : (bl s)[p]? = some c := by
    have := congrArg List.head? h
    rw [List.head?_drop] at this; simpa using this
  obtain ⟨h1, h2⟩ := bt_get h0
  refine ⟨h1, h2, ?_⟩
  have := congrArg List.tail h
  rw [List.tail_drop] at this; simpa using this
theorem drop_nil {s : ByteArray} {p : Nat} (h : (bl s).drop p = []) : s.size ≤ p := by
  rw [← bl_length]; exact List.drop_eq_nil_iff.1 h
theorem drop_end {s : ByteArray} {p : Nat} (h : s.size ≤ p) : (bl s).drop p = [] := List.drop_eq_nil_iff.2 (by rw [bl_length]; exact h)
theorem wsucc {p : Nat} (h : p ≤ 2000000) : wrap64 ((p : Int) + 1) = ((p + 1 : Nat) : Int) := by unfold wrap64; omega
theorem ieq (c d : UInt8) : ((c.toNat : Int) = (d.toNat : Int)) ↔ c = d := by rw [Int.ofNat_inj]; exact UInt8.toNat_inj
theorem blanks_ev (s : ByteArray) (hs : s.size ≤ 1000000) : ∀ (n p : Nat), s.size - p = n → p ≤ s.size →
    ∃ q : Nat, p ≤ q ∧ q ≤ s.size ∧ (bl s).drop q = ((bl s).drop p).dropWhile (· == 32) ∧ Ev (fun k => Dxblanks.l0 k s (p : Int)) (s, (q : Int)) := by
  intro n
  induction n with
  | zero =>
    intro p hn hp
    refine ⟨p, Nat.le_refl _, hp, ?_, ?_⟩
    · rw [drop_end (by omega)]; rfl
    · exact Ev.step (fun k => by rw [Dxblanks.l0]) (Ev.neg (by omega) Ev.rfl')
  | succ n ih =>
    intro p hn hp
    cases hr : (bl s).drop p with
    | nil => have := drop_nil hr; omega
    | cons c r =>
      obtain ⟨h1, h2, h3⟩ := drop_cons hr
      have hc : ((c.toNat : Int) = 32) ↔ c = 32 := ieq c 32
      by_cases h32 : c = 32
      · obtain ⟨q, q1, q2, q3, q4⟩ := ih (p + 1) (by omega) (by omega)
        refine ⟨q, by omega, q2, ?_, ?_⟩
        · rw [q3, h3, List.dropWhile_cons_of_pos (by simp [h32])]
        · refine Ev.step (fun k => by rw [Dxblanks.l0]) (Ev.pos (by omega) (Ev.pos (by omega) (Ev.pos (by rw [h2]; exact hc.2 h32) ?_)))
          rw [wsucc (by omega)]; exact q4
      · refine ⟨p, Nat.le_refl _, hp, ?_, ?_⟩
        · rw [hr, List.dropWhile_cons_of_neg (by simp [h32])]
        · exact Ev.step (fun k => by rw [Dxblanks.l0]) (Ev.pos (by omega) (Ev.pos (by omega) (Ev.neg (by rw [h2]; exact fun h => h32 (hc.1 h)) Ev.rfl')))
theorem blanks_f (s : ByteArray) (hs : s.size ≤ 1000000) (p : Nat) (hp : p ≤ s.size) :
    ∃ q : Nat, p ≤ q ∧ q ≤ s.size ∧ (bl s).drop q = ((bl s).drop p).dropWhile (· == 32) ∧ Ev (fun k => Dxblanks.f k s (p : Int)) (s, (q : Int)) := blanks_ev s hs _ p rfl hp
theorem kindl_ev (s : ByteArray) (hs : s.size ≤ 1000000) : ∀ (n p : Nat), s.size - p = n → p ≤ s.size →
    ∃ q : Nat, p ≤ q ∧ q ≤ s.size ∧ (bl s).drop q = ((bl s).drop p).dropWhile tyB ∧ ((bl s).drop p).take (q - p) = ((bl s).drop p).takeWhile tyB ∧ Ev (fun k => Dxkind.l0 k s (p : Int)) (q : Int) := by
  intro n
  induction n with
  | zero =>
    intro p hn hp
    refine ⟨p, Nat.le_refl _, hp, ?_, ?_, ?_⟩
    · rw [drop_end (by omega)]; rfl
    · rw [drop_end (by omega)]; simp
    · exact Ev.step (fun k => by rw [Dxkind.l0]) (Ev.neg (by omega) Ev.rfl')
  | succ n ih =>
    intro p hn hp
    cases hr : (bl s).drop p with
    | nil => have := drop_nil hr; omega
    | cons c r =>
      obtain ⟨h1, h2, h3⟩ := drop_cons hr
      have hc : ((c.toNat : Int) = 32) ↔ c = 32 := ieq c 32
      have hd : ((c.toNat : Int) = 61) ↔ c = 61 := ieq c 61
      by_cases h61 : c = 61
      · refine ⟨p, Nat.le_refl _, hp, ?_, ?_, ?_⟩
        · rw [hr, List.dropWhile_cons_of_neg (by simp [tyB, h61])]
        · rw [List.takeWhile_cons_of_neg (by simp [tyB, h61])]; simp
        · exact Ev.step (fun k => by rw [Dxkind.l0]) (Ev.pos (by omega) (Ev.pos (by omega) (Ev.pos (by rw [h2]; exact hd.2 h61) Ev.rfl')))
      · by_cases h32 : c = 32
        · refine ⟨p, Nat.le_refl _, hp, ?_, ?_, ?_⟩
          · rw [hr, List.dropWhile_cons_of_neg (by simp [tyB, h32])]
          · rw [List.takeWhile_cons_of_neg (by simp [tyB, h32])]; simp
          · exact Ev.step (fun k => by rw [Dxkind.l0]) (Ev.pos (by omega) (Ev.pos (by omega) (Ev.neg (by rw [h2]; exact fun h => h61 (hd.1 h)) (Ev.pos (by rw [h2]; exact hc.2 h32) Ev.rfl'))))
        · obtain ⟨q, q1, q2, q3, q4, q5⟩ := ih (p + 1) (by omega) (by omega)
          refine ⟨q, by omega, q2, ?_, ?_, ?_⟩
          · rw [q3, h3, List.dropWhile_cons_of_pos (by simp [tyB, h32, h61])]
          · rw [h3] at q4
            rw [List.takeWhile_cons_of_pos (by simp [tyB, h32, h61]), ← q4, show q - p = (q - (p + 1)) + 1 from by omega]; rfl
          · refine Ev.step (fun k => by rw [Dxkind.l0]) (Ev.pos (by omega) (Ev.pos (by omega) (Ev.neg (by rw [h2]; exact fun h => h61 (hd.1 h)) (Ev.neg (by rw [h2]; exact fun h => h32 (hc.1 h)) ?_))))
            rw [wsucc (by omega)]; exact q5
theorem enc_high (r : Int) (h : ¬ (0 ≤ r ∧ r ≤ 127)) : ∃ b t, Lib.encodeRune r = b :: t ∧ 128 ≤ b.toNat := by
  unfold Lib.encodeRune
  by_cases h2 : 128 ≤ r ∧ r ≤ 2047
  · rw [Lib.encodeRuneZ_two h2.1 h2.2]
    refine ⟨_, _, rfl, ?_⟩
    rw [UInt8.toNat_ofNat']; omega
  by_cases h3 : (2048 ≤ r ∧ r < 55296) ∨ (57343 < r ∧ r ≤ 65535)
  · rw [Lib.encodeRuneZ_three h3]
    refine ⟨_, _, rfl, ?_⟩
    rw [UInt8.toNat_ofNat']; omega
  by_cases h4 : 65536 ≤ r ∧ r ≤ 1114111
  · rw [Lib.encodeRuneZ_four h4.1 h4.2]
    refine ⟨_, _, rfl, ?_⟩
    rw [UInt8.toNat_ofNat']; omega
  · rw [Lib.encodeRuneZ_bad (by omega)]
    exact ⟨_, _, rfl, by decide⟩
theorem dec_ascii {c : UInt8} {r : List UInt8} (h : c.toNat < 128) : Lib.decodeL (c :: r) = (c.toNat, 1) := by
  rw [Lib.decodeL_N]
  unfold Lib.decodeN
  rw [if_pos (by simpa using h)]; rfl
theorem dec_high {c : UInt8} {r : List UInt8} (h : 128 ≤ c.toNat) : 128 ≤ (Lib.decodeL (c :: r)).1 := by
  rw [Lib.decodeL_N]
  have h0 : ((c :: r).getD 0 0).toNat = c.toNat := rfl
  rcases Lib.decodeN_shape (c :: r).length ((c :: r).getD 0 0).toNat ((c :: r).getD 1 0).toNat ((c :: r).getD 2 0).toNat ((c :: r).getD 3 0).toNat with ⟨a, e⟩ | ⟨_, _, _, a, e⟩ | ⟨_, _, _, _, a, _, e⟩ | ⟨_, _, _, _, _, a, _, e⟩ | e
  · omega
  all_goals (rw [e]; dsimp only; omega)
theorem low_ascii {c : UInt8} (h : c.toNat < 128) : Lib.encodeRune (lowR (c.toNat : Int)) = [lowB c] := by
  unfold lowR lowB
  by_cases q : 65 ≤ c.toNat ∧ c.toNat ≤ 90
  · rw [if_pos (by omega), if_pos q]
    unfold Lib.encodeRune
    rw [Lib.encodeRuneZ_one (by omega) (by omega)]
    simp only [List.map_cons, List.map_nil, List.cons.injEq, and_true]
    apply UInt8.toNat_inj.1
    rw [UInt8.toNat_ofNat', UInt8.toNat_add]; simp; omega
  · rw [if_neg (by omega), if_neg q]
    unfold Lib.encodeRune
    rw [Lib.encodeRuneZ_one (by omega) (by omega)]
    simp
theorem mapD_low : ∀ (n : Nat) (l : List UInt8), l.length ≤ n → ((∀ c ∈ l, c.toNat < 128) ∧ Lib.mapD lowR l = l.map lowB) ∨ ((∃ c ∈ l, 128 ≤ c.toNat) ∧ ∃ c ∈ Lib.mapD lowR l, 128 ≤ c.toNat)
  | 0, l, h => by
    have : l = [] := List.eq_nil_of_length_eq_zero (by omega)
    subst this
    exact .inl ⟨by simp, rfl⟩
  | n + 1, [], _ => .inl ⟨by simp, rfl⟩
  | n + 1, c :: r, h => by
    simp only [List.length_cons] at h
    by_cases hc : c.toNat < 128
    · have e : Lib.mapD lowR (c :: r) = lowB c :: Lib.mapD lowR r := by
        rw [Lib.mapD_step _ _ (by simp), dec_ascii hc]
        dsimp only
        rw [low_ascii hc, if_pos (by unfold lowR; split <;> omega)]; rfl
      rw [e]
      rcases mapD_low n r (by omega) with ⟨h1, h2⟩ | ⟨⟨x, hx, hx2⟩, y, hy, hy2⟩
      · refine .inl ⟨?_, by rw [h2]; rfl⟩
        intro d hd
        rcases List.mem_cons.1 hd with rfl | hd
        · exact hc
        · exact h1 d hd
      · exact .inr ⟨⟨x, List.mem_cons_of_mem _ hx, hx2⟩, y, List.mem_cons_of_mem _ hy, hy2⟩
    · have hd := dec_high (r := r) (Nat.le_of_not_lt hc)
      refine .inr ⟨⟨c, by simp, by omega⟩, ?_⟩
      rw [Lib.mapD_step _ _ (by simp)]
      have e : lowR ((Lib.decodeL (c :: r)).1 : Int) = ((Lib.decodeL (c :: r)).1 : Int) := by unfold lowR; rw [if_neg (by omega)]
      rw [e, if_pos (by omega)]
      obtain ⟨b, t, hb, hb2⟩ := enc_high ((Lib.decodeL (c :: r)).1 : Int) (by omega)
      rw [hb]
      exact ⟨b, by simp, hb2⟩
theorem typeOk_high {l : List UInt8} (h : ∃ c ∈ l, 128 ≤ c.toNat) : typeOk l = false := by
  cases ht : typeOk l with
  | false => rfl
  | true =>
    obtain ⟨c, hc, h2⟩ := h
    have := (typeOk_all ht).2 c hc
    simp only [typeB, Bool.or_eq_true, Bool.and_eq_true, decide_eq_true_eq, beq_iff_eq] at this
    rcases this with (this | this) | rfl
    · omega
    · omega
    · revert h2; decide
theorem mapD_type (l : List UInt8) : typeOk (Lib.mapD lowR l) = typeOk (l.map lowB) ∧ (typeOk (l.map lowB) = true → Lib.mapD lowR l = l.map lowB) := by
  rcases mapD_low _ l (Nat.le_refl _) with ⟨_, h⟩ | ⟨⟨x, hx, hx2⟩, h⟩
  · rw [h]; exact ⟨rfl, fun _ => rfl⟩
  · have e : typeOk (l.map lowB) = false := typeOk_high ⟨lowB x, List.mem_map_of_mem hx, by unfold lowB; rw [if_neg (by omega)]; exact hx2⟩
    rw [typeOk_high h, e]; exact ⟨rfl, fun h => by cases h⟩
theorem rightType_l (s : ByteArray) (hs : s.size ≤ 1000000) : ∀ (n p : Nat), s.size - p = n → p ≤ s.size → 1 ≤ p →
    Ev (fun k => dn_rightType.l0 k s (s.size : Int) (p : Int)) (((bl s).drop p).all typeB && decide (s.size ≤ 32)) := by
  intro n
  induction n with
  | zero =>
    intro p hn hp h1
    rw [drop_end (by omega)]
    refine Ev.step (fun k => by rw [dn_rightType.l0]) (Ev.neg (by omega) (Ev.neg ?_ ?_))
    · rw [Lib.toList_data]; intro h; have := bl_length s; unfold bl at this; rw [h] at this; simp at this; omega
    · have : decide ((s.size : Int) ≤ 32) = decide (s.size ≤ 32) := decide_eq_decide.2 (by omega)
      rw [this]; exact Ev.rfl'
  | succ n ih =>
    intro p hn hp h1
    cases hr : (bl s).drop p with
    | nil => have := drop_nil hr; omega
    | cons c r =>
      obtain ⟨g1, g2, g3⟩ := drop_cons hr
      have hi := ih (p + 1) (by omega) (by omega) (by omega)
      rw [g3] at hi
      have hc := c.toNat_lt
      have h45 : ((c.toNat : Int) = 45) ↔ c = 45 := ieq c 45
      refine Ev.step (fun k => by rw [dn_rightType.l0]) ?_
      rw [g2, wsucc (by omega), List.all_cons]
      by_cases q1 : 97 ≤ c.toNat ∧ c.toNat ≤ 122
      · rw [show typeB c = true by simp [typeB, q1]]
        simp (disch := omega) only [if_pos, if_neg]
        simpa using hi
      by_cases q2 : c = 45
      · rw [show typeB c = true by subst q2; rfl]
        have := h45.2 q2
        simp (disch := omega) only [if_pos, if_neg]
        simpa using hi
      have q3 : (c.toNat : Int) ≠ 45 := fun h => q2 (h45.1 h)
      by_cases q4 : 48 ≤ c.toNat ∧ c.toNat ≤ 57
      · rw [show typeB c = true by simp [typeB, q4]]
        simp (disch := omega) only [if_pos, if_neg]
        simpa using hi
      · rw [show typeB c = false by simp [typeB, q2]; omega]
        have e : Ev (fun (_ : Nat) => some false) (false && r.all typeB && decide (s.size ≤ 32)) := Ev.rfl'
        by_cases a1 : 97 ≤ c.toNat
        · simp (disch := omega) only [if_pos, if_neg]; exact e
        · by_cases a2 : c.toNat < 48
          · simp (disch := omega) only [if_pos, if_neg]; exact e
          · simp (disch := omega) only [if_pos, if_neg]; exact e
theorem rightType_ev (s : ByteArray) (hs : s.size ≤ 1000000) : Ev (fun k => dn_rightType.f k s) (typeOk (bl s)) := by
  unfold dn_rightType.f
  cases hr : bl s with
  | nil =>
    have : s.size = 0 := by rw [← bl_length, hr]; rfl
    show Ev _ false
    refine Ev.step (fun k => by rw [dn_rightType.l0]) (Ev.neg (by omega) (Ev.pos ?_ Ev.rfl'))
    rw [Lib.toList_data]; exact hr
  | cons c r =>
    obtain ⟨g1, g2, g3⟩ := drop_cons (s := s) (p := 0) (by simpa using hr)
    have hi := rightType_l s hs _ 1 rfl (by omega) (by omega)
    rw [show (1 : Nat) = 0 + 1 from rfl, g3] at hi
    have hc := c.toNat_lt
    have hlen : s.size = (c :: r).length := by rw [← bl_length, hr]
    refine Ev.step (fun k => by rw [dn_rightType.l0]) ?_
    have g2' : bt s 0 = (c.toNat : Int) := g2
    rw [g2', show wrap64 ((0 : Int) + 1) = ((0 + 1 : Nat) : Int) from wsucc (p := 0) (by omega)]
    unfold typeOk
    dsimp only
    rw [← hlen, List.all_cons]
    by_cases q1 : 97 ≤ c.toNat ∧ c.toNat ≤ 122
    · rw [show typeB c = true by simp [typeB, q1], decide_eq_true q1]
      simp (disch := omega) only [if_pos, if_neg]
      simpa using hi
    · rw [decide_eq_false q1]
      have e : Ev (fun (_ : Nat) => some false) (false && (typeB c && r.all typeB) && decide (s.size ≤ 32)) := Ev.rfl'
      by_cases a1 : 97 ≤ c.toNat
      · simp (disch := omega) only [if_pos, if_neg]; exact e
      · simp (disch := omega) only [if_pos, if_neg]; exact e
theorem lower_f (s : ByteArray) (hs : s.size ≤ 1000000) (a b : Nat) : dn_lower.f (s.extract a b) = some ⟨(Lib.mapD lowR (((bl s).drop a).take (b - a))).toArray⟩ := by
  unfold dn_lower.f
  rw [if_pos (by simp; omega), Lib.extract_data]
theorem mapD_len (f : Int → Int) : ∀ (n : Nat) (l : List UInt8), l.length ≤ n → (Lib.mapD f l).length ≤ 4 * l.length
  | 0, l, h => by
    have : l = [] := List.eq_nil_of_length_eq_zero (by omega)
    subst this
    exact Nat.le_refl _
  | n + 1, l, h => by
    by_cases hne : l = []
    · subst hne; exact Nat.le_refl _
    · rw [Lib.mapD_step _ _ hne, List.length_append]
      have hw := Lib.decodeL_width l
      have hl := Lib.decodeL_le l hne
      have ih := mapD_len f n (l.drop (Lib.decodeL l).2) (by rw [List.length_drop]; omega)
      rw [List.length_drop] at ih
      have h4 : (if 0 ≤ f (Lib.decodeL l).1 then Lib.encodeRune (f (Lib.decodeL l).1) else []).length ≤ 4 := by
        split
        · have := Lib.runeCells_le (f (Lib.decodeL l).1)
          rw [Lib.runeCells_length] at this; exact this.2
        · simp
      omega
theorem kind_ev (s : ByteArray) (hs : s.size ≤ 100000) (p : Nat) (hp : p ≤ s.size) :
    (kindB ((bl s).drop p) = none → ∃ t s' q, Ev (fun k => Dxkind.f k s (p : Int)) (t, false, s', q)) ∧
    (∀ t r', kindB ((bl s).drop p) = some (t, r') → ∃ q : Nat, q ≤ s.size ∧ p < q ∧ (bl s).drop q = r' ∧ Ev (fun k => Dxkind.f k s (p : Int)) (⟨t.toArray⟩, true, s, (q : Int))) := by
  obtain ⟨q1, a1, a2, a3, a4⟩ := blanks_f s (by omega) p hp
  obtain ⟨q2, b1, b2, b3, b5, b4⟩ := kindl_ev s (by omega) _ q1 rfl a2
  obtain ⟨q3, c1, c2, c3, c4⟩ := blanks_f s (by omega) q2 b2
  have hl := lower_f s (by omega) q1 q2
  have h2 : (((bl s).drop q1).take (q2 - q1)).length ≤ s.size := by rw [List.length_take, List.length_drop, bl_length]; omega
  obtain ⟨m, hm⟩ : ∃ m, m = ((bl s).drop q1).take (q2 - q1) := ⟨_, rfl⟩
  rw [← hm] at hl h2 b5
  have hty := mapD_type m
  have hsz : (⟨(Lib.mapD lowR m).toArray⟩ : ByteArray).size ≤ 1000000 := by
    have h1 := mapD_len lowR _ m (Nat.le_refl _)
    have h3 : (⟨(Lib.mapD lowR m).toArray⟩ : ByteArray).size = (Lib.mapD lowR m).length := by rw [← bl_length]
    omega
  have ht := rightType_ev (⟨(Lib.mapD lowR m).toArray⟩) hsz
  rw [show bl (⟨(Lib.mapD lowR m).toArray⟩ : ByteArray) = Lib.mapD lowR m from rfl, hty.1] at ht
  rw [a3] at b3 b5
  rw [b3] at c3
  have hk : ∀ {v : ByteArray × Bool × ByteArray × Int}, Ev (fun k => if (s.size : Int) ≤ (q3 : Int) then some (⟨#[]⟩, false, s, (q3 : Int))
        else (if (0 : Int) ≤ (q3 : Int) then (if bt s (q3 : Int) = 61 then (dn_rightType.f k ⟨(Lib.mapD lowR m).toArray⟩).bind fun ok => if ok = true then some (⟨(Lib.mapD lowR m).toArray⟩, true, s, wrap64 ((q3 : Int) + 1)) else some (⟨#[]⟩, false, s, (q3 : Int))
          else some (⟨#[]⟩, false, s, (q3 : Int))) else none)) v → Ev (fun k => Dxkind.f k s (p : Int)) v := by
    intro v h
    unfold Dxkind.f
    refine Ev.bind a4 (Ev.bind b4 (Ev.pos (by dsimp only; omega) (Ev.pos (by dsimp only; omega) (Ev.pos (by dsimp only; omega) ?_))))
    refine Ev.bindc hl (Ev.bind c4 h)
  have hfail : ∃ t s' q, Ev (fun (_ : Nat) => some ((⟨#[]⟩ : ByteArray), false, s, (q3 : Int))) (t, false, s', q) := ⟨_, _, _, Ev.rfl'⟩
  unfold kindB
  rw [← c3, ← b5]
  cases hr : (bl s).drop q3 with
  | nil =>
    have := drop_nil hr
    exact ⟨fun _ => ⟨_, _, _, hk (Ev.pos (by omega) Ev.rfl')⟩, fun t r' h => by simp at h⟩
  | cons c r =>
    obtain ⟨g1, g2, g3⟩ := drop_cons hr
    have h61 : ((c.toNat : Int) = 61) ↔ c = 61 := ieq c 61
    dsimp only
    by_cases hc : c = 61
    · cases hT : typeOk (m.map lowB) with
      | false =>
        rw [if_neg (by rintro ⟨_, h⟩; cases h)]
        rw [hT] at ht
        exact ⟨fun _ => ⟨_, _, _, hk (Ev.neg (by omega) (Ev.pos (by omega) (Ev.pos (by rw [g2]; exact h61.2 hc) (Ev.bind ht (Ev.neg (by simp) Ev.rfl')))))⟩, fun t r' h => by simp at h⟩
      | true =>
        rw [if_pos ⟨hc, rfl⟩]
        refine ⟨fun h => (by simp at h), fun t r' h => ?_⟩
        simp only [Option.some.injEq, Prod.mk.injEq] at h
        obtain ⟨rfl, rfl⟩ := h
        rw [hT] at ht
        refine ⟨q3 + 1, by omega, by omega, g3, hk (Ev.neg (by omega) (Ev.pos (by omega) (Ev.pos (by rw [g2]; exact h61.2 hc) (Ev.bind ht (Ev.pos rfl ?_)))))⟩
        rw [wsucc (by omega), hty.2 hT]
        exact Ev.rfl'
    · rw [if_neg (fun h => hc h.1)]
      exact ⟨fun _ => ⟨_, _, _, hk (Ev.neg (by omega) (Ev.pos (by omega) (Ev.neg (by rw [g2]; exact fun h => hc (h61.1 h)) Ev.rfl')))⟩, fun t r' h => by simp at h⟩
def ints (l : List UInt8) : List Int := l.map fun c => (c.toNat : Int)
theorem strOfNums_ints (l : List UInt8) : strOfNums (ints l) = ⟨l.toArray⟩ := by
  unfold strOfNums ints
  rw [List.map_map]
  congr 1
  have : (List.map ((fun n => UInt8.ofNat n.toNat) ∘ fun c => ((c : UInt8).toNat : Int)) l) = l := by
    conv => rhs; rw [← List.map_id l]
    exact List.map_congr_left fun c _ => by simp
  rw [this]
theorem ints_length (l : List UInt8) : (ints l).length = l.length := by simp [ints]
theorem ints_take (l : List UInt8) (n : Nat) : (ints l).take n = ints (l.take n) := by simp [ints, List.map_take]
theorem ints_snoc (l : List UInt8) (c : UInt8) : ints l ++ [(c.toNat : Int)] = ints (l ++ [c]) := by simp [ints]
def hexI (c : UInt8) : Int := match hexv c with | some x => (x : Int) | none => -1
theorem ofNat_toNat8 (c : UInt8) : UInt8.ofNat c.toNat = c := by simp
set_option maxRecDepth 100000 in
theorem digit_all : ∀ n : Nat, n < 256 → b64_digit.f (n : Int) = some (hexI (UInt8.ofNat n)) := by decide +kernel
theorem digit_is (c : UInt8) : b64_digit.f (c.toNat : Int) = some (hexI c) := by
  have := digit_all c.toNat c.toNat_lt
  rwa [ofNat_toNat8] at this
theorem hexv_lt {c : UInt8} {x : Nat} (h : hexv c = some x) : x < 16 := by
  unfold hexv at h
  repeat' split at h
  all_goals first | (cases h; omega) | cases h
set_option maxRecDepth 100000 in
theorem bits_all : ∀ x : Nat, x < 16 → ∀ y : Nat, y < 16 → (Go.bits .or .i64 (wrap64 ((x : Int) * 16)) (y : Int)) % 256 = ((16 * x + y : Nat) : Int) := by decide +kernel
theorem esc_all : ∀ n : Nat, n < 256 → decide (Lib.indexByte [34, 43, 44, 59, 60, 61, 62, 92, 35, 32] (UInt8.ofNat n) ≥ 0) = isEsc (UInt8.ofNat n) := by decide +kernel
theorem esc_is (c : UInt8) : decide (Lib.indexByte [34, 43, 44, 59, 60, 61, 62, 92, 35, 32] c ≥ 0) = isEsc c := by
  have := esc_all c.toNat c.toNat_lt
  rwa [ofNat_toNat8] at this
theorem unhex_ev (u : ByteArray) (a b : UInt8) (hu : bl u = [a, b]) :
    (hex2 a b = none → Ev (fun k => b64_Unhex.f k u) (⟨#[]⟩, 4)) ∧ (∀ x, hex2 a b = some x → Ev (fun k => b64_Unhex.f k u) (⟨#[x]⟩, 0)) := by
  have hsz : u.size = 2 := by rw [← bl_length, hu]; rfl
  obtain ⟨_, ha⟩ := bt_get (s := u) (p := 0) (c := a) (by rw [hu]; rfl)
  obtain ⟨_, hb⟩ := bt_get (s := u) (p := 1) (c := b) (by rw [hu]; rfl)
  have hst : ∀ {v : ByteArray × Int}, Ev (fun k => if hexI a < 0 then (some ((⟨#[]⟩ : ByteArray), (4 : Int))) else (if hexI b < 0 then (some ((⟨#[]⟩ : ByteArray), 4)) else (b64_Unhex.l0 k u ([] ++ [(Go.bits .or .i64 (wrap64 (hexI a * 16)) (hexI b)) % 256]) (wrap64 ((0 : Int) + 2))))) v → Ev (fun k => b64_Unhex.f k u) v := by
    intro v h
    unfold b64_Unhex.f
    refine Ev.pos (by omega) (Ev.step (fun k => by rw [b64_Unhex.l0]) (Ev.pos (by omega) (Ev.pos (by omega) ?_)))
    have w1 : wrap64 ((0 : Int) + 1) = ((1 : Nat) : Int) := by unfold wrap64; omega
    have ha' : bt u 0 = (a.toNat : Int) := ha
    rw [w1, ha', hb]
    refine Ev.bindc (digit_is a) (Ev.pos (by omega) (Ev.pos (by omega) (Ev.bindc (digit_is b) ?_)))
    refine Ev.congr (fun k => ?_) h
    rw [if_pos (show ([] : List Int).length < 140737488355328 by decide)]
  unfold hex2
  cases hx : hexv a with
  | none =>
    have e : hexI a = -1 := by unfold hexI; rw [hx]
    rw [e] at hst
    exact ⟨fun _ => hst (Ev.pos (by omega) Ev.rfl'), fun x h => by simp at h⟩
  | some x =>
    have ea : hexI a = (x : Int) := by unfold hexI; rw [hx]
    rw [ea] at hst
    cases hy : hexv b with
    | none =>
      have e : hexI b = -1 := by unfold hexI; rw [hy]
      rw [e] at hst
      exact ⟨fun _ => hst (Ev.neg (by omega) (Ev.pos (by omega) Ev.rfl')), fun x h => by simp at h⟩
    | some y =>
      have eb : hexI b = (y : Int) := by unfold hexI; rw [hy]
      rw [eb, bits_all x (hexv_lt hx) y (hexv_lt hy)] at hst
      refine ⟨fun h => by simp at h, fun z h => hst (Ev.neg (by omega) (Ev.neg (by omega) ?_))⟩
      simp only [Option.bind_some, Option.map_some, Option.some.injEq] at h
      subst h
      refine Ev.step (fun k => by rw [b64_Unhex.l0]) (Ev.neg (by rw [hsz]; unfold wrap64; omega) ?_)
      have : strOfNums ([] ++ [((16 * x + y : Nat) : Int)]) = (⟨#[(16 * x + y).toUInt8]⟩ : ByteArray) := by
        show (⟨#[UInt8.ofNat ((16 * x + y : Nat) : Int).toNat]⟩ : ByteArray) = _
        rw [Int.toNat_natCast]
      rw [this]; exact Ev.rfl'
theorem escaped_ev (s : ByteArray) (hs : s.size ≤ 1000000) (p : Nat) (hp : p ≤ s.size) :
    (esc ((bl s).drop p) = none → ∃ n s' q, Ev (fun k => Dxescaped.f k s (p : Int)) (n, false, s', q)) ∧
    (∀ x r', esc ((bl s).drop p) = some (x, r') → ∃ q : Nat, q ≤ s.size ∧ p < q ∧ (bl s).drop q = r' ∧ Ev (fun k => Dxescaped.f k s (p : Int)) ((x.toNat : Int), true, s, (q : Int))) := by
  obtain ⟨u, hu⟩ : ∃ u, u = s.extract p s.size := ⟨_, rfl⟩
  have hbu : bl u = (bl s).drop p := by
    rw [hu]; unfold bl; rw [Lib.extract_data, List.take_of_length_le]
    rw [List.length_drop]; have := bl_length s; unfold bl at this; omega
  have hus : u.size = s.size - p := by rw [hu]; simp
  have hst : ∀ {v : Int × Bool × ByteArray × Int}, Ev (fun k => if u.toList = ([] : List UInt8) then (Dxescaped.j0 k u false s (p : Int)) else (if 0 < (u.size : Int) then ((strings_IndexByte.f (⟨#[34, 43, 44, 59, 60, 61, 62, 92, 35, 32]⟩ : ByteArray) (bt u 0)).bind fun t297 => (Dxescaped.j0 k u (decide (t297 ≥ 0)) s (p : Int))) else none)) v → Ev (fun k => Dxescaped.f k s (p : Int)) v := by
    intro v h
    unfold Dxescaped.f
    refine Ev.pos (by omega) (Ev.pos (by omega) ?_)
    rw [Int.toNat_natCast, ← hu]; exact h
  rw [Lib.toList_data, show u.data.toList = bl u from rfl, hbu] at hst
  cases hr : (bl s).drop p with
  | nil =>
    have := drop_nil hr
    rw [hr] at hst
    refine ⟨fun _ => ⟨_, _, _, hst (Ev.pos rfl (Ev.step (fun k => by rw [Dxescaped.j0]) (Ev.neg (by simp) (Ev.pos (by omega) Ev.rfl'))))⟩, fun x r' h => by simp [esc] at h⟩
  | cons a r =>
    obtain ⟨g1, g2, g3⟩ := drop_cons hr
    rw [hr] at hst hbu
    obtain ⟨_, ga⟩ := bt_get (s := u) (p := 0) (c := a) (by rw [hbu]; rfl)
    have ga' : bt u 0 = (a.toNat : Int) := ga
    rw [ga'] at hst
    have hix : strings_IndexByte.f (⟨#[34, 43, 44, 59, 60, 61, 62, 92, 35, 32]⟩ : ByteArray) (a.toNat : Int) = some (Lib.indexByte [34, 43, 44, 59, 60, 61, 62, 92, 35, 32] a) := by
      unfold strings_IndexByte.f
      rw [Int.toNat_natCast, show a.toNat.toUInt8 = a by simp]
    have hj : ∀ {v : Int × Bool × ByteArray × Int}, Ev (fun k => Dxescaped.j0 k u (isEsc a) s (p : Int)) v → Ev (fun k => Dxescaped.f k s (p : Int)) v := by
      intro v h
      refine hst (Ev.neg (by simp) (Ev.pos (by omega) (Ev.bindc hix ?_)))
      rw [esc_is]; exact h
    simp only [esc]
    cases he : isEsc a with
    | true =>
      rw [he] at hj
      rw [if_pos rfl]
      refine ⟨fun h => by simp at h, fun x r' h => ?_⟩
      simp only [Option.some.injEq, Prod.mk.injEq] at h
      obtain ⟨rfl, rfl⟩ := h
      refine ⟨p + 1, by omega, by omega, g3, hj (Ev.step (fun k => by rw [Dxescaped.j0]) (Ev.pos rfl (Ev.pos (by omega) ?_)))⟩
      rw [ga', wsucc (by omega)]; exact Ev.rfl'
    | false =>
      rw [he] at hj
      rw [if_neg (by simp)]
      cases r with
      | nil =>
        have := drop_nil (s := s) (p := p + 1) g3
        exact ⟨fun _ => ⟨_, _, _, hj (Ev.step (fun k => by rw [Dxescaped.j0]) (Ev.neg (by simp) (Ev.pos (by omega) Ev.rfl')))⟩, fun x r' h => by simp at h⟩
      | cons b r2 =>
        obtain ⟨f1, f2, f3⟩ := drop_cons g3
        have h2 : bl (u.extract 0 2) = [a, b] := by
          unfold bl; rw [Lib.extract_data, show u.data.toList = bl u from rfl, hbu]; rfl
        obtain ⟨k1, k2⟩ := unhex_ev _ a b h2
        dsimp only
        cases hx : hex2 a b with
        | none =>
          exact ⟨fun _ => ⟨_, _, _, hj (Ev.step (fun k => by rw [Dxescaped.j0]) (Ev.neg (by simp) (Ev.neg (by omega) (Ev.pos (by omega) (Ev.pos (by omega) (Ev.bind (k1 hx) (Ev.neg (show ¬ ((4 : Int) = 0) by decide) Ev.rfl')))))))⟩, fun x r' h => by simp at h⟩
        | some x =>
          refine ⟨fun h => by simp at h, fun y r' h => ?_⟩
          simp only [Option.map_some, Option.some.injEq, Prod.mk.injEq] at h
          obtain ⟨rfl, rfl⟩ := h
          refine ⟨p + 2, by omega, by omega, f3, hj (Ev.step (fun k => by rw [Dxescaped.j0]) (Ev.neg (by simp) (Ev.neg (by omega) (Ev.pos (by omega) (Ev.pos (by omega) (Ev.bind (k2 x hx) (Ev.pos rfl (Ev.pos ?_ ?_))))))))⟩
          · show (0 : Int) < ((1 : Nat) : Int); omega
          · have e1 : bt (⟨#[x]⟩ : ByteArray) 0 = (x.toNat : Int) := (bt_get (s := ⟨#[x]⟩) (p := 0) (c := x) rfl).2
            have e2 : wrap64 ((p : Int) + 2) = ((p + 2 : Nat) : Int) := by unfold wrap64; omega
            dsimp only
            rw [e1, e2]; exact Ev.rfl'
abbrev VOut := ByteArray × Bool × ByteArray × Int
theorem kept_out (b : List UInt8) (kept : Nat) (hk : kept ≤ b.length) (s : ByteArray) (q : Int) : Ev (fun (_ : Nat) => if (0 : Int) ≤ (kept : Int) then (if (kept : Int) ≤ ((ints b).length : Int) then (some (strOfNums ((ints b).take (kept : Int).toNat), true, s, q)) else (none)) else (none)) (⟨(b.take kept).toArray⟩, true, s, q) := by
  refine Ev.pos (by omega) (Ev.pos (by rw [ints_length]; omega) ?_)
  rw [Int.toNat_natCast, ints_take, strOfNums_ints]; exact Ev.rfl'
theorem scan_ev (s : ByteArray) (hs : s.size ≤ 1000000) : ∀ (n p : Nat) (b : List UInt8) (kept : Nat), p ≤ s.size → s.size - p < n → kept ≤ b.length → b.length ≤ p →
    (scanN n ((bl s).drop p) b kept = none → ∃ t s' q, Ev (fun k => Dxvalue.l0 k (ints b) (kept : Int) s (p : Int)) (t, false, s', q)) ∧
    (∀ v r', scanN n ((bl s).drop p) b kept = some (v, r') → ∃ q : Nat, q ≤ s.size ∧ p ≤ q ∧ (bl s).drop q = r' ∧ Ev (fun k => Dxvalue.l0 k (ints b) (kept : Int) s (p : Int)) (⟨v.toArray⟩, true, s, (q : Int))) := by
  intro n
  induction n with
  | zero => intro p b kept hp hn; omega
  | succ n ih =>
    intro p b kept hp hn hk hb
    have hil : (ints b).length < 140737488355328 := by rw [ints_length]; omega
    cases hr : (bl s).drop p with
    | nil =>
      have := drop_nil hr
      refine ⟨fun h => by simp [scanN] at h, fun v r' h => ?_⟩
      simp only [scanN, Option.some.injEq, Prod.mk.injEq] at h
      obtain ⟨rfl, rfl⟩ := h
      exact ⟨p, hp, Nat.le_refl _, hr, Ev.step (fun k => by rw [Dxvalue.l0]) (Ev.neg (by omega) (kept_out b kept hk s _))⟩
    | cons c r =>
      obtain ⟨g1, g2, g3⟩ := drop_cons hr
      have e44 : ((c.toNat : Int) = 44) ↔ c = 44 := ieq c 44
      have e59 : ((c.toNat : Int) = 59) ↔ c = 59 := ieq c 59
      have e43 : ((c.toNat : Int) = 43) ↔ c = 43 := ieq c 43
      have e34 : ((c.toNat : Int) = 34) ↔ c = 34 := ieq c 34
      have e60 : ((c.toNat : Int) = 60) ↔ c = 60 := ieq c 60
      have e62 : ((c.toNat : Int) = 62) ↔ c = 62 := ieq c 62
      have e92 : ((c.toNat : Int) = 92) ↔ c = 92 := ieq c 92
      have e32 : ((c.toNat : Int) = 32) ↔ c = 32 := ieq c 32
      have hst : ∀ {v : VOut}, Ev (fun k => if (c.toNat : Int) = 44 then (Dxvalue.j1 k (ints b) (kept : Int) (c.toNat : Int) (c.toNat : Int) ((c.toNat : Int) == 44) s (p : Int)) else (if (c.toNat : Int) = 59 then (Dxvalue.j1 k (ints b) (kept : Int) (c.toNat : Int) (c.toNat : Int) ((c.toNat : Int) == 59) s (p : Int)) else (Dxvalue.j1 k (ints b) (kept : Int) (c.toNat : Int) (c.toNat : Int) ((c.toNat : Int) == 43) s (p : Int)))) v → Ev (fun k => Dxvalue.l0 k (ints b) (kept : Int) s (p : Int)) v := by
        intro v h
        refine Ev.step (fun k => by rw [Dxvalue.l0]) (Ev.pos (by omega) (Ev.pos (by omega) ?_))
        rw [g2]; exact h
      by_cases hsep : c = 44 ∨ c = 59 ∨ c = 43
      · refine ⟨fun h => by rw [scanN, if_pos hsep] at h; simp at h, fun v r' h => ?_⟩
        rw [scanN, if_pos hsep] at h
        simp only [Option.some.injEq, Prod.mk.injEq] at h
        obtain ⟨rfl, rfl⟩ := h
        refine ⟨p, hp, Nat.le_refl _, hr, hst ?_⟩
        have hj : Ev (fun k => Dxvalue.j1 k (ints b) (kept : Int) (c.toNat : Int) (c.toNat : Int) true s (p : Int)) (⟨(b.take kept).toArray⟩, true, s, (p : Int)) :=
          Ev.step (fun k => by rw [Dxvalue.j1]) (Ev.pos rfl (kept_out b kept hk s _))
        rcases hsep with h | h | h
        · refine Ev.pos (e44.2 h) ?_
          rw [beq_iff_eq.2 (e44.2 h)]; exact hj
        · refine Ev.neg (fun h' => by have := e44.1 h'; rw [h] at this; revert this; decide) (Ev.pos (e59.2 h) ?_)
          rw [beq_iff_eq.2 (e59.2 h)]; exact hj
        · refine Ev.neg (fun h' => by have := e44.1 h'; rw [h] at this; revert this; decide) (Ev.neg (fun h' => by have := e59.1 h'; rw [h] at this; revert this; decide) ?_)
          rw [beq_iff_eq.2 (e43.2 h)]; exact hj
      · have hsep' := hsep
        simp only [not_or] at hsep
        have hst2 : ∀ {v : VOut}, Ev (fun k => if (c.toNat : Int) = 34 then (some ((⟨#[]⟩ : ByteArray), false, s, (p : Int))) else (if (c.toNat : Int) = 60 then (some ((⟨#[]⟩ : ByteArray), false, s, (p : Int))) else (if (c.toNat : Int) = 62 then (some ((⟨#[]⟩ : ByteArray), false, s, (p : Int))) else (if (c.toNat : Int) = 92 then ((Dxescaped.f k s ((p + 1 : Nat) : Int)).bind fun bt311 => (if bt311.2.1 = true then (if (ints b).length < 140737488355328 then ((some (ints b ++ [bt311.1] : List Int)).bind fun y315 => (Dxvalue.l0 k y315 (y315.length : Int) bt311.2.2.1 bt311.2.2.2)) else (none)) else (some ((⟨#[]⟩ : ByteArray), false, bt311.2.2.1, bt311.2.2.2)))) else ((if (c.toNat : Int) = 32 then (Dxvalue.l0 k (ints (b ++ [c])) (kept : Int) s ((p + 1 : Nat) : Int)) else (Dxvalue.l0 k (ints (b ++ [c])) ((b.length + 1 : Nat) : Int) s ((p + 1 : Nat) : Int)))))))) v → Ev (fun k => Dxvalue.l0 k (ints b) (kept : Int) s (p : Int)) v := by
          intro v h
          refine hst (Ev.neg (fun h' => hsep.1 (e44.1 h')) (Ev.neg (fun h' => hsep.2.1 (e59.1 h')) ?_))
          rw [beq_eq_false_iff_ne.2 (fun h' => hsep.2.2 (e43.1 h'))]
          refine Ev.step (fun k => by rw [Dxvalue.j1]) (Ev.neg (by simp) (Ev.congr (fun k => ?_) h))
          rw [if_pos hil, Option.bind_some, ints_snoc, ints_length (b ++ [c]), wsucc (by omega), List.length_append, List.length_singleton]
        by_cases hbad : c = 34 ∨ c = 60 ∨ c = 62
        · refine ⟨fun _ => ?_, fun v r' h => by rw [scanN, if_neg hsep', if_pos hbad] at h; simp at h⟩
          by_cases h34 : c = 34
          · exact ⟨_, _, _, hst2 (Ev.pos (e34.2 h34) Ev.rfl')⟩
          by_cases h60 : c = 60
          · exact ⟨_, _, _, hst2 (Ev.neg (fun h => h34 (e34.1 h)) (Ev.pos (e60.2 h60) Ev.rfl'))⟩
          have h62 : c = 62 := by rcases hbad with h | h | h; exact absurd h h34; exact absurd h h60; exact h
          exact ⟨_, _, _, hst2 (Ev.neg (fun h => h34 (e34.1 h)) (Ev.neg (fun h => h60 (e60.1 h)) (Ev.pos (e62.2 h62) Ev.rfl')))⟩
        · have hbad' := hbad
          simp only [not_or] at hbad
          rw [scanN, if_neg hsep', if_neg hbad']
          have hst3 := fun {v : VOut} (h) => hst2 (v := v) (Ev.neg (fun h => hbad.1 (e34.1 h)) (Ev.neg (fun h => hbad.2.1 (e60.1 h)) (Ev.neg (fun h => hbad.2.2 (e62.1 h)) h)))
          by_cases h92 : c = 92
          · rw [if_pos h92]
            obtain ⟨k1, k2⟩ := escaped_ev s hs (p + 1) (by omega)
            rw [g3] at k1 k2
            cases he : esc r with
            | none =>
              obtain ⟨n', s', q, hq⟩ := k1 he
              exact ⟨fun _ => ⟨_, _, _, hst3 (Ev.pos (e92.2 h92) (Ev.bind hq (Ev.neg (by simp) Ev.rfl')))⟩, fun v r' h => by simp at h⟩
            | some x =>
              obtain ⟨q, q1, q2, q3, q4⟩ := k2 x.1 x.2 he
              have hi := ih q (b ++ [x.1]) (b.length + 1) q1 (by omega) (by simp) (by simp; omega)
              rw [q3] at hi
              simp only [Option.bind_some]
              have hgo : ∀ {v : VOut}, Ev (fun k => Dxvalue.l0 k (ints (b ++ [x.1])) ((b.length + 1 : Nat) : Int) s (q : Int)) v → Ev (fun k => Dxvalue.l0 k (ints b) (kept : Int) s (p : Int)) v := by
                intro v h
                refine hst3 (Ev.pos (e92.2 h92) (Ev.bind q4 (Ev.pos rfl (Ev.pos hil ?_))))
                refine Ev.congr (fun k => ?_) h
                rw [Option.bind_some, ints_snoc, ints_length, List.length_append, List.length_singleton]
              refine ⟨fun h => ?_, fun v r' h => ?_⟩
              · obtain ⟨t, s', q', h'⟩ := hi.1 h
                exact ⟨t, s', q', hgo h'⟩
              · obtain ⟨q', d1, d2, d3, d4⟩ := hi.2 v r' h
                exact ⟨q', d1, by omega, d3, hgo d4⟩
          · rw [if_neg h92]
            have hi := ih (p + 1) (b ++ [c]) (if c = 32 then kept else b.length + 1) (by omega) (by omega) (by split <;> simp; omega) (by simp; omega)
            rw [g3] at hi
            have hgo : ∀ {v : VOut}, Ev (fun k => Dxvalue.l0 k (ints (b ++ [c])) ((if c = 32 then kept else b.length + 1 : Nat) : Int) s ((p + 1 : Nat) : Int)) v → Ev (fun k => Dxvalue.l0 k (ints b) (kept : Int) s (p : Int)) v := by
              intro v h
              refine hst3 (Ev.neg (fun h' => h92 (e92.1 h')) ?_)
              by_cases h32 : c = 32
              · rw [if_pos h32] at h
                exact Ev.pos (e32.2 h32) h
              · rw [if_neg h32] at h
                exact Ev.neg (fun h' => h32 (e32.1 h')) h
            refine ⟨fun h => ?_, fun v r' h => ?_⟩
            · obtain ⟨t, s', q', h'⟩ := hi.1 h
              exact ⟨t, s', q', hgo h'⟩
            · obtain ⟨q', d1, d2, d3, d4⟩ := hi.2 v r' h
              exact ⟨q', d1, by omega, d3, hgo d4⟩
theorem hasPrefix35 (u : ByteArray) : strings_HasPrefix.f u (⟨#[35]⟩ : ByteArray) = some (match bl u with | [] => false | c :: _ => c == 35) := by
  unfold strings_HasPrefix.f stringslite_HasPrefix.f
  have h1 : ((⟨#[35]⟩ : ByteArray)).size = 1 := rfl
  rw [h1]
  cases hu : bl u with
  | nil =>
    have : u.size = 0 := by rw [← bl_length, hu]; rfl
    rw [this]; rfl
  | cons c r =>
    have : u.size = r.length + 1 := by rw [← bl_length, hu]; rfl
    rw [if_pos (by omega), if_pos (by omega), if_pos (by omega)]
    simp only [Option.bind_some, Lib.toList_data, Option.some.injEq]
    rw [Lib.extract_data, show u.data.toList = bl u from rfl, hu]
    simp
theorem value_ev (s : ByteArray) (hs : s.size ≤ 1000000) (p : Nat) (hp : p ≤ s.size) :
    (valueB ((bl s).drop p) = none → ∃ t s' q, Ev (fun k => Dxvalue.f k s (p : Int)) (t, false, s', q)) ∧
    (∀ v r', valueB ((bl s).drop p) = some (v, r') → ∃ q : Nat, q ≤ s.size ∧ p ≤ q ∧ (bl s).drop q = r' ∧ Ev (fun k => Dxvalue.f k s (p : Int)) (⟨v.toArray⟩, true, s, (q : Int))) := by
  obtain ⟨q1, a1, a2, a3, a4⟩ := blanks_f s hs p hp
  have hbu : bl (s.extract q1 s.size) = (bl s).drop q1 := by
    unfold bl; rw [Lib.extract_data, List.take_of_length_le]
    rw [List.length_drop]; have := bl_length s; unfold bl at this; omega
  have hpre := hasPrefix35 (s.extract q1 s.size)
  rw [hbu] at hpre
  have hst : ∀ {v : VOut} {b : Bool}, strings_HasPrefix.f (s.extract q1 s.size) (⟨#[35]⟩ : ByteArray) = some b → Ev (fun k => if b = true then (some ((⟨#[]⟩ : ByteArray), false, s, (q1 : Int))) else (Dxvalue.l0 k ([] : List Int) 0 s (q1 : Int))) v → Ev (fun k => Dxvalue.f k s (p : Int)) v := by
    intro v b hb h
    unfold Dxvalue.f
    refine Ev.bind a4 (Ev.pos (by dsimp only; omega) (Ev.pos (by dsimp only; omega) ?_))
    dsimp only
    rw [Int.toNat_natCast]
    exact Ev.bindc hb h
  unfold valueB
  rw [← a3]
  cases hr : (bl s).drop q1 with
  | nil =>
    rw [hr] at hpre
    have h0 := scan_ev s hs 1 q1 [] 0 a2 (by have := drop_nil hr; omega) (Nat.le_refl _) (Nat.zero_le _)
    rw [hr] at h0
    refine ⟨fun h => by simp at h, fun v r' h => ?_⟩
    simp only [Option.some.injEq, Prod.mk.injEq] at h
    obtain ⟨rfl, rfl⟩ := h
    obtain ⟨q, d1, d2, d3, d4⟩ := h0.2 [] [] rfl
    exact ⟨q, d1, by omega, d3, hst hpre (Ev.neg (by simp) d4)⟩
  | cons c r =>
    rw [hr] at hpre
    have h0 := scan_ev s hs (r.length + 2) q1 [] 0 a2 (by have := congrArg List.length hr; rw [List.length_drop, bl_length] at this; simp at this; omega) (Nat.le_refl _) (Nat.zero_le _)
    rw [hr] at h0
    dsimp only at hpre ⊢
    by_cases h35 : c = 35
    · rw [if_pos h35]
      rw [beq_iff_eq.2 h35] at hpre
      exact ⟨fun _ => ⟨_, _, _, hst hpre (Ev.pos rfl Ev.rfl')⟩, fun v r' h => by simp at h⟩
    · rw [if_neg h35]
      rw [beq_eq_false_iff_ne.2 h35] at hpre
      refine ⟨fun h => ?_, fun v r' h => ?_⟩
      · obtain ⟨t, s', q', h'⟩ := h0.1 h
        exact ⟨t, s', q', hst hpre (Ev.neg (by simp) h')⟩
      · obtain ⟨q', d1, d2, d3, d4⟩ := h0.2 v r' h
        exact ⟨q', d1, by omega, d3, hst hpre (Ev.neg (by simp) d4)⟩
abbrev AvaS := S96
def mkA (x : Pr) : AvaS := ⟨⟨x.1.toArray⟩, ⟨x.2.toArray⟩⟩
def mkR (l : List Pr) : List AvaS := l.map mkA
def mkN (n : List (List Pr)) : List (List AvaS) := n.map mkR
theorem mkR_snoc (l : List Pr) (x : Pr) : mkR l ++ [mkA x] = mkR (l ++ [x]) := by simp [mkR]
theorem mkN_snoc (l : List (List Pr)) (x : List Pr) : mkN l ++ [mkR x] = mkN (l ++ [x]) := by simp [mkN]
theorem mkR_len (l : List Pr) : (mkR l).length = l.length := by simp [mkR]
theorem mkN_len (l : List (List Pr)) : (mkN l).length = l.length := by simp [mkN]
theorem parse_loop (s : ByteArray) (hs : s.size ≤ 100000) : ∀ (n p : Nat) (rdn : List Pr) (l : List (List Pr)), p ≤ s.size → s.size - p < n → rdn.length ≤ p → l.length ≤ p →
    (goB n ((bl s).drop p) rdn l = none → Ev (fun k => dn_Parse.l0 k s (mkN l) (mkR rdn) s (p : Int)) ([], 4)) ∧
    (∀ N b, goB n ((bl s).drop p) rdn l = some N → Ev (fun k => dn_Right.f k (mkN N)) b → Ev (fun k => dn_Parse.l0 k s (mkN l) (mkR rdn) s (p : Int)) (if b = true then (mkN N, 0) else ([], 4))) := by
  intro n
  induction n with
  | zero => intro p rdn l hp hn; omega
  | succ n ih =>
    intro p rdn l hp hn hr1 hl1
    obtain ⟨k1, k2⟩ := kind_ev s hs p hp
    rw [goB]
    cases hk : kindB ((bl s).drop p) with
    | none =>
      obtain ⟨t, s', q, hq⟩ := k1 hk
      refine ⟨fun _ => Ev.step (fun k => by rw [dn_Parse.l0]) ?_, fun N b h => by simp at h⟩
      exact Ev.bind hq (Ev.neg (by simp) Ev.rfl')
    | some x =>
      obtain ⟨q1, a1, a2, a3, a4⟩ := k2 x.1 x.2 hk
      obtain ⟨v1, v2⟩ := value_ev s (by omega) q1 a1
      rw [a3] at v1 v2
      simp only [Option.bind_some]
      cases hv : valueB x.2 with
      | none =>
        obtain ⟨t, s', q, hq⟩ := v1 hv
        refine ⟨fun _ => Ev.step (fun k => by rw [dn_Parse.l0]) ?_, fun N b h => by simp at h⟩
        exact Ev.bind a4 (Ev.pos rfl (Ev.bind hq (Ev.neg (by simp) Ev.rfl')))
      | some y =>
        obtain ⟨q2, b1, b2, b3, b4⟩ := v2 y.1 y.2 hv
        simp only [Option.bind_some]
        have hst : ∀ {o : List (List AvaS) × Int}, Ev (fun k => if (q2 : Int) = (s.size : Int) then (dn_Parse.j1 k s (mkN l) (mkR (rdn ++ [(x.1, y.1)])) ((q2 : Int) == (s.size : Int)) true s (q2 : Int)) else (if (0 : Int) ≤ (q2 : Int) then (if (q2 : Int) < (s.size : Int) then (dn_Parse.j1 k s (mkN l) (mkR (rdn ++ [(x.1, y.1)])) ((q2 : Int) == (s.size : Int)) ((bt s (q2 : Int)) != 43) s (q2 : Int)) else (none)) else (none))) o → Ev (fun k => dn_Parse.l0 k s (mkN l) (mkR rdn) s (p : Int)) o := by
          intro o h
          refine Ev.step (fun k => by rw [dn_Parse.l0]) ?_
          refine Ev.bind a4 (Ev.pos rfl (Ev.bind b4 (Ev.pos rfl (Ev.pos (by rw [mkR_len]; omega) ?_))))
          refine Ev.bindc rfl ?_
          dsimp only
          rw [show mkR rdn ++ [(⟨⟨x.1.toArray⟩, ⟨y.1.toArray⟩⟩ : AvaS)] = mkR (rdn ++ [(x.1, y.1)]) from mkR_snoc rdn (x.1, y.1)]
          exact h
        have hlen : (mkN l).length < 5864062014805 := by rw [mkN_len]; omega
        cases hr : y.2 with
        | nil =>
          rw [hr] at b3
          have hq : q2 = s.size := by have := drop_nil b3; omega
          refine ⟨fun h => by simp at h, fun N b h hR => ?_⟩
          simp only [Option.some.injEq] at h
          subst h
          refine hst (Ev.pos (by omega) ?_)
          rw [beq_iff_eq.2 (by omega : (q2 : Int) = (s.size : Int))]
          refine Ev.step (fun k => by rw [dn_Parse.j1]) ?_
          refine Ev.pos rfl (Ev.pos hlen (Ev.bindc rfl (Ev.pos rfl ?_)))
          rw [mkN_snoc]
          refine Ev.bind hR ?_
          cases b with
          | true => exact Ev.pos rfl Ev.rfl'
          | false => exact Ev.neg (by simp) Ev.rfl'
        | cons c r3 =>
          rw [hr] at b3
          obtain ⟨g1, g2, g3⟩ := drop_cons b3
          have e43 : ((c.toNat : Int) = 43) ↔ c = 43 := ieq c 43
          have hst2 : ∀ {o : List (List AvaS) × Int}, Ev (fun k => dn_Parse.j1 k s (mkN l) (mkR (rdn ++ [(x.1, y.1)])) false ((c.toNat : Int) != 43) s (q2 : Int)) o → Ev (fun k => dn_Parse.l0 k s (mkN l) (mkR rdn) s (p : Int)) o := by
            intro o h
            refine hst (Ev.neg (by omega) (Ev.pos (by omega) (Ev.pos (by omega) ?_)))
            rw [beq_eq_false_iff_ne.2 (by omega : (q2 : Int) ≠ (s.size : Int)), g2]
            exact h
          dsimp only
          by_cases hc : c = 43
          · rw [if_pos hc]
            have hi := ih (q2 + 1) (rdn ++ [(x.1, y.1)]) l (by omega) (by omega) (by simp; omega) (by omega)
            rw [g3] at hi
            have hgo : ∀ {o : List (List AvaS) × Int}, Ev (fun k => dn_Parse.l0 k s (mkN l) (mkR (rdn ++ [(x.1, y.1)])) s ((q2 + 1 : Nat) : Int)) o → Ev (fun k => dn_Parse.l0 k s (mkN l) (mkR rdn) s (p : Int)) o := by
              intro o h
              refine hst2 ?_
              rw [show ((c.toNat : Int) != 43) = false by rw [bne, beq_iff_eq.2 (e43.2 hc)]; rfl]
              refine Ev.step (fun k => by rw [dn_Parse.j1]) (Ev.neg (by simp) (Ev.neg (by simp) ?_))
              rw [wsucc (by omega)]; exact h
            exact ⟨fun h => hgo (hi.1 h), fun N b h hR => hgo (hi.2 N b h hR)⟩
          · rw [if_neg hc]
            have hi := ih (q2 + 1) [] (l ++ [rdn ++ [(x.1, y.1)]]) (by omega) (by omega) (by simp) (by simp; omega)
            rw [g3] at hi
            have hgo : ∀ {o : List (List AvaS) × Int}, Ev (fun k => dn_Parse.l0 k s (mkN (l ++ [rdn ++ [(x.1, y.1)]])) (mkR []) s ((q2 + 1 : Nat) : Int)) o → Ev (fun k => dn_Parse.l0 k s (mkN l) (mkR rdn) s (p : Int)) o := by
              intro o h
              refine hst2 ?_
              rw [show ((c.toNat : Int) != 43) = true by rw [bne, beq_eq_false_iff_ne.2 (fun h => hc (e43.1 h))]; rfl]
              refine Ev.step (fun k => by rw [dn_Parse.j1]) ?_
              refine Ev.pos rfl (Ev.pos hlen (Ev.bindc rfl (Ev.neg (by simp) ?_)))
              rw [wsucc (by omega), mkN_snoc]; exact h
            exact ⟨fun h => hgo (hi.1 h), fun N b h hR => hgo (hi.2 N b h hR)⟩
theorem dw_idem {α : Type} (p : α → Bool) (l : List α) : (l.dropWhile p).dropWhile p = l.dropWhile p := by
  cases h : l.dropWhile p with
  | nil => rfl
  | cons c r => exact List.dropWhile_cons_of_neg (by simp [dw_head h])
theorem goB_blank (n : Nat) (r : List UInt8) (rdn : List Pr) (l : List (List Pr)) : goB (n + 1) (r.dropWhile (· == 32)) rdn l = goB (n + 1) r rdn l := by
  rw [goB, goB]
  have : kindB (r.dropWhile (· == 32)) = kindB r := by unfold kindB; rw [dw_idem]
  rw [this]
theorem parse_ev (s : ByteArray) (hs : s.size ≤ 100000) :
    (s.size > 1000 → Ev (fun k => dn_Parse.f k s) ([], 5)) ∧
    (s.size ≤ 1000 → (bl s).dropWhile (· == 32) = [] → Ev (fun k => dn_Parse.f k s) ([], 0)) ∧
    (s.size ≤ 1000 → (bl s).dropWhile (· == 32) ≠ [] → ((signs (bl s)).bind fun L => goP L [] [] []) = none → Ev (fun k => dn_Parse.f k s) ([], 4)) ∧
    (s.size ≤ 1000 → (bl s).dropWhile (· == 32) ≠ [] → ∀ N b, ((signs (bl s)).bind fun L => goP L [] [] []) = some N → Ev (fun k => dn_Right.f k (mkN N)) b → Ev (fun k => dn_Parse.f k s) (if b = true then (mkN N, 0) else ([], 4))) := by
  refine ⟨fun h => ?_, ?_⟩
  · unfold dn_Parse.f
    exact Ev.pos (by omega) Ev.rfl'
  obtain ⟨q1, a1, a2, a3, a4⟩ := blanks_f s (by omega) 0 (Nat.zero_le _)
  rw [List.drop_zero] at a3
  have hstart : ∀ (h : s.size ≤ 1000) (hne : (bl s).dropWhile (· == 32) ≠ []) {o : List (List AvaS) × Int}, Ev (fun k => dn_Parse.l0 k s (mkN []) (mkR []) s (q1 : Int)) o → Ev (fun k => dn_Parse.f k s) o := by
    intro h hne o ho
    unfold dn_Parse.f
    refine Ev.neg (by omega) ?_
    refine Ev.bind a4 (Ev.neg ?_ ho)
    dsimp only
    intro h'
    exact hne (by rw [← a3]; exact drop_end (by omega))
  have hsig : ((signs (bl s)).bind fun L => goP L [] [] []) = goB (s.size + 1) ((bl s).drop q1) [] [] := by
    rw [a3, goB_blank]
    exact (goB_eq (s.size + 1) (bl s) [] [] (by rw [bl_length]; omega)).symm
  refine ⟨fun h he => ?_, fun h hne hn => ?_, fun h hne N b hn hR => ?_⟩
  · unfold dn_Parse.f
    refine Ev.neg (by omega) ?_
    refine Ev.bind a4 (Ev.pos ?_ Ev.rfl')
    dsimp only
    have := drop_nil (a3.trans he)
    omega
  · rw [hsig] at hn
    exact hstart h hne ((parse_loop s hs (s.size + 1) q1 [] [] a2 (by omega) (Nat.zero_le _) (Nat.zero_le _)).1 hn)
  · rw [hsig] at hn
    exact hstart h hne ((parse_loop s hs (s.size + 1) q1 [] [] a2 (by omega) (Nat.zero_le _) (Nat.zero_le _)).2 N b hn hR)
end Go.Proofs.YtpklcnpmppaaoaaGreatDoor.Print
namespace Go.Proofs.YtpklcnpmppaaoaaGreatDoor.Print
open Go.RowKit Go.Proofs.YtpklcnpmppaaoaaGreatDoorW.PrintWords Go.Proofs.YtpklcnpmppaaoaaGreatDoorW.PrintLast Go.Proofs.YtpklcnpmppaaoaaGreatDoorW.PrintMore
attribute [local go_sem] max2_int min2_int max_two min_two max_three min_three max_four min_four
set_option linter.unusedVariables false
set_option linter.unusedSimpArgs false
def R13Blank.f (a0 : Int) : Option (Bool) := if a0 ≥ 9 then (if a0 ≤ 13 then (some true) else (if a0 = 32 then (some true) else (if a0 = 133 then (some true) else (if a0 = 160 then (some true) else (if a0 = 5760 then (some true) else (if a0 ≥ 8192 then (if a0 ≤ 8202 then (some true) else (if a0 = 8232 then (some true) else (if a0 = 8233 then (some true) else (if a0 = 8239 then (some true) else (if a0 = 8287 then (some true) else (some (a0 == 12288))))))) else (if a0 = 8232 then (some true) else (if a0 = 8233 then (some true) else (if a0 = 8239 then (some true) else (if a0 = 8287 then (some true) else (some (a0 == 12288)))))))))))) else (if a0 = 32 then (some true) else (if a0 = 133 then (some true) else (if a0 = 160 then (some true) else (if a0 = 5760 then (some true) else (if a0 ≥ 8192 then (if a0 ≤ 8202 then (some true) else (if a0 = 8232 then (some true) else (if a0 = 8233 then (some true) else (if a0 = 8239 then (some true) else (if a0 = 8287 then (some true) else (some (a0 == 12288))))))) else (if a0 = 8232 then (some true) else (if a0 = 8233 then (some true) else (if a0 = 8239 then (some true) else (if a0 = 8287 then (some true) else (some (a0 == 12288)))))))))))
set_option maxHeartbeats 8000000 in
set_option maxRecDepth 100000 in
theorem R13Blank.calls (a0 : Int) (r : Bool) (w : World) (h : R13Blank.f a0 = some r) :
  Calls Tryz.prog 64 #[.int .i32 a0] w fun e w' => e = .returned (.bool r) ∧ Drawn0 w w' := by
 have H : (if a0 ≥ 9 then (if a0 ≤ 13 then (some true) else (if a0 = 32 then (some true) else (if a0 = 133 then (some true) else (if a0 = 160 then (some true) else (if a0 = 5760 then (some true) else (if a0 ≥ 8192 then (if a0 ≤ 8202 then (some true) else (if a0 = 8232 then (some true) else (if a0 = 8233 then (some true) else (if a0 = 8239 then (some true) else (if a0 = 8287 then (some true) else (some (a0 == 12288))))))) else (if a0 = 8232 then (some true) else (if a0 = 8233 then (some true) else (if a0 = 8239 then (some true) else (if a0 = 8287 then (some true) else (some (a0 == 12288)))))))))))) else (if a0 = 32 then (some true) else (if a0 = 133 then (some true) else (if a0 = 160 then (some true) else (if a0 = 5760 then (some true) else (if a0 ≥ 8192 then (if a0 ≤ 8202 then (some true) else (if a0 = 8232 then (some true) else (if a0 = 8233 then (some true) else (if a0 = 8239 then (some true) else (if a0 = 8287 then (some true) else (some (a0 == 12288))))))) else (if a0 = 8232 then (some true) else (if a0 = 8233 then (some true) else (if a0 = 8239 then (some true) else (if a0 = 8287 then (some true) else (some (a0 == 12288)))))))))))) = some r := h
 clear h
 by_cases c2 : a0 ≥ 9
 ·
  rw [if_pos c2] at H
  have c2b0 := decide_eq_true c2
  clear c2
  by_cases c3 : a0 ≤ 13
  ·
   rw [if_pos c3] at H
   have c3b0 := decide_eq_true c3
   clear c3
   obtain rfl := Option.some.inj H
   go_enter Tryz.func64, Tryz.ntmps64
   go_wp2
   go_ret
   exact ⟨ap2, ap7⟩
  ·
   rw [if_neg c3] at H
   have c3b0 := decide_eq_false c3
   clear c3
   by_cases c4 : a0 = 32
   ·
    rw [if_pos c4] at H
    have c4b0 : (a0 == 32) = true := beq_iff_eq.mpr c4
    have c4b1 : (a0 != 32) = false := bne_eq_false_iff_eq.mpr c4
    clear c4
    obtain rfl := Option.some.inj H
    go_enter Tryz.func64, Tryz.ntmps64
    go_wp2
    go_ret
    exact ⟨ap2, ap7⟩
   ·
    rw [if_neg c4] at H
    have c4b0 : (a0 == 32) = false := beq_eq_false_iff_ne.mpr c4
    have c4b1 : (a0 != 32) = true := bne_iff_ne.mpr c4
    by_cases c5 : a0 = 133
    ·
     rw [if_pos c5] at H
     have c5b0 : (a0 == 133) = true := beq_iff_eq.mpr c5
     have c5b1 : (a0 != 133) = false := bne_eq_false_iff_eq.mpr c5
     clear c5
     obtain rfl := Option.some.inj H
     go_enter Tryz.func64, Tryz.ntmps64
     go_wp2
     go_ret
     exact ⟨ap2, ap7⟩
    ·
     rw [if_neg c5] at H
     have c5b0 : (a0 == 133) = false := beq_eq_false_iff_ne.mpr c5
     have c5b1 : (a0 != 133) = true := bne_iff_ne.mpr c5
     by_cases c6 : a0 = 160
     ·
      rw [if_pos c6] at H
      have c6b0 : (a0 == 160) = true := beq_iff_eq.mpr c6
      have c6b1 : (a0 != 160) = false := bne_eq_false_iff_eq.mpr c6
      clear c6
      obtain rfl := Option.some.inj H
      go_enter Tryz.func64, Tryz.ntmps64
      go_wp2
      go_ret
      exact ⟨ap2, ap7⟩
     ·
      rw [if_neg c6] at H
      have c6b0 : (a0 == 160) = false := beq_eq_false_iff_ne.mpr c6
      have c6b1 : (a0 != 160) = true := bne_iff_ne.mpr c6
      by_cases c7 : a0 = 5760
      ·
       rw [if_pos c7] at H
       have c7b0 : (a0 == 5760) = true := beq_iff_eq.mpr c7
       have c7b1 : (a0 != 5760) = false := bne_eq_false_iff_eq.mpr c7
       clear c7
       obtain rfl := Option.some.inj H
       go_enter Tryz.func64, Tryz.ntmps64
       go_wp2
       go_ret
       exact ⟨ap2, ap7⟩
      ·
       rw [if_neg c7] at H
       have c7b0 : (a0 == 5760) = false := beq_eq_false_iff_ne.mpr c7
       have c7b1 : (a0 != 5760) = true := bne_iff_ne.mpr c7
       by_cases c8 : a0 ≥ 8192
       ·
        rw [if_pos c8] at H
        have c8b0 := decide_eq_true c8
        clear c8
        by_cases c9 : a0 ≤ 8202
        ·
         rw [if_pos c9] at H
         have c9b0 := decide_eq_true c9
         clear c9
         obtain rfl := Option.some.inj H
         go_enter Tryz.func64, Tryz.ntmps64
         go_wp2
         go_ret
         exact ⟨ap2, ap7⟩
        ·
         rw [if_neg c9] at H
         have c9b0 := decide_eq_false c9
         clear c9
         by_cases c10 : a0 = 8232
         ·
          rw [if_pos c10] at H
          have c10b0 : (a0 == 8232) = true := beq_iff_eq.mpr c10
          have c10b1 : (a0 != 8232) = false := bne_eq_false_iff_eq.mpr c10
          clear c10
          obtain rfl := Option.some.inj H
          go_enter Tryz.func64, Tryz.ntmps64
          go_wp2
          go_ret
          exact ⟨ap2, ap7⟩
         ·
          rw [if_neg c10] at H
          have c10b0 : (a0 == 8232) = false := beq_eq_false_iff_ne.mpr c10
          have c10b1 : (a0 != 8232) = true := bne_iff_ne.mpr c10
          by_cases c11 : a0 = 8233
          ·
           rw [if_pos c11] at H
           have c11b0 : (a0 == 8233) = true := beq_iff_eq.mpr c11
           have c11b1 : (a0 != 8233) = false := bne_eq_false_iff_eq.mpr c11
           clear c11
           obtain rfl := Option.some.inj H
           go_enter Tryz.func64, Tryz.ntmps64
           go_wp2
           go_ret
           exact ⟨ap2, ap7⟩
          ·
           rw [if_neg c11] at H
           have c11b0 : (a0 == 8233) = false := beq_eq_false_iff_ne.mpr c11
           have c11b1 : (a0 != 8233) = true := bne_iff_ne.mpr c11
           by_cases c12 : a0 = 8239
           ·
            rw [if_pos c12] at H
            have c12b0 : (a0 == 8239) = true := beq_iff_eq.mpr c12
            have c12b1 : (a0 != 8239) = false := bne_eq_false_iff_eq.mpr c12
            clear c12
            obtain rfl := Option.some.inj H
            go_enter Tryz.func64, Tryz.ntmps64
            go_wp2
            go_ret
            exact ⟨ap2, ap7⟩
           ·
            rw [if_neg c12] at H
            have c12b0 : (a0 == 8239) = false := beq_eq_false_iff_ne.mpr c12
            have c12b1 : (a0 != 8239) = true := bne_iff_ne.mpr c12
            by_cases c13 : a0 = 8287
            ·
             rw [if_pos c13] at H
             have c13b0 : (a0 == 8287) = true := beq_iff_eq.mpr c13
             have c13b1 : (a0 != 8287) = false := bne_eq_false_iff_eq.mpr c13
             clear c13
             obtain rfl := Option.some.inj H
             go_enter Tryz.func64, Tryz.ntmps64
             go_wp2
             go_ret
             exact ⟨ap2, ap7⟩
            ·
             rw [if_neg c13] at H
             have c13b0 : (a0 == 8287) = false := beq_eq_false_iff_ne.mpr c13
             have c13b1 : (a0 != 8287) = true := bne_iff_ne.mpr c13
             obtain rfl := Option.some.inj H
             go_enter Tryz.func64, Tryz.ntmps64
             go_wp2
             go_ret
             exact ⟨ap2, ap7⟩
       ·
        rw [if_neg c8] at H
        have c8b0 := decide_eq_false c8
        clear c8
        by_cases c14 : a0 = 8232
        ·
         rw [if_pos c14] at H
         have c14b0 : (a0 == 8232) = true := beq_iff_eq.mpr c14
         have c14b1 : (a0 != 8232) = false := bne_eq_false_iff_eq.mpr c14
         clear c14
         obtain rfl := Option.some.inj H
         go_enter Tryz.func64, Tryz.ntmps64
         go_wp2
         go_ret
         exact ⟨ap2, ap7⟩
        ·
         rw [if_neg c14] at H
         have c14b0 : (a0 == 8232) = false := beq_eq_false_iff_ne.mpr c14
         have c14b1 : (a0 != 8232) = true := bne_iff_ne.mpr c14
         by_cases c15 : a0 = 8233
         ·
          rw [if_pos c15] at H
          have c15b0 : (a0 == 8233) = true := beq_iff_eq.mpr c15
          have c15b1 : (a0 != 8233) = false := bne_eq_false_iff_eq.mpr c15
          clear c15
          obtain rfl := Option.some.inj H
          go_enter Tryz.func64, Tryz.ntmps64
          go_wp2
          go_ret
          exact ⟨ap2, ap7⟩
         ·
          rw [if_neg c15] at H
          have c15b0 : (a0 == 8233) = false := beq_eq_false_iff_ne.mpr c15
          have c15b1 : (a0 != 8233) = true := bne_iff_ne.mpr c15
          by_cases c16 : a0 = 8239
          ·
           rw [if_pos c16] at H
           have c16b0 : (a0 == 8239) = true := beq_iff_eq.mpr c16
           have c16b1 : (a0 != 8239) = false := bne_eq_false_iff_eq.mpr c16
           clear c16
           obtain rfl := Option.some.inj H
           go_enter Tryz.func64, Tryz.ntmps64
           go_wp2
           go_ret
           exact ⟨ap2, ap7⟩
          ·
           rw [if_neg c16] at H
           have c16b0 : (a0 == 8239) = false := beq_eq_false_iff_ne.mpr c16
           have c16b1 : (a0 != 8239) = true := bne_iff_ne.mpr c16
           by_cases c17 : a0 = 8287
           ·
            rw [if_pos c17] at H
            have c17b0 : (a0 == 8287) = true := beq_iff_eq.mpr c17
            have c17b1 : (a0 != 8287) = false := bne_eq_false_iff_eq.mpr c17
            clear c17
            obtain rfl := Option.some.inj H
            go_enter Tryz.func64, Tryz.ntmps64
            go_wp2
            go_ret
            exact ⟨ap2, ap7⟩
           ·
            rw [if_neg c17] at H
            have c17b0 : (a0 == 8287) = false := beq_eq_false_iff_ne.mpr c17
            have c17b1 : (a0 != 8287) = true := bne_iff_ne.mpr c17
            obtain rfl := Option.some.inj H
            go_enter Tryz.func64, Tryz.ntmps64
            go_wp2
            go_ret
            exact ⟨ap2, ap7⟩
 ·
  rw [if_neg c2] at H
  have c2b0 := decide_eq_false c2
  clear c2
  by_cases c18 : a0 = 32
  ·
   rw [if_pos c18] at H
   have c18b0 : (a0 == 32) = true := beq_iff_eq.mpr c18
   have c18b1 : (a0 != 32) = false := bne_eq_false_iff_eq.mpr c18
   clear c18
   obtain rfl := Option.some.inj H
   go_enter Tryz.func64, Tryz.ntmps64
   go_wp2
   go_ret
   exact ⟨ap2, ap7⟩
  ·
   rw [if_neg c18] at H
   have c18b0 : (a0 == 32) = false := beq_eq_false_iff_ne.mpr c18
   have c18b1 : (a0 != 32) = true := bne_iff_ne.mpr c18
   by_cases c19 : a0 = 133
   ·
    rw [if_pos c19] at H
    have c19b0 : (a0 == 133) = true := beq_iff_eq.mpr c19
    have c19b1 : (a0 != 133) = false := bne_eq_false_iff_eq.mpr c19
    clear c19
    obtain rfl := Option.some.inj H
    go_enter Tryz.func64, Tryz.ntmps64
    go_wp2
    go_ret
    exact ⟨ap2, ap7⟩
   ·
    rw [if_neg c19] at H
    have c19b0 : (a0 == 133) = false := beq_eq_false_iff_ne.mpr c19
    have c19b1 : (a0 != 133) = true := bne_iff_ne.mpr c19
    by_cases c20 : a0 = 160
    ·
     rw [if_pos c20] at H
     have c20b0 : (a0 == 160) = true := beq_iff_eq.mpr c20
     have c20b1 : (a0 != 160) = false := bne_eq_false_iff_eq.mpr c20
     clear c20
     obtain rfl := Option.some.inj H
     go_enter Tryz.func64, Tryz.ntmps64
     go_wp2
     go_ret
     exact ⟨ap2, ap7⟩
    ·
     rw [if_neg c20] at H
     have c20b0 : (a0 == 160) = false := beq_eq_false_iff_ne.mpr c20
     have c20b1 : (a0 != 160) = true := bne_iff_ne.mpr c20
     by_cases c21 : a0 = 5760
     ·
      rw [if_pos c21] at H
      have c21b0 : (a0 == 5760) = true := beq_iff_eq.mpr c21
      have c21b1 : (a0 != 5760) = false := bne_eq_false_iff_eq.mpr c21
      clear c21
      obtain rfl := Option.some.inj H
      go_enter Tryz.func64, Tryz.ntmps64
      go_wp2
      go_ret
      exact ⟨ap2, ap7⟩
     ·
      rw [if_neg c21] at H
      have c21b0 : (a0 == 5760) = false := beq_eq_false_iff_ne.mpr c21
      have c21b1 : (a0 != 5760) = true := bne_iff_ne.mpr c21
      by_cases c22 : a0 ≥ 8192
      ·
       rw [if_pos c22] at H
       have c22b0 := decide_eq_true c22
       clear c22
       by_cases c23 : a0 ≤ 8202
       ·
        rw [if_pos c23] at H
        have c23b0 := decide_eq_true c23
        clear c23
        obtain rfl := Option.some.inj H
        go_enter Tryz.func64, Tryz.ntmps64
        go_wp2
        go_ret
        exact ⟨ap2, ap7⟩
       ·
        rw [if_neg c23] at H
        have c23b0 := decide_eq_false c23
        clear c23
        by_cases c24 : a0 = 8232
        ·
         rw [if_pos c24] at H
         have c24b0 : (a0 == 8232) = true := beq_iff_eq.mpr c24
         have c24b1 : (a0 != 8232) = false := bne_eq_false_iff_eq.mpr c24
         clear c24
         obtain rfl := Option.some.inj H
         go_enter Tryz.func64, Tryz.ntmps64
         go_wp2
         go_ret
         exact ⟨ap2, ap7⟩
        ·
         rw [if_neg c24] at H
         have c24b0 : (a0 == 8232) = false := beq_eq_false_iff_ne.mpr c24
         have c24b1 : (a0 != 8232) = true := bne_iff_ne.mpr c24
         by_cases c25 : a0 = 8233
         ·
          rw [if_pos c25] at H
          have c25b0 : (a0 == 8233) = true := beq_iff_eq.mpr c25
          have c25b1 : (a0 != 8233) = false := bne_eq_false_iff_eq.mpr c25
          clear c25
          obtain rfl := Option.some.inj H
          go_enter Tryz.func64, Tryz.ntmps64
          go_wp2
          go_ret
          exact ⟨ap2, ap7⟩
         ·
          rw [if_neg c25] at H
          have c25b0 : (a0 == 8233) = false := beq_eq_false_iff_ne.mpr c25
          have c25b1 : (a0 != 8233) = true := bne_iff_ne.mpr c25
          by_cases c26 : a0 = 8239
          ·
           rw [if_pos c26] at H
           have c26b0 : (a0 == 8239) = true := beq_iff_eq.mpr c26
           have c26b1 : (a0 != 8239) = false := bne_eq_false_iff_eq.mpr c26
           clear c26
           obtain rfl := Option.some.inj H
           go_enter Tryz.func64, Tryz.ntmps64
           go_wp2
           go_ret
           exact ⟨ap2, ap7⟩
          ·
           rw [if_neg c26] at H
           have c26b0 : (a0 == 8239) = false := beq_eq_false_iff_ne.mpr c26
           have c26b1 : (a0 != 8239) = true := bne_iff_ne.mpr c26
           by_cases c27 : a0 = 8287
           ·
            rw [if_pos c27] at H
            have c27b0 : (a0 == 8287) = true := beq_iff_eq.mpr c27
            have c27b1 : (a0 != 8287) = false := bne_eq_false_iff_eq.mpr c27
            clear c27
            obtain rfl := Option.some.inj H
            go_enter Tryz.func64, Tryz.ntmps64
            go_wp2
            go_ret
            exact ⟨ap2, ap7⟩
           ·
            rw [if_neg c27] at H
            have c27b0 : (a0 == 8287) = false := beq_eq_false_iff_ne.mpr c27
            have c27b1 : (a0 != 8287) = true := bne_iff_ne.mpr c27
            obtain rfl := Option.some.inj H
            go_enter Tryz.func64, Tryz.ntmps64
            go_wp2
            go_ret
            exact ⟨ap2, ap7⟩
      ·
       rw [if_neg c22] at H
       have c22b0 := decide_eq_false c22
       clear c22
       by_cases c28 : a0 = 8232
       ·
        rw [if_pos c28] at H
        have c28b0 : (a0 == 8232) = true := beq_iff_eq.mpr c28
        have c28b1 : (a0 != 8232) = false := bne_eq_false_iff_eq.mpr c28
        clear c28
        obtain rfl := Option.some.inj H
        go_enter Tryz.func64, Tryz.ntmps64
        go_wp2
        go_ret
        exact ⟨ap2, ap7⟩
       ·
        rw [if_neg c28] at H
        have c28b0 : (a0 == 8232) = false := beq_eq_false_iff_ne.mpr c28
        have c28b1 : (a0 != 8232) = true := bne_iff_ne.mpr c28
        by_cases c29 : a0 = 8233
        ·
         rw [if_pos c29] at H
         have c29b0 : (a0 == 8233) = true := beq_iff_eq.mpr c29
         have c29b1 : (a0 != 8233) = false := bne_eq_false_iff_eq.mpr c29
         clear c29
         obtain rfl := Option.some.inj H
         go_enter Tryz.func64, Tryz.ntmps64
         go_wp2
         go_ret
         exact ⟨ap2, ap7⟩
        ·
         rw [if_neg c29] at H
         have c29b0 : (a0 == 8233) = false := beq_eq_false_iff_ne.mpr c29
         have c29b1 : (a0 != 8233) = true := bne_iff_ne.mpr c29
         by_cases c30 : a0 = 8239
         ·
          rw [if_pos c30] at H
          have c30b0 : (a0 == 8239) = true := beq_iff_eq.mpr c30
          have c30b1 : (a0 != 8239) = false := bne_eq_false_iff_eq.mpr c30
          clear c30
          obtain rfl := Option.some.inj H
          go_enter Tryz.func64, Tryz.ntmps64
          go_wp2
          go_ret
          exact ⟨ap2, ap7⟩
         ·
          rw [if_neg c30] at H
          have c30b0 : (a0 == 8239) = false := beq_eq_false_iff_ne.mpr c30
          have c30b1 : (a0 != 8239) = true := bne_iff_ne.mpr c30
          by_cases c31 : a0 = 8287
          ·
           rw [if_pos c31] at H
           have c31b0 : (a0 == 8287) = true := beq_iff_eq.mpr c31
           have c31b1 : (a0 != 8287) = false := bne_eq_false_iff_eq.mpr c31
           clear c31
           obtain rfl := Option.some.inj H
           go_enter Tryz.func64, Tryz.ntmps64
           go_wp2
           go_ret
           exact ⟨ap2, ap7⟩
          ·
           rw [if_neg c31] at H
           have c31b0 : (a0 == 8287) = false := beq_eq_false_iff_ne.mpr c31
           have c31b1 : (a0 != 8287) = true := bne_iff_ne.mpr c31
           obtain rfl := Option.some.inj H
           go_enter Tryz.func64, Tryz.ntmps64
           go_wp2
           go_ret
           exact ⟨ap2, ap7⟩
def R13Dropped.f (a0 : Int) : Option (Bool) := if a0 ≤ 8 then (some true) else (if a0 ≥ 14 then (if a0 ≤ 31 then (some true) else (if a0 ≥ 127 then (if a0 ≤ 132 then (some true) else (if a0 ≥ 134 then (if a0 ≤ 159 then (some true) else (if a0 = 173 then (some true) else (if a0 ≥ 8203 then (if a0 ≤ 8207 then (some true) else (some (a0 == 65279))) else (some (a0 == 65279))))) else (if a0 = 173 then (some true) else (if a0 ≥ 8203 then (if a0 ≤ 8207 then (some true) else (some (a0 == 65279))) else (some (a0 == 65279)))))) else (if a0 ≥ 134 then (if a0 ≤ 159 then (some true) else (if a0 = 173 then (some true) else (if a0 ≥ 8203 then (if a0 ≤ 8207 then (some true) else (some (a0 == 65279))) else (some (a0 == 65279))))) else (if a0 = 173 then (some true) else (if a0 ≥ 8203 then (if a0 ≤ 8207 then (some true) else (some (a0 == 65279))) else (some (a0 == 65279))))))) else (if a0 ≥ 127 then (if a0 ≤ 132 then (some true) else (if a0 ≥ 134 then (if a0 ≤ 159 then (some true) else (if a0 = 173 then (some true) else (if a0 ≥ 8203 then (if a0 ≤ 8207 then (some true) else (some (a0 == 65279))) else (some (a0 == 65279))))) else (if a0 = 173 then (some true) else (if a0 ≥ 8203 then (if a0 ≤ 8207 then (some true) else (some (a0 == 65279))) else (some (a0 == 65279)))))) else (if a0 ≥ 134 then (if a0 ≤ 159 then (some true) else (if a0 = 173 then (some true) else (if a0 ≥ 8203 then (if a0 ≤ 8207 then (some true) else (some (a0 == 65279))) else (some (a0 == 65279))))) else (if a0 = 173 then (some true) else (if a0 ≥ 8203 then (if a0 ≤ 8207 then (some true) else (some (a0 == 65279))) else (some (a0 == 65279)))))))
set_option maxHeartbeats 8000000 in
set_option maxRecDepth 100000 in
theorem R13Dropped.calls (a0 : Int) (r : Bool) (w : World) (h : R13Dropped.f a0 = some r) :
  Calls Tryz.prog 63 #[.int .i32 a0] w fun e w' => e = .returned (.bool r) ∧ Drawn0 w w' := by
 have H : (if a0 ≤ 8 then (some true) else (if a0 ≥ 14 then (if a0 ≤ 31 then (some true) else (if a0 ≥ 127 then (if a0 ≤ 132 then (some true) else (if a0 ≥ 134 then (if a0 ≤ 159 then (some true) else (if a0 = 173 then (some true) else (if a0 ≥ 8203 then (if a0 ≤ 8207 then (some true) else (some (a0 == 65279))) else (some (a0 == 65279))))) else (if a0 = 173 then (some true) else (if a0 ≥ 8203 then (if a0 ≤ 8207 then (some true) else (some (a0 == 65279))) else (some (a0 == 65279)))))) else (if a0 ≥ 134 then (if a0 ≤ 159 then (some true) else (if a0 = 173 then (some true) else (if a0 ≥ 8203 then (if a0 ≤ 8207 then (some true) else (some (a0 == 65279))) else (some (a0 == 65279))))) else (if a0 = 173 then (some true) else (if a0 ≥ 8203 then (if a0 ≤ 8207 then (some true) else (some (a0 == 65279))) else (some (a0 == 65279))))))) else (if a0 ≥ 127 then (if a0 ≤ 132 then (some true) else (if a0 ≥ 134 then (if a0 ≤ 159 then (some true) else (if a0 = 173 then (some true) else (if a0 ≥ 8203 then (if a0 ≤ 8207 then (some true) else (some (a0 == 65279))) else (some (a0 == 65279))))) else (if a0 = 173 then (some true) else (if a0 ≥ 8203 then (if a0 ≤ 8207 then (some true) else (some (a0 == 65279))) else (some (a0 == 65279)))))) else (if a0 ≥ 134 then (if a0 ≤ 159 then (some true) else (if a0 = 173 then (some true) else (if a0 ≥ 8203 then (if a0 ≤ 8207 then (some true) else (some (a0 == 65279))) else (some (a0 == 65279))))) else (if a0 = 173 then (some true) else (if a0 ≥ 8203 then (if a0 ≤ 8207 then (some true) else (some (a0 == 65279))) else (some (a0 == 65279)))))))) = some r := h
 clear h
 by_cases c2 : a0 ≤ 8
 ·
  rw [if_pos c2] at H
  have c2b0 := decide_eq_true c2
  clear c2
  obtain rfl := Option.some.inj H
  go_enter Tryz.func63, Tryz.ntmps63
  go_wp2
  go_ret
  exact ⟨ap2, ap7⟩
 ·
  rw [if_neg c2] at H
  have c2b0 := decide_eq_false c2
  clear c2
  by_cases c3 : a0 ≥ 14
  ·
   rw [if_pos c3] at H
   have c3b0 := decide_eq_true c3
   clear c3
   by_cases c4 : a0 ≤ 31
   ·
    rw [if_pos c4] at H
    have c4b0 := decide_eq_true c4
    clear c4
    obtain rfl := Option.some.inj H
    go_enter Tryz.func63, Tryz.ntmps63
    go_wp2
    go_ret
    exact ⟨ap2, ap7⟩
   ·
    rw [if_neg c4] at H
    have c4b0 := decide_eq_false c4
    clear c4
    by_cases c5 : a0 ≥ 127
    ·
     rw [if_pos c5] at H
     have c5b0 := decide_eq_true c5
     clear c5
     by_cases c6 : a0 ≤ 132
     ·
      rw [if_pos c6] at H
      have c6b0 := decide_eq_true c6
      clear c6
      obtain rfl := Option.some.inj H
      go_enter Tryz.func63, Tryz.ntmps63
      go_wp2
      go_ret
      exact ⟨ap2, ap7⟩
     ·
      rw [if_neg c6] at H
      have c6b0 := decide_eq_false c6
      clear c6
      by_cases c7 : a0 ≥ 134
      ·
       rw [if_pos c7] at H
       have c7b0 := decide_eq_true c7
       clear c7
       by_cases c8 : a0 ≤ 159
       ·
        rw [if_pos c8] at H
        have c8b0 := decide_eq_true c8
        clear c8
        obtain rfl := Option.some.inj H
        go_enter Tryz.func63, Tryz.ntmps63
        go_wp2
        go_ret
        exact ⟨ap2, ap7⟩
       ·
        rw [if_neg c8] at H
        have c8b0 := decide_eq_false c8
        clear c8
        by_cases c9 : a0 = 173
        ·
         rw [if_pos c9] at H
         have c9b0 : (a0 == 173) = true := beq_iff_eq.mpr c9
         have c9b1 : (a0 != 173) = false := bne_eq_false_iff_eq.mpr c9
         clear c9
         obtain rfl := Option.some.inj H
         go_enter Tryz.func63, Tryz.ntmps63
         go_wp2
         go_ret
         exact ⟨ap2, ap7⟩
        ·
         rw [if_neg c9] at H
         have c9b0 : (a0 == 173) = false := beq_eq_false_iff_ne.mpr c9
         have c9b1 : (a0 != 173) = true := bne_iff_ne.mpr c9
         by_cases c10 : a0 ≥ 8203
         ·
          rw [if_pos c10] at H
          have c10b0 := decide_eq_true c10
          clear c10
          by_cases c11 : a0 ≤ 8207
          ·
           rw [if_pos c11] at H
           have c11b0 := decide_eq_true c11
           clear c11
           obtain rfl := Option.some.inj H
           go_enter Tryz.func63, Tryz.ntmps63
           go_wp2
           go_ret
           exact ⟨ap2, ap7⟩
          ·
           rw [if_neg c11] at H
           have c11b0 := decide_eq_false c11
           clear c11
           obtain rfl := Option.some.inj H
           go_enter Tryz.func63, Tryz.ntmps63
           go_wp2
           go_ret
           exact ⟨ap2, ap7⟩
         ·
          rw [if_neg c10] at H
          have c10b0 := decide_eq_false c10
          clear c10
          obtain rfl := Option.some.inj H
          go_enter Tryz.func63, Tryz.ntmps63
          go_wp2
          go_ret
          exact ⟨ap2, ap7⟩
      ·
       rw [if_neg c7] at H
       have c7b0 := decide_eq_false c7
       clear c7
       by_cases c12 : a0 = 173
       ·
        rw [if_pos c12] at H
        have c12b0 : (a0 == 173) = true := beq_iff_eq.mpr c12
        have c12b1 : (a0 != 173) = false := bne_eq_false_iff_eq.mpr c12
        clear c12
        obtain rfl := Option.some.inj H
        go_enter Tryz.func63, Tryz.ntmps63
        go_wp2
        go_ret
        exact ⟨ap2, ap7⟩
       ·
        rw [if_neg c12] at H
        have c12b0 : (a0 == 173) = false := beq_eq_false_iff_ne.mpr c12
        have c12b1 : (a0 != 173) = true := bne_iff_ne.mpr c12
        by_cases c13 : a0 ≥ 8203
        ·
         rw [if_pos c13] at H
         have c13b0 := decide_eq_true c13
         clear c13
         by_cases c14 : a0 ≤ 8207
         ·
          rw [if_pos c14] at H
          have c14b0 := decide_eq_true c14
          clear c14
          obtain rfl := Option.some.inj H
          go_enter Tryz.func63, Tryz.ntmps63
          go_wp2
          go_ret
          exact ⟨ap2, ap7⟩
         ·
          rw [if_neg c14] at H
          have c14b0 := decide_eq_false c14
          clear c14
          obtain rfl := Option.some.inj H
          go_enter Tryz.func63, Tryz.ntmps63
          go_wp2
          go_ret
          exact ⟨ap2, ap7⟩
        ·
         rw [if_neg c13] at H
         have c13b0 := decide_eq_false c13
         clear c13
         obtain rfl := Option.some.inj H
         go_enter Tryz.func63, Tryz.ntmps63
         go_wp2
         go_ret
         exact ⟨ap2, ap7⟩
    ·
     rw [if_neg c5] at H
     have c5b0 := decide_eq_false c5
     clear c5
     by_cases c15 : a0 ≥ 134
     ·
      rw [if_pos c15] at H
      have c15b0 := decide_eq_true c15
      clear c15
      by_cases c16 : a0 ≤ 159
      ·
       rw [if_pos c16] at H
       have c16b0 := decide_eq_true c16
       clear c16
       obtain rfl := Option.some.inj H
       go_enter Tryz.func63, Tryz.ntmps63
       go_wp2
       go_ret
       exact ⟨ap2, ap7⟩
      ·
       rw [if_neg c16] at H
       have c16b0 := decide_eq_false c16
       clear c16
       by_cases c17 : a0 = 173
       ·
        rw [if_pos c17] at H
        have c17b0 : (a0 == 173) = true := beq_iff_eq.mpr c17
        have c17b1 : (a0 != 173) = false := bne_eq_false_iff_eq.mpr c17
        clear c17
        obtain rfl := Option.some.inj H
        go_enter Tryz.func63, Tryz.ntmps63
        go_wp2
        go_ret
        exact ⟨ap2, ap7⟩
       ·
        rw [if_neg c17] at H
        have c17b0 : (a0 == 173) = false := beq_eq_false_iff_ne.mpr c17
        have c17b1 : (a0 != 173) = true := bne_iff_ne.mpr c17
        by_cases c18 : a0 ≥ 8203
        ·
         rw [if_pos c18] at H
         have c18b0 := decide_eq_true c18
         clear c18
         by_cases c19 : a0 ≤ 8207
         ·
          rw [if_pos c19] at H
          have c19b0 := decide_eq_true c19
          clear c19
          obtain rfl := Option.some.inj H
          go_enter Tryz.func63, Tryz.ntmps63
          go_wp2
          go_ret
          exact ⟨ap2, ap7⟩
         ·
          rw [if_neg c19] at H
          have c19b0 := decide_eq_false c19
          clear c19
          obtain rfl := Option.some.inj H
          go_enter Tryz.func63, Tryz.ntmps63
          go_wp2
          go_ret
          exact ⟨ap2, ap7⟩
        ·
         rw [if_neg c18] at H
         have c18b0 := decide_eq_false c18
         clear c18
         obtain rfl := Option.some.inj H
         go_enter Tryz.func63, Tryz.ntmps63
         go_wp2
         go_ret
         exact ⟨ap2, ap7⟩
     ·
      rw [if_neg c15] at H
      have c15b0 := decide_eq_false c15
      clear c15
      by_cases c20 : a0 = 173
      ·
       rw [if_pos c20] at H
       have c20b0 : (a0 == 173) = true := beq_iff_eq.mpr c20
       have c20b1 : (a0 != 173) = false := bne_eq_false_iff_eq.mpr c20
       clear c20
       obtain rfl := Option.some.inj H
       go_enter Tryz.func63, Tryz.ntmps63
       go_wp2
       go_ret
       exact ⟨ap2, ap7⟩
      ·
       rw [if_neg c20] at H
       have c20b0 : (a0 == 173) = false := beq_eq_false_iff_ne.mpr c20
       have c20b1 : (a0 != 173) = true := bne_iff_ne.mpr c20
       by_cases c21 : a0 ≥ 8203
       ·
        rw [if_pos c21] at H
        have c21b0 := decide_eq_true c21
        clear c21
        by_cases c22 : a0 ≤ 8207
        ·
         rw [if_pos c22] at H
         have c22b0 := decide_eq_true c22
         clear c22
         obtain rfl := Option.some.inj H
         go_enter Tryz.func63, Tryz.ntmps63
         go_wp2
         go_ret
         exact ⟨ap2, ap7⟩
        ·
         rw [if_neg c22] at H
         have c22b0 := decide_eq_false c22
         clear c22
         obtain rfl := Option.some.inj H
         go_enter Tryz.func63, Tryz.ntmps63
         go_wp2
         go_ret
         exact ⟨ap2, ap7⟩
       ·
        rw [if_neg c21] at H
        have c21b0 := decide_eq_false c21
        clear c21
        obtain rfl := Option.some.inj H
        go_enter Tryz.func63, Tryz.ntmps63
        go_wp2
        go_ret
        exact ⟨ap2, ap7⟩
  ·
   rw [if_neg c3] at H
   have c3b0 := decide_eq_false c3
   clear c3
   by_cases c23 : a0 ≥ 127
   ·
    rw [if_pos c23] at H
    have c23b0 := decide_eq_true c23
    clear c23
    by_cases c24 : a0 ≤ 132
    ·
     rw [if_pos c24] at H
     have c24b0 := decide_eq_true c24
     clear c24
     obtain rfl := Option.some.inj H
     go_enter Tryz.func63, Tryz.ntmps63
     go_wp2
     go_ret
     exact ⟨ap2, ap7⟩
    ·
     rw [if_neg c24] at H
     have c24b0 := decide_eq_false c24
     clear c24
     by_cases c25 : a0 ≥ 134
     ·
      rw [if_pos c25] at H
      have c25b0 := decide_eq_true c25
      clear c25
      by_cases c26 : a0 ≤ 159
      ·
       rw [if_pos c26] at H
       have c26b0 := decide_eq_true c26
       clear c26
       obtain rfl := Option.some.inj H
       go_enter Tryz.func63, Tryz.ntmps63
       go_wp2
       go_ret
       exact ⟨ap2, ap7⟩
      ·
       rw [if_neg c26] at H
       have c26b0 := decide_eq_false c26
       clear c26
       by_cases c27 : a0 = 173
       ·
        rw [if_pos c27] at H
        have c27b0 : (a0 == 173) = true := beq_iff_eq.mpr c27
        have c27b1 : (a0 != 173) = false := bne_eq_false_iff_eq.mpr c27
        clear c27
        obtain rfl := Option.some.inj H
        go_enter Tryz.func63, Tryz.ntmps63
        go_wp2
        go_ret
        exact ⟨ap2, ap7⟩
       ·
        rw [if_neg c27] at H
        have c27b0 : (a0 == 173) = false := beq_eq_false_iff_ne.mpr c27
        have c27b1 : (a0 != 173) = true := bne_iff_ne.mpr c27
        by_cases c28 : a0 ≥ 8203
        ·
         rw [if_pos c28] at H
         have c28b0 := decide_eq_true c28
         clear c28
         by_cases c29 : a0 ≤ 8207
         ·
          rw [if_pos c29] at H
          have c29b0 := decide_eq_true c29
          clear c29
          obtain rfl := Option.some.inj H
          go_enter Tryz.func63, Tryz.ntmps63
          go_wp2
          go_ret
          exact ⟨ap2, ap7⟩
         ·
          rw [if_neg c29] at H
          have c29b0 := decide_eq_false c29
          clear c29
          obtain rfl := Option.some.inj H
          go_enter Tryz.func63, Tryz.ntmps63
          go_wp2
          go_ret
          exact ⟨ap2, ap7⟩
        ·
         rw [if_neg c28] at H
         have c28b0 := decide_eq_false c28
         clear c28
         obtain rfl := Option.some.inj H
         go_enter Tryz.func63, Tryz.ntmps63
         go_wp2
         go_ret
         exact ⟨ap2, ap7⟩
     ·
      rw [if_neg c25] at H
      have c25b0 := decide_eq_false c25
      clear c25
      by_cases c30 : a0 = 173
      ·
       rw [if_pos c30] at H
       have c30b0 : (a0 == 173) = true := beq_iff_eq.mpr c30
       have c30b1 : (a0 != 173) = false := bne_eq_false_iff_eq.mpr c30
       clear c30
       obtain rfl := Option.some.inj H
       go_enter Tryz.func63, Tryz.ntmps63
       go_wp2
       go_ret
       exact ⟨ap2, ap7⟩
      ·
       rw [if_neg c30] at H
       have c30b0 : (a0 == 173) = false := beq_eq_false_iff_ne.mpr c30
       have c30b1 : (a0 != 173) = true := bne_iff_ne.mpr c30
       by_cases c31 : a0 ≥ 8203
       ·
        rw [if_pos c31] at H
        have c31b0 := decide_eq_true c31
        clear c31
        by_cases c32 : a0 ≤ 8207
        ·
         rw [if_pos c32] at H
         have c32b0 := decide_eq_true c32
         clear c32
         obtain rfl := Option.some.inj H
         go_enter Tryz.func63, Tryz.ntmps63
         go_wp2
         go_ret
         exact ⟨ap2, ap7⟩
        ·
         rw [if_neg c32] at H
         have c32b0 := decide_eq_false c32
         clear c32
         obtain rfl := Option.some.inj H
         go_enter Tryz.func63, Tryz.ntmps63
         go_wp2
         go_ret
         exact ⟨ap2, ap7⟩
       ·
        rw [if_neg c31] at H
        have c31b0 := decide_eq_false c31
        clear c31
        obtain rfl := Option.some.inj H
        go_enter Tryz.func63, Tryz.ntmps63
        go_wp2
        go_ret
        exact ⟨ap2, ap7⟩
   ·
    rw [if_neg c23] at H
    have c23b0 := decide_eq_false c23
    clear c23
    by_cases c33 : a0 ≥ 134
    ·
     rw [if_pos c33] at H
     have c33b0 := decide_eq_true c33
     clear c33
     by_cases c34 : a0 ≤ 159
     ·
      rw [if_pos c34] at H
      have c34b0 := decide_eq_true c34
      clear c34
      obtain rfl := Option.some.inj H
      go_enter Tryz.func63, Tryz.ntmps63
      go_wp2
      go_ret
      exact ⟨ap2, ap7⟩
     ·
      rw [if_neg c34] at H
      have c34b0 := decide_eq_false c34
      clear c34
      by_cases c35 : a0 = 173
      ·
       rw [if_pos c35] at H
       have c35b0 : (a0 == 173) = true := beq_iff_eq.mpr c35
       have c35b1 : (a0 != 173) = false := bne_eq_false_iff_eq.mpr c35
       clear c35
       obtain rfl := Option.some.inj H
       go_enter Tryz.func63, Tryz.ntmps63
       go_wp2
       go_ret
       exact ⟨ap2, ap7⟩
      ·
       rw [if_neg c35] at H
       have c35b0 : (a0 == 173) = false := beq_eq_false_iff_ne.mpr c35
       have c35b1 : (a0 != 173) = true := bne_iff_ne.mpr c35
       by_cases c36 : a0 ≥ 8203
       ·
        rw [if_pos c36] at H
        have c36b0 := decide_eq_true c36
        clear c36
        by_cases c37 : a0 ≤ 8207
        ·
         rw [if_pos c37] at H
         have c37b0 := decide_eq_true c37
         clear c37
         obtain rfl := Option.some.inj H
         go_enter Tryz.func63, Tryz.ntmps63
         go_wp2
         go_ret
         exact ⟨ap2, ap7⟩
        ·
         rw [if_neg c37] at H
         have c37b0 := decide_eq_false c37
         clear c37
         obtain rfl := Option.some.inj H
         go_enter Tryz.func63, Tryz.ntmps63
         go_wp2
         go_ret
         exact ⟨ap2, ap7⟩
       ·
        rw [if_neg c36] at H
        have c36b0 := decide_eq_false c36
        clear c36
        obtain rfl := Option.some.inj H
        go_enter Tryz.func63, Tryz.ntmps63
        go_wp2
        go_ret
        exact ⟨ap2, ap7⟩
    ·
     rw [if_neg c33] at H
     have c33b0 := decide_eq_false c33
     clear c33
     by_cases c38 : a0 = 173
     ·
      rw [if_pos c38] at H
      have c38b0 : (a0 == 173) = true := beq_iff_eq.mpr c38
      have c38b1 : (a0 != 173) = false := bne_eq_false_iff_eq.mpr c38
      clear c38
      obtain rfl := Option.some.inj H
      go_enter Tryz.func63, Tryz.ntmps63
      go_wp2
      go_ret
      exact ⟨ap2, ap7⟩
     ·
      rw [if_neg c38] at H
      have c38b0 : (a0 == 173) = false := beq_eq_false_iff_ne.mpr c38
      have c38b1 : (a0 != 173) = true := bne_iff_ne.mpr c38
      by_cases c39 : a0 ≥ 8203
      ·
       rw [if_pos c39] at H
       have c39b0 := decide_eq_true c39
       clear c39
       by_cases c40 : a0 ≤ 8207
       ·
        rw [if_pos c40] at H
        have c40b0 := decide_eq_true c40
        clear c40
        obtain rfl := Option.some.inj H
        go_enter Tryz.func63, Tryz.ntmps63
        go_wp2
        go_ret
        exact ⟨ap2, ap7⟩
       ·
        rw [if_neg c40] at H
        have c40b0 := decide_eq_false c40
        clear c40
        obtain rfl := Option.some.inj H
        go_enter Tryz.func63, Tryz.ntmps63
        go_wp2
        go_ret
        exact ⟨ap2, ap7⟩
      ·
       rw [if_neg c39] at H
       have c39b0 := decide_eq_false c39
       clear c39
       obtain rfl := Option.some.inj H
       go_enter Tryz.func63, Tryz.ntmps63
       go_wp2
       go_ret
       exact ⟨ap2, ap7⟩
mutual
def R13One.j0 : Nat → ByteArray → Int → Int → Int → Int → Int → Bool → Option (Int × Int)
 | 0, _, _, _, _, _, _, _ => none
 | k + 1, x0, x1, x6, x7, x8, x9, x24 => if x24 = true then (R13One.j1 k x0 x1 x6 2 (wrap64 (x6 - 192)) 128) else (R13One.j1 k x0 x1 x6 x7 x8 x9)
def R13One.j1 : Nat → ByteArray → Int → Int → Int → Int → Int → Option (Int × Int)
 | 0, _, _, _, _, _, _ => none
 | k + 1, x0, x1, x6, x7, x8, x9 => if x6 ≥ 224 then (R13One.j2 k x0 x1 x6 x7 x8 x9 (decide (x6 < 240))) else (R13One.j2 k x0 x1 x6 x7 x8 x9 false)
def R13One.j2 : Nat → ByteArray → Int → Int → Int → Int → Int → Bool → Option (Int × Int)
 | 0, _, _, _, _, _, _, _ => none
 | k + 1, x0, x1, x6, x7, x8, x9, x32 => if x32 = true then (R13One.j3 k x0 x1 x6 3 (wrap64 (x6 - 224)) 2048) else (R13One.j3 k x0 x1 x6 x7 x8 x9)
def R13One.j3 : Nat → ByteArray → Int → Int → Int → Int → Int → Option (Int × Int)
 | 0, _, _, _, _, _, _ => none
 | k + 1, x0, x1, x6, x7, x8, x9 => if x6 ≥ 240 then (R13One.j4 k x0 x1 x6 x7 x8 x9 (decide (x6 < 245))) else (R13One.j4 k x0 x1 x6 x7 x8 x9 false)
def R13One.j4 : Nat → ByteArray → Int → Int → Int → Int → Int → Bool → Option (Int × Int)
 | 0, _, _, _, _, _, _, _ => none
 | k + 1, x0, x1, x6, x7, x8, x9, x40 => if x40 = true then (R13One.j5 k x0 x1 4 (wrap64 (x6 - 240)) 65536) else (R13One.j5 k x0 x1 x7 x8 x9)
def R13One.j5 : Nat → ByteArray → Int → Int → Int → Int → Option (Int × Int)
 | 0, _, _, _, _, _ => none
 | k + 1, x0, x1, x7, x8, x9 => if x7 = 0 then (R13One.j6 k x0 x1 x7 x8 x9 true) else (R13One.j6 k x0 x1 x7 x8 x9 (decide ((wrap64 (x1 + x7)) > (x0.size : Int))))
def R13One.j6 : Nat → ByteArray → Int → Int → Int → Int → Bool → Option (Int × Int)
 | 0, _, _, _, _, _, _ => none
 | k + 1, x0, x1, x7, x8, x9, x52 => if x52 = true then (some (0, 0)) else (R13One.l0 k x0 x1 x7 x8 x9 1)
def R13One.l0 : Nat → ByteArray → Int → Int → Int → Int → Int → Option (Int × Int)
 | 0, _, _, _, _, _, _ => none
 | k + 1, x0, x1, x7, x8, x9, x10 => if x10 < x7 then (if 0 ≤ (wrap64 (x1 + x10)) then (if (wrap64 (x1 + x10)) < (x0.size : Int) then (if (wrap64 (bt x0 (wrap64 (x1 + x10)))) < 128 then (some (0, 0)) else (if (wrap64 (bt x0 (wrap64 (x1 + x10)))) > 191 then (some (0, 0)) else (R13One.l0 k x0 x1 x7 (wrap64 ((wrap64 ((wrap64 (x8 * 64)) + (wrap64 (bt x0 (wrap64 (x1 + x10)))))) - 128)) x9 (wrap64 (x10 + 1))))) else (none)) else (none)) else (if x8 < x9 then (some (0, 0)) else (if x8 > 1114111 then (some (0, 0)) else (if x8 ≥ 55296 then (if x8 ≤ 57343 then (some (0, 0)) else (some (x8, x7))) else (some (x8, x7)))))
end
def R13One.f (k : Nat) (a0 : ByteArray) (a1 : Int) : Option (Int × Int) := if 0 ≤ a1 then (if a1 < (a0.size : Int) then (if (wrap64 (bt a0 a1)) < 128 then (some (wrap64 (bt a0 a1), 1)) else (if (wrap64 (bt a0 a1)) ≥ 194 then (R13One.j0 k a0 a1 (wrap64 (bt a0 a1)) 0 0 0 (decide ((wrap64 (bt a0 a1)) < 224))) else (R13One.j0 k a0 a1 (wrap64 (bt a0 a1)) 0 0 0 false))) else (none)) else (none)
set_option maxHeartbeats 8000000 in
set_option maxRecDepth 100000 in
theorem R13One.calls (k : Nat) (a0 : ByteArray) (a1 : Int) (r1 : Int) (r2 : Int) (w : World) (h : R13One.f k a0 a1 = some (r1, r2)) :
  Calls Tryz.prog 93 #[.string a0, .int .i64 a1] w fun e w' => e = .returned (.tuple #[.int .i64 r1, .int .i64 r2]) ∧ Drawn0 w w' := by
 have H : (if 0 ≤ a1 then (if a1 < (a0.size : Int) then (if (wrap64 (bt a0 a1)) < 128 then (some (wrap64 (bt a0 a1), 1)) else (if (wrap64 (bt a0 a1)) ≥ 194 then (R13One.j0 k a0 a1 (wrap64 (bt a0 a1)) 0 0 0 (decide ((wrap64 (bt a0 a1)) < 224))) else (R13One.j0 k a0 a1 (wrap64 (bt a0 a1)) 0 0 0 false))) else (none)) else (none)) = some (r1, r2) := h
 clear h
 by_cases c3 : 0 ≤ a1
 ·
  rw [if_pos c3] at H
  have c3b0 := decide_eq_true c3
  clear c3
  by_cases c4 : a1 < (a0.size : Int)
  ·
   rw [if_pos c4] at H
   have c4b0 := decide_eq_true c4
   clear c4
   by_cases c6 : (wrap64 (bt a0 a1)) < 128
   ·
    rw [if_pos c6] at H
    have c6b0 := decide_eq_true c6
    clear c6
    simp only [Option.some.injEq, Prod.mk.injEq] at H
    obtain ⟨rfl, rfl⟩ := H
    have p5 : 0 ≤ (a1 : Int) := of_decide_eq_true ap0
    have q5 : a1 < (a0.size : Int) := of_decide_eq_true ap0
    have hx5 := bt_at a0 a1
    replace p5 := eq_true p5
    replace q5 := eq_true q5
    go_enter Tryz.func93, Tryz.ntmps93
    go_wp2
    go_ret2
    exact ⟨ap2, ap7⟩
   ·
    rw [if_neg c6] at H
    have c6b0 := decide_eq_false c6
    clear c6
    have HC7 := Aside0.mk H
    clear H
    have p5 : 0 ≤ (a1 : Int) := of_decide_eq_true ap0
    have q5 : a1 < (a0.size : Int) := of_decide_eq_true ap0
    have hx5 := bt_at a0 a1
    replace p5 := eq_true p5
    replace q5 := eq_true q5
    go_enter Tryz.func93, Tryz.ntmps93
    go_upto_region 7 with (fail)
    go_cut [24] (fun v24 wc => ∃ (kq : Nat) (x24_6 : Bool), v24 = .bool x24_6 ∧ Aside0 (R13One.j0 kq a0 a1 (wrap64 (bt a0 a1)) 0 0 0 x24_6 = some (r1, r2)) ∧ Aside0 (kq ≤ k) ∧ Drawn0 w wc)
    case first =>
     have H := HC7.out
     clear HC7
     by_cases c8 : (wrap64 (bt a0 a1)) ≥ 194
     ·
      rw [if_pos c8] at H
      have c8b0 := decide_eq_true c8
      clear c8
      (first | rw [c8b0] | (simp only [i64_w, i32_w]; rw [c8b0]) | skip)
      have H' := Aside0.mk H
      clear H
      go_wp2
      go_meet
      case rel => exact ⟨_, (decide ((wrap64 (bt a0 a1)) < 224)), ap2, H', ⟨by first | omega | exact Nat.le_refl _⟩, by repeat (first | exact Drawn0.refl _ | apply Drawn0.step)⟩
     ·
      rw [if_neg c8] at H
      have c8b0 := decide_eq_false c8
      clear c8
      (first | rw [c8b0] | (simp only [i64_w, i32_w]; rw [c8b0]) | skip)
      have H' := Aside0.mk H
      clear H
      go_wp2
      go_meet
      case rel => exact ⟨_, (false), ap2, H', ⟨by first | omega | exact Nat.le_refl _⟩, by repeat (first | exact Drawn0.refl _ | apply Drawn0.step)⟩
    case rest =>
     clear HC7
     try clear p2
     try clear c3
     try clear c3b0
     try clear c4
     try clear c4b0
     try clear p5
     try clear q5
     try clear hx5
     try clear c6
     try clear c6b0
     try clear p6
     try clear c8
     try clear c8b0
     try clear p5
     try clear q5
     obtain ⟨kq, x24_6, rfl, HA, HJ6, ⟨mc6, rfl⟩⟩ := hcut
     cases kq with
     | zero => exact absurd HA.out (by simp [R13One.j0])
     | succ kj6 =>
      have H := HA.out
      clear HA
      simp only [R13One.j0] at H
      have HC9 := Aside0.mk H
      clear H
      go_upto_if 24 with (fail)
      go_cut [7, 8, 9] (fun v7 v8 v9 wc => ∃ (kq : Nat) (x7_8 : Int) (x8_8 : Int) (x9_8 : Int), v7 = .int .i64 x7_8 ∧ v8 = .int .i64 x8_8 ∧ v9 = .int .i64 x9_8 ∧ Aside0 (R13One.j1 kq a0 a1 (wrap64 (bt a0 a1)) x7_8 x8_8 x9_8 = some (r1, r2)) ∧ Aside0 (kq ≤ kj6) ∧ Drawn0 w wc)
      case first =>
       have H := HC9.out
       clear HC9
       by_cases c10 : x24_6 = true
       ·
        subst c10
        rw [if_pos rfl] at H
        have H' := Aside0.mk H
        clear H
        go_wp2
        go_meet
        case rel => exact ⟨_, (2), (wrap64 ((wrap64 (bt a0 a1)) - 192)), (128), ap2, ap2, ap2, H', ⟨by have := HJ6.out; first | omega | exact Nat.le_refl _⟩, by repeat (first | exact Drawn0.refl _ | apply Drawn0.step)⟩
       ·
        replace c10 := Bool.eq_false_iff.mpr c10
        subst c10
        rw [if_neg (show ¬ (false = true) by decide)] at H
        have H' := Aside0.mk H
        clear H
        go_wp2
        go_meet
        case rel => exact ⟨_, (0), (0), (0), ap2, ap2, ap2, H', ⟨by have := HJ6.out; first | omega | exact Nat.le_refl _⟩, by repeat (first | exact Drawn0.refl _ | apply Drawn0.step)⟩
      case rest =>
       clear HC9
       try clear c1
       try clear p2
       try clear c3
       try clear c3b0
       try clear c4
       try clear c4b0
       try clear p5
       try clear q5
       try clear hx5
       try clear c6
       try clear c6b0
       try clear p6
       try clear c8
       try clear c8b0
       try clear c9
       try clear c10
       try clear p2
       try clear p5
       try clear p6
       try clear q5
       obtain ⟨kq, x7_8, x8_8, x9_8, rfl, rfl, rfl, HA, HJ8, ⟨mc8, rfl⟩⟩ := hcut
       cases kq with
       | zero => exact absurd HA.out (by simp [R13One.j1])
       | succ kj8 =>
        have H := HA.out
        clear HA
        simp only [R13One.j1] at H
        have HC11 := Aside0.mk H
        clear H
        go_upto_region 11 with (fail)
        go_cut [32] (fun v32 wc => ∃ (kq : Nat) (x32_10 : Bool), v32 = .bool x32_10 ∧ Aside0 (R13One.j2 kq a0 a1 (wrap64 (bt a0 a1)) x7_8 x8_8 x9_8 x32_10 = some (r1, r2)) ∧ Aside0 (kq ≤ kj8) ∧ Drawn0 w wc)
        case first =>
         have H := HC11.out
         clear HC11
         by_cases c12 : (wrap64 (bt a0 a1)) ≥ 224
         ·
          rw [if_pos c12] at H
          have c12b0 := decide_eq_true c12
          clear c12
          (first | rw [c12b0] | (simp only [i64_w, i32_w]; rw [c12b0]) | skip)
          have H' := Aside0.mk H
          clear H
          go_wp2
          go_meet
          case rel => exact ⟨_, (decide ((wrap64 (bt a0 a1)) < 240)), ap2, H', ⟨by have := HJ6.out; have := HJ8.out; first | omega | exact Nat.le_refl _⟩, by repeat (first | exact Drawn0.refl _ | apply Drawn0.step)⟩
         ·
          rw [if_neg c12] at H
          have c12b0 := decide_eq_false c12
          clear c12
          (first | rw [c12b0] | (simp only [i64_w, i32_w]; rw [c12b0]) | skip)
          have H' := Aside0.mk H
          clear H
          go_wp2
          go_meet
          case rel => exact ⟨_, (false), ap2, H', ⟨by have := HJ6.out; have := HJ8.out; first | omega | exact Nat.le_refl _⟩, by repeat (first | exact Drawn0.refl _ | apply Drawn0.step)⟩
        case rest =>
         clear HC11
         try clear c1
         try clear p2
         try clear c3
         try clear c3b0
         try clear c4
         try clear c4b0
         try clear p5
         try clear q5
         try clear hx5
         try clear c6
         try clear c6b0
         try clear p6
         try clear c8
         try clear c8b0
         try clear c9
         try clear c10
         try clear c12
         try clear c12b0
         try clear p2
         try clear p5
         try clear p6
         try clear q5
         obtain ⟨kq, x32_10, rfl, HA, HJ10, ⟨mc10, rfl⟩⟩ := hcut
         cases kq with
         | zero => exact absurd HA.out (by simp [R13One.j2])
         | succ kj10 =>
          have H := HA.out
          clear HA
          simp only [R13One.j2] at H
          have HC13 := Aside0.mk H
          clear H
          go_upto_if 32 with (fail)
          go_cut [7, 8, 9] (fun v7 v8 v9 wc => ∃ (kq : Nat) (x7_12 : Int) (x8_12 : Int) (x9_12 : Int), v7 = .int .i64 x7_12 ∧ v8 = .int .i64 x8_12 ∧ v9 = .int .i64 x9_12 ∧ Aside0 (R13One.j3 kq a0 a1 (wrap64 (bt a0 a1)) x7_12 x8_12 x9_12 = some (r1, r2)) ∧ Aside0 (kq ≤ kj10) ∧ Drawn0 w wc)
          case first =>
           have H := HC13.out
           clear HC13
           by_cases c14 : x32_10 = true
           ·
            subst c14
            rw [if_pos rfl] at H
            have H' := Aside0.mk H
            clear H
            go_wp2
            go_meet
            case rel => exact ⟨_, (3), (wrap64 ((wrap64 (bt a0 a1)) - 224)), (2048), ap2, ap2, ap2, H', ⟨by have := HJ6.out; have := HJ8.out; have := HJ10.out; first | omega | exact Nat.le_refl _⟩, by repeat (first | exact Drawn0.refl _ | apply Drawn0.step)⟩
           ·
            replace c14 := Bool.eq_false_iff.mpr c14
            subst c14
            rw [if_neg (show ¬ (false = true) by decide)] at H
            have H' := Aside0.mk H
            clear H
            go_wp2
            go_meet
            case rel => exact ⟨_, (x7_8), (x8_8), (x9_8), ap2, ap2, ap2, H', ⟨by have := HJ6.out; have := HJ8.out; have := HJ10.out; first | omega | exact Nat.le_refl _⟩, by repeat (first | exact Drawn0.refl _ | apply Drawn0.step)⟩
          case rest =>
           clear HC13
           try clear c1
           try clear p2
           try clear c3
           try clear c3b0
           try clear c4
           try clear c4b0
           try clear p5
           try clear q5
           try clear hx5
           try clear c6
           try clear c6b0
           try clear p6
           try clear c8
           try clear c8b0
           try clear c9
           try clear c10
           try clear c12
           try clear c12b0
           try clear c14
           try clear p2
           try clear p5
           try clear p6
           try clear q5
           obtain ⟨kq, x7_12, x8_12, x9_12, rfl, rfl, rfl, HA, HJ12, ⟨mc12, rfl⟩⟩ := hcut
           cases kq with
           | zero => exact absurd HA.out (by simp [R13One.j3])
           | succ kj12 =>
            have H := HA.out
            clear HA
            simp only [R13One.j3] at H
            have HC15 := Aside0.mk H
            clear H
            go_upto_region 15 with (fail)
            go_cut [40] (fun v40 wc => ∃ (kq : Nat) (x40_14 : Bool), v40 = .bool x40_14 ∧ Aside0 (R13One.j4 kq a0 a1 (wrap64 (bt a0 a1)) x7_12 x8_12 x9_12 x40_14 = some (r1, r2)) ∧ Aside0 (kq ≤ kj12) ∧ Drawn0 w wc)
            case first =>
             have H := HC15.out
             clear HC15
             by_cases c16 : (wrap64 (bt a0 a1)) ≥ 240
             ·
              rw [if_pos c16] at H
              have c16b0 := decide_eq_true c16
              clear c16
              (first | rw [c16b0] | (simp only [i64_w, i32_w]; rw [c16b0]) | skip)
              have H' := Aside0.mk H
              clear H
              go_wp2
              go_meet
              case rel => exact ⟨_, (decide ((wrap64 (bt a0 a1)) < 245)), ap2, H', ⟨by have := HJ6.out; have := HJ8.out; have := HJ10.out; have := HJ12.out; first | omega | exact Nat.le_refl _⟩, by repeat (first | exact Drawn0.refl _ | apply Drawn0.step)⟩
             ·
              rw [if_neg c16] at H
              have c16b0 := decide_eq_false c16
              clear c16
              (first | rw [c16b0] | (simp only [i64_w, i32_w]; rw [c16b0]) | skip)
              have H' := Aside0.mk H
              clear H
              go_wp2
              go_meet
              case rel => exact ⟨_, (false), ap2, H', ⟨by have := HJ6.out; have := HJ8.out; have := HJ10.out; have := HJ12.out; first | omega | exact Nat.le_refl _⟩, by repeat (first | exact Drawn0.refl _ | apply Drawn0.step)⟩
            case rest =>
             clear HC15
             try clear c1
             try clear p2
             try clear c3
             try clear c3b0
             try clear c4
             try clear c4b0
             try clear p5
             try clear q5
             try clear hx5
             try clear c6
             try clear c6b0
             try clear p6
             try clear c8
             try clear c8b0
             try clear c9
             try clear c10
             try clear c12
             try clear c12b0
             try clear c14
             try clear c16
             try clear c16b0
             try clear p2
             try clear p5
             try clear p6
             try clear q5
             obtain ⟨kq, x40_14, rfl, HA, HJ14, ⟨mc14, rfl⟩⟩ := hcut
             cases kq with
             | zero => exact absurd HA.out (by simp [R13One.j4])
             | succ kj14 =>
              have H := HA.out
              clear HA
              simp only [R13One.j4] at H
              have HC17 := Aside0.mk H
              clear H
              go_upto_if 40 with (fail)
              go_cut [7, 8, 9] (fun v7 v8 v9 wc => ∃ (kq : Nat) (x7_16 : Int) (x8_16 : Int) (x9_16 : Int), v7 = .int .i64 x7_16 ∧ v8 = .int .i64 x8_16 ∧ v9 = .int .i64 x9_16 ∧ Aside0 (R13One.j5 kq a0 a1 x7_16 x8_16 x9_16 = some (r1, r2)) ∧ Aside0 (kq ≤ kj14) ∧ Drawn0 w wc)
              case first =>
               have H := HC17.out
               clear HC17
               by_cases c18 : x40_14 = true
               ·
                subst c18
                rw [if_pos rfl] at H
                have H' := Aside0.mk H
                clear H
                go_wp2
                go_meet
                case rel => exact ⟨_, (4), (wrap64 ((wrap64 (bt a0 a1)) - 240)), (65536), ap2, ap2, ap2, H', ⟨by have := HJ6.out; have := HJ8.out; have := HJ10.out; have := HJ12.out; have := HJ14.out; first | omega | exact Nat.le_refl _⟩, by repeat (first | exact Drawn0.refl _ | apply Drawn0.step)⟩
               ·
                replace c18 := Bool.eq_false_iff.mpr c18
                subst c18
                rw [if_neg (show ¬ (false = true) by decide)] at H
                have H' := Aside0.mk H
                clear H
                go_wp2
                go_meet
                case rel => exact ⟨_, (x7_12), (x8_12), (x9_12), ap2, ap2, ap2, H', ⟨by have := HJ6.out; have := HJ8.out; have := HJ10.out; have := HJ12.out; have := HJ14.out; first | omega | exact Nat.le_refl _⟩, by repeat (first | exact Drawn0.refl _ | apply Drawn0.step)⟩
              case rest =>
               clear HC17
               try clear c1
               try clear p2
               try clear c3
               try clear c3b0
               try clear c4
               try clear c4b0
               try clear p5
               try clear q5
               try clear hx5
               try clear c6
               try clear c6b0
               try clear p6
               try clear c8
               try clear c8b0
               try clear c9
               try clear c10
               try clear c12
               try clear c12b0
               try clear c14
               try clear c16
               try clear c16b0
               try clear c18
               try clear p2
               try clear p5
               try clear p6
               try clear q5
               obtain ⟨kq, x7_16, x8_16, x9_16, rfl, rfl, rfl, HA, HJ16, ⟨mc16, rfl⟩⟩ := hcut
               cases kq with
               | zero => exact absurd HA.out (by simp [R13One.j5])
               | succ kj16 =>
                have H := HA.out
                clear HA
                simp only [R13One.j5] at H
                have HC19 := Aside0.mk H
                clear H
                go_upto_region 19 with (fail)
                go_cut [52] (fun v52 wc => ∃ (kq : Nat) (x52_18 : Bool), v52 = .bool x52_18 ∧ Aside0 (R13One.j6 kq a0 a1 x7_16 x8_16 x9_16 x52_18 = some (r1, r2)) ∧ Aside0 (kq ≤ kj16) ∧ Drawn0 w wc)
                case first =>
                 have H := HC19.out
                 clear HC19
                 by_cases c20 : x7_16 = 0
                 ·
                  rw [if_pos c20] at H
                  have c20b0 : (x7_16 == 0) = true := beq_iff_eq.mpr c20
                  have c20b1 : (x7_16 != 0) = false := bne_eq_false_iff_eq.mpr c20
                  clear c20
                  (first | rw [c20b0] | (simp only [i64_w, i32_w]; rw [c20b0]) | skip)
                  have H' := Aside0.mk H
                  clear H
                  go_wp2
                  first | go_meet | (simp only [c20b0] at *; go_meet)
                  case rel => exact ⟨_, (true), ap2, H', ⟨by have := HJ6.out; have := HJ8.out; have := HJ10.out; have := HJ12.out; have := HJ14.out; have := HJ16.out; first | omega | exact Nat.le_refl _⟩, by repeat (first | exact Drawn0.refl _ | apply Drawn0.step)⟩
                 ·
                  rw [if_neg c20] at H
                  have c20b0 : (x7_16 == 0) = false := beq_eq_false_iff_ne.mpr c20
                  have c20b1 : (x7_16 != 0) = true := bne_iff_ne.mpr c20
                  (first | rw [c20b0] | (simp only [i64_w, i32_w]; rw [c20b0]) | skip)
                  have H' := Aside0.mk H
                  clear H
                  go_wp2
                  first | go_meet | (simp only [c20b0] at *; go_meet) | (simp only [c20b0] at *; go_meet)
                  case rel => exact ⟨_, (decide ((wrap64 (a1 + x7_16)) > (a0.size : Int))), ap2, H', ⟨by have := HJ6.out; have := HJ8.out; have := HJ10.out; have := HJ12.out; have := HJ14.out; have := HJ16.out; first | omega | exact Nat.le_refl _⟩, by repeat (first | exact Drawn0.refl _ | apply Drawn0.step)⟩
                case rest =>
                 clear HC19
                 try clear c1
                 try clear c2
                 try clear p2
                 try clear c3
                 try clear c3b0
                 try clear c4
                 try clear c4b0
                 try clear p5
                 try clear q5
                 try clear hx5
                 try clear c6
                 try clear c6b0
                 try clear p6
                 try clear c8
                 try clear c8b0
                 try clear c9
                 try clear c10
                 try clear c12
                 try clear c12b0
                 try clear c14
                 try clear c16
                 try clear c16b0
                 try clear c18
                 try clear c20
                 try clear c20b0
                 try clear c20b1
                 try clear p2
                 try clear p5
                 try clear p6
                 try clear q5
                 obtain ⟨kq, x52_18, rfl, HA, HJ18, ⟨mc18, rfl⟩⟩ := hcut
                 cases kq with
                 | zero => exact absurd HA.out (by simp [R13One.j6])
                 | succ kj18 =>
                  have H := HA.out
                  clear HA
                  simp only [R13One.j6] at H
                  by_cases c21 : x52_18 = true
                  ·
                   subst c21
                   rw [if_pos rfl] at H
                   simp only [Option.some.injEq, Prod.mk.injEq] at H
                   obtain ⟨rfl, rfl⟩ := H
                   go_wp2
                   go_ret2
                   exact ⟨ap2, ap7⟩
                  ·
                   replace c21 := Bool.eq_false_iff.mpr c21
                   subst c21
                   rw [if_neg (show ¬ (false = true) by decide)] at H
                   have H' := Aside0.mk H
                   clear H
                   go_wp2
                   go_loopg [8, 10] kj18 (fun kq v8 v10 w' => ∃ (x8_8 : Int) (x10_8 : Int), v8 = .int .i64 x8_8 ∧ v10 = .int .i64 x10_8 ∧ Aside0 (R13One.l0 kq a0 a1 x7_16 x8_8 x9_16 x10_8 = some (r1, r2)) ∧ Aside0 (kq ≤ kj18) ∧ Drawn0 w w')
                   case atStart => exact ⟨(x8_16), (1), ap2, ap2, H', ⟨Nat.le_refl _⟩, by repeat (first | exact Drawn0.refl _ | apply Drawn0.step)⟩
                   case round =>
                    clear H'
                    try clear c1
                    try clear c2
                    try clear p2
                    try clear c3
                    try clear c3b0
                    try clear c4
                    try clear c4b0
                    try clear p5
                    try clear q5
                    try clear hx5
                    try clear c6
                    try clear c6b0
                    try clear p6
                    try clear c8
                    try clear c8b0
                    try clear c9
                    try clear c10
                    try clear c12
                    try clear c12b0
                    try clear c14
                    try clear c16
                    try clear c16b0
                    try clear c18
                    try clear c20
                    try clear c20b0
                    try clear c20b1
                    try clear c21
                    try clear p2
                    try clear p5
                    try clear p6
                    try clear q5
                    obtain ⟨x8_8, x10_8, rfl, rfl, HA, HK8, ⟨m8, rfl⟩⟩ := hrel
                    cases gk with
                    | zero => exact absurd HA.out (by simp [R13One.l0])
                    | succ k8 =>
                     have H := HA.out
                     clear HA
                     simp only [R13One.l0] at H
                     by_cases c22 : x10_8 < x7_16
                     ·
                      rw [if_pos c22] at H
                      have c22b0 := decide_eq_true c22
                      clear c22
                      obtain ⟨ji23, hji23⟩ : ∃ j_ : Int, (wrap64 (a1 + x10_8)) = j_ := ⟨_, rfl⟩
                      replace H : (if 0 ≤ (ji23) then (if (ji23) < (a0.size : Int) then (if (wrap64 (bt a0 (ji23))) < 128 then (some (0, 0)) else (if (wrap64 (bt a0 (ji23))) > 191 then (some (0, 0)) else (R13One.l0 k8 a0 a1 x7_16 (wrap64 ((wrap64 ((wrap64 (x8_8 * 64)) + (wrap64 (bt a0 (ji23))))) - 128)) x9_16 (wrap64 (x10_8 + 1))))) else (none)) else (none)) = some (r1, r2) := by first | (rw [hji23] at H; exact H) | (simp only [hji23] at H ⊢; exact H)
                      have hji23w : (IntKind.i64.wrap (a1 + x10_8)) = ji23 := (i64_w _).trans hji23
                      by_cases c24 : 0 ≤ (ji23)
                      ·
                       rw [if_pos c24] at H
                       have c24b0 := decide_eq_true c24
                       clear c24
                       by_cases c25 : (ji23) < (a0.size : Int)
                       ·
                        rw [if_pos c25] at H
                        have c25b0 := decide_eq_true c25
                        clear c25
                        by_cases c27 : (wrap64 (bt a0 (ji23))) < 128
                        ·
                         rw [if_pos c27] at H
                         have c27b0 := decide_eq_true c27
                         clear c27
                         simp only [Option.some.injEq, Prod.mk.injEq] at H
                         obtain ⟨rfl, rfl⟩ := H
                         have p26 : 0 ≤ ((ji23) : Int) := of_decide_eq_true ap0
                         have q26 : (ji23) < (a0.size : Int) := of_decide_eq_true ap0
                         have hx26 := bt_at a0 (ji23)
                         replace p26 := eq_true p26
                         replace q26 := eq_true q26
                         go_wp2
                         go_ret2
                         exact ⟨by first | rfl | (simp; done) | (simp only [← hji23] <;> (first | rfl | simp)) | (simp [*]; done), by repeat (first | exact Drawn0.refl _ | apply Drawn0.step)⟩
                        ·
                         rw [if_neg c27] at H
                         have c27b0 := decide_eq_false c27
                         clear c27
                         by_cases c28 : (wrap64 (bt a0 (ji23))) > 191
                         ·
                          rw [if_pos c28] at H
                          have c28b0 := decide_eq_true c28
                          clear c28
                          simp only [Option.some.injEq, Prod.mk.injEq] at H
                          obtain ⟨rfl, rfl⟩ := H
                          have p26 : 0 ≤ ((ji23) : Int) := of_decide_eq_true ap0
                          have q26 : (ji23) < (a0.size : Int) := of_decide_eq_true ap0
                          have hx26 := bt_at a0 (ji23)
                          replace p26 := eq_true p26
                          replace q26 := eq_true q26
                          go_wp2
                          go_ret2
                          exact ⟨by first | rfl | (simp; done) | (simp only [← hji23] <;> (first | rfl | simp)) | (simp [*]; done), by repeat (first | exact Drawn0.refl _ | apply Drawn0.step)⟩
                         ·
                          rw [if_neg c28] at H
                          have c28b0 := decide_eq_false c28
                          clear c28
                          have H' := Aside0.mk H
                          clear H
                          have p26 : 0 ≤ ((ji23) : Int) := of_decide_eq_true ap0
                          have q26 : (ji23) < (a0.size : Int) := of_decide_eq_true ap0
                          have hx26 := bt_at a0 (ji23)
                          replace p26 := eq_true p26
                          replace q26 := eq_true q26
                          go_wp2
                          go_roundg k8
                          case measure => have := HJ6.out; have := HJ8.out; have := HJ10.out; have := HJ12.out; have := HJ14.out; have := HJ16.out; have := HJ18.out; have := HK8.out; omega
                          case rel => exact ⟨(wrap64 ((wrap64 ((wrap64 (x8_8 * 64)) + (wrap64 (bt a0 (ji23))))) - 128)), (wrap64 (x10_8 + 1)), (by first | rfl | (simp; done) | (simp only [← hji23] <;> (first | rfl | simp)) | (simp [*]; done)), ap2, H', ⟨by have := HJ6.out; have := HJ8.out; have := HJ10.out; have := HJ12.out; have := HJ14.out; have := HJ16.out; have := HJ18.out; have := HK8.out; omega⟩, by repeat (first | exact Drawn0.refl _ | apply Drawn0.step)⟩
                       ·
                        rw [if_neg c25] at H
                        exact absurd H (by simp)
                      ·
                       rw [if_neg c24] at H
                       exact absurd H (by simp)
                     ·
                      rw [if_neg c22] at H
                      have c22b0 := decide_eq_false c22
                      clear c22
                      by_cases c29 : x8_8 < x9_16
                      ·
                       rw [if_pos c29] at H
                       have c29b0 := decide_eq_true c29
                       clear c29
                       simp only [Option.some.injEq, Prod.mk.injEq] at H
                       obtain ⟨rfl, rfl⟩ := H
                       go_wp2
                       go_ret2
                       exact ⟨ap2, ap7⟩
                      ·
                       rw [if_neg c29] at H
                       have c29b0 := decide_eq_false c29
                       clear c29
                       by_cases c30 : x8_8 > 1114111
                       ·
                        rw [if_pos c30] at H
                        have c30b0 := decide_eq_true c30
                        clear c30
                        simp only [Option.some.injEq, Prod.mk.injEq] at H
                        obtain ⟨rfl, rfl⟩ := H
                        go_wp2
                        go_ret2
                        exact ⟨ap2, ap7⟩
                       ·
                        rw [if_neg c30] at H
                        have c30b0 := decide_eq_false c30
                        clear c30
                        by_cases c31 : x8_8 ≥ 55296
                        ·
                         rw [if_pos c31] at H
                         have c31b0 := decide_eq_true c31
                         clear c31
                         by_cases c32 : x8_8 ≤ 57343
                         ·
                          rw [if_pos c32] at H
                          have c32b0 := decide_eq_true c32
                          clear c32
                          simp only [Option.some.injEq, Prod.mk.injEq] at H
                          obtain ⟨rfl, rfl⟩ := H
                          go_wp2
                          go_ret2
                          exact ⟨ap2, ap7⟩
                         ·
                          rw [if_neg c32] at H
                          have c32b0 := decide_eq_false c32
                          clear c32
                          simp only [Option.some.injEq, Prod.mk.injEq] at H
                          obtain ⟨rfl, rfl⟩ := H
                          go_wp2
                          go_ret2
                          exact ⟨ap2, ap7⟩
                        ·
                         rw [if_neg c31] at H
                         have c31b0 := decide_eq_false c31
                         clear c31
                         simp only [Option.some.injEq, Prod.mk.injEq] at H
                         obtain ⟨rfl, rfl⟩ := H
                         go_wp2
                         go_ret2
                         exact ⟨ap2, ap7⟩
  ·
   rw [if_neg c4] at H
   exact absurd H (by simp)
 ·
  rw [if_neg c3] at H
  exact absurd H (by simp)
def R13Runes.l0 : Nat → ByteArray → List Int → Int → Option (List Int × Int)
 | 0, _, _, _ => none
 | k + 1, x0, x4, x5 => if x5 < (x0.size : Int) then ((R13One.f k x0 x5).bind fun bt481 => (if bt481.2 = 0 then (some (([] : List Int), 19)) else (if x4.length < 35184372088832 then (R13Runes.l0 k x0 (x4 ++ [wrap32 (bt481.1)]) (wrap64 (x5 + bt481.2))) else (none)))) else (some (x4, 0))
def R13Runes.f (k : Nat) (a0 : ByteArray) : Option (List Int × Int) := R13Runes.l0 k a0 (([] : List Int)) 0
set_option maxHeartbeats 8000000 in
set_option maxRecDepth 100000 in
theorem R13Runes.calls (k : Nat) (a0 : ByteArray) (r1 : List Int) (r2 : Int) (w : World) (h : R13Runes.f k a0 = some (r1, r2)) :
  Calls Tryz.prog 62 #[.string a0] w fun e w' => ∃ v0_ : Value, e = .returned (.tuple #[v0_, .int .i64 r2]) ∧ Kd.R (Kd.int .i32) 21 w' w.heap.size (fun _ => True) v0_ r1 ∧ Below w.heap.size w w' := by
 have HB := Aside0.mk (Below.refl w.heap.size w)
 have H : (R13Runes.l0 k a0 (([] : List Int)) 0) = some (r1, r2) := h
 clear h
 obtain ⟨y478, hy478⟩ : ∃ y_ : List Int, y_ = (([] : List Int)) := ⟨_, rfl⟩
 replace H : (R13Runes.l0 k a0 y478 0) = some (r1, r2) := by first | (rw [hy478]; with_reducible exact H) | (have H2_ := (Option.bind_some _ _).symm.trans H; rw [hy478]; with_reducible exact H2_) | (have H2_ := (Option.bind_some _ _).symm.trans H; with_reducible exact H2_) | with_reducible exact H | (rw [hy478]; exact H) | exact H
 have Ny478 := Aside0.mk hy478
 clear hy478
 have H' := Aside0.mk H
 clear H
 go_enter Tryz.func62, Tryz.ntmps62
 go_wp2_with (first | ((with_reducible refine gate_dst (N := 8) rfl ?_); refine Kd.R_lit (Kd.int .i32) _ 21 ?hg (N := 8) ?hd (xs := ([] : List Int)) (inner := []) (ok := fun _ => True) (okp := fun _ => True) ?hr ?hp (fun _ hk => hk) trivial (Below.refl _ _) (Nat.le_refl _) (by simp) ?_; (case hd => rfl); (case hg => rfl); (case hr => first | (go_simp; done) | (go_simp; rfl)); (case hp => exact (Reps.none _ _)); intro v479 w2 ho3 hb hg_ hnew_; clear hg_ hnew_; (first | rw [← Ny478.out] at ho3 | (simp only [Int.reduceToNat] at ho3; rw [← Ny478.out] at ho3)); have n0_ := Aside0.mk (Kd.R_lower ho3 (below_size ap1)); have n1_ := Aside0.mk (below_step ap1 hb); clear HB; have HO480 := n0_; have HB := n1_; clear n0_ n1_; clear hb ho3))
 go_loopg [4, 5] k (fun kq v4 v5 w' => ∃ (x4_1 : List Int) (x5_1 : Int), v5 = .int .i64 x5_1 ∧ Aside0 (R13Runes.l0 kq a0 x4_1 x5_1 = some (r1, r2)) ∧ Aside0 (kq ≤ k) ∧ Aside0 (Kd.R (Kd.int .i32) 21 w' w.heap.size (fun _ => True) v4 x4_1) ∧ Aside0 (Below w.heap.size w w'))
 case atStart => exact ⟨(y478), (0), ap2, H', ⟨Nat.le_refl _⟩, ⟨by (with_reducible repeat (first | apply Kd.R_alloc | apply Kd.R_drewN | apply Kd.R_drew)); exact HO480.out⟩, ⟨by repeat (first | (with_reducible first | exact HB.out | apply below_alloc | apply pw_below_drewN | apply below_drew1) | exact HB.out)⟩⟩
 case round =>
  clear H'
  try clear p2
  obtain ⟨x4_1, x5_1, rfl, HA, HK1, HO_4, HB⟩ := hrel
  cases gk with
  | zero => exact absurd HA.out (by simp [R13Runes.l0])
  | succ k1 =>
   have H := HA.out
   clear HA
   simp only [R13Runes.l0] at H
   by_cases c4 : x5_1 < (a0.size : Int)
   ·
    rw [if_pos c4] at H
    have c4b0 := decide_eq_true c4
    clear c4
    replace H := Option.bind_eq_some_iff.mp H
    obtain ⟨⟨t481, t482⟩, A50, H⟩ := H
    replace H : (if t482 = 0 then (some (([] : List Int), 19)) else (if x4_1.length < 35184372088832 then (R13Runes.l0 k1 a0 (x4_1 ++ [wrap32 (t481)]) (wrap64 (x5_1 + t482))) else (none))) = some (r1, r2) := H
    have A5 := Aside0.mk A50
    clear A50
    by_cases c6 : t482 = 0
    ·
     rw [if_pos c6] at H
     have c6b0 : (t482 == 0) = true := beq_iff_eq.mpr c6
     have c6b1 : (t482 != 0) = false := bne_eq_false_iff_eq.mpr c6
     clear c6
     simp only [Option.some.injEq, Prod.mk.injEq] at H
     obtain ⟨rfl, rfl⟩ := H
     go_wp2_with (first | ((with_reducible refine gate_callee (f := 93) rfl ?_); refine goesL_ (some 16) rfl rfl Tryz.func93 (by kernel_rfl) rfl #[.string a0, .int .i64 x5_1] rfl ap3 ?_; (with_reducible refine (R13One.calls k1 a0 x5_1 t481 t482 _ A5.out).mono ?_); rintro e w' ⟨rfl, ⟨nd, rfl⟩⟩; refine ⟨_, rfl, ?_⟩))
     go_ret2
     exact ⟨_, by first | rfl | (simp [errW_none, errW_some, bne_nil8, beq_nil8]; done) | (simp [errW_none, errW_some] <;> rfl) | (simp [*, errW_none, errW_some] <;> rfl), by first | exact Kd.R_nil _ _ _ _ _ | exact Kd.N_nil _ _ _ _ _ | exact Kd.V_nil _ _ _ _ _ | exact Kd.Q_nil _ _ _ _ _ | exact Kd.S_nil _ _ _ _ _, by repeat (first | (with_reducible first | exact HB.out | apply below_alloc | apply pw_below_drewN | apply below_drew1) | exact HB.out)⟩
    ·
     rw [if_neg c6] at H
     have c6b0 : (t482 == 0) = false := beq_eq_false_iff_ne.mpr c6
     have c6b1 : (t482 != 0) = true := bne_iff_ne.mpr c6
     by_cases c7 : x4_1.length < 35184372088832
     ·
      rw [if_pos c7] at H
      have LMc7 := Aside0.mk c7
      clear c7
      obtain ⟨y483, hy483⟩ : ∃ y_ : List Int, y_ = (x4_1 ++ [wrap32 (t481)]) := ⟨_, rfl⟩
      replace H : (R13Runes.l0 k1 a0 y483 (wrap64 (x5_1 + t482))) = some (r1, r2) := by first | (rw [hy483]; with_reducible exact H) | (have H2_ := (Option.bind_some _ _).symm.trans H; rw [hy483]; with_reducible exact H2_) | (have H2_ := (Option.bind_some _ _).symm.trans H; with_reducible exact H2_) | with_reducible exact H | (rw [hy483]; exact H) | exact H
      have Ny483 := Aside0.mk hy483
      clear hy483
      have H' := Aside0.mk H
      clear H
      go_wp2_with (first | ((with_reducible refine gate_callee (f := 93) rfl ?_); refine goesL_ (some 16) rfl rfl Tryz.func93 (by kernel_rfl) rfl #[.string a0, .int .i64 x5_1] rfl ap3 ?_; (with_reducible refine (R13One.calls k1 a0 x5_1 t481 t482 _ A5.out).mono ?_); rintro e w' ⟨rfl, ⟨nd, rfl⟩⟩; refine ⟨_, rfl, ?_⟩) | ((with_reducible refine gate_builtin (b := .append) (xs := #[.tmp 21, .tmp 24]) rfl ?_); at_builtin; refine Kd.R_append (Kd.int .i32) (w0 := w) w.heap.size rfl (.tmp 21) (.tmp 24) 64 21 (.int .i32 0) 4 rfl Tryz.underlying64 info21 rfl (by decide) (by omega) u4 x4_1 (wrap32 (t481)) [.int .i32 (wrap32 (t481))] (fun _ => True) (fun _ => False) rfl rfl ?aP (fun _ hk => hk.elim) ?aF ?aO ?aB ?aS ?aL ?_; (case aP => exact rfl); (case aB => exact ap1); (case aF => exact (fun _ _ => trivial)); (case aO => exact (apAR HO_4.out)); (case aS => exact (below_size ap1)); (case aL => have := LMc7.out; omega); intro v484 w8 ho hb hg hat; rw [← Ny483.out] at ho; have n0_ := Aside0.mk (hb); have n1_ := Aside0.mk (ho); clear HB; clear HO_4; have HB := n0_; have HO485 := n1_; clear n0_ n1_; clear ho hb hg hat))
      go_roundg k1
      case measure => have := HK1.out; omega
      case rel => exact ⟨(y483), (wrap64 (x5_1 + t482)), ap2, H', ⟨by have := HK1.out; omega⟩, ⟨by (with_reducible repeat (first | apply Kd.R_alloc | apply Kd.R_drewN | apply Kd.R_drew)); exact HO485.out⟩, ⟨by repeat (first | (with_reducible first | exact HB.out | apply below_alloc | apply pw_below_drewN | apply below_drew1) | exact HB.out)⟩⟩
     ·
      rw [if_neg c7] at H
      exact absurd H (by simp)
   ·
    rw [if_neg c4] at H
    have c4b0 := decide_eq_false c4
    clear c4
    simp only [Option.some.injEq, Prod.mk.injEq] at H
    obtain ⟨rfl, rfl⟩ := H
    go_wp2
    go_ret2
    exact ⟨_, by first | rfl | (simp [errW_none, errW_some, bne_nil8, beq_nil8]; done) | (simp [errW_none, errW_some] <;> rfl) | (simp [*, errW_none, errW_some] <;> rfl), by (with_reducible repeat (first | apply Kd.R_alloc | apply Kd.R_drewN | apply Kd.R_drew)); exact HO_4.out, by repeat (first | (with_reducible first | exact HB.out | apply below_alloc | apply pw_below_drewN | apply below_drew1) | exact HB.out)⟩
def R13Small.j0 : Nat → Int → Bool → Option (Int)
 | 0, _, _ => none
 | k + 1, x0, x40 => if x40 = true then (some (wrap32 (x0 + 32))) else (if x0 ≥ 1024 then (if x0 ≤ 1039 then (some (wrap32 (x0 + 80))) else (some x0)) else (some x0))
def R13Small.f (k : Nat) (a0 : Int) : Option (Int) := if a0 ≥ 65 then (if a0 ≤ 90 then (R13Small.j0 k a0 true) else (if a0 ≥ 192 then (if a0 ≤ 222 then (if a0 = 215 then (if a0 ≥ 913 then (if a0 ≤ 937 then (if a0 = 930 then (if a0 ≥ 1040 then (R13Small.j0 k a0 (decide (a0 ≤ 1071))) else (R13Small.j0 k a0 false)) else (R13Small.j0 k a0 true)) else (if a0 ≥ 1040 then (R13Small.j0 k a0 (decide (a0 ≤ 1071))) else (R13Small.j0 k a0 false))) else (if a0 ≥ 1040 then (R13Small.j0 k a0 (decide (a0 ≤ 1071))) else (R13Small.j0 k a0 false))) else (R13Small.j0 k a0 true)) else (if a0 ≥ 913 then (if a0 ≤ 937 then (if a0 = 930 then (if a0 ≥ 1040 then (R13Small.j0 k a0 (decide (a0 ≤ 1071))) else (R13Small.j0 k a0 false)) else (R13Small.j0 k a0 true)) else (if a0 ≥ 1040 then (R13Small.j0 k a0 (decide (a0 ≤ 1071))) else (R13Small.j0 k a0 false))) else (if a0 ≥ 1040 then (R13Small.j0 k a0 (decide (a0 ≤ 1071))) else (R13Small.j0 k a0 false)))) else (if a0 ≥ 913 then (if a0 ≤ 937 then (if a0 = 930 then (if a0 ≥ 1040 then (R13Small.j0 k a0 (decide (a0 ≤ 1071))) else (R13Small.j0 k a0 false)) else (R13Small.j0 k a0 true)) else (if a0 ≥ 1040 then (R13Small.j0 k a0 (decide (a0 ≤ 1071))) else (R13Small.j0 k a0 false))) else (if a0 ≥ 1040 then (R13Small.j0 k a0 (decide (a0 ≤ 1071))) else (R13Small.j0 k a0 false))))) else (if a0 ≥ 192 then (if a0 ≤ 222 then (if a0 = 215 then (if a0 ≥ 913 then (if a0 ≤ 937 then (if a0 = 930 then (if a0 ≥ 1040 then (R13Small.j0 k a0 (decide (a0 ≤ 1071))) else (R13Small.j0 k a0 false)) else (R13Small.j0 k a0 true)) else (if a0 ≥ 1040 then (R13Small.j0 k a0 (decide (a0 ≤ 1071))) else (R13Small.j0 k a0 false))) else (if a0 ≥ 1040 then (R13Small.j0 k a0 (decide (a0 ≤ 1071))) else (R13Small.j0 k a0 false))) else (R13Small.j0 k a0 true)) else (if a0 ≥ 913 then (if a0 ≤ 937 then (if a0 = 930 then (if a0 ≥ 1040 then (R13Small.j0 k a0 (decide (a0 ≤ 1071))) else (R13Small.j0 k a0 false)) else (R13Small.j0 k a0 true)) else (if a0 ≥ 1040 then (R13Small.j0 k a0 (decide (a0 ≤ 1071))) else (R13Small.j0 k a0 false))) else (if a0 ≥ 1040 then (R13Small.j0 k a0 (decide (a0 ≤ 1071))) else (R13Small.j0 k a0 false)))) else (if a0 ≥ 913 then (if a0 ≤ 937 then (if a0 = 930 then (if a0 ≥ 1040 then (R13Small.j0 k a0 (decide (a0 ≤ 1071))) else (R13Small.j0 k a0 false)) else (R13Small.j0 k a0 true)) else (if a0 ≥ 1040 then (R13Small.j0 k a0 (decide (a0 ≤ 1071))) else (R13Small.j0 k a0 false))) else (if a0 ≥ 1040 then (R13Small.j0 k a0 (decide (a0 ≤ 1071))) else (R13Small.j0 k a0 false))))
set_option maxHeartbeats 8000000 in
set_option maxRecDepth 100000 in
theorem R13Small.calls (k : Nat) (a0 : Int) (r : Int) (w : World) (h : R13Small.f k a0 = some r) :
  Calls Tryz.prog 65 #[.int .i32 a0] w fun e w' => e = .returned (.int .i32 r) ∧ Drawn0 w w' := by
 have H : (if a0 ≥ 65 then (if a0 ≤ 90 then (R13Small.j0 k a0 true) else (if a0 ≥ 192 then (if a0 ≤ 222 then (if a0 = 215 then (if a0 ≥ 913 then (if a0 ≤ 937 then (if a0 = 930 then (if a0 ≥ 1040 then (R13Small.j0 k a0 (decide (a0 ≤ 1071))) else (R13Small.j0 k a0 false)) else (R13Small.j0 k a0 true)) else (if a0 ≥ 1040 then (R13Small.j0 k a0 (decide (a0 ≤ 1071))) else (R13Small.j0 k a0 false))) else (if a0 ≥ 1040 then (R13Small.j0 k a0 (decide (a0 ≤ 1071))) else (R13Small.j0 k a0 false))) else (R13Small.j0 k a0 true)) else (if a0 ≥ 913 then (if a0 ≤ 937 then (if a0 = 930 then (if a0 ≥ 1040 then (R13Small.j0 k a0 (decide (a0 ≤ 1071))) else (R13Small.j0 k a0 false)) else (R13Small.j0 k a0 true)) else (if a0 ≥ 1040 then (R13Small.j0 k a0 (decide (a0 ≤ 1071))) else (R13Small.j0 k a0 false))) else (if a0 ≥ 1040 then (R13Small.j0 k a0 (decide (a0 ≤ 1071))) else (R13Small.j0 k a0 false)))) else (if a0 ≥ 913 then (if a0 ≤ 937 then (if a0 = 930 then (if a0 ≥ 1040 then (R13Small.j0 k a0 (decide (a0 ≤ 1071))) else (R13Small.j0 k a0 false)) else (R13Small.j0 k a0 true)) else (if a0 ≥ 1040 then (R13Small.j0 k a0 (decide (a0 ≤ 1071))) else (R13Small.j0 k a0 false))) else (if a0 ≥ 1040 then (R13Small.j0 k a0 (decide (a0 ≤ 1071))) else (R13Small.j0 k a0 false))))) else (if a0 ≥ 192 then (if a0 ≤ 222 then (if a0 = 215 then (if a0 ≥ 913 then (if a0 ≤ 937 then (if a0 = 930 then (if a0 ≥ 1040 then (R13Small.j0 k a0 (decide (a0 ≤ 1071))) else (R13Small.j0 k a0 false)) else (R13Small.j0 k a0 true)) else (if a0 ≥ 1040 then (R13Small.j0 k a0 (decide (a0 ≤ 1071))) else (R13Small.j0 k a0 false))) else (if a0 ≥ 1040 then (R13Small.j0 k a0 (decide (a0 ≤ 1071))) else (R13Small.j0 k a0 false))) else (R13Small.j0 k a0 true)) else (if a0 ≥ 913 then (if a0 ≤ 937 then (if a0 = 930 then (if a0 ≥ 1040 then (R13Small.j0 k a0 (decide (a0 ≤ 1071))) else (R13Small.j0 k a0 false)) else (R13Small.j0 k a0 true)) else (if a0 ≥ 1040 then (R13Small.j0 k a0 (decide (a0 ≤ 1071))) else (R13Small.j0 k a0 false))) else (if a0 ≥ 1040 then (R13Small.j0 k a0 (decide (a0 ≤ 1071))) else (R13Small.j0 k a0 false)))) else (if a0 ≥ 913 then (if a0 ≤ 937 then (if a0 = 930 then (if a0 ≥ 1040 then (R13Small.j0 k a0 (decide (a0 ≤ 1071))) else (R13Small.j0 k a0 false)) else (R13Small.j0 k a0 true)) else (if a0 ≥ 1040 then (R13Small.j0 k a0 (decide (a0 ≤ 1071))) else (R13Small.j0 k a0 false))) else (if a0 ≥ 1040 then (R13Small.j0 k a0 (decide (a0 ≤ 1071))) else (R13Small.j0 k a0 false))))) = some r := h
 clear h
 have HC2 := Aside0.mk H
 clear H
 go_enter Tryz.func65, Tryz.ntmps65
 go_upto_region 1 with (fail)
 go_cut [40] (fun v40 wc => ∃ (kq : Nat) (x40_1 : Bool), v40 = .bool x40_1 ∧ Aside0 (R13Small.j0 kq a0 x40_1 = some r) ∧ Aside0 (kq ≤ k) ∧ Drawn0 w wc)
 case first =>
  have H := HC2.out
  clear HC2
  by_cases c3 : a0 ≥ 65
  ·
   rw [if_pos c3] at H
   have c3b0 := decide_eq_true c3
   clear c3
   (first | rw [c3b0] | (simp only [i64_w, i32_w]; rw [c3b0]) | skip)
   by_cases c4 : a0 ≤ 90
   ·
    rw [if_pos c4] at H
    have c4b0 := decide_eq_true c4
    clear c4
    have H' := Aside0.mk H
    clear H
    go_wp2
    go_meet
    case rel => exact ⟨_, (true), ap2, H', ⟨by first | omega | exact Nat.le_refl _⟩, by repeat (first | exact Drawn0.refl _ | apply Drawn0.step)⟩
   ·
    rw [if_neg c4] at H
    have c4b0 := decide_eq_false c4
    clear c4
    by_cases c5 : a0 ≥ 192
    ·
     rw [if_pos c5] at H
     have c5b0 := decide_eq_true c5
     clear c5
     by_cases c6 : a0 ≤ 222
     ·
      rw [if_pos c6] at H
      have c6b0 := decide_eq_true c6
      clear c6
      by_cases c7 : a0 = 215
      ·
       rw [if_pos c7] at H
       have c7b0 : (a0 == 215) = true := beq_iff_eq.mpr c7
       have c7b1 : (a0 != 215) = false := bne_eq_false_iff_eq.mpr c7
       clear c7
       by_cases c8 : a0 ≥ 913
       ·
        rw [if_pos c8] at H
        have c8b0 := decide_eq_true c8
        clear c8
        by_cases c9 : a0 ≤ 937
        ·
         rw [if_pos c9] at H
         have c9b0 := decide_eq_true c9
         clear c9
         by_cases c10 : a0 = 930
         ·
          rw [if_pos c10] at H
          have c10b0 : (a0 == 930) = true := beq_iff_eq.mpr c10
          have c10b1 : (a0 != 930) = false := bne_eq_false_iff_eq.mpr c10
          clear c10
          by_cases c11 : a0 ≥ 1040
          ·
           rw [if_pos c11] at H
           have c11b0 := decide_eq_true c11
           clear c11
           have H' := Aside0.mk H
           clear H
           go_wp2
           first | go_meet | (simp only [c10b0] at *; go_meet) | (simp only [c7b0] at *; go_meet)
           case rel => exact ⟨_, (decide (a0 ≤ 1071)), ap2, H', ⟨by first | omega | exact Nat.le_refl _⟩, by repeat (first | exact Drawn0.refl _ | apply Drawn0.step)⟩
          ·
           rw [if_neg c11] at H
           have c11b0 := decide_eq_false c11
           clear c11
           have H' := Aside0.mk H
           clear H
           go_wp2
           first | go_meet | (simp only [c10b0] at *; go_meet) | (simp only [c7b0] at *; go_meet)
           case rel => exact ⟨_, (false), ap2, H', ⟨by first | omega | exact Nat.le_refl _⟩, by repeat (first | exact Drawn0.refl _ | apply Drawn0.step)⟩
         ·
          rw [if_neg c10] at H
          have c10b0 : (a0 == 930) = false := beq_eq_false_iff_ne.mpr c10
          have c10b1 : (a0 != 930) = true := bne_iff_ne.mpr c10
          have H' := Aside0.mk H
          clear H
          go_wp2
          first | go_meet | (simp only [c10b0] at *; go_meet) | (simp only [c10b0] at *; go_meet) | (simp only [c7b0] at *; go_meet)
          case rel => exact ⟨_, (true), ap2, H', ⟨by first | omega | exact Nat.le_refl _⟩, by repeat (first | exact Drawn0.refl _ | apply Drawn0.step)⟩
        ·
         rw [if_neg c9] at H
         have c9b0 := decide_eq_false c9
         clear c9
         by_cases c12 : a0 ≥ 1040
         ·
          rw [if_pos c12] at H
          have c12b0 := decide_eq_true c12
          clear c12
          have H' := Aside0.mk H
          clear H
          go_wp2
          first | go_meet | (simp only [c10b0] at *; go_meet) | (simp only [c10b0] at *; go_meet) | (simp only [c7b0] at *; go_meet)
          case rel => exact ⟨_, (decide (a0 ≤ 1071)), ap2, H', ⟨by first | omega | exact Nat.le_refl _⟩, by repeat (first | exact Drawn0.refl _ | apply Drawn0.step)⟩
         ·
          rw [if_neg c12] at H
          have c12b0 := decide_eq_false c12
          clear c12
          have H' := Aside0.mk H
          clear H
          go_wp2
          first | go_meet | (simp only [c10b0] at *; go_meet) | (simp only [c10b0] at *; go_meet) | (simp only [c7b0] at *; go_meet)
          case rel => exact ⟨_, (false), ap2, H', ⟨by first | omega | exact Nat.le_refl _⟩, by repeat (first | exact Drawn0.refl _ | apply Drawn0.step)⟩
       ·
        rw [if_neg c8] at H
        have c8b0 := decide_eq_false c8
        clear c8
        by_cases c13 : a0 ≥ 1040
        ·
         rw [if_pos c13] at H
         have c13b0 := decide_eq_true c13
         clear c13
         have H' := Aside0.mk H
         clear H
         go_wp2
         first | go_meet | (simp only [c10b0] at *; go_meet) | (simp only [c10b0] at *; go_meet) | (simp only [c7b0] at *; go_meet)
         case rel => exact ⟨_, (decide (a0 ≤ 1071)), ap2, H', ⟨by first | omega | exact Nat.le_refl _⟩, by repeat (first | exact Drawn0.refl _ | apply Drawn0.step)⟩
        ·
         rw [if_neg c13] at H
         have c13b0 := decide_eq_false c13
         clear c13
         have H' := Aside0.mk H
         clear H
         go_wp2
         first | go_meet | (simp only [c10b0] at *; go_meet) | (simp only [c10b0] at *; go_meet) | (simp only [c7b0] at *; go_meet)
         case rel => exact ⟨_, (false), ap2, H', ⟨by first | omega | exact Nat.le_refl _⟩, by repeat (first | exact Drawn0.refl _ | apply Drawn0.step)⟩
      ·
       rw [if_neg c7] at H
       have c7b0 : (a0 == 215) = false := beq_eq_false_iff_ne.mpr c7
       have c7b1 : (a0 != 215) = true := bne_iff_ne.mpr c7
       have H' := Aside0.mk H
       clear H
       go_wp2
       first | go_meet | (simp only [c7b0] at *; go_meet) | (simp only [c10b0] at *; go_meet) | (simp only [c10b0] at *; go_meet)
       case rel => exact ⟨_, (true), ap2, H', ⟨by first | omega | exact Nat.le_refl _⟩, by repeat (first | exact Drawn0.refl _ | apply Drawn0.step)⟩
     ·
      rw [if_neg c6] at H
      have c6b0 := decide_eq_false c6
      clear c6
      by_cases c14 : a0 ≥ 913
      ·
       rw [if_pos c14] at H
       have c14b0 := decide_eq_true c14
       clear c14
       by_cases c15 : a0 ≤ 937
       ·
        rw [if_pos c15] at H
        have c15b0 := decide_eq_true c15
        clear c15
        by_cases c16 : a0 = 930
        ·
         rw [if_pos c16] at H
         have c16b0 : (a0 == 930) = true := beq_iff_eq.mpr c16
         have c16b1 : (a0 != 930) = false := bne_eq_false_iff_eq.mpr c16
         clear c16
         by_cases c17 : a0 ≥ 1040
         ·
          rw [if_pos c17] at H
          have c17b0 := decide_eq_true c17
          clear c17
          have H' := Aside0.mk H
          clear H
          go_wp2
          first | go_meet | (simp only [c16b0] at *; go_meet) | (simp only [c7b0] at *; go_meet) | (simp only [c10b0] at *; go_meet)
          case rel => exact ⟨_, (decide (a0 ≤ 1071)), ap2, H', ⟨by first | omega | exact Nat.le_refl _⟩, by repeat (first | exact Drawn0.refl _ | apply Drawn0.step)⟩
         ·
          rw [if_neg c17] at H
          have c17b0 := decide_eq_false c17
          clear c17
          have H' := Aside0.mk H
          clear H
          go_wp2
          first | go_meet | (simp only [c16b0] at *; go_meet) | (simp only [c7b0] at *; go_meet) | (simp only [c10b0] at *; go_meet)
          case rel => exact ⟨_, (false), ap2, H', ⟨by first | omega | exact Nat.le_refl _⟩, by repeat (first | exact Drawn0.refl _ | apply Drawn0.step)⟩
        ·
         rw [if_neg c16] at H
         have c16b0 : (a0 == 930) = false := beq_eq_false_iff_ne.mpr c16
         have c16b1 : (a0 != 930) = true := bne_iff_ne.mpr c16
         have H' := Aside0.mk H
         clear H
         go_wp2
         first | go_meet | (simp only [c16b0] at *; go_meet) | (simp only [c16b0] at *; go_meet) | (simp only [c7b0] at *; go_meet)
         case rel => exact ⟨_, (true), ap2, H', ⟨by first | omega | exact Nat.le_refl _⟩, by repeat (first | exact Drawn0.refl _ | apply Drawn0.step)⟩
       ·
        rw [if_neg c15] at H
        have c15b0 := decide_eq_false c15
        clear c15
        by_cases c18 : a0 ≥ 1040
        ·
         rw [if_pos c18] at H
         have c18b0 := decide_eq_true c18
         clear c18
         have H' := Aside0.mk H
         clear H
         go_wp2
         first | go_meet | (simp only [c16b0] at *; go_meet) | (simp only [c16b0] at *; go_meet) | (simp only [c7b0] at *; go_meet)
         case rel => exact ⟨_, (decide (a0 ≤ 1071)), ap2, H', ⟨by first | omega | exact Nat.le_refl _⟩, by repeat (first | exact Drawn0.refl _ | apply Drawn0.step)⟩
        ·
         rw [if_neg c18] at H
         have c18b0 := decide_eq_false c18
         clear c18
         have H' := Aside0.mk H
         clear H
         go_wp2
         first | go_meet | (simp only [c16b0] at *; go_meet) | (simp only [c16b0] at *; go_meet) | (simp only [c7b0] at *; go_meet)
         case rel => exact ⟨_, (false), ap2, H', ⟨by first | omega | exact Nat.le_refl _⟩, by repeat (first | exact Drawn0.refl _ | apply Drawn0.step)⟩
      ·
       rw [if_neg c14] at H
       have c14b0 := decide_eq_false c14
       clear c14
       by_cases c19 : a0 ≥ 1040
       ·
        rw [if_pos c19] at H
        have c19b0 := decide_eq_true c19
        clear c19
        have H' := Aside0.mk H
        clear H
        go_wp2
        first | go_meet | (simp only [c16b0] at *; go_meet) | (simp only [c16b0] at *; go_meet) | (simp only [c7b0] at *; go_meet)
        case rel => exact ⟨_, (decide (a0 ≤ 1071)), ap2, H', ⟨by first | omega | exact Nat.le_refl _⟩, by repeat (first | exact Drawn0.refl _ | apply Drawn0.step)⟩
       ·
        rw [if_neg c19] at H
        have c19b0 := decide_eq_false c19
        clear c19
        have H' := Aside0.mk H
        clear H
        go_wp2
        first | go_meet | (simp only [c16b0] at *; go_meet) | (simp only [c16b0] at *; go_meet) | (simp only [c7b0] at *; go_meet)
        case rel => exact ⟨_, (false), ap2, H', ⟨by first | omega | exact Nat.le_refl _⟩, by repeat (first | exact Drawn0.refl _ | apply Drawn0.step)⟩
    ·
     rw [if_neg c5] at H
     have c5b0 := decide_eq_false c5
     clear c5
     by_cases c20 : a0 ≥ 913
     ·
      rw [if_pos c20] at H
      have c20b0 := decide_eq_true c20
      clear c20
      by_cases c21 : a0 ≤ 937
      ·
       rw [if_pos c21] at H
       have c21b0 := decide_eq_true c21
       clear c21
       by_cases c22 : a0 = 930
       ·
        rw [if_pos c22] at H
        have c22b0 : (a0 == 930) = true := beq_iff_eq.mpr c22
        have c22b1 : (a0 != 930) = false := bne_eq_false_iff_eq.mpr c22
        clear c22
        by_cases c23 : a0 ≥ 1040
        ·
         rw [if_pos c23] at H
         have c23b0 := decide_eq_true c23
         clear c23
         have H' := Aside0.mk H
         clear H
         go_wp2
         first | go_meet | (simp only [c22b0] at *; go_meet) | (simp only [c16b0] at *; go_meet) | (simp only [c16b0] at *; go_meet)
         case rel => exact ⟨_, (decide (a0 ≤ 1071)), ap2, H', ⟨by first | omega | exact Nat.le_refl _⟩, by repeat (first | exact Drawn0.refl _ | apply Drawn0.step)⟩
        ·
         rw [if_neg c23] at H
         have c23b0 := decide_eq_false c23
         clear c23
         have H' := Aside0.mk H
         clear H
         go_wp2
         first | go_meet | (simp only [c22b0] at *; go_meet) | (simp only [c16b0] at *; go_meet) | (simp only [c16b0] at *; go_meet)
         case rel => exact ⟨_, (false), ap2, H', ⟨by first | omega | exact Nat.le_refl _⟩, by repeat (first | exact Drawn0.refl _ | apply Drawn0.step)⟩
       ·
        rw [if_neg c22] at H
        have c22b0 : (a0 == 930) = false := beq_eq_false_iff_ne.mpr c22
        have c22b1 : (a0 != 930) = true := bne_iff_ne.mpr c22
        have H' := Aside0.mk H
        clear H
        go_wp2
        first | go_meet | (simp only [c22b0] at *; go_meet) | (simp only [c22b0] at *; go_meet) | (simp only [c16b0] at *; go_meet)
        case rel => exact ⟨_, (true), ap2, H', ⟨by first | omega | exact Nat.le_refl _⟩, by repeat (first | exact Drawn0.refl _ | apply Drawn0.step)⟩
      ·
       rw [if_neg c21] at H
       have c21b0 := decide_eq_false c21
       clear c21
       by_cases c24 : a0 ≥ 1040
       ·
        rw [if_pos c24] at H
        have c24b0 := decide_eq_true c24
        clear c24
        have H' := Aside0.mk H
        clear H
        go_wp2
        first | go_meet | (simp only [c22b0] at *; go_meet) | (simp only [c22b0] at *; go_meet) | (simp only [c16b0] at *; go_meet)
        case rel => exact ⟨_, (decide (a0 ≤ 1071)), ap2, H', ⟨by first | omega | exact Nat.le_refl _⟩, by repeat (first | exact Drawn0.refl _ | apply Drawn0.step)⟩
       ·
        rw [if_neg c24] at H
        have c24b0 := decide_eq_false c24
        clear c24
        have H' := Aside0.mk H
        clear H
        go_wp2
        first | go_meet | (simp only [c22b0] at *; go_meet) | (simp only [c22b0] at *; go_meet) | (simp only [c16b0] at *; go_meet)
        case rel => exact ⟨_, (false), ap2, H', ⟨by first | omega | exact Nat.le_refl _⟩, by repeat (first | exact Drawn0.refl _ | apply Drawn0.step)⟩
     ·
      rw [if_neg c20] at H
      have c20b0 := decide_eq_false c20
      clear c20
      by_cases c25 : a0 ≥ 1040
      ·
       rw [if_pos c25] at H
       have c25b0 := decide_eq_true c25
       clear c25
       have H' := Aside0.mk H
       clear H
       go_wp2
       first | go_meet | (simp only [c22b0] at *; go_meet) | (simp only [c22b0] at *; go_meet) | (simp only [c16b0] at *; go_meet)
       case rel => exact ⟨_, (decide (a0 ≤ 1071)), ap2, H', ⟨by first | omega | exact Nat.le_refl _⟩, by repeat (first | exact Drawn0.refl _ | apply Drawn0.step)⟩
      ·
       rw [if_neg c25] at H
       have c25b0 := decide_eq_false c25
       clear c25
       have H' := Aside0.mk H
       clear H
       go_wp2
       first | go_meet | (simp only [c22b0] at *; go_meet) | (simp only [c22b0] at *; go_meet) | (simp only [c16b0] at *; go_meet)
       case rel => exact ⟨_, (false), ap2, H', ⟨by first | omega | exact Nat.le_refl _⟩, by repeat (first | exact Drawn0.refl _ | apply Drawn0.step)⟩
  ·
   rw [if_neg c3] at H
   have c3b0 := decide_eq_false c3
   clear c3
   (first | rw [c3b0] | (simp only [i64_w, i32_w]; rw [c3b0]) | skip)
   by_cases c26 : a0 ≥ 192
   ·
    rw [if_pos c26] at H
    have c26b0 := decide_eq_true c26
    clear c26
    by_cases c27 : a0 ≤ 222
    ·
     rw [if_pos c27] at H
     have c27b0 := decide_eq_true c27
     clear c27
     by_cases c28 : a0 = 215
     ·
      rw [if_pos c28] at H
      have c28b0 : (a0 == 215) = true := beq_iff_eq.mpr c28
      have c28b1 : (a0 != 215) = false := bne_eq_false_iff_eq.mpr c28
      clear c28
      by_cases c29 : a0 ≥ 913
      ·
       rw [if_pos c29] at H
       have c29b0 := decide_eq_true c29
       clear c29
       by_cases c30 : a0 ≤ 937
       ·
        rw [if_pos c30] at H
        have c30b0 := decide_eq_true c30
        clear c30
        by_cases c31 : a0 = 930
        ·
         rw [if_pos c31] at H
         have c31b0 : (a0 == 930) = true := beq_iff_eq.mpr c31
         have c31b1 : (a0 != 930) = false := bne_eq_false_iff_eq.mpr c31
         clear c31
         by_cases c32 : a0 ≥ 1040
         ·
          rw [if_pos c32] at H
          have c32b0 := decide_eq_true c32
          clear c32
          have H' := Aside0.mk H
          clear H
          go_wp2
          first | go_meet | (simp only [c31b0] at *; go_meet) | (simp only [c28b0] at *; go_meet) | (simp only [c22b0] at *; go_meet)
          case rel => exact ⟨_, (decide (a0 ≤ 1071)), ap2, H', ⟨by first | omega | exact Nat.le_refl _⟩, by repeat (first | exact Drawn0.refl _ | apply Drawn0.step)⟩
         ·
          rw [if_neg c32] at H
          have c32b0 := decide_eq_false c32
          clear c32
          have H' := Aside0.mk H
          clear H
          go_wp2
          first | go_meet | (simp only [c31b0] at *; go_meet) | (simp only [c28b0] at *; go_meet) | (simp only [c22b0] at *; go_meet)
          case rel => exact ⟨_, (false), ap2, H', ⟨by first | omega | exact Nat.le_refl _⟩, by repeat (first | exact Drawn0.refl _ | apply Drawn0.step)⟩
        ·
         rw [if_neg c31] at H
         have c31b0 : (a0 == 930) = false := beq_eq_false_iff_ne.mpr c31
         have c31b1 : (a0 != 930) = true := bne_iff_ne.mpr c31
         have H' := Aside0.mk H
         clear H
         go_wp2
         first | go_meet | (simp only [c31b0] at *; go_meet) | (simp only [c31b0] at *; go_meet) | (simp only [c28b0] at *; go_meet)
         case rel => exact ⟨_, (true), ap2, H', ⟨by first | omega | exact Nat.le_refl _⟩, by repeat (first | exact Drawn0.refl _ | apply Drawn0.step)⟩
       ·
        rw [if_neg c30] at H
        have c30b0 := decide_eq_false c30
        clear c30
        by_cases c33 : a0 ≥ 1040
        ·
         rw [if_pos c33] at H
         have c33b0 := decide_eq_true c33
         clear c33
         have H' := Aside0.mk H
         clear H
         go_wp2
         first | go_meet | (simp only [c31b0] at *; go_meet) | (simp only [c31b0] at *; go_meet) | (simp only [c28b0] at *; go_meet)
         case rel => exact ⟨_, (decide (a0 ≤ 1071)), ap2, H', ⟨by first | omega | exact Nat.le_refl _⟩, by repeat (first | exact Drawn0.refl _ | apply Drawn0.step)⟩
        ·
         rw [if_neg c33] at H
         have c33b0 := decide_eq_false c33
         clear c33
         have H' := Aside0.mk H
         clear H
         go_wp2
         first | go_meet | (simp only [c31b0] at *; go_meet) | (simp only [c31b0] at *; go_meet) | (simp only [c28b0] at *; go_meet)
         case rel => exact ⟨_, (false), ap2, H', ⟨by first | omega | exact Nat.le_refl _⟩, by repeat (first | exact Drawn0.refl _ | apply Drawn0.step)⟩
      ·
       rw [if_neg c29] at H
       have c29b0 := decide_eq_false c29
       clear c29
       by_cases c34 : a0 ≥ 1040
       ·
        rw [if_pos c34] at H
        have c34b0 := decide_eq_true c34
        clear c34
        have H' := Aside0.mk H
        clear H
        go_wp2
        first | go_meet | (simp only [c31b0] at *; go_meet) | (simp only [c31b0] at *; go_meet) | (simp only [c28b0] at *; go_meet)
        case rel => exact ⟨_, (decide (a0 ≤ 1071)), ap2, H', ⟨by first | omega | exact Nat.le_refl _⟩, by repeat (first | exact Drawn0.refl _ | apply Drawn0.step)⟩
       ·
        rw [if_neg c34] at H
        have c34b0 := decide_eq_false c34
        clear c34
        have H' := Aside0.mk H
        clear H
        go_wp2
        first | go_meet | (simp only [c31b0] at *; go_meet) | (simp only [c31b0] at *; go_meet) | (simp only [c28b0] at *; go_meet)
        case rel => exact ⟨_, (false), ap2, H', ⟨by first | omega | exact Nat.le_refl _⟩, by repeat (first | exact Drawn0.refl _ | apply Drawn0.step)⟩
     ·
      rw [if_neg c28] at H
      have c28b0 : (a0 == 215) = false := beq_eq_false_iff_ne.mpr c28
      have c28b1 : (a0 != 215) = true := bne_iff_ne.mpr c28
      have H' := Aside0.mk H
      clear H
      go_wp2
      first | go_meet | (simp only [c28b0] at *; go_meet) | (simp only [c31b0] at *; go_meet) | (simp only [c31b0] at *; go_meet)
      case rel => exact ⟨_, (true), ap2, H', ⟨by first | omega | exact Nat.le_refl _⟩, by repeat (first | exact Drawn0.refl _ | apply Drawn0.step)⟩
    ·
     rw [if_neg c27] at H
     have c27b0 := decide_eq_false c27
     clear c27
     by_cases c35 : a0 ≥ 913
     ·
      rw [if_pos c35] at H
      have c35b0 := decide_eq_true c35
      clear c35
      by_cases c36 : a0 ≤ 937
      ·
       rw [if_pos c36] at H
       have c36b0 := decide_eq_true c36
       clear c36
       by_cases c37 : a0 = 930
       ·
        rw [if_pos c37] at H
        have c37b0 : (a0 == 930) = true := beq_iff_eq.mpr c37
        have c37b1 : (a0 != 930) = false := bne_eq_false_iff_eq.mpr c37
        clear c37
        by_cases c38 : a0 ≥ 1040
        ·
         rw [if_pos c38] at H
         have c38b0 := decide_eq_true c38
         clear c38
         have H' := Aside0.mk H
         clear H
         go_wp2
         first | go_meet | (simp only [c37b0] at *; go_meet) | (simp only [c28b0] at *; go_meet) | (simp only [c31b0] at *; go_meet)
         case rel => exact ⟨_, (decide (a0 ≤ 1071)), ap2, H', ⟨by first | omega | exact Nat.le_refl _⟩, by repeat (first | exact Drawn0.refl _ | apply Drawn0.step)⟩
        ·
         rw [if_neg c38] at H
         have c38b0 := decide_eq_false c38
         clear c38
         have H' := Aside0.mk H
         clear H
         go_wp2
         first | go_meet | (simp only [c37b0] at *; go_meet) | (simp only [c28b0] at *; go_meet) | (simp only [c31b0] at *; go_meet)
         case rel => exact ⟨_, (false), ap2, H', ⟨by first | omega | exact Nat.le_refl _⟩, by repeat (first | exact Drawn0.refl _ | apply Drawn0.step)⟩
       ·
        rw [if_neg c37] at H
        have c37b0 : (a0 == 930) = false := beq_eq_false_iff_ne.mpr c37
        have c37b1 : (a0 != 930) = true := bne_iff_ne.mpr c37
        have H' := Aside0.mk H
        clear H
        go_wp2
        first | go_meet | (simp only [c37b0] at *; go_meet) | (simp only [c37b0] at *; go_meet) | (simp only [c28b0] at *; go_meet)
        case rel => exact ⟨_, (true), ap2, H', ⟨by first | omega | exact Nat.le_refl _⟩, by repeat (first | exact Drawn0.refl _ | apply Drawn0.step)⟩
      ·
       rw [if_neg c36] at H
       have c36b0 := decide_eq_false c36
       clear c36
       by_cases c39 : a0 ≥ 1040
       ·
        rw [if_pos c39] at H
        have c39b0 := decide_eq_true c39
        clear c39
        have H' := Aside0.mk H
        clear H
        go_wp2
        first | go_meet | (simp only [c37b0] at *; go_meet) | (simp only [c37b0] at *; go_meet) | (simp only [c28b0] at *; go_meet)
        case rel => exact ⟨_, (decide (a0 ≤ 1071)), ap2, H', ⟨by first | omega | exact Nat.le_refl _⟩, by repeat (first | exact Drawn0.refl _ | apply Drawn0.step)⟩
       ·
        rw [if_neg c39] at H
        have c39b0 := decide_eq_false c39
        clear c39
        have H' := Aside0.mk H
        clear H
        go_wp2
        first | go_meet | (simp only [c37b0] at *; go_meet) | (simp only [c37b0] at *; go_meet) | (simp only [c28b0] at *; go_meet)
        case rel => exact ⟨_, (false), ap2, H', ⟨by first | omega | exact Nat.le_refl _⟩, by repeat (first | exact Drawn0.refl _ | apply Drawn0.step)⟩
     ·
      rw [if_neg c35] at H
      have c35b0 := decide_eq_false c35
      clear c35
      by_cases c40 : a0 ≥ 1040
      ·
       rw [if_pos c40] at H
       have c40b0 := decide_eq_true c40
       clear c40
       have H' := Aside0.mk H
       clear H
       go_wp2
       first | go_meet | (simp only [c37b0] at *; go_meet) | (simp only [c37b0] at *; go_meet) | (simp only [c28b0] at *; go_meet)
       case rel => exact ⟨_, (decide (a0 ≤ 1071)), ap2, H', ⟨by first | omega | exact Nat.le_refl _⟩, by repeat (first | exact Drawn0.refl _ | apply Drawn0.step)⟩
      ·
       rw [if_neg c40] at H
       have c40b0 := decide_eq_false c40
       clear c40
       have H' := Aside0.mk H
       clear H
       go_wp2
       first | go_meet | (simp only [c37b0] at *; go_meet) | (simp only [c37b0] at *; go_meet) | (simp only [c28b0] at *; go_meet)
       case rel => exact ⟨_, (false), ap2, H', ⟨by first | omega | exact Nat.le_refl _⟩, by repeat (first | exact Drawn0.refl _ | apply Drawn0.step)⟩
   ·
    rw [if_neg c26] at H
    have c26b0 := decide_eq_false c26
    clear c26
    by_cases c41 : a0 ≥ 913
    ·
     rw [if_pos c41] at H
     have c41b0 := decide_eq_true c41
     clear c41
     by_cases c42 : a0 ≤ 937
     ·
      rw [if_pos c42] at H
      have c42b0 := decide_eq_true c42
      clear c42
      by_cases c43 : a0 = 930
      ·
       rw [if_pos c43] at H
       have c43b0 : (a0 == 930) = true := beq_iff_eq.mpr c43
       have c43b1 : (a0 != 930) = false := bne_eq_false_iff_eq.mpr c43
       clear c43
       by_cases c44 : a0 ≥ 1040
       ·
        rw [if_pos c44] at H
        have c44b0 := decide_eq_true c44
        clear c44
        have H' := Aside0.mk H
        clear H
        go_wp2
        first | go_meet | (simp only [c43b0] at *; go_meet) | (simp only [c37b0] at *; go_meet) | (simp only [c37b0] at *; go_meet)
        case rel => exact ⟨_, (decide (a0 ≤ 1071)), ap2, H', ⟨by first | omega | exact Nat.le_refl _⟩, by repeat (first | exact Drawn0.refl _ | apply Drawn0.step)⟩
       ·
        rw [if_neg c44] at H
        have c44b0 := decide_eq_false c44
        clear c44
        have H' := Aside0.mk H
        clear H
        go_wp2
        first | go_meet | (simp only [c43b0] at *; go_meet) | (simp only [c37b0] at *; go_meet) | (simp only [c37b0] at *; go_meet)
        case rel => exact ⟨_, (false), ap2, H', ⟨by first | omega | exact Nat.le_refl _⟩, by repeat (first | exact Drawn0.refl _ | apply Drawn0.step)⟩
      ·
       rw [if_neg c43] at H
       have c43b0 : (a0 == 930) = false := beq_eq_false_iff_ne.mpr c43
       have c43b1 : (a0 != 930) = true := bne_iff_ne.mpr c43
       have H' := Aside0.mk H
       clear H
       go_wp2
       first | go_meet | (simp only [c43b0] at *; go_meet) | (simp only [c43b0] at *; go_meet) | (simp only [c37b0] at *; go_meet)
       case rel => exact ⟨_, (true), ap2, H', ⟨by first | omega | exact Nat.le_refl _⟩, by repeat (first | exact Drawn0.refl _ | apply Drawn0.step)⟩
     ·
      rw [if_neg c42] at H
      have c42b0 := decide_eq_false c42
      clear c42
      by_cases c45 : a0 ≥ 1040
      ·
       rw [if_pos c45] at H
       have c45b0 := decide_eq_true c45
       clear c45
       have H' := Aside0.mk H
       clear H
       go_wp2
       first | go_meet | (simp only [c43b0] at *; go_meet) | (simp only [c43b0] at *; go_meet) | (simp only [c37b0] at *; go_meet)
       case rel => exact ⟨_, (decide (a0 ≤ 1071)), ap2, H', ⟨by first | omega | exact Nat.le_refl _⟩, by repeat (first | exact Drawn0.refl _ | apply Drawn0.step)⟩
      ·
       rw [if_neg c45] at H
       have c45b0 := decide_eq_false c45
       clear c45
       have H' := Aside0.mk H
       clear H
       go_wp2
       first | go_meet | (simp only [c43b0] at *; go_meet) | (simp only [c43b0] at *; go_meet) | (simp only [c37b0] at *; go_meet)
       case rel => exact ⟨_, (false), ap2, H', ⟨by first | omega | exact Nat.le_refl _⟩, by repeat (first | exact Drawn0.refl _ | apply Drawn0.step)⟩
    ·
     rw [if_neg c41] at H
     have c41b0 := decide_eq_false c41
     clear c41
     by_cases c46 : a0 ≥ 1040
     ·
      rw [if_pos c46] at H
      have c46b0 := decide_eq_true c46
      clear c46
      have H' := Aside0.mk H
      clear H
      go_wp2
      first | go_meet | (simp only [c43b0] at *; go_meet) | (simp only [c43b0] at *; go_meet) | (simp only [c37b0] at *; go_meet)
      case rel => exact ⟨_, (decide (a0 ≤ 1071)), ap2, H', ⟨by first | omega | exact Nat.le_refl _⟩, by repeat (first | exact Drawn0.refl _ | apply Drawn0.step)⟩
     ·
      rw [if_neg c46] at H
      have c46b0 := decide_eq_false c46
      clear c46
      have H' := Aside0.mk H
      clear H
      go_wp2
      first | go_meet | (simp only [c43b0] at *; go_meet) | (simp only [c43b0] at *; go_meet) | (simp only [c37b0] at *; go_meet)
      case rel => exact ⟨_, (false), ap2, H', ⟨by first | omega | exact Nat.le_refl _⟩, by repeat (first | exact Drawn0.refl _ | apply Drawn0.step)⟩
 case rest =>
  clear HC2
  try clear c1
  try clear c2
  try clear p2
  try clear c3
  try clear c3b0
  try clear c4
  try clear c4b0
  try clear c5
  try clear c5b0
  try clear c6
  try clear c6b0
  try clear c7
  try clear c7b0
  try clear c7b1
  try clear c8
  try clear c8b0
  try clear c9
  try clear c9b0
  try clear c10
  try clear c10b0
  try clear c10b1
  try clear c11
  try clear c11b0
  try clear c12
  try clear c12b0
  try clear c13
  try clear c13b0
  try clear c14
  try clear c14b0
  try clear c15
  try clear c15b0
  try clear c16
  try clear c16b0
  try clear c16b1
  try clear c17
  try clear c17b0
  try clear c18
  try clear c18b0
  try clear c19
  try clear c19b0
  try clear c20
  try clear c20b0
  try clear c21
  try clear c21b0
  try clear c22
  try clear c22b0
  try clear c22b1
  try clear c23
  try clear c23b0
  try clear c24
  try clear c24b0
  try clear c25
  try clear c25b0
  try clear c26
  try clear c26b0
  try clear c27
  try clear c27b0
  try clear c28
  try clear c28b0
  try clear c28b1
  try clear c29
  try clear c29b0
  try clear c30
  try clear c30b0
  try clear c31
  try clear c31b0
  try clear c31b1
  try clear c32
  try clear c32b0
  try clear c33
  try clear c33b0
  try clear c34
  try clear c34b0
  try clear c35
  try clear c35b0
  try clear c36
  try clear c36b0
  try clear c37
  try clear c37b0
  try clear c37b1
  try clear c38
  try clear c38b0
  try clear c39
  try clear c39b0
  try clear c40
  try clear c40b0
  try clear c41
  try clear c41b0
  try clear c42
  try clear c42b0
  try clear c43
  try clear c43b0
  try clear c43b1
  try clear c44
  try clear c44b0
  try clear c45
  try clear c45b0
  try clear c46
  try clear c46b0
  obtain ⟨kq, x40_1, rfl, HA, HJ1, ⟨mc1, rfl⟩⟩ := hcut
  cases kq with
  | zero => exact absurd HA.out (by simp [R13Small.j0])
  | succ kj1 =>
   have H := HA.out
   clear HA
   simp only [R13Small.j0] at H
   by_cases c47 : x40_1 = true
   ·
    subst c47
    rw [if_pos rfl] at H
    obtain rfl := Option.some.inj H
    go_wp2
    go_ret
    exact ⟨ap2, ap7⟩
   ·
    replace c47 := Bool.eq_false_iff.mpr c47
    subst c47
    rw [if_neg (show ¬ (false = true) by decide)] at H
    by_cases c48 : a0 ≥ 1024
    ·
     rw [if_pos c48] at H
     have c48b0 := decide_eq_true c48
     clear c48
     by_cases c49 : a0 ≤ 1039
     ·
      rw [if_pos c49] at H
      have c49b0 := decide_eq_true c49
      clear c49
      obtain rfl := Option.some.inj H
      go_wp2
      go_ret
      exact ⟨ap2, ap7⟩
     ·
      rw [if_neg c49] at H
      have c49b0 := decide_eq_false c49
      clear c49
      obtain rfl := Option.some.inj H
      go_wp2
      go_ret
      exact ⟨ap2, ap7⟩
    ·
     rw [if_neg c48] at H
     have c48b0 := decide_eq_false c48
     clear c48
     obtain rfl := Option.some.inj H
     go_wp2
     go_ret
     exact ⟨ap2, ap7⟩
def R13Mapped.l0 : Nat → Bool → List Int → Int → List Int → Int → Option (List Int × Int)
 | 0, _, _, _, _, _ => none
 | k + 1, x1, x6, x7, x8, x9 => if x9 < (x6.length : Int) then (if 0 ≤ x9 then ((R13Dropped.f (rd x6 x9)).bind fun t494 => (if t494 = true then (R13Mapped.l0 k x1 x6 x7 x8 (wrap64 (x9 + 1))) else ((R13Blank.f (rd x6 x9)).bind fun t495 => (if t495 = true then (if x8.length < 35184372088832 then (R13Mapped.l0 k x1 x6 x7 (x8 ++ [32]) (wrap64 (x9 + 1))) else (none)) else (if x1 = true then ((R13Small.f k (rd x6 x9)).bind fun t499 => (if x8.length < 35184372088832 then (R13Mapped.l0 k x1 x6 x7 (x8 ++ [t499]) (wrap64 (x9 + 1))) else (none))) else (if x8.length < 35184372088832 then (R13Mapped.l0 k x1 x6 x7 (x8 ++ [rd x6 x9]) (wrap64 (x9 + 1))) else (none))))))) else (none)) else (some (x8, x7))
def R13Mapped.f (k : Nat) (a0 : ByteArray) (a1 : Bool) : Option (List Int × Int) := (R13Runes.f k a0).bind fun bt486 => (R13Mapped.l0 k a1 bt486.1 bt486.2 (([] : List Int)) 0)
end Go.Proofs.YtpklcnpmppaaoaaGreatDoor.Print
