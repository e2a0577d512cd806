-- laid together by pack.py (a program of this session)
import Derived.Test.YtpklcnpmppaaoaaGreatDoorAAttrOrder1
namespace Go.Proofs.YtpklcnpmppaaoaaGreatDoor.Print
open Go.RowKit Go.Proofs.YtpklcnpmppaaoaaGreatDoorW.PrintWords Go.Proofs.YtpklcnpmppaaoaaGreatDoorW.PrintLast Go.Proofs.YtpklcnpmppaaoaaGreatDoorW.PrintMore
attribute [local go_sem] max2_int min2_int max_two min_two max_three min_three max_four min_four
set_option linter.unusedVariables false
set_option linter.unusedSimpArgs false
set_option maxHeartbeats 8000000 in
set_option maxRecDepth 100000 in
theorem Dxvalue.calls (k : Nat) (g : Nat) (s0_0 : ByteArray) (s0_1 : Int) (r1 : ByteArray) (r2 : Bool) (r3 : ByteArray) (r4 : Int) (w0 w : World) (hI : IsS120 w0 w g s0_0 s0_1) (hB : Below w0.heap.size w0 w) (h : Dxvalue.f k s0_0 s0_1 = some (r1, r2, r3, r4)) :
  Calls Tryz.prog 98 #[.pointer (some ⟨g, 0, none⟩)] w fun e w' => e = .returned (.tuple #[.string r1, .bool r2]) ∧ IsS120 w0 w' g r3 r4 ∧ Below w0.heap.size w0 w' ∧ KeepBut w w' g none := by
 have HI0 := Aside0.mk hI
 have HK := Aside0.mk (KeepBut.refl w g none)
 have HL := Aside0.mk hB.size
 clear hI
 have HW0 := Aside0.mk hB.size
 have HB := Aside0.mk hB
 clear hB
 have H : ((Dxblanks.f k s0_0 s0_1).bind fun bt169 => (if 0 ≤ bt169.2 then (if bt169.2 ≤ (bt169.1.size : Int) then ((strings_HasPrefix.f (bt169.1.extract (bt169.2 : Int).toNat bt169.1.size) (⟨#[35]⟩ : ByteArray)).bind fun t171 => (if t171 = true then (some ((⟨#[]⟩ : ByteArray), false, bt169.1, bt169.2)) else (Dxvalue.l0 k ([] : List Int) 0 bt169.1 bt169.2))) else (none)) else (none))) = some (r1, r2, r3, r4) := h
 clear h
 replace H := Option.bind_eq_some_iff.mp H
 obtain ⟨⟨t169, t170⟩, A20, H⟩ := H
 replace H : (if 0 ≤ t170 then (if t170 ≤ (t169.size : Int) then ((strings_HasPrefix.f (t169.extract (t170 : Int).toNat t169.size) (⟨#[35]⟩ : ByteArray)).bind fun t171 => (if t171 = true then (some ((⟨#[]⟩ : ByteArray), false, t169, t170)) else (Dxvalue.l0 k ([] : List Int) 0 t169 t170))) else (none)) else (none)) = some (r1, r2, r3, r4) := H
 have A2 := Aside0.mk A20
 clear A20
 by_cases c3 : 0 ≤ t170
 ·
  rw [if_pos c3] at H
  have c3b0 := eq_true c3
  have c3b1 := decide_eq_true c3
  clear c3
  by_cases c4 : t170 ≤ (t169.size : Int)
  ·
   rw [if_pos c4] at H
   have c4b0 := eq_true c4
   have c4b1 := decide_eq_true c4
   clear c4
   replace H := Option.bind_eq_some_iff.mp H
   obtain ⟨t171, A50, H⟩ := H
   replace H : (if t171 = true then (some ((⟨#[]⟩ : ByteArray), false, t169, t170)) else (Dxvalue.l0 k ([] : List Int) 0 t169 t170)) = some (r1, r2, r3, r4) := H
   have A5 := Aside0.mk A50
   clear A50
   by_cases c6 : t171 = true
   ·
    subst c6
    rw [if_pos rfl] at H
    simp only [Option.some.injEq, Prod.mk.injEq] at H
    obtain ⟨rfl, rfl, rfl, rfl⟩ := H
    go_enter Tryz.func98, Tryz.ntmps98
    go_wp2_with (first | (go_at_call 96; (with_reducible refine (Dxblanks.calls k g s0_0 s0_1 t169 t170 w0 _ ?side1 ?side2 A2.out).mono ?_); (case side1 => exact apI120 HI0.out); (case side2 => exact apS120 HI0.out); rintro e w7 ⟨rfl, hi, hb, hk⟩; have n0_ := Aside0.mk (KeepBut.trans ap5 hk (.inl rfl)); have n1_ := Aside0.mk (hb); have n2_ := Aside0.mk (hi); clear HK; clear HB; clear HI0; have HK := n0_; have HB := n1_; have HI0 := n2_; clear n0_ n1_ n2_; (try clear hb); (try clear hb2); (try clear hk); (try clear hi); obtain ⟨HGz8, hgz8⟩ := HI0.out; have hcz8_0 := cellS120_0 HGz8; have hcz8_1 := cellS120_1 HGz8; have hfz8_0 := blk_frozen HGz8 0; have hfz8_1 := blk_frozen HGz8 1; clear HGz8 hgz8) | (go_at_call 113; (with_reducible refine (strings_HasPrefix.calls (t169.extract (t170 : Int).toNat t169.size) (⟨#[35]⟩ : ByteArray) true _ A5.out).mono ?_); rintro e w' ⟨rfl, ⟨nd, rfl⟩⟩; (try exact ap4)))
    repeat (go_quiet (first | (go_at_call 96; (with_reducible refine (Dxblanks.calls k g s0_0 s0_1 t169 t170 w0 _ ?side1 ?side2 A2.out).mono ?_); (case side1 => exact apI120 HI0.out); (case side2 => exact apS120 HI0.out); rintro e w7 ⟨rfl, hi, hb, hk⟩; have n0_ := Aside0.mk (KeepBut.trans ap5 hk (.inl rfl)); have n1_ := Aside0.mk (hb); have n2_ := Aside0.mk (hi); clear HK; clear HB; clear HI0; have HK := n0_; have HB := n1_; have HI0 := n2_; clear n0_ n1_ n2_; (try clear hb); (try clear hb2); (try clear hk); (try clear hi); obtain ⟨HGz8, hgz8⟩ := HI0.out; have hcz8_0 := cellS120_0 HGz8; have hcz8_1 := cellS120_1 HGz8; have hfz8_0 := blk_frozen HGz8 0; have hfz8_1 := blk_frozen HGz8 1; clear HGz8 hgz8) | (go_at_call 113; (with_reducible refine (strings_HasPrefix.calls (t169.extract (t170 : Int).toNat t169.size) (⟨#[35]⟩ : ByteArray) true _ A5.out).mono ?_); rintro e w' ⟨rfl, ⟨nd, rfl⟩⟩; (try exact ap4))); try go_wp2_with (first | (go_at_call 96; (with_reducible refine (Dxblanks.calls k g s0_0 s0_1 t169 t170 w0 _ ?side1 ?side2 A2.out).mono ?_); (case side1 => exact apI120 HI0.out); (case side2 => exact apS120 HI0.out); rintro e w7 ⟨rfl, hi, hb, hk⟩; have n0_ := Aside0.mk (KeepBut.trans ap5 hk (.inl rfl)); have n1_ := Aside0.mk (hb); have n2_ := Aside0.mk (hi); clear HK; clear HB; clear HI0; have HK := n0_; have HB := n1_; have HI0 := n2_; clear n0_ n1_ n2_; (try clear hb); (try clear hb2); (try clear hk); (try clear hi); obtain ⟨HGz8, hgz8⟩ := HI0.out; have hcz8_0 := cellS120_0 HGz8; have hcz8_1 := cellS120_1 HGz8; have hfz8_0 := blk_frozen HGz8 0; have hfz8_1 := blk_frozen HGz8 1; clear HGz8 hgz8) | (go_at_call 113; (with_reducible refine (strings_HasPrefix.calls (t169.extract (t170 : Int).toNat t169.size) (⟨#[35]⟩ : ByteArray) true _ A5.out).mono ?_); rintro e w' ⟨rfl, ⟨nd, rfl⟩⟩; (try exact ap4))))
    go_ret2
    exact ⟨by first | rfl | (simp [errW_none, errW_some, bne_nil8, beq_nil8]; done) | (simp [errW_none, errW_some] <;> rfl) | (simp [*, errW_none, errW_some] <;> rfl), by repeat (first | (with_reducible first | exact HI0.out | apply IsS120.alloc | apply IsS120.drewN | apply IsS120.drew | apply IsS120.set_0 | apply IsS120.set_1) | exact HI0.out), by repeat (first | (with_reducible first | exact HB.out | apply below_alloc | apply pw_below_drewN | apply below_drew1 | refine below_set ?_ (IsS120.ge HI0.out)) | exact HB.out), by repeat (first | (with_reducible first | exact HK.out | apply KeepBut.set_ | apply keep_drewN | apply keep_drew | apply keep_alloc) | exact HK.out)⟩
   ·
    replace c6 := Bool.eq_false_iff.mpr c6
    subst c6
    rw [if_neg (show ¬ (false = true) by decide)] at H
    have H' := Aside0.mk H
    clear H
    go_enter Tryz.func98, Tryz.ntmps98
    go_wp2_with (first | (go_at_call 96; (with_reducible refine (Dxblanks.calls k g s0_0 s0_1 t169 t170 w0 _ ?side1 ?side2 A2.out).mono ?_); (case side1 => exact apI120 HI0.out); (case side2 => exact apS120 HI0.out); rintro e w9 ⟨rfl, hi, hb, hk⟩; have n0_ := Aside0.mk (KeepBut.trans ap5 hk (.inl rfl)); have n1_ := Aside0.mk (hb); have n2_ := Aside0.mk (hi); clear HK; clear HB; clear HI0; have HK := n0_; have HB := n1_; have HI0 := n2_; clear n0_ n1_ n2_; (try clear hb); (try clear hb2); (try clear hk); (try clear hi); obtain ⟨HGz10, hgz10⟩ := HI0.out; have hcz10_0 := cellS120_0 HGz10; have hcz10_1 := cellS120_1 HGz10; have hfz10_0 := blk_frozen HGz10 0; have hfz10_1 := blk_frozen HGz10 1; clear HGz10 hgz10) | (go_at_call 113; (with_reducible refine (strings_HasPrefix.calls (t169.extract (t170 : Int).toNat t169.size) (⟨#[35]⟩ : ByteArray) false _ A5.out).mono ?_); rintro e w' ⟨rfl, ⟨nd, rfl⟩⟩; (try exact ap4)))
    repeat (go_quiet (first | (go_at_call 96; (with_reducible refine (Dxblanks.calls k g s0_0 s0_1 t169 t170 w0 _ ?side1 ?side2 A2.out).mono ?_); (case side1 => exact apI120 HI0.out); (case side2 => exact apS120 HI0.out); rintro e w9 ⟨rfl, hi, hb, hk⟩; have n0_ := Aside0.mk (KeepBut.trans ap5 hk (.inl rfl)); have n1_ := Aside0.mk (hb); have n2_ := Aside0.mk (hi); clear HK; clear HB; clear HI0; have HK := n0_; have HB := n1_; have HI0 := n2_; clear n0_ n1_ n2_; (try clear hb); (try clear hb2); (try clear hk); (try clear hi); obtain ⟨HGz10, hgz10⟩ := HI0.out; have hcz10_0 := cellS120_0 HGz10; have hcz10_1 := cellS120_1 HGz10; have hfz10_0 := blk_frozen HGz10 0; have hfz10_1 := blk_frozen HGz10 1; clear HGz10 hgz10) | (go_at_call 113; (with_reducible refine (strings_HasPrefix.calls (t169.extract (t170 : Int).toNat t169.size) (⟨#[35]⟩ : ByteArray) false _ A5.out).mono ?_); rintro e w' ⟨rfl, ⟨nd, rfl⟩⟩; (try exact ap4))); try go_wp2_with (first | (go_at_call 96; (with_reducible refine (Dxblanks.calls k g s0_0 s0_1 t169 t170 w0 _ ?side1 ?side2 A2.out).mono ?_); (case side1 => exact apI120 HI0.out); (case side2 => exact apS120 HI0.out); rintro e w9 ⟨rfl, hi, hb, hk⟩; have n0_ := Aside0.mk (KeepBut.trans ap5 hk (.inl rfl)); have n1_ := Aside0.mk (hb); have n2_ := Aside0.mk (hi); clear HK; clear HB; clear HI0; have HK := n0_; have HB := n1_; have HI0 := n2_; clear n0_ n1_ n2_; (try clear hb); (try clear hb2); (try clear hk); (try clear hi); obtain ⟨HGz10, hgz10⟩ := HI0.out; have hcz10_0 := cellS120_0 HGz10; have hcz10_1 := cellS120_1 HGz10; have hfz10_0 := blk_frozen HGz10 0; have hfz10_1 := blk_frozen HGz10 1; clear HGz10 hgz10) | (go_at_call 113; (with_reducible refine (strings_HasPrefix.calls (t169.extract (t170 : Int).toNat t169.size) (⟨#[35]⟩ : ByteArray) false _ A5.out).mono ?_); rintro e w' ⟨rfl, ⟨nd, rfl⟩⟩; (try exact ap4))))
    go_loopg [4, 5] k (fun kq v4 v5 w' => ∃ (x4_1 : List Int) (x5_1 : Int) (x1000_1 : ByteArray) (x1001_1 : Int), v5 = .int .i64 x5_1 ∧ Aside0 (Dxvalue.l0 kq x4_1 x5_1 x1000_1 x1001_1 = some (r1, r2, r3, r4)) ∧ Aside0 (kq ≤ k) ∧ Aside0 (Kd.R (Kd.int .u8) 5 w' w.heap.size (fun _ => True) v4 x4_1) ∧ Aside0 (IsS120 w0 w' g x1000_1 x1001_1) ∧ Aside0 (KeepBut w w' g none) ∧ Aside0 (Below w0.heap.size w0 w'))
    case atStart => exact ⟨(([] : List Int)), (0), (t169), (t170), ap2, H', ⟨Nat.le_refl _⟩, ⟨by first | exact Kd.R_nil _ _ _ _ _ | exact Kd.N_nil _ _ _ _ _ | exact Kd.V_nil _ _ _ _ _ | exact Kd.Q_nil _ _ _ _ _ | exact Kd.S_nil _ _ _ _ _⟩, ⟨by repeat (first | (with_reducible first | exact HI0.out | apply IsS120.alloc | apply IsS120.drewN | apply IsS120.drew | apply IsS120.set_0 | apply IsS120.set_1) | exact HI0.out)⟩, ⟨by repeat (first | (with_reducible first | exact HK.out | apply KeepBut.set_ | apply keep_drewN | apply keep_drew | apply keep_alloc) | exact HK.out)⟩, ⟨by repeat (first | (with_reducible first | exact HB.out | apply below_alloc | apply pw_below_drewN | apply below_drew1 | refine below_set ?_ (IsS120.ge HI0.out)) | exact HB.out)⟩⟩
    case round =>
     clear H'
     try clear p2
     try clear c3
     try clear c3b0
     try clear c3b1
     try clear c4
     try clear c4b0
     try clear c4b1
     try clear c6
     try clear c9
     try clear hcz10_0
     try clear hcz10_1
     try clear hcz8_0
     try clear hcz8_1
     try clear hfz10_0
     try clear hfz10_1
     try clear hfz8_0
     try clear hfz8_1
     obtain ⟨x4_1, x5_1, x1000_1, x1001_1, rfl, HA, HK1, HO_4, HI0, HK, HB⟩ := hrel
     cases gk with
     | zero => exact absurd HA.out (by simp [Dxvalue.l0])
     | succ k1 =>
      have H := HA.out
      clear HA
      simp only [Dxvalue.l0] at H
      by_cases c11 : x1001_1 < (x1000_1.size : Int)
      ·
       rw [if_pos c11] at H
       have c11b0 := decide_eq_true c11
       clear c11
       by_cases c12 : 0 ≤ x1001_1
       ·
        rw [if_pos c12] at H
        have c12b0 := decide_eq_true c12
        clear c12
        have HC14 := Aside0.mk H
        clear H
        obtain ⟨HGz15, hgz15⟩ := HI0.out
        have hcz15_0 := cellS120_0 HGz15
        have hcz15_1 := cellS120_1 HGz15
        have hfz15_0 := blk_frozen HGz15 0
        have hfz15_1 := blk_frozen HGz15 1
        clear HGz15 hgz15
        have p13 : 0 ≤ (x1001_1 : Int) := of_decide_eq_true ap0
        have q13 : x1001_1 < (x1000_1.size : Int) := of_decide_eq_true ap0
        have hx13 := bt_at x1000_1 x1001_1
        replace p13 := eq_true p13
        replace q13 := eq_true q13
        go_upto_if 41 with (fail)
        repeat (go_quiet (fail); go_upto_if 41 with (fail))
        go_cut [41] (fun v41 wc => ∃ (kq : Nat) (x41_13 : Bool), v41 = .bool x41_13 ∧ Aside0 (Dxvalue.j1 kq x4_1 x5_1 (bt x1000_1 x1001_1) (bt x1000_1 x1001_1) x41_13 x1000_1 x1001_1 = some (r1, r2, r3, r4)) ∧ Aside0 (kq ≤ k1) ∧ Aside0 (Kd.R (Kd.int .u8) 5 wc w.heap.size (fun _ => True) u4 x4_1) ∧ Aside0 (IsS120 w0 wc g x1000_1 x1001_1) ∧ Aside0 (KeepBut w wc g none) ∧ Aside0 (Below w0.heap.size w0 wc))
        case first =>
         have H := HC14.out
         clear HC14
         by_cases c16 : (bt x1000_1 x1001_1) = 44
         ·
          rw [if_pos c16] at H
          have c16b0 : ((bt x1000_1 x1001_1) == 44) = true := beq_iff_eq.mpr c16
          have c16b1 : ((bt x1000_1 x1001_1) != 44) = false := bne_eq_false_iff_eq.mpr c16
          clear c16
          (first | rw [c16b0] | (simp only [i64_w, i32_w]; rw [c16b0]) | skip)
          have H' := Aside0.mk H
          clear H
          go_wp2
          repeat (go_quiet (fail); try go_wp2)
          first | go_meet | (simp only [c16b0] at *; go_meet)
          case rel => exact ⟨_, (((bt x1000_1 x1001_1) == 44)), ap2, H', ⟨by have := HK1.out; first | omega | exact Nat.le_refl _⟩, ⟨by (with_reducible repeat (first | apply Kd.R_alloc | apply Kd.R_drewN | apply Kd.R_drew)); exact HO_4.out⟩, ⟨by repeat (first | (with_reducible first | exact HI0.out | apply IsS120.alloc | apply IsS120.drewN | apply IsS120.drew | apply IsS120.set_0 | apply IsS120.set_1) | exact HI0.out)⟩, ⟨by repeat (first | (with_reducible first | exact HK.out | apply KeepBut.set_ | apply keep_drewN | apply keep_drew | apply keep_alloc) | exact HK.out)⟩, ⟨by repeat (first | (with_reducible first | exact HB.out | apply below_alloc | apply pw_below_drewN | apply below_drew1 | refine below_set ?_ (IsS120.ge HI0.out)) | exact HB.out)⟩⟩
         ·
          rw [if_neg c16] at H
          have c16b0 : ((bt x1000_1 x1001_1) == 44) = false := beq_eq_false_iff_ne.mpr c16
          have c16b1 : ((bt x1000_1 x1001_1) != 44) = true := bne_iff_ne.mpr c16
          (first | rw [c16b0] | (simp only [i64_w, i32_w]; rw [c16b0]) | skip)
          by_cases c17 : (bt x1000_1 x1001_1) = 59
          ·
           rw [if_pos c17] at H
           have c17b0 : ((bt x1000_1 x1001_1) == 59) = true := beq_iff_eq.mpr c17
           have c17b1 : ((bt x1000_1 x1001_1) != 59) = false := bne_eq_false_iff_eq.mpr c17
           clear c17
           have H' := Aside0.mk H
           clear H
           go_wp2
           repeat (go_quiet (fail); try go_wp2)
           first | go_meet | (simp only [c17b0] at *; go_meet) | (simp only [c16b0] at *; go_meet) | (simp only [c16b0] at *; go_meet)
           case rel => exact ⟨_, (((bt x1000_1 x1001_1) == 59)), ap2, H', ⟨by have := HK1.out; first | omega | exact Nat.le_refl _⟩, ⟨by (with_reducible repeat (first | apply Kd.R_alloc | apply Kd.R_drewN | apply Kd.R_drew)); exact HO_4.out⟩, ⟨by repeat (first | (with_reducible first | exact HI0.out | apply IsS120.alloc | apply IsS120.drewN | apply IsS120.drew | apply IsS120.set_0 | apply IsS120.set_1) | exact HI0.out)⟩, ⟨by repeat (first | (with_reducible first | exact HK.out | apply KeepBut.set_ | apply keep_drewN | apply keep_drew | apply keep_alloc) | exact HK.out)⟩, ⟨by repeat (first | (with_reducible first | exact HB.out | apply below_alloc | apply pw_below_drewN | apply below_drew1 | refine below_set ?_ (IsS120.ge HI0.out)) | exact HB.out)⟩⟩
          ·
           rw [if_neg c17] at H
           have c17b0 : ((bt x1000_1 x1001_1) == 59) = false := beq_eq_false_iff_ne.mpr c17
           have c17b1 : ((bt x1000_1 x1001_1) != 59) = true := bne_iff_ne.mpr c17
           have H' := Aside0.mk H
           clear H
           go_wp2
           repeat (go_quiet (fail); try go_wp2)
           first | go_meet | (simp only [c17b0] at *; go_meet) | (simp only [c17b0] at *; go_meet) | (simp only [c16b0] at *; go_meet)
           case rel => exact ⟨_, (((bt x1000_1 x1001_1) == 43)), ap2, H', ⟨by have := HK1.out; first | omega | exact Nat.le_refl _⟩, ⟨by (with_reducible repeat (first | apply Kd.R_alloc | apply Kd.R_drewN | apply Kd.R_drew)); exact HO_4.out⟩, ⟨by repeat (first | (with_reducible first | exact HI0.out | apply IsS120.alloc | apply IsS120.drewN | apply IsS120.drew | apply IsS120.set_0 | apply IsS120.set_1) | exact HI0.out)⟩, ⟨by repeat (first | (with_reducible first | exact HK.out | apply KeepBut.set_ | apply keep_drewN | apply keep_drew | apply keep_alloc) | exact HK.out)⟩, ⟨by repeat (first | (with_reducible first | exact HB.out | apply below_alloc | apply pw_below_drewN | apply below_drew1 | refine below_set ?_ (IsS120.ge HI0.out)) | exact HB.out)⟩⟩
        case rest =>
         clear HC14
         try clear c1
         try clear p1
         try clear q1
         try clear hx1
         try clear p2
         try clear c3
         try clear c3b0
         try clear c3b1
         try clear c4
         try clear c4b0
         try clear c4b1
         try clear c6
         try clear c9
         try clear c11
         try clear c11b0
         try clear c12
         try clear c12b0
         try clear p13
         try clear q13
         try clear hx13
         try clear c16
         try clear c16b0
         try clear c16b1
         try clear c17
         try clear c17b0
         try clear c17b1
         try clear hcz10_0
         try clear hcz10_1
         try clear hcz15_0
         try clear hcz15_1
         try clear hcz8_0
         try clear hcz8_1
         try clear hfz10_0
         try clear hfz10_1
         try clear hfz15_0
         try clear hfz15_1
         try clear hfz8_0
         try clear hfz8_1
         try clear p13
         try clear p2
         try clear q13
         obtain ⟨kq, x41_13, rfl, HA, HJ13, HO_4, HI0, HK, HB⟩ := hcut
         cases kq with
         | zero => exact absurd HA.out (by simp [Dxvalue.j1])
         | succ kj13 =>
          have H := HA.out
          clear HA
          simp only [Dxvalue.j1] at H
          by_cases c18 : x41_13 = true
          ·
           subst c18
           rw [if_pos rfl] at H
           by_cases c19 : 0 ≤ x5_1
           ·
            rw [if_pos c19] at H
            have c19b0 := eq_true c19
            have c19b1 := decide_eq_true c19
            clear c19
            by_cases c20 : x5_1 ≤ (x4_1.length : Int)
            ·
             rw [if_pos c20] at H
             have c20b0 := eq_true c20
             have c20b1 := decide_eq_true c20
             clear c20
             obtain ⟨y176, hy176⟩ : ∃ y_ : List Int, y_ = (x4_1.take (x5_1 : Int).toNat) := ⟨_, rfl⟩
             replace H : (some (strOfNums y176, true, x1000_1, x1001_1)) = some (r1, r2, r3, r4) := by first | (rw [hy176]; with_reducible exact H) | (have H2_ := (Option.bind_some _ _).symm.trans H; rw [hy176]; with_reducible exact H2_) | (have H2_ := (Option.bind_some _ _).symm.trans H; with_reducible exact H2_) | with_reducible exact H | (rw [hy176]; exact H) | exact H
             have Ny176 := Aside0.mk hy176
             clear hy176
             simp only [Option.some.injEq, Prod.mk.injEq] at H
             obtain ⟨rfl, rfl, rfl, rfl⟩ := H
             obtain ⟨Ao22, co22, eo22⟩ := Kd.R_slice HO_4.out
             subst eo22
             have q21 : (x5_1 : Int) ≤ ((x4_1.length : Int) : Int) := of_decide_eq_true ap0
             obtain ⟨i021, hi021, _, hsz21, _⟩ := info_parts info5
             have hroom21 : x4_1.length ≤ co22 := (Kd.R_reads' HO_4.out).2.1
             have hC21 : Kd.C (Kd.int .u8) _ Ao22 x4_1.length x4_1 := (Kd.R_reads' HO_4.out).2.2
             have hcut21 := cut_to (P := Tryz.prog) 82 5 .i64 Tryz.underlying82 hi021 Ao22 x4_1.length co22 x5_1 (of_decide_eq_true ap0) q21 hroom21
             have hr21 := Kd.C_take (m := (x5_1 : Int).toNat) hC21 (by omega)
             have hy21 : y176.length = (x5_1 : Int).toNat := (by rw [Ny176.out, List.length_take]; omega)
             rw [← Ny176.out] at hr21
             rw [← hy21] at hcut21
             have HR179 := Aside0.mk hr21
             have HC179 := Aside0.mk (show y176.length ≤ co22 from by omega)
             clear hr21 hC21 hroom21 hi021 hsz21
             have KY21 := Aside0.mk hy21
             clear hy21
             have KL21 := Aside0.mk (show (x5_1 : Int).toNat ≤ x4_1.length from by omega)
             replace q21 := eq_true q21
             have hcv23 := Kd.C_string (P := Tryz.prog) (A := Ao22) (c := co22) Tryz.underlying82 Tryz.underlying5 Tryz.underlying9 (apC HR179.out)
             have hcv23n := fun m_ => Kd.C_string (P := Tryz.prog) (A := Ao22) (c := co22) Tryz.underlying82 Tryz.underlying5 Tryz.underlying9 (Kd.C_drewN (apC HR179.out) m_)
             go_wp2
             repeat (go_quiet (fail); try go_wp2)
             go_ret2
             exact ⟨by first | rfl | (simp [errW_none, errW_some, bne_nil8, beq_nil8]; done) | (simp [errW_none, errW_some] <;> rfl) | (simp [*, errW_none, errW_some] <;> rfl), by repeat (first | (with_reducible first | exact HI0.out | apply IsS120.alloc | apply IsS120.drewN | apply IsS120.drew | apply IsS120.set_0 | apply IsS120.set_1) | exact HI0.out), by repeat (first | (with_reducible first | exact HB.out | apply below_alloc | apply pw_below_drewN | apply below_drew1 | refine below_set ?_ (IsS120.ge HI0.out)) | exact HB.out), by repeat (first | (with_reducible first | exact HK.out | apply KeepBut.set_ | apply keep_drewN | apply keep_drew | apply keep_alloc) | exact HK.out)⟩
            ·
             rw [if_neg c20] at H
             exact absurd H (by simp)
           ·
            rw [if_neg c19] at H
            exact absurd H (by simp)
          ·
           replace c18 := Bool.eq_false_iff.mpr c18
           subst c18
           rw [if_neg (show ¬ (false = true) by decide)] at H
           by_cases c24 : (bt x1000_1 x1001_1) = 34
           ·
            rw [if_pos c24] at H
            have c24b0 : ((bt x1000_1 x1001_1) == 34) = true := beq_iff_eq.mpr c24
            have c24b1 : ((bt x1000_1 x1001_1) != 34) = false := bne_eq_false_iff_eq.mpr c24
            clear c24
            simp only [Option.some.injEq, Prod.mk.injEq] at H
            obtain ⟨rfl, rfl, rfl, rfl⟩ := H
            go_wp2
            repeat (go_quiet (fail); try go_wp2)
            go_ret2
            exact ⟨by first | rfl | (simp [errW_none, errW_some, bne_nil8, beq_nil8]; done) | (simp [errW_none, errW_some] <;> rfl) | (simp [*, errW_none, errW_some] <;> rfl), by repeat (first | (with_reducible first | exact HI0.out | apply IsS120.alloc | apply IsS120.drewN | apply IsS120.drew | apply IsS120.set_0 | apply IsS120.set_1) | exact HI0.out), by repeat (first | (with_reducible first | exact HB.out | apply below_alloc | apply pw_below_drewN | apply below_drew1 | refine below_set ?_ (IsS120.ge HI0.out)) | exact HB.out), by repeat (first | (with_reducible first | exact HK.out | apply KeepBut.set_ | apply keep_drewN | apply keep_drew | apply keep_alloc) | exact HK.out)⟩
           ·
            rw [if_neg c24] at H
            have c24b0 : ((bt x1000_1 x1001_1) == 34) = false := beq_eq_false_iff_ne.mpr c24
            have c24b1 : ((bt x1000_1 x1001_1) != 34) = true := bne_iff_ne.mpr c24
            by_cases c25 : (bt x1000_1 x1001_1) = 60
            ·
             rw [if_pos c25] at H
             have c25b0 : ((bt x1000_1 x1001_1) == 60) = true := beq_iff_eq.mpr c25
             have c25b1 : ((bt x1000_1 x1001_1) != 60) = false := bne_eq_false_iff_eq.mpr c25
             clear c25
             simp only [Option.some.injEq, Prod.mk.injEq] at H
             obtain ⟨rfl, rfl, rfl, rfl⟩ := H
             go_wp2
             repeat (go_quiet (fail); try go_wp2)
             go_ret2
             exact ⟨by first | rfl | (simp [errW_none, errW_some, bne_nil8, beq_nil8]; done) | (simp [errW_none, errW_some] <;> rfl) | (simp [*, errW_none, errW_some] <;> rfl), by repeat (first | (with_reducible first | exact HI0.out | apply IsS120.alloc | apply IsS120.drewN | apply IsS120.drew | apply IsS120.set_0 | apply IsS120.set_1) | exact HI0.out), by repeat (first | (with_reducible first | exact HB.out | apply below_alloc | apply pw_below_drewN | apply below_drew1 | refine below_set ?_ (IsS120.ge HI0.out)) | exact HB.out), by repeat (first | (with_reducible first | exact HK.out | apply KeepBut.set_ | apply keep_drewN | apply keep_drew | apply keep_alloc) | exact HK.out)⟩
            ·
             rw [if_neg c25] at H
             have c25b0 : ((bt x1000_1 x1001_1) == 60) = false := beq_eq_false_iff_ne.mpr c25
             have c25b1 : ((bt x1000_1 x1001_1) != 60) = true := bne_iff_ne.mpr c25
             by_cases c26 : (bt x1000_1 x1001_1) = 62
             ·
              rw [if_pos c26] at H
              have c26b0 : ((bt x1000_1 x1001_1) == 62) = true := beq_iff_eq.mpr c26
              have c26b1 : ((bt x1000_1 x1001_1) != 62) = false := bne_eq_false_iff_eq.mpr c26
              clear c26
              simp only [Option.some.injEq, Prod.mk.injEq] at H
              obtain ⟨rfl, rfl, rfl, rfl⟩ := H
              go_wp2
              repeat (go_quiet (fail); try go_wp2)
              go_ret2
              exact ⟨by first | rfl | (simp [errW_none, errW_some, bne_nil8, beq_nil8]; done) | (simp [errW_none, errW_some] <;> rfl) | (simp [*, errW_none, errW_some] <;> rfl), by repeat (first | (with_reducible first | exact HI0.out | apply IsS120.alloc | apply IsS120.drewN | apply IsS120.drew | apply IsS120.set_0 | apply IsS120.set_1) | exact HI0.out), by repeat (first | (with_reducible first | exact HB.out | apply below_alloc | apply pw_below_drewN | apply below_drew1 | refine below_set ?_ (IsS120.ge HI0.out)) | exact HB.out), by repeat (first | (with_reducible first | exact HK.out | apply KeepBut.set_ | apply keep_drewN | apply keep_drew | apply keep_alloc) | exact HK.out)⟩
             ·
              rw [if_neg c26] at H
              have c26b0 : ((bt x1000_1 x1001_1) == 62) = false := beq_eq_false_iff_ne.mpr c26
              have c26b1 : ((bt x1000_1 x1001_1) != 62) = true := bne_iff_ne.mpr c26
              by_cases c27 : (bt x1000_1 x1001_1) = 92
              ·
               rw [if_pos c27] at H
               have c27b0 : ((bt x1000_1 x1001_1) == 92) = true := beq_iff_eq.mpr c27
               have c27b1 : ((bt x1000_1 x1001_1) != 92) = false := bne_eq_false_iff_eq.mpr c27
               clear c27
               replace H := Option.bind_eq_some_iff.mp H
               obtain ⟨⟨t180, t181, t182, t183⟩, A280, H⟩ := H
               replace H : (if t181 = true then (if x4_1.length < 140737488355328 then ((some (x4_1 ++ [t180] : List Int)).bind fun y184 => (Dxvalue.l0 kj13 y184 (y184.length : Int) t182 t183)) else (none)) else (some ((⟨#[]⟩ : ByteArray), false, t182, t183))) = some (r1, r2, r3, r4) := H
               have A28 := Aside0.mk A280
               clear A280
               by_cases c29 : t181 = true
               ·
                subst c29
                rw [if_pos rfl] at H
                by_cases c30 : x4_1.length < 140737488355328
                ·
                 rw [if_pos c30] at H
                 have LMc30 := Aside0.mk c30
                 clear c30
                 obtain ⟨y184, hy184⟩ : ∃ y_ : List Int, y_ = (x4_1 ++ [t180]) := ⟨_, rfl⟩
                 replace H : (Dxvalue.l0 kj13 y184 (y184.length : Int) t182 t183) = some (r1, r2, r3, r4) := by first | (rw [hy184]; with_reducible exact H) | (have H2_ := (Option.bind_some _ _).symm.trans H; rw [hy184]; with_reducible exact H2_) | (have H2_ := (Option.bind_some _ _).symm.trans H; with_reducible exact H2_) | with_reducible exact H | (rw [hy184]; exact H) | exact H
                 have Ny184 := Aside0.mk hy184
                 clear hy184
                 have H' := Aside0.mk H
                 clear H
                 obtain ⟨HGz31, hgz31⟩ := HI0.out
                 have hcz31_0 := cellS120_0 HGz31
                 have hcz31_1 := cellS120_1 HGz31
                 have hfz31_0 := blk_frozen HGz31 0
                 have hfz31_1 := blk_frozen HGz31 1
                 clear HGz31 hgz31
                 go_wp2_with (first | (go_at_call 124; (with_reducible refine (Dxescaped.calls kj13 g x1000_1 (wrap64 (x1001_1 + 1)) t180 true t182 t183 w0 _ ?side1 ?side2 A28.out).mono ?_); (case side1 => exact apI120 HI0.out); (case side2 => exact apS120 HI0.out); rintro e w32 ⟨rfl, hi, hb, hk⟩; have n0_ := Aside0.mk (Kd.R_mono (Kd.R_keep (IsS120.apart (show IsS120 w0 _ g x1000_1 (wrap64 (x1001_1 + 1)) from by repeat (first | (with_reducible first | exact HI0.out | apply IsS120.alloc | apply IsS120.drewN | apply IsS120.drew | apply IsS120.set_0 | apply IsS120.set_1) | exact HI0.out)) (by (with_reducible repeat (first | apply Kd.R_alloc | apply Kd.R_drewN | apply Kd.R_drew)); exact (Kd.R_mono (Kd.R_far (p := ⟨g, 1, none⟩) (IsS120.apart HI0.out HO_4.out (by decide)) (fun _ hk => hk.2) (.int .i64 (wrap64 (x1001_1 + 1)))) (fun _ h_ => h_.1))) (by decide)) hk (fun _ h => h.2)) (fun _ h => h.1)); have n1_ := Aside0.mk (KeepBut.trans ap5 hk (.inl rfl)); have n2_ := Aside0.mk (hb); have n3_ := Aside0.mk (hi); clear HO_4; clear HK; clear HB; clear HI0; have HO_4 := n0_; have HK := n1_; have HB := n2_; have HI0 := n3_; clear n0_ n1_ n2_ n3_; (try clear hb); (try clear hb2); (try clear hk); (try clear hi)) | ((with_reducible refine gate_builtin (b := .append) (xs := #[.tmp 69, .tmp 71]) rfl ?_); at_builtin; refine Kd.R_append (Kd.int .u8) w.heap.size rfl (.tmp 69) (.tmp 71) 82 5 (.int .u8 0) 1 rfl Tryz.underlying82 info5 rfl (by decide) (by omega) u4 x4_1 t180 [.int .u8 t180] (fun _ => True) (fun _ => False) rfl rfl ?aP (fun _ hk => hk.elim) ?aF ?aO (Below.refl _ _) ?aS ?aL ?_; (case aP => exact rfl); (case aF => exact (fun _ _ => trivial)); (case aO => exact (apAR HO_4.out)); (case aS => exact (keep_size (w := w) (g := g) (row := none) ap5)); (case aL => have := LMc30.out; omega); intro v185 w33 ho hb hg hat; rw [← Ny184.out] at ho; have n0_ := Aside0.mk (IsS120.grown (apI120 HI0.out) hg (IsS120.own_ne HI0.out HO_4.out (by decide))); have n1_ := Aside0.mk (below_weaken (apS120 HI0.out) HL.out hb); have n2_ := Aside0.mk (KeepBut.trans ap5 (KeepBut.of_grown hg g) (Kd.R_base2 HO_4.out)); have n3_ := Aside0.mk (ho); clear HI0; clear HB; clear HK; clear HO_4; have HI0 := n0_; have HB := n1_; have HK := n2_; have HO186 := n3_; clear n0_ n1_ n2_ n3_; clear ho hb hg hat; obtain ⟨Ao34, co34, eo34⟩ := Kd.R_slice HO186.out; subst eo34))
                 repeat (go_quiet (first | (go_at_call 124; (with_reducible refine (Dxescaped.calls kj13 g x1000_1 (wrap64 (x1001_1 + 1)) t180 true t182 t183 w0 _ ?side1 ?side2 A28.out).mono ?_); (case side1 => exact apI120 HI0.out); (case side2 => exact apS120 HI0.out); rintro e w32 ⟨rfl, hi, hb, hk⟩; have n0_ := Aside0.mk (Kd.R_mono (Kd.R_keep (IsS120.apart (show IsS120 w0 _ g x1000_1 (wrap64 (x1001_1 + 1)) from by repeat (first | (with_reducible first | exact HI0.out | apply IsS120.alloc | apply IsS120.drewN | apply IsS120.drew | apply IsS120.set_0 | apply IsS120.set_1) | exact HI0.out)) (by (with_reducible repeat (first | apply Kd.R_alloc | apply Kd.R_drewN | apply Kd.R_drew)); exact (Kd.R_mono (Kd.R_far (p := ⟨g, 1, none⟩) (IsS120.apart HI0.out HO_4.out (by decide)) (fun _ hk => hk.2) (.int .i64 (wrap64 (x1001_1 + 1)))) (fun _ h_ => h_.1))) (by decide)) hk (fun _ h => h.2)) (fun _ h => h.1)); have n1_ := Aside0.mk (KeepBut.trans ap5 hk (.inl rfl)); have n2_ := Aside0.mk (hb); have n3_ := Aside0.mk (hi); clear HO_4; clear HK; clear HB; clear HI0; have HO_4 := n0_; have HK := n1_; have HB := n2_; have HI0 := n3_; clear n0_ n1_ n2_ n3_; (try clear hb); (try clear hb2); (try clear hk); (try clear hi)) | ((with_reducible refine gate_builtin (b := .append) (xs := #[.tmp 69, .tmp 71]) rfl ?_); at_builtin; refine Kd.R_append (Kd.int .u8) w.heap.size rfl (.tmp 69) (.tmp 71) 82 5 (.int .u8 0) 1 rfl Tryz.underlying82 info5 rfl (by decide) (by omega) u4 x4_1 t180 [.int .u8 t180] (fun _ => True) (fun _ => False) rfl rfl ?aP (fun _ hk => hk.elim) ?aF ?aO (Below.refl _ _) ?aS ?aL ?_; (case aP => exact rfl); (case aF => exact (fun _ _ => trivial)); (case aO => exact (apAR HO_4.out)); (case aS => exact (keep_size (w := w) (g := g) (row := none) ap5)); (case aL => have := LMc30.out; omega); intro v185 w33 ho hb hg hat; rw [← Ny184.out] at ho; have n0_ := Aside0.mk (IsS120.grown (apI120 HI0.out) hg (IsS120.own_ne HI0.out HO_4.out (by decide))); have n1_ := Aside0.mk (below_weaken (apS120 HI0.out) HL.out hb); have n2_ := Aside0.mk (KeepBut.trans ap5 (KeepBut.of_grown hg g) (Kd.R_base2 HO_4.out)); have n3_ := Aside0.mk (ho); clear HI0; clear HB; clear HK; clear HO_4; have HI0 := n0_; have HB := n1_; have HK := n2_; have HO186 := n3_; clear n0_ n1_ n2_ n3_; clear ho hb hg hat; obtain ⟨Ao34, co34, eo34⟩ := Kd.R_slice HO186.out; subst eo34)); try go_wp2_with (first | (go_at_call 124; (with_reducible refine (Dxescaped.calls kj13 g x1000_1 (wrap64 (x1001_1 + 1)) t180 true t182 t183 w0 _ ?side1 ?side2 A28.out).mono ?_); (case side1 => exact apI120 HI0.out); (case side2 => exact apS120 HI0.out); rintro e w32 ⟨rfl, hi, hb, hk⟩; have n0_ := Aside0.mk (Kd.R_mono (Kd.R_keep (IsS120.apart (show IsS120 w0 _ g x1000_1 (wrap64 (x1001_1 + 1)) from by repeat (first | (with_reducible first | exact HI0.out | apply IsS120.alloc | apply IsS120.drewN | apply IsS120.drew | apply IsS120.set_0 | apply IsS120.set_1) | exact HI0.out)) (by (with_reducible repeat (first | apply Kd.R_alloc | apply Kd.R_drewN | apply Kd.R_drew)); exact (Kd.R_mono (Kd.R_far (p := ⟨g, 1, none⟩) (IsS120.apart HI0.out HO_4.out (by decide)) (fun _ hk => hk.2) (.int .i64 (wrap64 (x1001_1 + 1)))) (fun _ h_ => h_.1))) (by decide)) hk (fun _ h => h.2)) (fun _ h => h.1)); have n1_ := Aside0.mk (KeepBut.trans ap5 hk (.inl rfl)); have n2_ := Aside0.mk (hb); have n3_ := Aside0.mk (hi); clear HO_4; clear HK; clear HB; clear HI0; have HO_4 := n0_; have HK := n1_; have HB := n2_; have HI0 := n3_; clear n0_ n1_ n2_ n3_; (try clear hb); (try clear hb2); (try clear hk); (try clear hi)) | ((with_reducible refine gate_builtin (b := .append) (xs := #[.tmp 69, .tmp 71]) rfl ?_); at_builtin; refine Kd.R_append (Kd.int .u8) w.heap.size rfl (.tmp 69) (.tmp 71) 82 5 (.int .u8 0) 1 rfl Tryz.underlying82 info5 rfl (by decide) (by omega) u4 x4_1 t180 [.int .u8 t180] (fun _ => True) (fun _ => False) rfl rfl ?aP (fun _ hk => hk.elim) ?aF ?aO (Below.refl _ _) ?aS ?aL ?_; (case aP => exact rfl); (case aF => exact (fun _ _ => trivial)); (case aO => exact (apAR HO_4.out)); (case aS => exact (keep_size (w := w) (g := g) (row := none) ap5)); (case aL => have := LMc30.out; omega); intro v185 w33 ho hb hg hat; rw [← Ny184.out] at ho; have n0_ := Aside0.mk (IsS120.grown (apI120 HI0.out) hg (IsS120.own_ne HI0.out HO_4.out (by decide))); have n1_ := Aside0.mk (below_weaken (apS120 HI0.out) HL.out hb); have n2_ := Aside0.mk (KeepBut.trans ap5 (KeepBut.of_grown hg g) (Kd.R_base2 HO_4.out)); have n3_ := Aside0.mk (ho); clear HI0; clear HB; clear HK; clear HO_4; have HI0 := n0_; have HB := n1_; have HK := n2_; have HO186 := n3_; clear n0_ n1_ n2_ n3_; clear ho hb hg hat; obtain ⟨Ao34, co34, eo34⟩ := Kd.R_slice HO186.out; subst eo34)))
                 go_roundg kj13
                 case measure => have := HK1.out; have := HJ13.out; omega
                 case rel => exact ⟨(y184), ((y184.length : Int)), (t182), (t183), ap2, H', ⟨by have := HK1.out; have := HJ13.out; omega⟩, ⟨by (with_reducible repeat (first | apply Kd.R_alloc | apply Kd.R_drewN | apply Kd.R_drew)); exact HO186.out⟩, ⟨by repeat (first | (with_reducible first | exact HI0.out | apply IsS120.alloc | apply IsS120.drewN | apply IsS120.drew | apply IsS120.set_0 | apply IsS120.set_1) | exact HI0.out)⟩, ⟨by repeat (first | (with_reducible first | exact HK.out | apply KeepBut.set_ | apply keep_drewN | apply keep_drew | apply keep_alloc) | exact HK.out)⟩, ⟨by repeat (first | (with_reducible first | exact HB.out | apply below_alloc | apply pw_below_drewN | apply below_drew1 | refine below_set ?_ (IsS120.ge HI0.out)) | exact HB.out)⟩⟩
                ·
                 rw [if_neg c30] at H
                 exact absurd H (by simp)
               ·
                replace c29 := Bool.eq_false_iff.mpr c29
                subst c29
                rw [if_neg (show ¬ (false = true) by decide)] at H
                simp only [Option.some.injEq, Prod.mk.injEq] at H
                obtain ⟨rfl, rfl, rfl, rfl⟩ := H
                obtain ⟨HGz35, hgz35⟩ := HI0.out
                have hcz35_0 := cellS120_0 HGz35
                have hcz35_1 := cellS120_1 HGz35
                have hfz35_0 := blk_frozen HGz35 0
                have hfz35_1 := blk_frozen HGz35 1
                clear HGz35 hgz35
                go_wp2_with (first | (go_at_call 124; (with_reducible refine (Dxescaped.calls kj13 g x1000_1 (wrap64 (x1001_1 + 1)) t180 false t182 t183 w0 _ ?side1 ?side2 A28.out).mono ?_); (case side1 => exact apI120 HI0.out); (case side2 => exact apS120 HI0.out); rintro e w36 ⟨rfl, hi, hb, hk⟩; have n0_ := Aside0.mk (Kd.R_mono (Kd.R_keep (IsS120.apart (show IsS120 w0 _ g x1000_1 (wrap64 (x1001_1 + 1)) from by repeat (first | (with_reducible first | exact HI0.out | apply IsS120.alloc | apply IsS120.drewN | apply IsS120.drew | apply IsS120.set_0 | apply IsS120.set_1) | exact HI0.out)) (by (with_reducible repeat (first | apply Kd.R_alloc | apply Kd.R_drewN | apply Kd.R_drew)); exact (Kd.R_mono (Kd.R_far (p := ⟨g, 1, none⟩) (IsS120.apart HI0.out HO_4.out (by decide)) (fun _ hk => hk.2) (.int .i64 (wrap64 (x1001_1 + 1)))) (fun _ h_ => h_.1))) (by decide)) hk (fun _ h => h.2)) (fun _ h => h.1)); have n1_ := Aside0.mk (KeepBut.trans ap5 hk (.inl rfl)); have n2_ := Aside0.mk (hb); have n3_ := Aside0.mk (hi); clear HO_4; clear HK; clear HB; clear HI0; have HO_4 := n0_; have HK := n1_; have HB := n2_; have HI0 := n3_; clear n0_ n1_ n2_ n3_; (try clear hb); (try clear hb2); (try clear hk); (try clear hi)))
                repeat (go_quiet (first | (go_at_call 124; (with_reducible refine (Dxescaped.calls kj13 g x1000_1 (wrap64 (x1001_1 + 1)) t180 false t182 t183 w0 _ ?side1 ?side2 A28.out).mono ?_); (case side1 => exact apI120 HI0.out); (case side2 => exact apS120 HI0.out); rintro e w36 ⟨rfl, hi, hb, hk⟩; have n0_ := Aside0.mk (Kd.R_mono (Kd.R_keep (IsS120.apart (show IsS120 w0 _ g x1000_1 (wrap64 (x1001_1 + 1)) from by repeat (first | (with_reducible first | exact HI0.out | apply IsS120.alloc | apply IsS120.drewN | apply IsS120.drew | apply IsS120.set_0 | apply IsS120.set_1) | exact HI0.out)) (by (with_reducible repeat (first | apply Kd.R_alloc | apply Kd.R_drewN | apply Kd.R_drew)); exact (Kd.R_mono (Kd.R_far (p := ⟨g, 1, none⟩) (IsS120.apart HI0.out HO_4.out (by decide)) (fun _ hk => hk.2) (.int .i64 (wrap64 (x1001_1 + 1)))) (fun _ h_ => h_.1))) (by decide)) hk (fun _ h => h.2)) (fun _ h => h.1)); have n1_ := Aside0.mk (KeepBut.trans ap5 hk (.inl rfl)); have n2_ := Aside0.mk (hb); have n3_ := Aside0.mk (hi); clear HO_4; clear HK; clear HB; clear HI0; have HO_4 := n0_; have HK := n1_; have HB := n2_; have HI0 := n3_; clear n0_ n1_ n2_ n3_; (try clear hb); (try clear hb2); (try clear hk); (try clear hi))); try go_wp2_with (first | (go_at_call 124; (with_reducible refine (Dxescaped.calls kj13 g x1000_1 (wrap64 (x1001_1 + 1)) t180 false t182 t183 w0 _ ?side1 ?side2 A28.out).mono ?_); (case side1 => exact apI120 HI0.out); (case side2 => exact apS120 HI0.out); rintro e w36 ⟨rfl, hi, hb, hk⟩; have n0_ := Aside0.mk (Kd.R_mono (Kd.R_keep (IsS120.apart (show IsS120 w0 _ g x1000_1 (wrap64 (x1001_1 + 1)) from by repeat (first | (with_reducible first | exact HI0.out | apply IsS120.alloc | apply IsS120.drewN | apply IsS120.drew | apply IsS120.set_0 | apply IsS120.set_1) | exact HI0.out)) (by (with_reducible repeat (first | apply Kd.R_alloc | apply Kd.R_drewN | apply Kd.R_drew)); exact (Kd.R_mono (Kd.R_far (p := ⟨g, 1, none⟩) (IsS120.apart HI0.out HO_4.out (by decide)) (fun _ hk => hk.2) (.int .i64 (wrap64 (x1001_1 + 1)))) (fun _ h_ => h_.1))) (by decide)) hk (fun _ h => h.2)) (fun _ h => h.1)); have n1_ := Aside0.mk (KeepBut.trans ap5 hk (.inl rfl)); have n2_ := Aside0.mk (hb); have n3_ := Aside0.mk (hi); clear HO_4; clear HK; clear HB; clear HI0; have HO_4 := n0_; have HK := n1_; have HB := n2_; have HI0 := n3_; clear n0_ n1_ n2_ n3_; (try clear hb); (try clear hb2); (try clear hk); (try clear hi))))
                go_ret2
                exact ⟨by first | rfl | (simp [errW_none, errW_some, bne_nil8, beq_nil8]; done) | (simp [errW_none, errW_some] <;> rfl) | (simp [*, errW_none, errW_some] <;> rfl), by repeat (first | (with_reducible first | exact HI0.out | apply IsS120.alloc | apply IsS120.drewN | apply IsS120.drew | apply IsS120.set_0 | apply IsS120.set_1) | exact HI0.out), by repeat (first | (with_reducible first | exact HB.out | apply below_alloc | apply pw_below_drewN | apply below_drew1 | refine below_set ?_ (IsS120.ge HI0.out)) | exact HB.out), by repeat (first | (with_reducible first | exact HK.out | apply KeepBut.set_ | apply keep_drewN | apply keep_drew | apply keep_alloc) | exact HK.out)⟩
              ·
               rw [if_neg c27] at H
               have c27b0 : ((bt x1000_1 x1001_1) == 92) = false := beq_eq_false_iff_ne.mpr c27
               have c27b1 : ((bt x1000_1 x1001_1) != 92) = true := bne_iff_ne.mpr c27
               by_cases c37 : x4_1.length < 140737488355328
               ·
                rw [if_pos c37] at H
                have LMc37 := Aside0.mk c37
                clear c37
                obtain ⟨y187, hy187⟩ : ∃ y_ : List Int, y_ = (x4_1 ++ [(bt x1000_1 x1001_1)]) := ⟨_, rfl⟩
                replace H : (if (bt x1000_1 x1001_1) = 32 then (Dxvalue.l0 kj13 y187 x5_1 x1000_1 (wrap64 (x1001_1 + 1))) else (Dxvalue.l0 kj13 y187 (y187.length : Int) x1000_1 (wrap64 (x1001_1 + 1)))) = some (r1, r2, r3, r4) := by first | (rw [hy187]; with_reducible exact H) | (have H2_ := (Option.bind_some _ _).symm.trans H; rw [hy187]; with_reducible exact H2_) | (have H2_ := (Option.bind_some _ _).symm.trans H; with_reducible exact H2_) | with_reducible exact H | (rw [hy187]; exact H) | exact H
                have Ny187 := Aside0.mk hy187
                clear hy187
                by_cases c38 : (bt x1000_1 x1001_1) = 32
                ·
                 rw [if_pos c38] at H
                 have c38b0 : ((bt x1000_1 x1001_1) == 32) = true := beq_iff_eq.mpr c38
                 have c38b1 : ((bt x1000_1 x1001_1) != 32) = false := bne_eq_false_iff_eq.mpr c38
                 clear c38
                 have H' := Aside0.mk H
                 clear H
                 obtain ⟨HGz39, hgz39⟩ := HI0.out
                 have hcz39_0 := cellS120_0 HGz39
                 have hcz39_1 := cellS120_1 HGz39
                 have hfz39_0 := blk_frozen HGz39 0
                 have hfz39_1 := blk_frozen HGz39 1
                 clear HGz39 hgz39
                 go_wp2_with (first | ((with_reducible refine gate_builtin (b := .append) (xs := #[.tmp 75, .tmp 77]) rfl ?_); at_builtin; refine Kd.R_append (Kd.int .u8) w.heap.size rfl (.tmp 75) (.tmp 77) 82 5 (.int .u8 0) 1 rfl Tryz.underlying82 info5 rfl (by decide) (by omega) u4 x4_1 (bt x1000_1 x1001_1) [.int .u8 (bt x1000_1 x1001_1)] (fun _ => True) (fun _ => False) rfl (by first | (go_simp; done) | (go_simp; rfl)) ?aP (fun _ hk => hk.elim) ?aF ?aO (Below.refl _ _) ?aS ?aL ?_; (case aP => exact rfl); (case aF => exact (fun _ _ => trivial)); (case aO => exact (by (with_reducible repeat (first | apply Kd.R_alloc | apply Kd.R_drewN | apply Kd.R_drew)); exact Kd.R_mono (Kd.R_far (p := ⟨g, 1, none⟩) (IsS120.apart HI0.out HO_4.out (by decide)) (fun _ hk => hk.2) (.int .i64 (wrap64 (x1001_1 + 1)))) (fun _ hk => trivial))); (case aS => exact (keep_size (w := w) (g := g) (row := none) ap5)); (case aL => have := LMc37.out; omega); intro v188 w40 ho hb hg hat; rw [← Ny187.out] at ho; have n0_ := Aside0.mk (IsS120.grown (apI120 HI0.out) hg (IsS120.own_ne HI0.out HO_4.out (by decide))); have n1_ := Aside0.mk (below_weaken (apS120 HI0.out) HL.out hb); have n2_ := Aside0.mk (KeepBut.trans ap5 (KeepBut.of_grown hg g) (Kd.R_base2 HO_4.out)); have n3_ := Aside0.mk (ho); clear HI0; clear HB; clear HK; clear HO_4; have HI0 := n0_; have HB := n1_; have HK := n2_; have HO189 := n3_; clear n0_ n1_ n2_ n3_; clear ho hb hg hat))
                 repeat (go_quiet (first | ((with_reducible refine gate_builtin (b := .append) (xs := #[.tmp 75, .tmp 77]) rfl ?_); at_builtin; refine Kd.R_append (Kd.int .u8) w.heap.size rfl (.tmp 75) (.tmp 77) 82 5 (.int .u8 0) 1 rfl Tryz.underlying82 info5 rfl (by decide) (by omega) u4 x4_1 (bt x1000_1 x1001_1) [.int .u8 (bt x1000_1 x1001_1)] (fun _ => True) (fun _ => False) rfl (by first | (go_simp; done) | (go_simp; rfl)) ?aP (fun _ hk => hk.elim) ?aF ?aO (Below.refl _ _) ?aS ?aL ?_; (case aP => exact rfl); (case aF => exact (fun _ _ => trivial)); (case aO => exact (by (with_reducible repeat (first | apply Kd.R_alloc | apply Kd.R_drewN | apply Kd.R_drew)); exact Kd.R_mono (Kd.R_far (p := ⟨g, 1, none⟩) (IsS120.apart HI0.out HO_4.out (by decide)) (fun _ hk => hk.2) (.int .i64 (wrap64 (x1001_1 + 1)))) (fun _ hk => trivial))); (case aS => exact (keep_size (w := w) (g := g) (row := none) ap5)); (case aL => have := LMc37.out; omega); intro v188 w40 ho hb hg hat; rw [← Ny187.out] at ho; have n0_ := Aside0.mk (IsS120.grown (apI120 HI0.out) hg (IsS120.own_ne HI0.out HO_4.out (by decide))); have n1_ := Aside0.mk (below_weaken (apS120 HI0.out) HL.out hb); have n2_ := Aside0.mk (KeepBut.trans ap5 (KeepBut.of_grown hg g) (Kd.R_base2 HO_4.out)); have n3_ := Aside0.mk (ho); clear HI0; clear HB; clear HK; clear HO_4; have HI0 := n0_; have HB := n1_; have HK := n2_; have HO189 := n3_; clear n0_ n1_ n2_ n3_; clear ho hb hg hat)); try go_wp2_with (first | ((with_reducible refine gate_builtin (b := .append) (xs := #[.tmp 75, .tmp 77]) rfl ?_); at_builtin; refine Kd.R_append (Kd.int .u8) w.heap.size rfl (.tmp 75) (.tmp 77) 82 5 (.int .u8 0) 1 rfl Tryz.underlying82 info5 rfl (by decide) (by omega) u4 x4_1 (bt x1000_1 x1001_1) [.int .u8 (bt x1000_1 x1001_1)] (fun _ => True) (fun _ => False) rfl (by first | (go_simp; done) | (go_simp; rfl)) ?aP (fun _ hk => hk.elim) ?aF ?aO (Below.refl _ _) ?aS ?aL ?_; (case aP => exact rfl); (case aF => exact (fun _ _ => trivial)); (case aO => exact (by (with_reducible repeat (first | apply Kd.R_alloc | apply Kd.R_drewN | apply Kd.R_drew)); exact Kd.R_mono (Kd.R_far (p := ⟨g, 1, none⟩) (IsS120.apart HI0.out HO_4.out (by decide)) (fun _ hk => hk.2) (.int .i64 (wrap64 (x1001_1 + 1)))) (fun _ hk => trivial))); (case aS => exact (keep_size (w := w) (g := g) (row := none) ap5)); (case aL => have := LMc37.out; omega); intro v188 w40 ho hb hg hat; rw [← Ny187.out] at ho; have n0_ := Aside0.mk (IsS120.grown (apI120 HI0.out) hg (IsS120.own_ne HI0.out HO_4.out (by decide))); have n1_ := Aside0.mk (below_weaken (apS120 HI0.out) HL.out hb); have n2_ := Aside0.mk (KeepBut.trans ap5 (KeepBut.of_grown hg g) (Kd.R_base2 HO_4.out)); have n3_ := Aside0.mk (ho); clear HI0; clear HB; clear HK; clear HO_4; have HI0 := n0_; have HB := n1_; have HK := n2_; have HO189 := n3_; clear n0_ n1_ n2_ n3_; clear ho hb hg hat)))
                 go_roundg kj13
                 case measure => have := HK1.out; have := HJ13.out; omega
                 case rel => exact ⟨(y187), (x5_1), (x1000_1), (wrap64 (x1001_1 + 1)), ap2, H', ⟨by have := HK1.out; have := HJ13.out; omega⟩, ⟨by (with_reducible repeat (first | apply Kd.R_alloc | apply Kd.R_drewN | apply Kd.R_drew)); exact HO189.out⟩, ⟨by repeat (first | (with_reducible first | exact HI0.out | apply IsS120.alloc | apply IsS120.drewN | apply IsS120.drew | apply IsS120.set_0 | apply IsS120.set_1) | exact HI0.out)⟩, ⟨by repeat (first | (with_reducible first | exact HK.out | apply KeepBut.set_ | apply keep_drewN | apply keep_drew | apply keep_alloc) | exact HK.out)⟩, ⟨by repeat (first | (with_reducible first | exact HB.out | apply below_alloc | apply pw_below_drewN | apply below_drew1 | refine below_set ?_ (IsS120.ge HI0.out)) | exact HB.out)⟩⟩
                ·
                 rw [if_neg c38] at H
                 have c38b0 : ((bt x1000_1 x1001_1) == 32) = false := beq_eq_false_iff_ne.mpr c38
                 have c38b1 : ((bt x1000_1 x1001_1) != 32) = true := bne_iff_ne.mpr c38
                 have H' := Aside0.mk H
                 clear H
                 obtain ⟨HGz41, hgz41⟩ := HI0.out
                 have hcz41_0 := cellS120_0 HGz41
                 have hcz41_1 := cellS120_1 HGz41
                 have hfz41_0 := blk_frozen HGz41 0
                 have hfz41_1 := blk_frozen HGz41 1
                 clear HGz41 hgz41
                 go_wp2_with (first | ((with_reducible refine gate_builtin (b := .append) (xs := #[.tmp 75, .tmp 77]) rfl ?_); at_builtin; refine Kd.R_append (Kd.int .u8) w.heap.size rfl (.tmp 75) (.tmp 77) 82 5 (.int .u8 0) 1 rfl Tryz.underlying82 info5 rfl (by decide) (by omega) u4 x4_1 (bt x1000_1 x1001_1) [.int .u8 (bt x1000_1 x1001_1)] (fun _ => True) (fun _ => False) rfl (by first | (go_simp; done) | (go_simp; rfl)) ?aP (fun _ hk => hk.elim) ?aF ?aO (Below.refl _ _) ?aS ?aL ?_; (case aP => exact rfl); (case aF => exact (fun _ _ => trivial)); (case aO => exact (by (with_reducible repeat (first | apply Kd.R_alloc | apply Kd.R_drewN | apply Kd.R_drew)); exact Kd.R_mono (Kd.R_far (p := ⟨g, 1, none⟩) (IsS120.apart HI0.out HO_4.out (by decide)) (fun _ hk => hk.2) (.int .i64 (wrap64 (x1001_1 + 1)))) (fun _ hk => trivial))); (case aS => exact (keep_size (w := w) (g := g) (row := none) ap5)); (case aL => have := LMc37.out; omega); intro v188 w42 ho hb hg hat; rw [← Ny187.out] at ho; have n0_ := Aside0.mk (IsS120.grown (apI120 HI0.out) hg (IsS120.own_ne HI0.out HO_4.out (by decide))); have n1_ := Aside0.mk (below_weaken (apS120 HI0.out) HL.out hb); have n2_ := Aside0.mk (KeepBut.trans ap5 (KeepBut.of_grown hg g) (Kd.R_base2 HO_4.out)); have n3_ := Aside0.mk (ho); clear HI0; clear HB; clear HK; clear HO_4; have HI0 := n0_; have HB := n1_; have HK := n2_; have HO189 := n3_; clear n0_ n1_ n2_ n3_; clear ho hb hg hat; obtain ⟨Ao43, co43, eo43⟩ := Kd.R_slice HO189.out; subst eo43))
                 repeat (go_quiet (first | ((with_reducible refine gate_builtin (b := .append) (xs := #[.tmp 75, .tmp 77]) rfl ?_); at_builtin; refine Kd.R_append (Kd.int .u8) w.heap.size rfl (.tmp 75) (.tmp 77) 82 5 (.int .u8 0) 1 rfl Tryz.underlying82 info5 rfl (by decide) (by omega) u4 x4_1 (bt x1000_1 x1001_1) [.int .u8 (bt x1000_1 x1001_1)] (fun _ => True) (fun _ => False) rfl (by first | (go_simp; done) | (go_simp; rfl)) ?aP (fun _ hk => hk.elim) ?aF ?aO (Below.refl _ _) ?aS ?aL ?_; (case aP => exact rfl); (case aF => exact (fun _ _ => trivial)); (case aO => exact (by (with_reducible repeat (first | apply Kd.R_alloc | apply Kd.R_drewN | apply Kd.R_drew)); exact Kd.R_mono (Kd.R_far (p := ⟨g, 1, none⟩) (IsS120.apart HI0.out HO_4.out (by decide)) (fun _ hk => hk.2) (.int .i64 (wrap64 (x1001_1 + 1)))) (fun _ hk => trivial))); (case aS => exact (keep_size (w := w) (g := g) (row := none) ap5)); (case aL => have := LMc37.out; omega); intro v188 w42 ho hb hg hat; rw [← Ny187.out] at ho; have n0_ := Aside0.mk (IsS120.grown (apI120 HI0.out) hg (IsS120.own_ne HI0.out HO_4.out (by decide))); have n1_ := Aside0.mk (below_weaken (apS120 HI0.out) HL.out hb); have n2_ := Aside0.mk (KeepBut.trans ap5 (KeepBut.of_grown hg g) (Kd.R_base2 HO_4.out)); have n3_ := Aside0.mk (ho); clear HI0; clear HB; clear HK; clear HO_4; have HI0 := n0_; have HB := n1_; have HK := n2_; have HO189 := n3_; clear n0_ n1_ n2_ n3_; clear ho hb hg hat; obtain ⟨Ao43, co43, eo43⟩ := Kd.R_slice HO189.out; subst eo43)); try go_wp2_with (first | ((with_reducible refine gate_builtin (b := .append) (xs := #[.tmp 75, .tmp 77]) rfl ?_); at_builtin; refine Kd.R_append (Kd.int .u8) w.heap.size rfl (.tmp 75) (.tmp 77) 82 5 (.int .u8 0) 1 rfl Tryz.underlying82 info5 rfl (by decide) (by omega) u4 x4_1 (bt x1000_1 x1001_1) [.int .u8 (bt x1000_1 x1001_1)] (fun _ => True) (fun _ => False) rfl (by first | (go_simp; done) | (go_simp; rfl)) ?aP (fun _ hk => hk.elim) ?aF ?aO (Below.refl _ _) ?aS ?aL ?_; (case aP => exact rfl); (case aF => exact (fun _ _ => trivial)); (case aO => exact (by (with_reducible repeat (first | apply Kd.R_alloc | apply Kd.R_drewN | apply Kd.R_drew)); exact Kd.R_mono (Kd.R_far (p := ⟨g, 1, none⟩) (IsS120.apart HI0.out HO_4.out (by decide)) (fun _ hk => hk.2) (.int .i64 (wrap64 (x1001_1 + 1)))) (fun _ hk => trivial))); (case aS => exact (keep_size (w := w) (g := g) (row := none) ap5)); (case aL => have := LMc37.out; omega); intro v188 w42 ho hb hg hat; rw [← Ny187.out] at ho; have n0_ := Aside0.mk (IsS120.grown (apI120 HI0.out) hg (IsS120.own_ne HI0.out HO_4.out (by decide))); have n1_ := Aside0.mk (below_weaken (apS120 HI0.out) HL.out hb); have n2_ := Aside0.mk (KeepBut.trans ap5 (KeepBut.of_grown hg g) (Kd.R_base2 HO_4.out)); have n3_ := Aside0.mk (ho); clear HI0; clear HB; clear HK; clear HO_4; have HI0 := n0_; have HB := n1_; have HK := n2_; have HO189 := n3_; clear n0_ n1_ n2_ n3_; clear ho hb hg hat; obtain ⟨Ao43, co43, eo43⟩ := Kd.R_slice HO189.out; subst eo43)))
                 go_roundg kj13
                 case measure => have := HK1.out; have := HJ13.out; omega
                 case rel => exact ⟨(y187), ((y187.length : Int)), (x1000_1), (wrap64 (x1001_1 + 1)), ap2, H', ⟨by have := HK1.out; have := HJ13.out; omega⟩, ⟨by (with_reducible repeat (first | apply Kd.R_alloc | apply Kd.R_drewN | apply Kd.R_drew)); exact HO189.out⟩, ⟨by repeat (first | (with_reducible first | exact HI0.out | apply IsS120.alloc | apply IsS120.drewN | apply IsS120.drew | apply IsS120.set_0 | apply IsS120.set_1) | exact HI0.out)⟩, ⟨by repeat (first | (with_reducible first | exact HK.out | apply KeepBut.set_ | apply keep_drewN | apply keep_drew | apply keep_alloc) | exact HK.out)⟩, ⟨by repeat (first | (with_reducible first | exact HB.out | apply below_alloc | apply pw_below_drewN | apply below_drew1 | refine below_set ?_ (IsS120.ge HI0.out)) | exact HB.out)⟩⟩
               ·
                rw [if_neg c37] at H
                exact absurd H (by simp)
       ·
        rw [if_neg c12] at H
        exact absurd H (by simp)
      ·
       rw [if_neg c11] at H
       have c11b0 := decide_eq_false c11
       clear c11
       by_cases c44 : 0 ≤ x5_1
       ·
        rw [if_pos c44] at H
        have c44b0 := eq_true c44
        have c44b1 := decide_eq_true c44
        clear c44
        by_cases c45 : x5_1 ≤ (x4_1.length : Int)
        ·
         rw [if_pos c45] at H
         have c45b0 := eq_true c45
         have c45b1 := decide_eq_true c45
         clear c45
         obtain ⟨y172, hy172⟩ : ∃ y_ : List Int, y_ = (x4_1.take (x5_1 : Int).toNat) := ⟨_, rfl⟩
         replace H : (some (strOfNums y172, true, x1000_1, x1001_1)) = some (r1, r2, r3, r4) := by first | (rw [hy172]; with_reducible exact H) | (have H2_ := (Option.bind_some _ _).symm.trans H; rw [hy172]; with_reducible exact H2_) | (have H2_ := (Option.bind_some _ _).symm.trans H; with_reducible exact H2_) | with_reducible exact H | (rw [hy172]; exact H) | exact H
         have Ny172 := Aside0.mk hy172
         clear hy172
         simp only [Option.some.injEq, Prod.mk.injEq] at H
         obtain ⟨rfl, rfl, rfl, rfl⟩ := H
         obtain ⟨HGz46, hgz46⟩ := HI0.out
         have hcz46_0 := cellS120_0 HGz46
         have hcz46_1 := cellS120_1 HGz46
         have hfz46_0 := blk_frozen HGz46 0
         have hfz46_1 := blk_frozen HGz46 1
         clear HGz46 hgz46
         obtain ⟨Ao48, co48, eo48⟩ := Kd.R_slice HO_4.out
         subst eo48
         have q47 : (x5_1 : Int) ≤ ((x4_1.length : Int) : Int) := of_decide_eq_true ap0
         obtain ⟨i047, hi047, _, hsz47, _⟩ := info_parts info5
         have hroom47 : x4_1.length ≤ co48 := (Kd.R_reads' HO_4.out).2.1
         have hC47 : Kd.C (Kd.int .u8) _ Ao48 x4_1.length x4_1 := (Kd.R_reads' HO_4.out).2.2
         have hcut47 := cut_to (P := Tryz.prog) 82 5 .i64 Tryz.underlying82 hi047 Ao48 x4_1.length co48 x5_1 (of_decide_eq_true ap0) q47 hroom47
         have hr47 := Kd.C_take (m := (x5_1 : Int).toNat) hC47 (by omega)
         have hy47 : y172.length = (x5_1 : Int).toNat := (by rw [Ny172.out, List.length_take]; omega)
         rw [← Ny172.out] at hr47
         rw [← hy47] at hcut47
         have HR175 := Aside0.mk hr47
         have HC175 := Aside0.mk (show y172.length ≤ co48 from by omega)
         clear hr47 hC47 hroom47 hi047 hsz47
         have KY47 := Aside0.mk hy47
         clear hy47
         have KL47 := Aside0.mk (show (x5_1 : Int).toNat ≤ x4_1.length from by omega)
         replace q47 := eq_true q47
         have hcv49 := Kd.C_string (P := Tryz.prog) (A := Ao48) (c := co48) Tryz.underlying82 Tryz.underlying5 Tryz.underlying9 (apC HR175.out)
         have hcv49n := fun m_ => Kd.C_string (P := Tryz.prog) (A := Ao48) (c := co48) Tryz.underlying82 Tryz.underlying5 Tryz.underlying9 (Kd.C_drewN (apC HR175.out) m_)
         go_wp2
         repeat (go_quiet (fail); try go_wp2)
         go_ret2
         exact ⟨by first | rfl | (simp [errW_none, errW_some, bne_nil8, beq_nil8]; done) | (simp [errW_none, errW_some] <;> rfl) | (simp [*, errW_none, errW_some] <;> rfl), by repeat (first | (with_reducible first | exact HI0.out | apply IsS120.alloc | apply IsS120.drewN | apply IsS120.drew | apply IsS120.set_0 | apply IsS120.set_1) | exact HI0.out), by repeat (first | (with_reducible first | exact HB.out | apply below_alloc | apply pw_below_drewN | apply below_drew1 | refine below_set ?_ (IsS120.ge HI0.out)) | exact HB.out), by repeat (first | (with_reducible first | exact HK.out | apply KeepBut.set_ | apply keep_drewN | apply keep_drew | apply keep_alloc) | exact HK.out)⟩
        ·
         rw [if_neg c45] at H
         exact absurd H (by simp)
       ·
        rw [if_neg c44] at H
        exact absurd H (by simp)
  ·
   rw [if_neg c4] at H
   exact absurd H (by simp)
 ·
  rw [if_neg c3] at H
  exact absurd H (by simp)
mutual
def dn_Parse.l0 : Nat → ByteArray → List (List (S96)) → List (S96) → ByteArray → Int → Option ((List (List (S96))) × Int)
 | 0, _, _, _, _, _ => none
 | k + 1, x0, x5, x6, x195000, x195001 => (Dxkind.f k x195000 x195001).bind fun bt197 => (if bt197.2.1 = true then ((Dxvalue.f k bt197.2.2.1 bt197.2.2.2).bind fun bt201 => (if bt201.2.1 = true then (if x6.length < 4398046511104 then ((some (x6 ++ [(⟨bt197.1, bt201.1⟩ : S96)] : List (S96))).bind fun y205 => (if bt201.2.2.2 = (x0.size : Int) then (dn_Parse.j1 k x0 x5 y205 (bt201.2.2.2 == (x0.size : Int)) true bt201.2.2.1 bt201.2.2.2) else (if 0 ≤ bt201.2.2.2 then (if bt201.2.2.2 < (x0.size : Int) then (dn_Parse.j1 k x0 x5 y205 (bt201.2.2.2 == (x0.size : Int)) ((bt x0 bt201.2.2.2) != 43) bt201.2.2.1 bt201.2.2.2) else (none)) else (none)))) else (none)) else (some (([] : List (List (S96))), 4)))) else (some (([] : List (List (S96))), 4)))
def dn_Parse.j1 : Nat → ByteArray → List (List (S96)) → List (S96) → Bool → Bool → ByteArray → Int → Option ((List (List (S96))) × Int)
 | 0, _, _, _, _, _, _, _ => none
 | k + 1, x0, x5, x6, x10, x62, x195000, x195001 => if x62 = true then (if x5.length < 5864062014805 then ((some (x5 ++ [x6] : List (List (S96)))).bind fun y208 => (if x10 = true then ((dn_Right.f k y208).bind fun t211 => (if t211 = true then (some (y208, 0)) else (some (([] : List (List (S96))), 4)))) else (dn_Parse.l0 k x0 y208 ([] : List (S96)) x195000 (wrap64 (x195001 + 1))))) else (none)) else (if x10 = true then ((dn_Right.f k x5).bind fun t212 => (if t212 = true then (some (x5, 0)) else (some (([] : List (List (S96))), 4)))) else (dn_Parse.l0 k x0 x5 x6 x195000 (wrap64 (x195001 + 1))))
end
def dn_Parse.f (k : Nat) (a0 : ByteArray) : Option ((List (List (S96))) × Int) := if (a0.size : Int) > 1000 then (some (([] : List (List (S96))), 5)) else ((Dxblanks.f k a0 0).bind fun bt195 => (if bt195.2 = (a0.size : Int) then (some (([] : List (List (S96))), 0)) else (dn_Parse.l0 k a0 ([] : List (List (S96))) ([] : List (S96)) bt195.1 bt195.2)))
theorem dn_Parse.mono_l : ∀ k, (∀ y0 y1 y2 y3 y4, LeO (dn_Parse.l0 k y0 y1 y2 y3 y4) (dn_Parse.l0 (k + 1) y0 y1 y2 y3 y4)) ∧ (∀ y0 y1 y2 y3 y4 y5 y6, LeO (dn_Parse.j1 k y0 y1 y2 y3 y4 y5 y6) (dn_Parse.j1 (k + 1) y0 y1 y2 y3 y4 y5 y6))
 | 0 => ⟨fun _ _ _ _ _ r h => by simp [dn_Parse.l0] at h, fun _ _ _ _ _ _ _ r h => by simp [dn_Parse.j1] at h⟩
 | k + 1 => by
  obtain ⟨ih0, ih1⟩ := dn_Parse.mono_l k
  refine ⟨?_, ?_⟩
  ·
   intro y0 y1 y2 y3 y4
   unfold dn_Parse.l0
   repeat' first
   | (with_reducible exact ih0 _ _ _ _ _)
   | (with_reducible exact ih1 _ _ _ _ _ _ _)
   | (with_reducible exact dn_Right.mono _ _)
   | (with_reducible exact Dxblanks.mono _ _ _)
   | (with_reducible exact Dxkind.mono _ _ _)
   | (with_reducible exact Dxvalue.mono _ _ _)
   | (with_reducible exact LeO.refl _)
   | (with_reducible exact LeO.none _)
   | (with_reducible refine LeO.ite ?_ ?_)
   | (with_reducible refine LeO.bind ?_ (fun _ => ?_))
  ·
   intro y0 y1 y2 y3 y4 y5 y6
   unfold dn_Parse.j1
   repeat' first
   | (with_reducible exact ih0 _ _ _ _ _)
   | (with_reducible exact ih1 _ _ _ _ _ _ _)
   | (with_reducible exact dn_Right.mono _ _)
   | (with_reducible exact Dxblanks.mono _ _ _)
   | (with_reducible exact Dxkind.mono _ _ _)
   | (with_reducible exact Dxvalue.mono _ _ _)
   | (with_reducible exact LeO.refl _)
   | (with_reducible exact LeO.none _)
   | (with_reducible refine LeO.ite ?_ ?_)
   | (with_reducible refine LeO.bind ?_ (fun _ => ?_))
theorem dn_Parse.mono : ∀ a0 k, LeO (dn_Parse.f k a0) (dn_Parse.f (k + 1) a0) := by
 intro a0 k
 obtain ⟨ih0, ih1⟩ := dn_Parse.mono_l k
 unfold dn_Parse.f
 repeat' first
   | (with_reducible exact ih0 _ _ _ _ _)
   | (with_reducible exact ih1 _ _ _ _ _ _ _)
   | (with_reducible exact dn_Right.mono _ _)
   | (with_reducible exact Dxblanks.mono _ _ _)
   | (with_reducible exact Dxkind.mono _ _ _)
   | (with_reducible exact Dxvalue.mono _ _ _)
   | (with_reducible exact LeO.refl _)
   | (with_reducible exact LeO.none _)
   | (with_reducible refine LeO.ite ?_ ?_)
   | (with_reducible refine LeO.bind ?_ (fun _ => ?_))
set_option maxHeartbeats 8000000 in
set_option maxRecDepth 100000 in
theorem dn_Parse.calls (k : Nat) (a0 : ByteArray) (r1 : List (List (S96))) (r2 : Int) (w : World) (hG : Gw w) (h : dn_Parse.f k a0 = some (r1, r2)) :
  Calls Tryz.prog 69 #[.string a0] w fun e w' => ∃ v0_ : Value, e = .returned (.tuple #[v0_, .int .i64 r2]) ∧ Kd.S (Kd.slice 96 k96) 92 w' w.heap.size (fun _ => True) v0_ r1 ∧ Below w.heap.size w w' := by
 have hu120 := Tryz.underlying120
 have hu96 := Tryz.underlying96
 have HB := Aside0.mk (Below.refl w.heap.size w)
 have HG := Aside0.mk hG
 clear hG
 have H : (if (a0.size : Int) > 1000 then (some (([] : List (List (S96))), 5)) else ((Dxblanks.f k a0 0).bind fun bt195 => (if bt195.2 = (a0.size : Int) then (some (([] : List (List (S96))), 0)) else (dn_Parse.l0 k a0 ([] : List (List (S96))) ([] : List (S96)) bt195.1 bt195.2)))) = some (r1, r2) := h
 clear h
 by_cases c2 : (a0.size : Int) > 1000
 ·
  rw [if_pos c2] at H
  have c2b0 := decide_eq_true c2
  have c2b1 : decide (1000 < a0.size) = true := decide_eq_true (by omega)
  clear c2
  simp only [Option.some.injEq, Prod.mk.injEq] at H
  obtain ⟨rfl, rfl⟩ := H
  go_enter Tryz.func69, Tryz.ntmps69
  go_wp2
  go_ret2
  exact ⟨_, by first | rfl | (simp [errW_none, errW_some, bne_nil8, beq_nil8]; done) | (simp [errW_none, errW_some] <;> rfl) | (simp [*, errW_none, errW_some] <;> rfl), by first | exact Kd.S_nil _ _ _ _ _ | exact Kd.N_nil _ _ _ _ _ | exact Kd.V_nil _ _ _ _ _ | exact Kd.Q_nil _ _ _ _ _ | exact Kd.R_nil _ _ _ _ _, by repeat (first | (with_reducible first | exact HB.out | apply below_alloc | apply pw_below_drewN | apply below_drew1) | exact HB.out)⟩
 ·
  rw [if_neg c2] at H
  have c2b0 := decide_eq_false c2
  have c2b1 : decide (1000 < a0.size) = false := decide_eq_false (by omega)
  clear c2
  replace H := Option.bind_eq_some_iff.mp H
  obtain ⟨⟨t195, t196⟩, A30, H⟩ := H
  replace H : (if t196 = (a0.size : Int) then (some (([] : List (List (S96))), 0)) else (dn_Parse.l0 k a0 ([] : List (List (S96))) ([] : List (S96)) t195 t196)) = some (r1, r2) := H
  have A3 := Aside0.mk A30
  clear A30
  by_cases c4 : t196 = (a0.size : Int)
  ·
   rw [if_pos c4] at H
   have c4b0 : (t196 == (a0.size : Int)) = true := beq_iff_eq.mpr c4
   have c4b1 : (t196 != (a0.size : Int)) = false := bne_eq_false_iff_eq.mpr c4
   clear c4
   simp only [Option.some.injEq, Prod.mk.injEq] at H
   obtain ⟨rfl, rfl⟩ := H
   go_enter Tryz.func69, Tryz.ntmps69
   go_wp2_with (first | ((with_reducible refine gate_dst (N := 16) rfl ?_); refine box_event ?hg (N := 16) ?hd (cs := #[.string a0, .int .i64 0]) (t := 120) ?hr ?_; (case hd => rfl); (case hg => rfl); (case hr => first | (go_simp; done) | (go_simp; rfl)); intro gb194 hg w5 hbox hb; have n0_ := Aside0.mk (below_step ap1 hb); have n1_ := Aside0.mk ((show IsS120 w w5 gb194 a0 0 from ⟨hbox, (by rw [hg]; exact (below_size ap1) : w.heap.size ≤ gb194)⟩)); have n2_ := Aside0.mk ((by rw [hg]; exact (below_size ap1) : w.heap.size ≤ gb194)); have n3_ := Aside0.mk ((by rw [hg]; exact (below_size ap1) : w.heap.size ≤ gb194)); clear HB; have HB := n0_; have HI194 := n1_; have GW194 := n2_; have GE194 := n3_; clear n0_ n1_ n2_ n3_; clear hb hbox hg) | ((with_reducible refine gate_callee (f := 96) rfl ?_); refine goesL_ (some 18) rfl rfl Tryz.func96 (by kernel_rfl) rfl #[.pointer (some ⟨gb194, 0, none⟩)] rfl ap3 ?_; (with_reducible refine (Dxblanks.calls k gb194 a0 0 t195 t196 w _ ?side1 ?side2 A3.out).mono ?_); (case side1 => exact apI120 HI194.out); (case side2 => exact apS120 HI194.out); rintro e w6 ⟨rfl, hi, hb, hk⟩; refine ⟨_, rfl, ?_⟩; have n0_ := Aside0.mk (hb); have n1_ := Aside0.mk (hi); clear HB; clear HI194; have HB := n0_; have HI194 := n1_; clear n0_ n1_; (try clear hb); (try clear hb2); (try clear hk); (try clear hi); obtain ⟨HGz7, hgz7⟩ := HI194.out; have hcz7_0 := cellS120_0 HGz7; have hcz7_1 := cellS120_1 HGz7; have hfz7_0 := blk_frozen HGz7 0; have hfz7_1 := blk_frozen HGz7 1; clear HGz7 hgz7))
   go_ret2
   exact ⟨_, by first | rfl | (simp [errW_none, errW_some, bne_nil8, beq_nil8]; done) | (simp [errW_none, errW_some] <;> rfl) | (simp [*, errW_none, errW_some] <;> rfl), by first | exact Kd.S_nil _ _ _ _ _ | exact Kd.N_nil _ _ _ _ _ | exact Kd.V_nil _ _ _ _ _ | exact Kd.Q_nil _ _ _ _ _ | exact Kd.R_nil _ _ _ _ _, by repeat (first | (with_reducible first | exact HB.out | apply below_alloc | apply pw_below_drewN | apply below_drew1 | refine below_set ?_ (IsS120.ge HI194.out)) | exact HB.out)⟩
  ·
   rw [if_neg c4] at H
   have c4b0 : (t196 == (a0.size : Int)) = false := beq_eq_false_iff_ne.mpr c4
   have c4b1 : (t196 != (a0.size : Int)) = true := bne_iff_ne.mpr c4
   have H' := Aside0.mk H
   clear H
   go_enter Tryz.func69, Tryz.ntmps69
   go_wp2_with (first | ((with_reducible refine gate_dst (N := 16) rfl ?_); refine box_event ?hg (N := 16) ?hd (cs := #[.string a0, .int .i64 0]) (t := 120) ?hr ?_; (case hd => rfl); (case hg => rfl); (case hr => first | (go_simp; done) | (go_simp; rfl)); intro gb194 hg w8 hbox hb; have n0_ := Aside0.mk (below_step ap1 hb); have n1_ := Aside0.mk ((show IsS120 w w8 gb194 a0 0 from ⟨hbox, (by rw [hg]; exact (below_size ap1) : w.heap.size ≤ gb194)⟩)); have n2_ := Aside0.mk ((by rw [hg]; exact (below_size ap1) : w.heap.size ≤ gb194)); have n3_ := Aside0.mk ((by rw [hg]; exact (below_size ap1) : w.heap.size ≤ gb194)); clear HB; have HB := n0_; have HI194 := n1_; have GW194 := n2_; have GE194 := n3_; clear n0_ n1_ n2_ n3_; clear hb hbox hg) | ((with_reducible refine gate_callee (f := 96) rfl ?_); refine goesL_ (some 18) rfl rfl Tryz.func96 (by kernel_rfl) rfl #[.pointer (some ⟨gb194, 0, none⟩)] rfl ap3 ?_; (with_reducible refine (Dxblanks.calls k gb194 a0 0 t195 t196 w _ ?side1 ?side2 A3.out).mono ?_); (case side1 => exact apI120 HI194.out); (case side2 => exact apS120 HI194.out); rintro e w9 ⟨rfl, hi, hb, hk⟩; refine ⟨_, rfl, ?_⟩; have n0_ := Aside0.mk (hb); have n1_ := Aside0.mk (hi); clear HB; clear HI194; have HB := n0_; have HI194 := n1_; clear n0_ n1_; (try clear hb); (try clear hb2); (try clear hk); (try clear hi); obtain ⟨HGz10, hgz10⟩ := HI194.out; have hcz10_0 := cellS120_0 HGz10; have hcz10_1 := cellS120_1 HGz10; have hfz10_0 := blk_frozen HGz10 0; have hfz10_1 := blk_frozen HGz10 1; clear HGz10 hgz10))
   go_loopg [5, 6] k (fun kq v5 v6 w' => ∃ (x5_1 : List (List (S96))) (x6_1 : List (S96)) (x195000_1 : ByteArray) (x195001_1 : Int), Aside0 (dn_Parse.l0 kq a0 x5_1 x6_1 x195000_1 x195001_1 = some (r1, r2)) ∧ Aside0 (kq ≤ k) ∧ Aside0 (Kd.S (Kd.slice 96 k96) 92 w' w.heap.size (fun k_ => some k_ ≠ (v6 : Value).ownBlock) v5 x5_1) ∧ Aside0 (Kd.R k96 96 w' w.heap.size (fun _ => True) v6 x6_1) ∧ Aside0 (IsS120 w w' gb194 x195000_1 x195001_1) ∧ Aside0 (Below w.heap.size w w'))
   case atStart => exact ⟨(([] : List (List (S96)))), (([] : List (S96))), (t195), (t196), H', ⟨Nat.le_refl _⟩, ⟨by first | exact Kd.S_nil _ _ _ _ _ | exact Kd.N_nil _ _ _ _ _ | exact Kd.V_nil _ _ _ _ _ | exact Kd.Q_nil _ _ _ _ _ | exact Kd.R_nil _ _ _ _ _⟩, ⟨by first | exact Kd.R_nil _ _ _ _ _ | exact Kd.N_nil _ _ _ _ _ | exact Kd.V_nil _ _ _ _ _ | exact Kd.Q_nil _ _ _ _ _ | exact Kd.S_nil _ _ _ _ _⟩, ⟨by repeat (first | (with_reducible first | exact HI194.out | apply IsS120.alloc | apply IsS120.drewN | apply IsS120.drew | apply IsS120.set_0 | apply IsS120.set_1) | exact HI194.out)⟩, ⟨by repeat (first | (with_reducible first | exact HB.out | apply below_alloc | apply pw_below_drewN | apply below_drew1 | refine below_set ?_ (IsS120.ge HI194.out)) | exact HB.out)⟩⟩
   case round =>
    clear H'
    try clear c2
    try clear c2b0
    try clear c2b1
    try clear p2
    try clear c4
    try clear c4b0
    try clear c4b1
    try clear c6
    try clear c9
    try clear hcz10_0
    try clear hcz10_1
    try clear hcz7_0
    try clear hcz7_1
    try clear hfz10_0
    try clear hfz10_1
    try clear hfz7_0
    try clear hfz7_1
    obtain ⟨x5_1, x6_1, x195000_1, x195001_1, HA, HK1, HO_5, HO_6, HI194, HB⟩ := hrel
    cases gk with
    | zero => exact absurd HA.out (by simp [dn_Parse.l0])
    | succ k1 =>
     have H := HA.out
     clear HA
     simp only [dn_Parse.l0] at H
     replace H := Option.bind_eq_some_iff.mp H
     obtain ⟨⟨t197, t198, t199, t200⟩, A110, H⟩ := H
     replace H : (if t198 = true then ((Dxvalue.f k1 t199 t200).bind fun bt201 => (if bt201.2.1 = true then (if x6_1.length < 4398046511104 then ((some (x6_1 ++ [(⟨t197, bt201.1⟩ : S96)] : List (S96))).bind fun y205 => (if bt201.2.2.2 = (a0.size : Int) then (dn_Parse.j1 k1 a0 x5_1 y205 (bt201.2.2.2 == (a0.size : Int)) true bt201.2.2.1 bt201.2.2.2) else (if 0 ≤ bt201.2.2.2 then (if bt201.2.2.2 < (a0.size : Int) then (dn_Parse.j1 k1 a0 x5_1 y205 (bt201.2.2.2 == (a0.size : Int)) ((bt a0 bt201.2.2.2) != 43) bt201.2.2.1 bt201.2.2.2) else (none)) else (none)))) else (none)) else (some (([] : List (List (S96))), 4)))) else (some (([] : List (List (S96))), 4))) = some (r1, r2) := H
     have A11 := Aside0.mk A110
     clear A110
     by_cases c12 : t198 = true
     ·
      subst c12
      rw [if_pos rfl] at H
      replace H := Option.bind_eq_some_iff.mp H
      obtain ⟨⟨t201, t202, t203, t204⟩, A130, H⟩ := H
      replace H : (if t202 = true then (if x6_1.length < 4398046511104 then ((some (x6_1 ++ [(⟨t197, t201⟩ : S96)] : List (S96))).bind fun y205 => (if t204 = (a0.size : Int) then (dn_Parse.j1 k1 a0 x5_1 y205 (t204 == (a0.size : Int)) true t203 t204) else (if 0 ≤ t204 then (if t204 < (a0.size : Int) then (dn_Parse.j1 k1 a0 x5_1 y205 (t204 == (a0.size : Int)) ((bt a0 t204) != 43) t203 t204) else (none)) else (none)))) else (none)) else (some (([] : List (List (S96))), 4))) = some (r1, r2) := H
      have A13 := Aside0.mk A130
      clear A130
      by_cases c14 : t202 = true
      ·
       subst c14
       rw [if_pos rfl] at H
       by_cases c15 : x6_1.length < 4398046511104
       ·
        rw [if_pos c15] at H
        have LMc15 := Aside0.mk c15
        clear c15
        obtain ⟨y205, hy205⟩ : ∃ y_ : List (S96), y_ = (x6_1 ++ [(⟨t197, t201⟩ : S96)]) := ⟨_, rfl⟩
        replace H : (if t204 = (a0.size : Int) then (dn_Parse.j1 k1 a0 x5_1 y205 (t204 == (a0.size : Int)) true t203 t204) else (if 0 ≤ t204 then (if t204 < (a0.size : Int) then (dn_Parse.j1 k1 a0 x5_1 y205 (t204 == (a0.size : Int)) ((bt a0 t204) != 43) t203 t204) else (none)) else (none))) = some (r1, r2) := by first | (rw [hy205]; with_reducible exact H) | (have H2_ := (Option.bind_some _ _).symm.trans H; rw [hy205]; with_reducible exact H2_) | (have H2_ := (Option.bind_some _ _).symm.trans H; with_reducible exact H2_) | with_reducible exact H | (rw [hy205]; exact H) | exact H
        have Ny205 := Aside0.mk hy205
        clear hy205
        have HC16 := Aside0.mk H
        clear H
        go_upto_region 17 with (first | ((with_reducible refine gate_callee (f := 97) rfl ?_); refine goesL_ (some 28) rfl rfl Tryz.func97 (by kernel_rfl) rfl #[.pointer (some ⟨gb194, 0, none⟩)] rfl ap3 ?_; (with_reducible refine (Dxkind.calls k1 gb194 x195000_1 x195001_1 t197 true t199 t200 w _ ?side1 ?side2 ?side3 A11.out).mono ?_); (case side1 => exact apI120 HI194.out); (case side2 => exact apS120 HI194.out); (case side3 => first | exact HG.out | (refine Gw.below HG.out ?_; repeat (first | (with_reducible first | exact HB.out | apply below_alloc | apply pw_below_drewN | apply below_drew1 | refine below_set ?_ (IsS120.ge HI194.out)) | exact HB.out))); rintro e w17 ⟨rfl, hi, hb, hk⟩; refine ⟨_, rfl, ?_⟩; have n0_ := Aside0.mk (Kd.S_mono (Kd.S_keep (IsS120.apartS (show IsS120 w _ gb194 x195000_1 x195001_1 from by repeat (first | (with_reducible first | exact HI194.out | apply IsS120.alloc | apply IsS120.drewN | apply IsS120.drew | apply IsS120.set_0 | apply IsS120.set_1) | exact HI194.out)) (apAS HO_5.out) (by decide)) hk (fun _ h => h.2)) (fun _ h => h.1)); have n1_ := Aside0.mk (Kd.R_mono (Kd.R_keep (IsS120.apart (show IsS120 w _ gb194 x195000_1 x195001_1 from by repeat (first | (with_reducible first | exact HI194.out | apply IsS120.alloc | apply IsS120.drewN | apply IsS120.drew | apply IsS120.set_0 | apply IsS120.set_1) | exact HI194.out)) (apAR HO_6.out) (by decide)) hk (fun _ h => h.2)) (fun _ h => h.1)); have n2_ := Aside0.mk (hb); have n3_ := Aside0.mk (hi); clear HO_5; clear HO_6; clear HB; clear HI194; have HO_5 := n0_; have HO_6 := n1_; have HB := n2_; have HI194 := n3_; clear n0_ n1_ n2_ n3_; (try clear hb); (try clear hb2); (try clear hk); (try clear hi)) | ((with_reducible refine gate_callee (f := 98) rfl ?_); refine goesL_ (some 35) rfl rfl Tryz.func98 (by kernel_rfl) rfl #[.pointer (some ⟨gb194, 0, none⟩)] rfl ap3 ?_; (with_reducible refine (Dxvalue.calls k1 gb194 t199 t200 t201 true t203 t204 w _ ?side1 ?side2 A13.out).mono ?_); (case side1 => exact apI120 HI194.out); (case side2 => exact apS120 HI194.out); rintro e w18 ⟨rfl, hi, hb, hk⟩; refine ⟨_, rfl, ?_⟩; have n0_ := Aside0.mk (Kd.S_mono (Kd.S_keep (IsS120.apartS (show IsS120 w _ gb194 t199 t200 from by repeat (first | (with_reducible first | exact HI194.out | apply IsS120.alloc | apply IsS120.drewN | apply IsS120.drew | apply IsS120.set_0 | apply IsS120.set_1) | exact HI194.out)) (apAS HO_5.out) (by decide)) hk (fun _ h => h.2)) (fun _ h => h.1)); have n1_ := Aside0.mk (Kd.R_mono (Kd.R_keep (IsS120.apart (show IsS120 w _ gb194 t199 t200 from by repeat (first | (with_reducible first | exact HI194.out | apply IsS120.alloc | apply IsS120.drewN | apply IsS120.drew | apply IsS120.set_0 | apply IsS120.set_1) | exact HI194.out)) (apAR HO_6.out) (by decide)) hk (fun _ h => h.2)) (fun _ h => h.1)); have n2_ := Aside0.mk (hb); have n3_ := Aside0.mk (hi); clear HO_5; clear HO_6; clear HB; clear HI194; have HO_5 := n0_; have HO_6 := n1_; have HB := n2_; have HI194 := n3_; clear n0_ n1_ n2_ n3_; (try clear hb); (try clear hb2); (try clear hk); (try clear hi)) | ((with_reducible refine gate_builtin (b := .append) (xs := #[.tmp 40, .tmp 44]) rfl ?_); at_builtin; refine Kd.R_append k96 (w0 := w) w.heap.size rfl (.tmp 40) (.tmp 44) 92 96 (.agg #[(.string ⟨#[]⟩), (.string ⟨#[]⟩)]) 32 rfl Tryz.underlying92 info96 rfl (by decide) (by omega) u6 x6_1 (⟨t197, t201⟩ : S96) [.string t197, .string t201] (fun _ => True) (fun _ => False) rfl rfl ?aP (fun _ hk => hk.elim) ?aF ?aO ?aB ?aS ?aL ?_; (case aP => exact k96_mkM _ _ _ (⟨t197, t201⟩ : S96)); (case aB => exact (apS120 HI194.out)); (case aF => exact (fun _ _ => trivial)); (case aO => exact (apAR HO_6.out)); (case aS => exact (below_size (apS120 HI194.out))); (case aL => have := LMc15.out; omega); intro v206 w19 ho hb hg hat; rw [← Ny205.out] at ho; have n0_ := Aside0.mk (Kd.S_after (ok := (fun _ => True)) (by (with_reducible repeat (first | apply Kd.S_alloc | apply Kd.S_drewN | apply Kd.S_drew)); exact Kd.S_mono HO_5.out (fun _ hk => ⟨trivial, hk⟩)) hg hat); have n1_ := Aside0.mk (IsS120.grown (apI120 HI194.out) hg (IsS120.own_ne HI194.out HO_6.out (by decide))); have n2_ := Aside0.mk (hb); have n3_ := Aside0.mk (ho); clear HO_5; clear HI194; clear HB; clear HO_6; have HO_5 := n0_; have HI194 := n1_; have HB := n2_; have HO207 := n3_; clear n0_ n1_ n2_ n3_; clear ho hb hg hat; obtain ⟨HGz20, hgz20⟩ := HI194.out; have hcz20_0 := cellS120_0 HGz20; have hcz20_1 := cellS120_1 HGz20; have hfz20_0 := blk_frozen HGz20 0; have hfz20_1 := blk_frozen HGz20 1; clear HGz20 hgz20))
        (try simp only [Act.put, List.setIfInBounds_toArray, List.set_cons_zero, List.set_cons_succ])
        go_cut [62] (fun v62 wc => ∃ (kq : Nat) (x62_15 : Bool), v62 = .bool x62_15 ∧ Aside0 (dn_Parse.j1 kq a0 x5_1 y205 (t204 == (a0.size : Int)) x62_15 t203 t204 = some (r1, r2)) ∧ Aside0 (kq ≤ k1) ∧ Aside0 (Kd.S (Kd.slice 96 k96) 92 wc w.heap.size (fun k_ => some k_ ≠ (v206 : Value).ownBlock) u5 x5_1) ∧ Aside0 (Kd.R k96 96 wc w.heap.size (fun _ => True) v206 y205) ∧ Aside0 (IsS120 w wc gb194 t203 t204) ∧ Aside0 (Below w.heap.size w wc))
        case first =>
         have H := HC16.out
         clear HC16
         by_cases c21 : t204 = (a0.size : Int)
         ·
          rw [if_pos c21] at H
          have c21b0 : (t204 == (a0.size : Int)) = true := beq_iff_eq.mpr c21
          have c21b1 : (t204 != (a0.size : Int)) = false := bne_eq_false_iff_eq.mpr c21
          clear c21
          (first | rw [c21b0] | (simp only [i64_w, i32_w]; rw [c21b0]) | skip)
          have H' := Aside0.mk H
          clear H
          go_wp2
          first | go_meet | (simp only [c21b0] at *; go_meet) | (simp only [c4b0] at *; go_meet) | (simp only [c4b0] at *; go_meet)
          case rel => exact ⟨_, (true), ap2, H', ⟨by have := HK1.out; first | omega | exact Nat.le_refl _⟩, ⟨by (with_reducible repeat (first | apply Kd.S_alloc | apply Kd.S_drewN | apply Kd.S_drew)); exact Kd.S_mono HO_5.out (fun _ hk => hk.2)⟩, ⟨by (with_reducible repeat (first | apply Kd.R_alloc | apply Kd.R_drewN | apply Kd.R_drew)); exact HO207.out⟩, ⟨by repeat (first | (with_reducible first | exact HI194.out | apply IsS120.alloc | apply IsS120.drewN | apply IsS120.drew | apply IsS120.set_0 | apply IsS120.set_1) | exact HI194.out)⟩, ⟨by repeat (first | (with_reducible first | exact HB.out | apply below_alloc | apply pw_below_drewN | apply below_drew1 | refine below_set ?_ (IsS120.ge HI194.out)) | exact HB.out)⟩⟩
         ·
          rw [if_neg c21] at H
          have c21b0 : (t204 == (a0.size : Int)) = false := beq_eq_false_iff_ne.mpr c21
          have c21b1 : (t204 != (a0.size : Int)) = true := bne_iff_ne.mpr c21
          (first | rw [c21b0] | (simp only [i64_w, i32_w]; rw [c21b0]) | skip)
          by_cases c22 : 0 ≤ t204
          ·
           rw [if_pos c22] at H
           have c22b0 := decide_eq_true c22
           clear c22
           by_cases c23 : t204 < (a0.size : Int)
           ·
            rw [if_pos c23] at H
            have c23b0 := decide_eq_true c23
            clear c23
            have H' := Aside0.mk H
            clear H
            obtain ⟨HGz25, hgz25⟩ := HI194.out
            have hcz25_0 := cellS120_0 HGz25
            have hcz25_1 := cellS120_1 HGz25
            have hfz25_0 := blk_frozen HGz25 0
            have hfz25_1 := blk_frozen HGz25 1
            clear HGz25 hgz25
            have p24 : 0 ≤ (t204 : Int) := of_decide_eq_true ap0
            have q24 : t204 < (a0.size : Int) := of_decide_eq_true ap0
            have hx24 := bt_at a0 t204
            replace p24 := eq_true p24
            replace q24 := eq_true q24
            go_wp2
            first | go_meet | (simp only [c21b0] at *; go_meet) | (simp only [c21b0] at *; go_meet) | (simp only [c4b0] at *; go_meet)
            case rel => exact ⟨_, (((bt a0 t204) != 43)), ap2, H', ⟨by have := HK1.out; first | omega | exact Nat.le_refl _⟩, ⟨by (with_reducible repeat (first | apply Kd.S_alloc | apply Kd.S_drewN | apply Kd.S_drew)); exact Kd.S_mono HO_5.out (fun _ hk => hk.2)⟩, ⟨by (with_reducible repeat (first | apply Kd.R_alloc | apply Kd.R_drewN | apply Kd.R_drew)); exact HO207.out⟩, ⟨by repeat (first | (with_reducible first | exact HI194.out | apply IsS120.alloc | apply IsS120.drewN | apply IsS120.drew | apply IsS120.set_0 | apply IsS120.set_1) | exact HI194.out)⟩, ⟨by repeat (first | (with_reducible first | exact HB.out | apply below_alloc | apply pw_below_drewN | apply below_drew1 | refine below_set ?_ (IsS120.ge HI194.out)) | exact HB.out)⟩⟩
           ·
            rw [if_neg c23] at H
            exact absurd H (by simp)
          ·
           rw [if_neg c22] at H
           exact absurd H (by simp)
        case rest =>
         clear HC16
         try clear c1
         try clear c2
         try clear c2b0
         try clear c2b1
         try clear p2
         try clear q2
         try clear hx2
         try clear c4
         try clear c4b0
         try clear c4b1
         try clear c6
         try clear c9
         try clear c12
         try clear c14
         try clear c15
         try clear c21
         try clear c21b0
         try clear c21b1
         try clear c22
         try clear c22b0
         try clear c23
         try clear c23b0
         try clear p24
         try clear q24
         try clear hx24
         try clear hcz10_0
         try clear hcz10_1
         try clear hcz20_0
         try clear hcz20_1
         try clear hcz25_0
         try clear hcz25_1
         try clear hcz7_0
         try clear hcz7_1
         try clear hfz10_0
         try clear hfz10_1
         try clear hfz20_0
         try clear hfz20_1
         try clear hfz25_0
         try clear hfz25_1
         try clear hfz7_0
         try clear hfz7_1
         try clear p2
         try clear p24
         try clear q24
         obtain ⟨kq, x62_15, rfl, HA, HJ15, HO_5, HO_6, HI194, HB⟩ := hcut
         cases kq with
         | zero => exact absurd HA.out (by simp [dn_Parse.j1])
         | succ kj15 =>
          have H := HA.out
          clear HA
          simp only [dn_Parse.j1] at H
          by_cases c26 : x62_15 = true
          ·
           subst c26
           rw [if_pos rfl] at H
           by_cases c27 : x5_1.length < 5864062014805
           ·
            rw [if_pos c27] at H
            have LMc27 := Aside0.mk c27
            clear c27
            obtain ⟨y208, hy208⟩ : ∃ y_ : List (List (S96)), y_ = (x5_1 ++ [y205]) := ⟨_, rfl⟩
            replace H : (if (t204 == (a0.size : Int)) = true then ((dn_Right.f kj15 y208).bind fun t211 => (if t211 = true then (some (y208, 0)) else (some (([] : List (List (S96))), 4)))) else (dn_Parse.l0 kj15 a0 y208 ([] : List (S96)) t203 (wrap64 (t204 + 1)))) = some (r1, r2) := by first | (rw [hy208]; with_reducible exact H) | (have H2_ := (Option.bind_some _ _).symm.trans H; rw [hy208]; with_reducible exact H2_) | (have H2_ := (Option.bind_some _ _).symm.trans H; with_reducible exact H2_) | with_reducible exact H | (rw [hy208]; exact H) | exact H
            have Ny208 := Aside0.mk hy208
            clear hy208
            by_cases c28 : (t204 == (a0.size : Int)) = true
            ·
             rw [if_pos c28] at H
             have c28b0 : (t204 == (a0.size : Int)) = true := c28
             (try (have c28b1 : decide (t204 = (a0.size : Int)) = true := by simpa using c28))
             (try (have c28b2 : (t204 == (a0.size : Int)) = true := by simpa using c28))
             clear c28
             replace H := Option.bind_eq_some_iff.mp H
             obtain ⟨t211, A290, H⟩ := H
             replace H : (if t211 = true then (some (y208, 0)) else (some (([] : List (List (S96))), 4))) = some (r1, r2) := H
             have A29 := Aside0.mk A290
             clear A290
             by_cases c30 : t211 = true
             ·
              subst c30
              rw [if_pos rfl] at H
              simp only [Option.some.injEq, Prod.mk.injEq] at H
              obtain ⟨rfl, rfl⟩ := H
              obtain ⟨Ao32, co32, eo32⟩ := Kd.R_slice HO_6.out
              subst eo32
              go_wp2_with (first | ((with_reducible refine gate_builtin (b := .append) (xs := #[.tmp 63, .tmp 65]) rfl ?_); at_builtin; refine Kd.S_append (Kd.slice 96 k96) (w0 := w) w.heap.size rfl (.tmp 63) (.tmp 65) 71 92 (.slice none 0 0) 24 rfl Tryz.underlying71 info92 rfl (by decide) (by omega) u5 x5_1 y205 [.slice Ao32 y205.length co32] (fun _ => True) (fun k_ => some k_ = (.slice Ao32 y205.length co32 : Value).ownBlock) rfl rfl ?aP (fun k_ hk_ => ((Kd.R_mono (ok' := fun k_ => ((fun _ => True)) k_ ∧ some k_ ≠ (u5 : Value).ownBlock) (Kd.R_apart' (HO_6.out) (Kd.S_typed HO_5.out) (by decide)) (fun k_ hk => ⟨trivial, hk.2⟩))).1 k_ hk_.symm) ?aF ?aO ?aB ?aS ?aL ?_; (case aP => exact Kd.M_row (Kd.R_mono (Kd.R_tight rfl (Kd.R_mono (ok' := fun k_ => ((fun _ => True)) k_ ∧ some k_ ≠ (u5 : Value).ownBlock) (Kd.R_apart' (HO_6.out) (Kd.S_typed HO_5.out) (by decide)) (fun k_ hk => ⟨trivial, hk.2⟩))) (fun _ h_ => h_))); (case aB => exact (apS120 HI194.out)); (case aF => exact (fun _ _ => trivial)); (case aO => exact (by (with_reducible repeat (first | apply Kd.S_alloc | apply Kd.S_drewN | apply Kd.S_drew)); exact Kd.S_mono HO_5.out (fun k_ hk => ⟨trivial, fun e_ => hk e_⟩))); (case aS => exact (below_size (apS120 HI194.out))); (case aL => have := LMc27.out; omega); intro v209 w31 ho hb hg hat; rw [← Ny208.out] at ho; have n0_ := Aside0.mk (IsS120.grown (apI120 HI194.out) hg (IsS120.own_neS HI194.out HO_5.out (by decide))); have n1_ := Aside0.mk (hb); have n2_ := Aside0.mk (ho); clear HI194; clear HB; clear HO_5; clear HO_6; have HI194 := n0_; have HB := n1_; have HO210 := n2_; clear n0_ n1_ n2_; clear ho hb hg hat; obtain ⟨Ao33, co33, eo33⟩ := Kd.S_slice HO210.out; subst eo33) | ((with_reducible refine gate_callee (f := 99) rfl ?_); refine goesL_ (some 76) rfl rfl Tryz.func99 (by kernel_rfl) rfl #[.slice Ao33 y208.length co33] rfl ap3 ?_; (with_reducible refine (dn_Right.calls kj15 _ _ y208 true _ ?side1 ?side2 ?side3 A29.out).mono ?_); (case side1 => repeat (first | exact (Kd.S_reads' HO210.out).2.2 | (with_reducible refine Kd.C_alloc ?_ _) | (with_reducible refine Kd.C_drewN ?_ _) | (with_reducible refine Kd.C_drew ?_))); (case side2 => exact (Kd.S_reads' HO210.out).2.1); (case side3 => first | exact HG.out | (refine Gw.below HG.out ?_; repeat (first | (with_reducible first | exact HB.out | apply below_alloc | apply pw_below_drewN | apply below_drew1 | refine below_set ?_ (IsS120.ge HI194.out)) | exact HB.out))); rintro e w34 ⟨rfl, hb⟩; refine ⟨_, rfl, ?_⟩; have n0_ := Aside0.mk (Kd.S_below (apAS HO210.out) hb); have n1_ := Aside0.mk (IsS120.below (apI120 HI194.out) hb); have n2_ := Aside0.mk (below_step (apS120 HI194.out) hb); clear HO210; clear HI194; clear HB; have HO210 := n0_; have HI194 := n1_; have HB := n2_; clear n0_ n1_ n2_; (try clear hb); (try clear hb2); (try clear hk); (try clear hi)))
              go_ret2
              exact ⟨_, by first | rfl | (simp [errW_none, errW_some, bne_nil8, beq_nil8]; done) | (simp [errW_none, errW_some] <;> rfl) | (simp [*, errW_none, errW_some] <;> rfl), by (with_reducible repeat (first | apply Kd.S_alloc | apply Kd.S_drewN | apply Kd.S_drew)); exact HO210.out, by repeat (first | (with_reducible first | exact HB.out | apply below_alloc | apply pw_below_drewN | apply below_drew1 | refine below_set ?_ (IsS120.ge HI194.out)) | exact HB.out)⟩
             ·
              replace c30 := Bool.eq_false_iff.mpr c30
              subst c30
              rw [if_neg (show ¬ (false = true) by decide)] at H
              simp only [Option.some.injEq, Prod.mk.injEq] at H
              obtain ⟨rfl, rfl⟩ := H
              obtain ⟨Ao36, co36, eo36⟩ := Kd.R_slice HO_6.out
              subst eo36
              go_wp2_with (first | ((with_reducible refine gate_builtin (b := .append) (xs := #[.tmp 63, .tmp 65]) rfl ?_); at_builtin; refine Kd.S_append (Kd.slice 96 k96) (w0 := w) w.heap.size rfl (.tmp 63) (.tmp 65) 71 92 (.slice none 0 0) 24 rfl Tryz.underlying71 info92 rfl (by decide) (by omega) u5 x5_1 y205 [.slice Ao36 y205.length co36] (fun _ => True) (fun k_ => some k_ = (.slice Ao36 y205.length co36 : Value).ownBlock) rfl rfl ?aP (fun k_ hk_ => ((Kd.R_mono (ok' := fun k_ => ((fun _ => True)) k_ ∧ some k_ ≠ (u5 : Value).ownBlock) (Kd.R_apart' (HO_6.out) (Kd.S_typed HO_5.out) (by decide)) (fun k_ hk => ⟨trivial, hk.2⟩))).1 k_ hk_.symm) ?aF ?aO ?aB ?aS ?aL ?_; (case aP => exact Kd.M_row (Kd.R_mono (Kd.R_tight rfl (Kd.R_mono (ok' := fun k_ => ((fun _ => True)) k_ ∧ some k_ ≠ (u5 : Value).ownBlock) (Kd.R_apart' (HO_6.out) (Kd.S_typed HO_5.out) (by decide)) (fun k_ hk => ⟨trivial, hk.2⟩))) (fun _ h_ => h_))); (case aB => exact (apS120 HI194.out)); (case aF => exact (fun _ _ => trivial)); (case aO => exact (by (with_reducible repeat (first | apply Kd.S_alloc | apply Kd.S_drewN | apply Kd.S_drew)); exact Kd.S_mono HO_5.out (fun k_ hk => ⟨trivial, fun e_ => hk e_⟩))); (case aS => exact (below_size (apS120 HI194.out))); (case aL => have := LMc27.out; omega); intro v209 w35 ho hb hg hat; rw [← Ny208.out] at ho; have n0_ := Aside0.mk (IsS120.grown (apI120 HI194.out) hg (IsS120.own_neS HI194.out HO_5.out (by decide))); have n1_ := Aside0.mk (hb); have n2_ := Aside0.mk (ho); clear HI194; clear HB; clear HO_5; clear HO_6; have HI194 := n0_; have HB := n1_; have HO210 := n2_; clear n0_ n1_ n2_; clear ho hb hg hat; obtain ⟨Ao37, co37, eo37⟩ := Kd.S_slice HO210.out; subst eo37) | ((with_reducible refine gate_callee (f := 99) rfl ?_); refine goesL_ (some 76) rfl rfl Tryz.func99 (by kernel_rfl) rfl #[.slice Ao37 y208.length co37] rfl ap3 ?_; (with_reducible refine (dn_Right.calls kj15 _ _ y208 false _ ?side1 ?side2 ?side3 A29.out).mono ?_); (case side1 => repeat (first | exact (Kd.S_reads' HO210.out).2.2 | (with_reducible refine Kd.C_alloc ?_ _) | (with_reducible refine Kd.C_drewN ?_ _) | (with_reducible refine Kd.C_drew ?_))); (case side2 => exact (Kd.S_reads' HO210.out).2.1); (case side3 => first | exact HG.out | (refine Gw.below HG.out ?_; repeat (first | (with_reducible first | exact HB.out | apply below_alloc | apply pw_below_drewN | apply below_drew1 | refine below_set ?_ (IsS120.ge HI194.out)) | exact HB.out))); rintro e w38 ⟨rfl, hb⟩; refine ⟨_, rfl, ?_⟩; have n0_ := Aside0.mk (Kd.S_below (apAS HO210.out) hb); have n1_ := Aside0.mk (IsS120.below (apI120 HI194.out) hb); have n2_ := Aside0.mk (below_step (apS120 HI194.out) hb); clear HO210; clear HI194; clear HB; have HO210 := n0_; have HI194 := n1_; have HB := n2_; clear n0_ n1_ n2_; (try clear hb); (try clear hb2); (try clear hk); (try clear hi)))
              go_ret2
              exact ⟨_, by first | rfl | (simp [errW_none, errW_some, bne_nil8, beq_nil8]; done) | (simp [errW_none, errW_some] <;> rfl) | (simp [*, errW_none, errW_some] <;> rfl), by first | exact Kd.S_nil _ _ _ _ _ | exact Kd.N_nil _ _ _ _ _ | exact Kd.V_nil _ _ _ _ _ | exact Kd.Q_nil _ _ _ _ _ | exact Kd.R_nil _ _ _ _ _, by repeat (first | (with_reducible first | exact HB.out | apply below_alloc | apply pw_below_drewN | apply below_drew1 | refine below_set ?_ (IsS120.ge HI194.out)) | exact HB.out)⟩
            ·
             rw [if_neg c28] at H
             have c28b0 : (t204 == (a0.size : Int)) = false := by simpa using c28
             (try (have c28b1 : decide (t204 = (a0.size : Int)) = false := by simpa using c28))
             (try (have c28b2 : (t204 == (a0.size : Int)) = false := by simpa using c28))
             (try (have c28b3 : ¬ (t204 = (a0.size : Int)) := by simpa using c28))
             clear c28
             have H' := Aside0.mk H
             clear H
             obtain ⟨Ao40, co40, eo40⟩ := Kd.R_slice HO_6.out
             subst eo40
             go_wp2_with (first | ((with_reducible refine gate_builtin (b := .append) (xs := #[.tmp 63, .tmp 65]) rfl ?_); at_builtin; refine Kd.S_append (Kd.slice 96 k96) (w0 := w) w.heap.size rfl (.tmp 63) (.tmp 65) 71 92 (.slice none 0 0) 24 rfl Tryz.underlying71 info92 rfl (by decide) (by omega) u5 x5_1 y205 [.slice Ao40 y205.length co40] (fun _ => True) (fun k_ => some k_ = (.slice Ao40 y205.length co40 : Value).ownBlock) rfl rfl ?aP (fun k_ hk_ => ((Kd.R_mono (ok' := fun k_ => ((fun _ => True)) k_ ∧ some k_ ≠ (u5 : Value).ownBlock) (Kd.R_apart' (HO_6.out) (Kd.S_typed HO_5.out) (by decide)) (fun k_ hk => ⟨trivial, hk.2⟩))).1 k_ hk_.symm) ?aF ?aO ?aB ?aS ?aL ?_; (case aP => exact Kd.M_row (Kd.R_mono (Kd.R_tight rfl (Kd.R_mono (ok' := fun k_ => ((fun _ => True)) k_ ∧ some k_ ≠ (u5 : Value).ownBlock) (Kd.R_apart' (HO_6.out) (Kd.S_typed HO_5.out) (by decide)) (fun k_ hk => ⟨trivial, hk.2⟩))) (fun _ h_ => h_))); (case aB => exact (apS120 HI194.out)); (case aF => exact (fun _ _ => trivial)); (case aO => exact (by (with_reducible repeat (first | apply Kd.S_alloc | apply Kd.S_drewN | apply Kd.S_drew)); exact Kd.S_mono HO_5.out (fun k_ hk => ⟨trivial, fun e_ => hk e_⟩))); (case aS => exact (below_size (apS120 HI194.out))); (case aL => have := LMc27.out; omega); intro v209 w39 ho hb hg hat; rw [← Ny208.out] at ho; have n0_ := Aside0.mk (IsS120.grown (apI120 HI194.out) hg (IsS120.own_neS HI194.out HO_5.out (by decide))); have n1_ := Aside0.mk (hb); have n2_ := Aside0.mk (ho); clear HI194; clear HB; clear HO_5; clear HO_6; have HI194 := n0_; have HB := n1_; have HO210 := n2_; clear n0_ n1_ n2_; clear ho hb hg hat; obtain ⟨HGz41, hgz41⟩ := HI194.out; have hcz41_0 := cellS120_0 HGz41; have hcz41_1 := cellS120_1 HGz41; have hfz41_0 := blk_frozen HGz41 0; have hfz41_1 := blk_frozen HGz41 1; clear HGz41 hgz41))
             go_roundg kj15
             case measure => have := HK1.out; have := HJ15.out; omega
             case rel => exact ⟨(y208), (([] : List (S96))), (t203), (wrap64 (t204 + 1)), H', ⟨by have := HK1.out; have := HJ15.out; omega⟩, ⟨by (with_reducible repeat (first | apply Kd.S_alloc | apply Kd.S_drewN | apply Kd.S_drew)); exact Kd.S_mono (Kd.S_far (p := ⟨gb194, 1, none⟩) (IsS120.apartS HI194.out HO210.out (by decide)) (fun _ hk => hk.2) (.int .i64 (wrap64 (t204 + 1)))) (fun _ hk => (by simp [Value.ownBlock]))⟩, ⟨by first | exact Kd.R_nil _ _ _ _ _ | exact Kd.N_nil _ _ _ _ _ | exact Kd.V_nil _ _ _ _ _ | exact Kd.Q_nil _ _ _ _ _ | exact Kd.S_nil _ _ _ _ _⟩, ⟨by repeat (first | (with_reducible first | exact HI194.out | apply IsS120.alloc | apply IsS120.drewN | apply IsS120.drew | apply IsS120.set_0 | apply IsS120.set_1) | exact HI194.out)⟩, ⟨by repeat (first | (with_reducible first | exact HB.out | apply below_alloc | apply pw_below_drewN | apply below_drew1 | refine below_set ?_ (IsS120.ge HI194.out)) | exact HB.out)⟩⟩
           ·
            rw [if_neg c27] at H
            exact absurd H (by simp)
          ·
           replace c26 := Bool.eq_false_iff.mpr c26
           subst c26
           rw [if_neg (show ¬ (false = true) by decide)] at H
           by_cases c42 : (t204 == (a0.size : Int)) = true
           ·
            rw [if_pos c42] at H
            have c42b0 : (t204 == (a0.size : Int)) = true := c42
            (try (have c42b1 : decide (t204 = (a0.size : Int)) = true := by simpa using c42))
            (try (have c42b2 : (t204 == (a0.size : Int)) = true := by simpa using c42))
            clear c42
            replace H := Option.bind_eq_some_iff.mp H
            obtain ⟨t212, A430, H⟩ := H
            replace H : (if t212 = true then (some (x5_1, 0)) else (some (([] : List (List (S96))), 4))) = some (r1, r2) := H
            have A43 := Aside0.mk A430
            clear A430
            by_cases c44 : t212 = true
            ·
             subst c44
             rw [if_pos rfl] at H
             simp only [Option.some.injEq, Prod.mk.injEq] at H
             obtain ⟨rfl, rfl⟩ := H
             obtain ⟨Ao45, co45, eo45⟩ := Kd.S_slice HO_5.out
             subst eo45
             go_wp2_with (first | ((with_reducible refine gate_callee (f := 99) rfl ?_); refine goesL_ (some 76) rfl rfl Tryz.func99 (by kernel_rfl) rfl #[.slice Ao45 x5_1.length co45] rfl ap3 ?_; (with_reducible refine (dn_Right.calls kj15 _ _ x5_1 true _ ?side1 ?side2 ?side3 A43.out).mono ?_); (case side1 => repeat (first | exact (Kd.S_reads' HO_5.out).2.2 | (with_reducible refine Kd.C_alloc ?_ _) | (with_reducible refine Kd.C_drewN ?_ _) | (with_reducible refine Kd.C_drew ?_))); (case side2 => exact (Kd.S_reads' HO_5.out).2.1); (case side3 => first | exact HG.out | (refine Gw.below HG.out ?_; repeat (first | (with_reducible first | exact HB.out | apply below_alloc | apply pw_below_drewN | apply below_drew1 | refine below_set ?_ (IsS120.ge HI194.out)) | exact HB.out))); rintro e w46 ⟨rfl, hb⟩; refine ⟨_, rfl, ?_⟩; have n0_ := Aside0.mk (Kd.S_below (apAS HO_5.out) hb); have n1_ := Aside0.mk (Kd.R_below (apAR HO_6.out) hb); have n2_ := Aside0.mk (IsS120.below (apI120 HI194.out) hb); have n3_ := Aside0.mk (below_step (apS120 HI194.out) hb); clear HO_5; clear HO_6; clear HI194; clear HB; have HO_5 := n0_; have HO_6 := n1_; have HI194 := n2_; have HB := n3_; clear n0_ n1_ n2_ n3_; (try clear hb); (try clear hb2); (try clear hk); (try clear hi)))
             go_ret2
             exact ⟨_, by first | rfl | (simp [errW_none, errW_some, bne_nil8, beq_nil8]; done) | (simp [errW_none, errW_some] <;> rfl) | (simp [*, errW_none, errW_some] <;> rfl), by (with_reducible repeat (first | apply Kd.S_alloc | apply Kd.S_drewN | apply Kd.S_drew)); exact Kd.S_mono HO_5.out (fun _ hk => trivial), by repeat (first | (with_reducible first | exact HB.out | apply below_alloc | apply pw_below_drewN | apply below_drew1 | refine below_set ?_ (IsS120.ge HI194.out)) | exact HB.out)⟩
            ·
             replace c44 := Bool.eq_false_iff.mpr c44
             subst c44
             rw [if_neg (show ¬ (false = true) by decide)] at H
             simp only [Option.some.injEq, Prod.mk.injEq] at H
             obtain ⟨rfl, rfl⟩ := H
             obtain ⟨Ao47, co47, eo47⟩ := Kd.S_slice HO_5.out
             subst eo47
             go_wp2_with (first | ((with_reducible refine gate_callee (f := 99) rfl ?_); refine goesL_ (some 76) rfl rfl Tryz.func99 (by kernel_rfl) rfl #[.slice Ao47 x5_1.length co47] rfl ap3 ?_; (with_reducible refine (dn_Right.calls kj15 _ _ x5_1 false _ ?side1 ?side2 ?side3 A43.out).mono ?_); (case side1 => repeat (first | exact (Kd.S_reads' HO_5.out).2.2 | (with_reducible refine Kd.C_alloc ?_ _) | (with_reducible refine Kd.C_drewN ?_ _) | (with_reducible refine Kd.C_drew ?_))); (case side2 => exact (Kd.S_reads' HO_5.out).2.1); (case side3 => first | exact HG.out | (refine Gw.below HG.out ?_; repeat (first | (with_reducible first | exact HB.out | apply below_alloc | apply pw_below_drewN | apply below_drew1 | refine below_set ?_ (IsS120.ge HI194.out)) | exact HB.out))); rintro e w48 ⟨rfl, hb⟩; refine ⟨_, rfl, ?_⟩; have n0_ := Aside0.mk (Kd.S_below (apAS HO_5.out) hb); have n1_ := Aside0.mk (Kd.R_below (apAR HO_6.out) hb); have n2_ := Aside0.mk (IsS120.below (apI120 HI194.out) hb); have n3_ := Aside0.mk (below_step (apS120 HI194.out) hb); clear HO_5; clear HO_6; clear HI194; clear HB; have HO_5 := n0_; have HO_6 := n1_; have HI194 := n2_; have HB := n3_; clear n0_ n1_ n2_ n3_; (try clear hb); (try clear hb2); (try clear hk); (try clear hi)))
             go_ret2
             exact ⟨_, by first | rfl | (simp [errW_none, errW_some, bne_nil8, beq_nil8]; done) | (simp [errW_none, errW_some] <;> rfl) | (simp [*, errW_none, errW_some] <;> rfl), by first | exact Kd.S_nil _ _ _ _ _ | exact Kd.N_nil _ _ _ _ _ | exact Kd.V_nil _ _ _ _ _ | exact Kd.Q_nil _ _ _ _ _ | exact Kd.R_nil _ _ _ _ _, by repeat (first | (with_reducible first | exact HB.out | apply below_alloc | apply pw_below_drewN | apply below_drew1 | refine below_set ?_ (IsS120.ge HI194.out)) | exact HB.out)⟩
           ·
            rw [if_neg c42] at H
            have c42b0 : (t204 == (a0.size : Int)) = false := by simpa using c42
            (try (have c42b1 : decide (t204 = (a0.size : Int)) = false := by simpa using c42))
            (try (have c42b2 : (t204 == (a0.size : Int)) = false := by simpa using c42))
            (try (have c42b3 : ¬ (t204 = (a0.size : Int)) := by simpa using c42))
            clear c42
            have H' := Aside0.mk H
            clear H
            obtain ⟨HGz49, hgz49⟩ := HI194.out
            have hcz49_0 := cellS120_0 HGz49
            have hcz49_1 := cellS120_1 HGz49
            have hfz49_0 := blk_frozen HGz49 0
            have hfz49_1 := blk_frozen HGz49 1
            clear HGz49 hgz49
            go_wp2
            go_roundg kj15
            case measure => have := HK1.out; have := HJ15.out; omega
            case rel => exact ⟨(x5_1), (y205), (t203), (wrap64 (t204 + 1)), H', ⟨by have := HK1.out; have := HJ15.out; omega⟩, ⟨by (with_reducible repeat (first | apply Kd.S_alloc | apply Kd.S_drewN | apply Kd.S_drew)); exact Kd.S_mono (Kd.S_far (p := ⟨gb194, 1, none⟩) (IsS120.apartS HI194.out HO_5.out (by decide)) (fun _ hk => hk.2) (.int .i64 (wrap64 (t204 + 1)))) (fun _ hk => hk.1)⟩, ⟨by (with_reducible repeat (first | apply Kd.R_alloc | apply Kd.R_drewN | apply Kd.R_drew)); exact Kd.R_mono (Kd.R_far (p := ⟨gb194, 1, none⟩) (IsS120.apart HI194.out HO_6.out (by decide)) (fun _ hk => hk.2) (.int .i64 (wrap64 (t204 + 1)))) (fun _ hk => trivial)⟩, ⟨by repeat (first | (with_reducible first | exact HI194.out | apply IsS120.alloc | apply IsS120.drewN | apply IsS120.drew | apply IsS120.set_0 | apply IsS120.set_1) | exact HI194.out)⟩, ⟨by repeat (first | (with_reducible first | exact HB.out | apply below_alloc | apply pw_below_drewN | apply below_drew1 | refine below_set ?_ (IsS120.ge HI194.out)) | exact HB.out)⟩⟩
       ·
        rw [if_neg c15] at H
        exact absurd H (by simp)
      ·
       replace c14 := Bool.eq_false_iff.mpr c14
       subst c14
       rw [if_neg (show ¬ (false = true) by decide)] at H
       simp only [Option.some.injEq, Prod.mk.injEq] at H
       obtain ⟨rfl, rfl⟩ := H
       go_wp2_with (first | ((with_reducible refine gate_callee (f := 97) rfl ?_); refine goesL_ (some 28) rfl rfl Tryz.func97 (by kernel_rfl) rfl #[.pointer (some ⟨gb194, 0, none⟩)] rfl ap3 ?_; (with_reducible refine (Dxkind.calls k1 gb194 x195000_1 x195001_1 t197 true t199 t200 w _ ?side1 ?side2 ?side3 A11.out).mono ?_); (case side1 => exact apI120 HI194.out); (case side2 => exact apS120 HI194.out); (case side3 => first | exact HG.out | (refine Gw.below HG.out ?_; repeat (first | (with_reducible first | exact HB.out | apply below_alloc | apply pw_below_drewN | apply below_drew1 | refine below_set ?_ (IsS120.ge HI194.out)) | exact HB.out))); rintro e w50 ⟨rfl, hi, hb, hk⟩; refine ⟨_, rfl, ?_⟩; have n0_ := Aside0.mk (Kd.S_mono (Kd.S_keep (IsS120.apartS (show IsS120 w _ gb194 x195000_1 x195001_1 from by repeat (first | (with_reducible first | exact HI194.out | apply IsS120.alloc | apply IsS120.drewN | apply IsS120.drew | apply IsS120.set_0 | apply IsS120.set_1) | exact HI194.out)) (apAS HO_5.out) (by decide)) hk (fun _ h => h.2)) (fun _ h => h.1)); have n1_ := Aside0.mk (Kd.R_mono (Kd.R_keep (IsS120.apart (show IsS120 w _ gb194 x195000_1 x195001_1 from by repeat (first | (with_reducible first | exact HI194.out | apply IsS120.alloc | apply IsS120.drewN | apply IsS120.drew | apply IsS120.set_0 | apply IsS120.set_1) | exact HI194.out)) (apAR HO_6.out) (by decide)) hk (fun _ h => h.2)) (fun _ h => h.1)); have n2_ := Aside0.mk (hb); have n3_ := Aside0.mk (hi); clear HO_5; clear HO_6; clear HB; clear HI194; have HO_5 := n0_; have HO_6 := n1_; have HB := n2_; have HI194 := n3_; clear n0_ n1_ n2_ n3_; (try clear hb); (try clear hb2); (try clear hk); (try clear hi)) | ((with_reducible refine gate_callee (f := 98) rfl ?_); refine goesL_ (some 35) rfl rfl Tryz.func98 (by kernel_rfl) rfl #[.pointer (some ⟨gb194, 0, none⟩)] rfl ap3 ?_; (with_reducible refine (Dxvalue.calls k1 gb194 t199 t200 t201 false t203 t204 w _ ?side1 ?side2 A13.out).mono ?_); (case side1 => exact apI120 HI194.out); (case side2 => exact apS120 HI194.out); rintro e w51 ⟨rfl, hi, hb, hk⟩; refine ⟨_, rfl, ?_⟩; have n0_ := Aside0.mk (Kd.S_mono (Kd.S_keep (IsS120.apartS (show IsS120 w _ gb194 t199 t200 from by repeat (first | (with_reducible first | exact HI194.out | apply IsS120.alloc | apply IsS120.drewN | apply IsS120.drew | apply IsS120.set_0 | apply IsS120.set_1) | exact HI194.out)) (apAS HO_5.out) (by decide)) hk (fun _ h => h.2)) (fun _ h => h.1)); have n1_ := Aside0.mk (Kd.R_mono (Kd.R_keep (IsS120.apart (show IsS120 w _ gb194 t199 t200 from by repeat (first | (with_reducible first | exact HI194.out | apply IsS120.alloc | apply IsS120.drewN | apply IsS120.drew | apply IsS120.set_0 | apply IsS120.set_1) | exact HI194.out)) (apAR HO_6.out) (by decide)) hk (fun _ h => h.2)) (fun _ h => h.1)); have n2_ := Aside0.mk (hb); have n3_ := Aside0.mk (hi); clear HO_5; clear HO_6; clear HB; clear HI194; have HO_5 := n0_; have HO_6 := n1_; have HB := n2_; have HI194 := n3_; clear n0_ n1_ n2_ n3_; (try clear hb); (try clear hb2); (try clear hk); (try clear hi)))
       go_ret2
       exact ⟨_, by first | rfl | (simp [errW_none, errW_some, bne_nil8, beq_nil8]; done) | (simp [errW_none, errW_some] <;> rfl) | (simp [*, errW_none, errW_some] <;> rfl), by first | exact Kd.S_nil _ _ _ _ _ | exact Kd.N_nil _ _ _ _ _ | exact Kd.V_nil _ _ _ _ _ | exact Kd.Q_nil _ _ _ _ _ | exact Kd.R_nil _ _ _ _ _, by repeat (first | (with_reducible first | exact HB.out | apply below_alloc | apply pw_below_drewN | apply below_drew1 | refine below_set ?_ (IsS120.ge HI194.out)) | exact HB.out)⟩
     ·
      replace c12 := Bool.eq_false_iff.mpr c12
      subst c12
      rw [if_neg (show ¬ (false = true) by decide)] at H
      simp only [Option.some.injEq, Prod.mk.injEq] at H
      obtain ⟨rfl, rfl⟩ := H
      go_wp2_with (first | ((with_reducible refine gate_callee (f := 97) rfl ?_); refine goesL_ (some 28) rfl rfl Tryz.func97 (by kernel_rfl) rfl #[.pointer (some ⟨gb194, 0, none⟩)] rfl ap3 ?_; (with_reducible refine (Dxkind.calls k1 gb194 x195000_1 x195001_1 t197 false t199 t200 w _ ?side1 ?side2 ?side3 A11.out).mono ?_); (case side1 => exact apI120 HI194.out); (case side2 => exact apS120 HI194.out); (case side3 => first | exact HG.out | (refine Gw.below HG.out ?_; repeat (first | (with_reducible first | exact HB.out | apply below_alloc | apply pw_below_drewN | apply below_drew1 | refine below_set ?_ (IsS120.ge HI194.out)) | exact HB.out))); rintro e w52 ⟨rfl, hi, hb, hk⟩; refine ⟨_, rfl, ?_⟩; have n0_ := Aside0.mk (Kd.S_mono (Kd.S_keep (IsS120.apartS (show IsS120 w _ gb194 x195000_1 x195001_1 from by repeat (first | (with_reducible first | exact HI194.out | apply IsS120.alloc | apply IsS120.drewN | apply IsS120.drew | apply IsS120.set_0 | apply IsS120.set_1) | exact HI194.out)) (apAS HO_5.out) (by decide)) hk (fun _ h => h.2)) (fun _ h => h.1)); have n1_ := Aside0.mk (Kd.R_mono (Kd.R_keep (IsS120.apart (show IsS120 w _ gb194 x195000_1 x195001_1 from by repeat (first | (with_reducible first | exact HI194.out | apply IsS120.alloc | apply IsS120.drewN | apply IsS120.drew | apply IsS120.set_0 | apply IsS120.set_1) | exact HI194.out)) (apAR HO_6.out) (by decide)) hk (fun _ h => h.2)) (fun _ h => h.1)); have n2_ := Aside0.mk (hb); have n3_ := Aside0.mk (hi); clear HO_5; clear HO_6; clear HB; clear HI194; have HO_5 := n0_; have HO_6 := n1_; have HB := n2_; have HI194 := n3_; clear n0_ n1_ n2_ n3_; (try clear hb); (try clear hb2); (try clear hk); (try clear hi)))
      go_ret2
      exact ⟨_, by first | rfl | (simp [errW_none, errW_some, bne_nil8, beq_nil8]; done) | (simp [errW_none, errW_some] <;> rfl) | (simp [*, errW_none, errW_some] <;> rfl), by first | exact Kd.S_nil _ _ _ _ _ | exact Kd.N_nil _ _ _ _ _ | exact Kd.V_nil _ _ _ _ _ | exact Kd.Q_nil _ _ _ _ _ | exact Kd.R_nil _ _ _ _ _, by repeat (first | (with_reducible first | exact HB.out | apply below_alloc | apply pw_below_drewN | apply below_drew1 | refine below_set ?_ (IsS120.ge HI194.out)) | exact HB.out)⟩
end Go.Proofs.YtpklcnpmppaaoaaGreatDoor.Print
namespace Go.Proofs.YtpklcnpmppaaoaaGreatDoor.Print
open Go.RowKit Go.Proofs.YtpklcnpmppaaoaaGreatDoorW.PrintWords Go.Proofs.YtpklcnpmppaaoaaGreatDoorW.PrintLast Go.Proofs.YtpklcnpmppaaoaaGreatDoorW.PrintMore Go.Proofs.YtpklcnpmppaaoaaGreatDoor.Pure
set_option linter.unusedVariables false
set_option linter.unusedSimpArgs false
abbrev bl (s : ByteArray) : List UInt8 := s.data.toList
theorem bl_length (s : ByteArray) : (bl s).length = s.size := by simp [bl]
theorem bt_get {s : ByteArray} {p : Nat} {c : UInt8} (h : (bl s)[p]? = some c) : p < s.size ∧ bt s (p : Int) = (c.toNat : Int) := by
  obtain ⟨hp, hc⟩ := List.getElem?_eq_some_iff.1 h
  rw [bl_length] at hp
  refine ⟨hp, ?_⟩
  unfold bt
  rw [dif_pos (by simpa using hp)]
  simp only [Int.toNat_natCast]
  rw [← hc]; simp [bl]; rfl
theorem drop_cons {s : ByteArray} {p : Nat} {c : UInt8} {r : List UInt8} (h : (bl s).drop p = c :: r) : p < s.size ∧ bt s (p : Int) = (c.toNat : Int) ∧ (bl s).drop (p + 1) = r := by
  have h0 : (bl s)[p]? = some c := by
    have := congrArg List.head? h
    rw [List.head?_drop] at this; simpa using this
  obtain ⟨h1, h2⟩ := bt_get h0
  refine ⟨h1, h2, ?_⟩
  have := congrArg List.tail h
  rw [List.tail_drop] at this; simpa using this
theorem drop_nil {s : ByteArray} {p : Nat} (h : (bl s).drop p = []) : s.size ≤ p := by
  rw [← bl_length]; exact List.drop_eq_nil_iff.1 h
theorem drop_end {s : ByteArray} {p : Nat} (h : s.size ≤ p) : (bl s).drop p = [] := List.drop_eq_nil_iff.2 (by rw [bl_length]; exact h)
theorem wsucc {p : Nat} (h : p ≤ 2000000) : wrap64 ((p : Int) + 1) = ((p + 1 : Nat) : Int) := by unfold wrap64; omega
theorem ieq (c d : UInt8) : ((c.toNat : Int) = (d.toNat : Int)) ↔ c = d := by rw [Int.ofNat_inj]; exact UInt8.toNat_inj
theorem blanks_ev (s : ByteArray) (hs : s.size ≤ 1000000) : ∀ (n p : Nat), s.size - p = n → p ≤ s.size →
    ∃ q : Nat, p ≤ q ∧ q ≤ s.size ∧ (bl s).drop q = ((bl s).drop p).dropWhile (· == 32) ∧ Ev (fun k => Dxblanks.l0 k s (p : Int)) (s, (q : Int)) := by
  intro n
  induction n with
  | zero =>
    intro p hn hp
    refine ⟨p, Nat.le_refl _, hp, ?_, ?_⟩
    · rw [drop_end (by omega)]; rfl
    · exact Ev.step (fun k => by rw [Dxblanks.l0]) (Ev.neg (by omega) Ev.rfl')
  | succ n ih =>
    intro p hn hp
    cases hr : (bl s).drop p with
    | nil => have := drop_nil hr; omega
    | cons c r =>
      obtain ⟨h1, h2, h3⟩ := drop_cons hr
      have hc : ((c.toNat : Int) = 32) ↔ c = 32 := ieq c 32
      by_cases h32 : c = 32
      · obtain ⟨q, q1, q2, q3, q4⟩ := ih (p + 1) (by omega) (by omega)
        refine ⟨q, by omega, q2, ?_, ?_⟩
        · rw [q3, h3, List.dropWhile_cons_of_pos (by simp [h32])]
        · refine Ev.step (fun k => by rw [Dxblanks.l0]) (Ev.pos (by omega) (Ev.pos (by omega) (Ev.pos (by rw [h2]; exact hc.2 h32) ?_)))
          rw [wsucc (by omega)]; exact q4
      · refine ⟨p, Nat.le_refl _, hp, ?_, ?_⟩
        · rw [hr, List.dropWhile_cons_of_neg (by simp [h32])]
        · exact Ev.step (fun k => by rw [Dxblanks.l0]) (Ev.pos (by omega) (Ev.pos (by omega) (Ev.neg (by rw [h2]; exact fun h => h32 (hc.1 h)) Ev.rfl')))
theorem blanks_f (s : ByteArray) (hs : s.size ≤ 1000000) (p : Nat) (hp : p ≤ s.size) :
    ∃ q : Nat, p ≤ q ∧ q ≤ s.size ∧ (bl s).drop q = ((bl s).drop p).dropWhile (· == 32) ∧ Ev (fun k => Dxblanks.f k s (p : Int)) (s, (q : Int)) := blanks_ev s hs _ p rfl hp
theorem kindl_ev (s : ByteArray) (hs : s.size ≤ 1000000) : ∀ (n p : Nat), s.size - p = n → p ≤ s.size →
    ∃ q : Nat, p ≤ q ∧ q ≤ s.size ∧ (bl s).drop q = ((bl s).drop p).dropWhile tyB ∧ ((bl s).drop p).take (q - p) = ((bl s).drop p).takeWhile tyB ∧ Ev (fun k => Dxkind.l0 k s (p : Int)) (q : Int) := by
  intro n
  induction n with
  | zero =>
    intro p hn hp
    refine ⟨p, Nat.le_refl _, hp, ?_, ?_, ?_⟩
    · rw [drop_end (by omega)]; rfl
    · rw [drop_end (by omega)]; simp
    · exact Ev.step (fun k => by rw [Dxkind.l0]) (Ev.neg (by omega) Ev.rfl')
  | succ n ih =>
    intro p hn hp
    cases hr : (bl s).drop p with
    | nil => have := drop_nil hr; omega
    | cons c r =>
      obtain ⟨h1, h2, h3⟩ := drop_cons hr
      have hc : ((c.toNat : Int) = 32) ↔ c = 32 := ieq c 32
      have hd : ((c.toNat : Int) = 61) ↔ c = 61 := ieq c 61
      by_cases h61 : c = 61
      · refine ⟨p, Nat.le_refl _, hp, ?_, ?_, ?_⟩
        · rw [hr, List.dropWhile_cons_of_neg (by simp [tyB, h61])]
        · rw [List.takeWhile_cons_of_neg (by simp [tyB, h61])]; simp
        · exact Ev.step (fun k => by rw [Dxkind.l0]) (Ev.pos (by omega) (Ev.pos (by omega) (Ev.pos (by rw [h2]; exact hd.2 h61) Ev.rfl')))
      · by_cases h32 : c = 32
        · refine ⟨p, Nat.le_refl _, hp, ?_, ?_, ?_⟩
          · rw [hr, List.dropWhile_cons_of_neg (by simp [tyB, h32])]
          · rw [List.takeWhile_cons_of_neg (by simp [tyB, h32])]; simp
          · exact Ev.step (fun k => by rw [Dxkind.l0]) (Ev.pos (by omega) (Ev.pos (by omega) (Ev.neg (by rw [h2]; exact fun h => h61 (hd.1 h)) (Ev.pos (by rw [h2]; exact hc.2 h32) Ev.rfl'))))
        · obtain ⟨q, q1, q2, q3, q4, q5⟩ := ih (p + 1) (by omega) (by omega)
          refine ⟨q, by omega, q2, ?_, ?_, ?_⟩
          · rw [q3, h3, List.dropWhile_cons_of_pos (by simp [tyB, h32, h61])]
          · rw [h3] at q4
            rw [List.takeWhile_cons_of_pos (by simp [tyB, h32, h61]), ← q4, show q - p = (q - (p + 1)) + 1 from by omega]; rfl
          · refine Ev.step (fun k => by rw [Dxkind.l0]) (Ev.pos (by omega) (Ev.pos (by omega) (Ev.neg (by rw [h2]; exact fun h => h61 (hd.1 h)) (Ev.neg (by rw [h2]; exact fun h => h32 (hc.1 h)) ?_))))
            rw [wsucc (by omega)]; exact q5
theorem enc_high (r : Int) (h : ¬ (0 ≤ r ∧ r ≤ 127)) : ∃ b t, Lib.encodeRune r = b :: t ∧ 128 ≤ b.toNat := by
  unfold Lib.encodeRune
  by_cases h2 : 128 ≤ r ∧ r ≤ 2047
  · rw [Lib.encodeRuneZ_two h2.1 h2.2]
    refine ⟨_, _, rfl, ?_⟩
    rw [UInt8.toNat_ofNat']; omega
  by_cases h3 : (2048 ≤ r ∧ r < 55296) ∨ (57343 < r ∧ r ≤ 65535)
  · rw [Lib.encodeRuneZ_three h3]
    refine ⟨_, _, rfl, ?_⟩
    rw [UInt8.toNat_ofNat']; omega
  by_cases h4 : 65536 ≤ r ∧ r ≤ 1114111
  · rw [Lib.encodeRuneZ_four h4.1 h4.2]
    refine ⟨_, _, rfl, ?_⟩
    rw [UInt8.toNat_ofNat']; omega
  · rw [Lib.encodeRuneZ_bad (by omega)]
    exact ⟨_, _, rfl, by decide⟩
theorem dec_ascii {c : UInt8} {r : List UInt8} (h : c.toNat < 128) : Lib.decodeL (c :: r) = (c.toNat, 1) := by
  rw [Lib.decodeL_N]
  unfold Lib.decodeN
  rw [if_pos (by simpa using h)]; rfl
theorem dec_high {c : UInt8} {r : List UInt8} (h : 128 ≤ c.toNat) : 128 ≤ (Lib.decodeL (c :: r)).1 := by
  rw [Lib.decodeL_N]
  have h0 : ((c :: r).getD 0 0).toNat = c.toNat := rfl
  rcases Lib.decodeN_shape (c :: r).length ((c :: r).getD 0 0).toNat ((c :: r).getD 1 0).toNat ((c :: r).getD 2 0).toNat ((c :: r).getD 3 0).toNat with ⟨a, e⟩ | ⟨_, _, _, a, e⟩ | ⟨_, _, _, _, a, _, e⟩ | ⟨_, _, _, _, _, a, _, e⟩ | e
  · omega
  all_goals (rw [e]; dsimp only; omega)
theorem low_ascii {c : UInt8} (h : c.toNat < 128) : Lib.encodeRune (lowR (c.toNat : Int)) = [lowB c] := by
  unfold lowR lowB
  by_cases q : 65 ≤ c.toNat ∧ c.toNat ≤ 90
  · rw [if_pos (by omega), if_pos q]
    unfold Lib.encodeRune
    rw [Lib.encodeRuneZ_one (by omega) (by omega)]
    simp only [List.map_cons, List.map_nil, List.cons.injEq, and_true]
    apply UInt8.toNat_inj.1
    rw [UInt8.toNat_ofNat', UInt8.toNat_add]; simp; omega
  · rw [if_neg (by omega), if_neg q]
    unfold Lib.encodeRune
    rw [Lib.encodeRuneZ_one (by omega) (by omega)]
    simp
theorem mapD_low : ∀ (n : Nat) (l : List UInt8), l.length ≤ n → ((∀ c ∈ l, c.toNat < 128) ∧ Lib.mapD lowR l = l.map lowB) ∨ ((∃ c ∈ l, 128 ≤ c.toNat) ∧ ∃ c ∈ Lib.mapD lowR l, 128 ≤ c.toNat)
  | 0, l, h => by
    have : l = [] := List.eq_nil_of_length_eq_zero (by omega)
    subst this
    exact .inl ⟨by simp, rfl⟩
  | n + 1, [], _ => .inl ⟨by simp, rfl⟩
  | n + 1, c :: r, h => by
    simp only [List.length_cons] at h
    by_cases hc : c.toNat < 128
    · have e : Lib.mapD lowR (c :: r) = lowB c :: Lib.mapD lowR r := by
        rw [Lib.mapD_step _ _ (by simp), dec_ascii hc]
        dsimp only
        rw [low_ascii hc, if_pos (by unfold lowR; split <;> omega)]; rfl
      rw [e]
      rcases mapD_low n r (by omega) with ⟨h1, h2⟩ | ⟨⟨x, hx, hx2⟩, y, hy, hy2⟩
      · refine .inl ⟨?_, by rw [h2]; rfl⟩
        intro d hd
        rcases List.mem_cons.1 hd with rfl | hd
        · exact hc
        · exact h1 d hd
      · exact .inr ⟨⟨x, List.mem_cons_of_mem _ hx, hx2⟩, y, List.mem_cons_of_mem _ hy, hy2⟩
    · have hd := dec_high (r := r) (Nat.le_of_not_lt hc)
      refine .inr ⟨⟨c, by simp, by omega⟩, ?_⟩
      rw [Lib.mapD_step _ _ (by simp)]
      have e : lowR ((Lib.decodeL (c :: r)).1 : Int) = ((Lib.decodeL (c :: r)).1 : Int) := by unfold lowR; rw [if_neg (by omega)]
      rw [e, if_pos (by omega)]
      obtain ⟨b, t, hb, hb2⟩ := enc_high ((Lib.decodeL (c :: r)).1 : Int) (by omega)
      rw [hb]
      exact ⟨b, by simp, hb2⟩
theorem typeOk_high {l : List UInt8} (h : ∃ c ∈ l, 128 ≤ c.toNat) : typeOk l = false := by
  cases ht : typeOk l with
  | false => rfl
  | true =>
    obtain ⟨c, hc, h2⟩ := h
    have := (typeOk_all ht).2 c hc
    simp only [typeB, Bool.or_eq_true, Bool.and_eq_true, decide_eq_true_eq, beq_iff_eq] at this
    rcases this with (this | this) | rfl
    · omega
    · omega
    · revert h2; decide
theorem mapD_type (l : List UInt8) : typeOk (Lib.mapD lowR l) = typeOk (l.map lowB) ∧ (typeOk (l.map lowB) = true → Lib.mapD lowR l = l.map lowB) := by
  rcases mapD_low _ l (Nat.le_refl _) with ⟨_, h⟩ | ⟨⟨x, hx, hx2⟩, h⟩
  · rw [h]; exact ⟨rfl, fun _ => rfl⟩
  · have e : typeOk (l.map lowB) = false := typeOk_high ⟨lowB x, List.mem_map_of_mem hx, by unfold lowB; rw [if_neg (by omega)]; exact hx2⟩
    rw [typeOk_high h, e]; exact ⟨rfl, fun h => by cases h⟩
theorem rightType_l (s : ByteArray) (hs : s.size ≤ 1000000) : ∀ (n p : Nat), s.size - p = n → p ≤ s.size → 1 ≤ p →
    Ev (fun k => dn_rightType.l0 k s (s.size : Int) (p : Int)) (((bl s).drop p).all typeB && decide (s.size ≤ 32)) := by
  intro n
  induction n with
  | zero =>
    intro p hn hp h1
    rw [drop_end (by omega)]
    refine Ev.step (fun k => by rw [dn_rightType.l0]) (Ev.neg (by omega) (Ev.neg ?_ ?_))
    · rw [Lib.toList_data]; intro h; have := bl_length s; unfold bl at this; rw [h] at this; simp at this; omega
    · have : decide ((s.size : Int) ≤ 32) = decide (s.size ≤ 32) := decide_eq_decide.2 (by omega)
      rw [this]; exact Ev.rfl'
  | succ n ih =>
    intro p hn hp h1
    cases hr : (bl s).drop p with
    | nil => have := drop_nil hr; omega
    | cons c r =>
      obtain ⟨g1, g2, g3⟩ := drop_cons hr
      have hi := ih (p + 1) (by omega) (by omega) (by omega)
      rw [g3] at hi
      have hc := c.toNat_lt
      have h45 : ((c.toNat : Int) = 45) ↔ c = 45 := ieq c 45
      refine Ev.step (fun k => by rw [dn_rightType.l0]) ?_
      rw [g2, wsucc (by omega), List.all_cons]
      by_cases q1 : 97 ≤ c.toNat ∧ c.toNat ≤ 122
      · rw [show typeB c = true by simp [typeB, q1]]
        simp (disch := omega) only [if_pos, if_neg]
        simpa using hi
      by_cases q2 : c = 45
      · rw [show typeB c = true by subst q2; rfl]
        have := h45.2 q2
        simp (disch := omega) only [if_pos, if_neg]
        simpa using hi
      have q3 : (c.toNat : Int) ≠ 45 := fun h => q2 (h45.1 h)
      by_cases q4 : 48 ≤ c.toNat ∧ c.toNat ≤ 57
      · rw [show typeB c = true by simp [typeB, q4]]
        simp (disch := omega) only [if_pos, if_neg]
        simpa using hi
      · rw [show typeB c = false by simp [typeB, q2]; omega]
        have e : Ev (fun (_ : Nat) => some false) (false && r.all typeB && decide (s.size ≤ 32)) := Ev.rfl'
        by_cases a1 : 97 ≤ c.toNat
        · simp (disch := omega) only [if_pos, if_neg]; exact e
        · by_cases a2 : c.toNat < 48
          · simp (disch := omega) only [if_pos, if_neg]; exact e
          · simp (disch := omega) only [if_pos, if_neg]; exact e
theorem rightType_ev (s : ByteArray) (hs : s.size ≤ 1000000) : Ev (fun k => dn_rightType.f k s) (typeOk (bl s)) := by
  unfold dn_rightType.f
  cases hr : bl s with
  | nil =>
    have : s.size = 0 := by rw [← bl_length, hr]; rfl
    show Ev _ false
    refine Ev.step (fun k => by rw [dn_rightType.l0]) (Ev.neg (by omega) (Ev.pos ?_ Ev.rfl'))
    rw [Lib.toList_data]; exact hr
  | cons c r =>
    obtain ⟨g1, g2, g3⟩ := drop_cons (s := s) (p := 0) (by simpa using hr)
    have hi := rightType_l s hs _ 1 rfl (by omega) (by omega)
    rw [show (1 : Nat) = 0 + 1 from rfl, g3] at hi
    have hc := c.toNat_lt
    have hlen : s.size = (c :: r).length := by rw [← bl_length, hr]
    refine Ev.step (fun k => by rw [dn_rightType.l0]) ?_
    have g2' : bt s 0 = (c.toNat : Int) := g2
    rw [g2', show wrap64 ((0 : Int) + 1) = ((0 + 1 : Nat) : Int) from wsucc (p := 0) (by omega)]
    unfold typeOk
    dsimp only
    rw [← hlen, List.all_cons]
    by_cases q1 : 97 ≤ c.toNat ∧ c.toNat ≤ 122
    · rw [show typeB c = true by simp [typeB, q1], decide_eq_true q1]
      simp (disch := omega) only [if_pos, if_neg]
      simpa using hi
    · rw [decide_eq_false q1]
      have e : Ev (fun (_ : Nat) => some false) (false && (typeB c && r.all typeB) && decide (s.size ≤ 32)) := Ev.rfl'
      by_cases a1 : 97 ≤ c.toNat
      · simp (disch := omega) only [if_pos, if_neg]; exact e
      · simp (disch := omega) only [if_pos, if_neg]; exact e
theorem lower_f (s : ByteArray) (hs : s.size ≤ 1000000) (a b : Nat) : dn_lower.f (s.extract a b) = some ⟨(Lib.mapD lowR (((bl s).drop a).take (b - a))).toArray⟩ := by
  unfold dn_lower.f
  rw [if_pos (by simp; omega), Lib.extract_data]
theorem mapD_len (f : Int → Int) : ∀ (n : Nat) (l : List UInt8), l.length ≤ n → (Lib.mapD f l).length ≤ 4 * l.length
  | 0, l, h => by
    have : l = [] := List.eq_nil_of_length_eq_zero (by omega)
    subst this
    exact Nat.le_refl _
  | n + 1, l, h => by
    by_cases hne : l = []
    · subst hne; exact Nat.le_refl _
    · rw [Lib.mapD_step _ _ hne, List.length_append]
      have hw := Lib.decodeL_width l
      have hl := Lib.decodeL_le l hne
      have ih := mapD_len f n (l.drop (Lib.decodeL l).2) (by rw [List.length_drop]; omega)
      rw [List.length_drop] at ih
      have h4 : (if 0 ≤ f (Lib.decodeL l).1 then Lib.encodeRune (f (Lib.decodeL l).1) else []).length ≤ 4 := by
        split
        · have := Lib.runeCells_le (f (Lib.decodeL l).1)
          rw [Lib.runeCells_length] at this; exact this.2
        · simp
      omega
theorem kind_ev (s : ByteArray) (hs : s.size ≤ 100000) (p : Nat) (hp : p ≤ s.size) :
    (kindB ((bl s).drop p) = none → ∃ t s' q, Ev (fun k => Dxkind.f k s (p : Int)) (t, false, s', q)) ∧
    (∀ t r', kindB ((bl s).drop p) = some (t, r') → ∃ q : Nat, q ≤ s.size ∧ p < q ∧ (bl s).drop q = r' ∧ Ev (fun k => Dxkind.f k s (p : Int)) (⟨t.toArray⟩, true, s, (q : Int))) := by
  obtain ⟨q1, a1, a2, a3, a4⟩ := blanks_f s (by omega) p hp
  obtain ⟨q2, b1, b2, b3, b5, b4⟩ := kindl_ev s (by omega) _ q1 rfl a2
  obtain ⟨q3, c1, c2, c3, c4⟩ := blanks_f s (by omega) q2 b2
  have hl := lower_f s (by omega) q1 q2
  have h2 : (((bl s).drop q1).take (q2 - q1)).length ≤ s.size := by rw [List.length_take, List.length_drop, bl_length]; omega
  obtain ⟨m, hm⟩ : ∃ m, m = ((bl s).drop q1).take (q2 - q1) := ⟨_, rfl⟩
  rw [← hm] at hl h2 b5
  have hty := mapD_type m
  have hsz : (⟨(Lib.mapD lowR m).toArray⟩ : ByteArray).size ≤ 1000000 := by
    have h1 := mapD_len lowR _ m (Nat.le_refl _)
    have h3 : (⟨(Lib.mapD lowR m).toArray⟩ : ByteArray).size = (Lib.mapD lowR m).length := by rw [← bl_length]
    omega
  have ht := rightType_ev (⟨(Lib.mapD lowR m).toArray⟩) hsz
  rw [show bl (⟨(Lib.mapD lowR m).toArray⟩ : ByteArray) = Lib.mapD lowR m from rfl, hty.1] at ht
  rw [a3] at b3 b5
  rw [b3] at c3
  have hk : ∀ {v : ByteArray × Bool × ByteArray × Int}, Ev (fun k => if (s.size : Int) ≤ (q3 : Int) then some (⟨#[]⟩, false, s, (q3 : Int))
        else (if (0 : Int) ≤ (q3 : Int) then (if bt s (q3 : Int) = 61 then (dn_rightType.f k ⟨(Lib.mapD lowR m).toArray⟩).bind fun ok => if ok = true then some (⟨(Lib.mapD lowR m).toArray⟩, true, s, wrap64 ((q3 : Int) + 1)) else some (⟨#[]⟩, false, s, (q3 : Int))
          else some (⟨#[]⟩, false, s, (q3 : Int))) else none)) v → Ev (fun k => Dxkind.f k s (p : Int)) v := by
    intro v h
    unfold Dxkind.f
    refine Ev.bind a4 (Ev.bind b4 (Ev.pos (by dsimp only; omega) (Ev.pos (by dsimp only; omega) (Ev.pos (by dsimp only; omega) ?_))))
    refine Ev.bindc hl (Ev.bind c4 h)
  have hfail : ∃ t s' q, Ev (fun (_ : Nat) => some ((⟨#[]⟩ : ByteArray), false, s, (q3 : Int))) (t, false, s', q) := ⟨_, _, _, Ev.rfl'⟩
  unfold kindB
  rw [← c3, ← b5]
  cases hr : (bl s).drop q3 with
  | nil =>
    have := drop_nil hr
    exact ⟨fun _ => ⟨_, _, _, hk (Ev.pos (by omega) Ev.rfl')⟩, fun t r' h => by simp at h⟩
  | cons c r =>
    obtain ⟨g1, g2, g3⟩ := drop_cons hr
    have h61 : ((c.toNat : Int) = 61) ↔ c = 61 := ieq c 61
    dsimp only
    by_cases hc : c = 61
    · cases hT : typeOk (m.map lowB) with
      | false =>
        rw [if_neg (by rintro ⟨_, h⟩; cases h)]
        rw [hT] at ht
        exact ⟨fun _ => ⟨_, _, _, hk (Ev.neg (by omega) (Ev.pos (by omega) (Ev.pos (by rw [g2]; exact h61.2 hc) (Ev.bind ht (Ev.neg (by simp) Ev.rfl')))))⟩, fun t r' h => by simp at h⟩
      | true =>
        rw [if_pos ⟨hc, rfl⟩]
        refine ⟨fun h => (by simp at h), fun t r' h => ?_⟩
        simp only [Option.some.injEq, Prod.mk.injEq] at h
        obtain ⟨rfl, rfl⟩ := h
        rw [hT] at ht
        refine ⟨q3 + 1, by omega, by omega, g3, hk (Ev.neg (by omega) (Ev.pos (by omega) (Ev.pos (by rw [g2]; exact h61.2 hc) (Ev.bind ht (Ev.pos rfl ?_)))))⟩
        rw [wsucc (by omega), hty.2 hT]
        exact Ev.rfl'
    · rw [if_neg (fun h => hc h.1)]
      exact ⟨fun _ => ⟨_, _, _, hk (Ev.neg (by omega) (Ev.pos (by omega) (Ev.neg (by rw [g2]; exact fun h => hc (h61.1 h)) Ev.rfl')))⟩, fun t r' h => by simp at h⟩
def ints (l : List UInt8) : List Int := l.map fun c => (c.toNat : Int)
theorem strOfNums_ints (l : List UInt8) : strOfNums (ints l) = ⟨l.toArray⟩ := by
  unfold strOfNums ints
  rw [List.map_map]
  congr 1
  have : (List.map ((fun n => UInt8.ofNat n.toNat) ∘ fun c => ((c : UInt8).toNat : Int)) l) = l := by
    conv => rhs; rw [← List.map_id l]
    exact List.map_congr_left fun c _ => by simp
  rw [this]
theorem ints_length (l : List UInt8) : (ints l).length = l.length := by simp [ints]
theorem ints_take (l : List UInt8) (n : Nat) : (ints l).take n = ints (l.take n) := by simp [ints, List.map_take]
theorem ints_snoc (l : List UInt8) (c : UInt8) : ints l ++ [(c.toNat : Int)] = ints (l ++ [c]) := by simp [ints]
def hexI (c : UInt8) : Int := match hexv c with | some x => (x : Int) | none => -1
theorem ofNat_toNat8 (c : UInt8) : UInt8.ofNat c.toNat = c := by simp
set_option maxRecDepth 100000 in
theorem digit_all : ∀ n : Nat, n < 256 → b64_digit.f (n : Int) = some (hexI (UInt8.ofNat n)) := by decide +kernel
theorem digit_is (c : UInt8) : b64_digit.f (c.toNat : Int) = some (hexI c) := by
  have := digit_all c.toNat c.toNat_lt
  rwa [ofNat_toNat8] at this
theorem hexv_lt {c : UInt8} {x : Nat} (h : hexv c = some x) : x < 16 := by
  unfold hexv at h
  repeat' split at h
  all_goals first | (cases h; omega) | cases h
set_option maxRecDepth 100000 in
theorem bits_all : ∀ x : Nat, x < 16 → ∀ y : Nat, y < 16 → (Go.bits .or .i64 (wrap64 ((x : Int) * 16)) (y : Int)) % 256 = ((16 * x + y : Nat) : Int) := by decide +kernel
theorem esc_all : ∀ n : Nat, n < 256 → decide (Lib.indexByte [34, 43, 44, 59, 60, 61, 62, 92, 35, 32] (UInt8.ofNat n) ≥ 0) = isEsc (UInt8.ofNat n) := by decide +kernel
theorem esc_is (c : UInt8) : decide (Lib.indexByte [34, 43, 44, 59, 60, 61, 62, 92, 35, 32] c ≥ 0) = isEsc c := by
  have := esc_all c.toNat c.toNat_lt
  rwa [ofNat_toNat8] at this
theorem unhex_ev (u : ByteArray) (a b : UInt8) (hu : bl u = [a, b]) :
    (hex2 a b = none → Ev (fun k => b64_Unhex.f k u) (⟨#[]⟩, 4)) ∧ (∀ x, hex2 a b = some x → Ev (fun k => b64_Unhex.f k u) (⟨#[x]⟩, 0)) := by
  have hsz : u.size = 2 := by rw [← bl_length, hu]; rfl
  obtain ⟨_, ha⟩ := bt_get (s := u) (p := 0) (c := a) (by rw [hu]; rfl)
  obtain ⟨_, hb⟩ := bt_get (s := u) (p := 1) (c := b) (by rw [hu]; rfl)
  have hst : ∀ {v : ByteArray × Int}, Ev (fun k => if hexI a < 0 then (some ((⟨#[]⟩ : ByteArray), (4 : Int))) else (if hexI b < 0 then (some ((⟨#[]⟩ : ByteArray), 4)) else (b64_Unhex.l0 k u ([] ++ [(Go.bits .or .i64 (wrap64 (hexI a * 16)) (hexI b)) % 256]) (wrap64 ((0 : Int) + 2))))) v → Ev (fun k => b64_Unhex.f k u) v := by
    intro v h
    unfold b64_Unhex.f
    refine Ev.pos (by omega) (Ev.step (fun k => by rw [b64_Unhex.l0]) (Ev.pos (by omega) (Ev.pos (by omega) ?_)))
    have w1 : wrap64 ((0 : Int) + 1) = ((1 : Nat) : Int) := by unfold wrap64; omega
    have ha' : bt u 0 = (a.toNat : Int) := ha
    rw [w1, ha', hb]
    refine Ev.bindc (digit_is a) (Ev.pos (by omega) (Ev.pos (by omega) (Ev.bindc (digit_is b) ?_)))
    refine Ev.congr (fun k => ?_) h
    rw [if_pos (show ([] : List Int).length < 140737488355328 by decide)]
  unfold hex2
  cases hx : hexv a with
  | none =>
    have e : hexI a = -1 := by unfold hexI; rw [hx]
    rw [e] at hst
    exact ⟨fun _ => hst (Ev.pos (by omega) Ev.rfl'), fun x h => by simp at h⟩
  | some x =>
    have ea : hexI a = (x : Int) := by unfold hexI; rw [hx]
    rw [ea] at hst
    cases hy : hexv b with
    | none =>
      have e : hexI b = -1 := by unfold hexI; rw [hy]
      rw [e] at hst
      exact ⟨fun _ => hst (Ev.neg (by omega) (Ev.pos (by omega) Ev.rfl')), fun x h => by simp at h⟩
    | some y =>
      have eb : hexI b = (y : Int) := by unfold hexI; rw [hy]
      rw [eb, bits_all x (hexv_lt hx) y (hexv_lt hy)] at hst
      refine ⟨fun h => by simp at h, fun z h => hst (Ev.neg (by omega) (Ev.neg (by omega) ?_))⟩
      simp only [Option.bind_some, Option.map_some, Option.some.injEq] at h
      subst h
      refine Ev.step (fun k => by rw [b64_Unhex.l0]) (Ev.neg (by rw [hsz]; unfold wrap64; omega) ?_)
      have : strOfNums ([] ++ [((16 * x + y : Nat) : Int)]) = (⟨#[(16 * x + y).toUInt8]⟩ : ByteArray) := by
        show (⟨#[UInt8.ofNat ((16 * x + y : Nat) : Int).toNat]⟩ : ByteArray) = _
        rw [Int.toNat_natCast]
      rw [this]; exact Ev.rfl'
theorem escaped_ev (s : ByteArray) (hs : s.size ≤ 1000000) (p : Nat) (hp : p ≤ s.size) :
    (esc ((bl s).drop p) = none → ∃ n s' q, Ev (fun k => Dxescaped.f k s (p : Int)) (n, false, s', q)) ∧
    (∀ x r', esc ((bl s).drop p) = some (x, r') → ∃ q : Nat, q ≤ s.size ∧ p < q ∧ (bl s).drop q = r' ∧ Ev (fun k => Dxescaped.f k s (p : Int)) ((x.toNat : Int), true, s, (q : Int))) := by
  obtain ⟨u, hu⟩ : ∃ u, u = s.extract p s.size := ⟨_, rfl⟩
  have hbu : bl u = (bl s).drop p := by
    rw [hu]; unfold bl; rw [Lib.extract_data, List.take_of_length_le]
    rw [List.length_drop]; have := bl_length s; unfold bl at this; omega
  have hus : u.size = s.size - p := by rw [hu]; simp
  have hst : ∀ {v : Int × Bool × ByteArray × Int}, Ev (fun k => if u.toList = ([] : List UInt8) then (Dxescaped.j0 k u false s (p : Int)) else (if 0 < (u.size : Int) then ((strings_IndexByte.f (⟨#[34, 43, 44, 59, 60, 61, 62, 92, 35, 32]⟩ : ByteArray) (bt u 0)).bind fun t297 => (Dxescaped.j0 k u (decide (t297 ≥ 0)) s (p : Int))) else none)) v → Ev (fun k => Dxescaped.f k s (p : Int)) v := by
    intro v h
    unfold Dxescaped.f
    refine Ev.pos (by omega) (Ev.pos (by omega) ?_)
    rw [Int.toNat_natCast, ← hu]; exact h
  rw [Lib.toList_data, show u.data.toList = bl u from rfl, hbu] at hst
  cases hr : (bl s).drop p with
  | nil =>
    have := drop_nil hr
    rw [hr] at hst
    refine ⟨fun _ => ⟨_, _, _, hst (Ev.pos rfl (Ev.step (fun k => by rw [Dxescaped.j0]) (Ev.neg (by simp) (Ev.pos (by omega) Ev.rfl'))))⟩, fun x r' h => by simp [esc] at h⟩
  | cons a r =>
    obtain ⟨g1, g2, g3⟩ := drop_cons hr
    rw [hr] at hst hbu
    obtain ⟨_, ga⟩ := bt_get (s := u) (p := 0) (c := a) (by rw [hbu]; rfl)
    have ga' : bt u 0 = (a.toNat : Int) := ga
    rw [ga'] at hst
    have hix : strings_IndexByte.f (⟨#[34, 43, 44, 59, 60, 61, 62, 92, 35, 32]⟩ : ByteArray) (a.toNat : Int) = some (Lib.indexByte [34, 43, 44, 59, 60, 61, 62, 92, 35, 32] a) := by
      unfold strings_IndexByte.f
      rw [Int.toNat_natCast, show a.toNat.toUInt8 = a by simp]
    have hj : ∀ {v : Int × Bool × ByteArray × Int}, Ev (fun k => Dxescaped.j0 k u (isEsc a) s (p : Int)) v → Ev (fun k => Dxescaped.f k s (p : Int)) v := by
      intro v h
      refine hst (Ev.neg (by simp) (Ev.pos (by omega) (Ev.bindc hix ?_)))
      rw [esc_is]; exact h
    simp only [esc]
    cases he : isEsc a with
    | true =>
      rw [he] at hj
      rw [if_pos rfl]
      refine ⟨fun h => by simp at h, fun x r' h => ?_⟩
      simp only [Option.some.injEq, Prod.mk.injEq] at h
      obtain ⟨rfl, rfl⟩ := h
      refine ⟨p + 1, by omega, by omega, g3, hj (Ev.step (fun k => by rw [Dxescaped.j0]) (Ev.pos rfl (Ev.pos (by omega) ?_)))⟩
      rw [ga', wsucc (by omega)]; exact Ev.rfl'
    | false =>
      rw [he] at hj
      rw [if_neg (by simp)]
      cases r with
      | nil =>
        have := drop_nil (s := s) (p := p + 1) g3
        exact ⟨fun _ => ⟨_, _, _, hj (Ev.step (fun k => by rw [Dxescaped.j0]) (Ev.neg (by simp) (Ev.pos (by omega) Ev.rfl')))⟩, fun x r' h => by simp at h⟩
      | cons b r2 =>
        obtain ⟨f1, f2, f3⟩ := drop_cons g3
        have h2 : bl (u.extract 0 2) = [a, b] := by
          unfold bl; rw [Lib.extract_data, show u.data.toList = bl u from rfl, hbu]; rfl
        obtain ⟨k1, k2⟩ := unhex_ev _ a b h2
        dsimp only
        cases hx : hex2 a b with
        | none =>
          exact ⟨fun _ => ⟨_, _, _, hj (Ev.step (fun k => by rw [Dxescaped.j0]) (Ev.neg (by simp) (Ev.neg (by omega) (Ev.pos (by omega) (Ev.pos (by omega) (Ev.bind (k1 hx) (Ev.neg (show ¬ ((4 : Int) = 0) by decide) Ev.rfl')))))))⟩, fun x r' h => by simp at h⟩
        | some x =>
          refine ⟨fun h => by simp at h, fun y r' h => ?_⟩
          simp only [Option.map_some, Option.some.injEq, Prod.mk.injEq] at h
          obtain ⟨rfl, rfl⟩ := h
          refine ⟨p + 2, by omega, by omega, f3, hj (Ev.step (fun k => by rw [Dxescaped.j0]) (Ev.neg (by simp) (Ev.neg (by omega) (Ev.pos (by omega) (Ev.pos (by omega) (Ev.bind (k2 x hx) (Ev.pos rfl (Ev.pos ?_ ?_))))))))⟩
          · show (0 : Int) < ((1 : Nat) : Int); omega
          · have e1 : bt (⟨#[x]⟩ : ByteArray) 0 = (x.toNat : Int) := (bt_get (s := ⟨#[x]⟩) (p := 0) (c := x) rfl).2
            have e2 : wrap64 ((p : Int) + 2) = ((p + 2 : Nat) : Int) := by unfold wrap64; omega
            dsimp only
            rw [e1, e2]; exact Ev.rfl'
abbrev VOut := ByteArray × Bool × ByteArray × Int
theorem kept_out (b : List UInt8) (kept : Nat) (hk : kept ≤ b.length) (s : ByteArray) (q : Int) : Ev (fun (_ : Nat) => if (0 : Int) ≤ (kept : Int) then (if (kept : Int) ≤ ((ints b).length : Int) then (some (strOfNums ((ints b).take (kept : Int).toNat), true, s, q)) else (none)) else (none)) (⟨(b.take kept).toArray⟩, true, s, q) := by
  refine Ev.pos (by omega) (Ev.pos (by rw [ints_length]; omega) ?_)
  rw [Int.toNat_natCast, ints_take, strOfNums_ints]; exact Ev.rfl'
theorem scan_ev (s : ByteArray) (hs : s.size ≤ 1000000) : ∀ (n p : Nat) (b : List UInt8) (kept : Nat), p ≤ s.size → s.size - p < n → kept ≤ b.length → b.length ≤ p →
    (scanN n ((bl s).drop p) b kept = none → ∃ t s' q, Ev (fun k => Dxvalue.l0 k (ints b) (kept : Int) s (p : Int)) (t, false, s', q)) ∧
    (∀ v r', scanN n ((bl s).drop p) b kept = some (v, r') → ∃ q : Nat, q ≤ s.size ∧ p ≤ q ∧ (bl s).drop q = r' ∧ Ev (fun k => Dxvalue.l0 k (ints b) (kept : Int) s (p : Int)) (⟨v.toArray⟩, true, s, (q : Int))) := by
  intro n
  induction n with
  | zero => intro p b kept hp hn; omega
  | succ n ih =>
    intro p b kept hp hn hk hb
    have hil : (ints b).length < 140737488355328 := by rw [ints_length]; omega
    cases hr : (bl s).drop p with
    | nil =>
      have := drop_nil hr
      refine ⟨fun h => by simp [scanN] at h, fun v r' h => ?_⟩
      simp only [scanN, Option.some.injEq, Prod.mk.injEq] at h
      obtain ⟨rfl, rfl⟩ := h
      exact ⟨p, hp, Nat.le_refl _, hr, Ev.step (fun k => by rw [Dxvalue.l0]) (Ev.neg (by omega) (kept_out b kept hk s _))⟩
    | cons c r =>
      obtain ⟨g1, g2, g3⟩ := drop_cons hr
      have e44 : ((c.toNat : Int) = 44) ↔ c = 44 := ieq c 44
      have e59 : ((c.toNat : Int) = 59) ↔ c = 59 := ieq c 59
      have e43 : ((c.toNat : Int) = 43) ↔ c = 43 := ieq c 43
      have e34 : ((c.toNat : Int) = 34) ↔ c = 34 := ieq c 34
      have e60 : ((c.toNat : Int) = 60) ↔ c = 60 := ieq c 60
      have e62 : ((c.toNat : Int) = 62) ↔ c = 62 := ieq c 62
      have e92 : ((c.toNat : Int) = 92) ↔ c = 92 := ieq c 92
      have e32 : ((c.toNat : Int) = 32) ↔ c = 32 := ieq c 32
      have hst : ∀ {v : VOut}, Ev (fun k => if (c.toNat : Int) = 44 then (Dxvalue.j1 k (ints b) (kept : Int) (c.toNat : Int) (c.toNat : Int) ((c.toNat : Int) == 44) s (p : Int)) else (if (c.toNat : Int) = 59 then (Dxvalue.j1 k (ints b) (kept : Int) (c.toNat : Int) (c.toNat : Int) ((c.toNat : Int) == 59) s (p : Int)) else (Dxvalue.j1 k (ints b) (kept : Int) (c.toNat : Int) (c.toNat : Int) ((c.toNat : Int) == 43) s (p : Int)))) v → Ev (fun k => Dxvalue.l0 k (ints b) (kept : Int) s (p : Int)) v := by
        intro v h
        refine Ev.step (fun k => by rw [Dxvalue.l0]) (Ev.pos (by omega) (Ev.pos (by omega) ?_))
        rw [g2]; exact h
      by_cases hsep : c = 44 ∨ c = 59 ∨ c = 43
      · refine ⟨fun h => by rw [scanN, if_pos hsep] at h; simp at h, fun v r' h => ?_⟩
        rw [scanN, if_pos hsep] at h
        simp only [Option.some.injEq, Prod.mk.injEq] at h
        obtain ⟨rfl, rfl⟩ := h
        refine ⟨p, hp, Nat.le_refl _, hr, hst ?_⟩
        have hj : Ev (fun k => Dxvalue.j1 k (ints b) (kept : Int) (c.toNat : Int) (c.toNat : Int) true s (p : Int)) (⟨(b.take kept).toArray⟩, true, s, (p : Int)) :=
          Ev.step (fun k => by rw [Dxvalue.j1]) (Ev.pos rfl (kept_out b kept hk s _))
        rcases hsep with h | h | h
        · refine Ev.pos (e44.2 h) ?_
          rw [beq_iff_eq.2 (e44.2 h)]; exact hj
        · refine Ev.neg (fun h' => by have := e44.1 h'; rw [h] at this; revert this; decide) (Ev.pos (e59.2 h) ?_)
          rw [beq_iff_eq.2 (e59.2 h)]; exact hj
        · refine Ev.neg (fun h' => by have := e44.1 h'; rw [h] at this; revert this; decide) (Ev.neg (fun h' => by have := e59.1 h'; rw [h] at this; revert this; decide) ?_)
          rw [beq_iff_eq.2 (e43.2 h)]; exact hj
      · have hsep' := hsep
        simp only [not_or] at hsep
        have hst2 : ∀ {v : VOut}, Ev (fun k => if (c.toNat : Int) = 34 then (some ((⟨#[]⟩ : ByteArray), false, s, (p : Int))) else (if (c.toNat : Int) = 60 then (some ((⟨#[]⟩ : ByteArray), false, s, (p : Int))) else (if (c.toNat : Int) = 62 then (some ((⟨#[]⟩ : ByteArray), false, s, (p : Int))) else (if (c.toNat : Int) = 92 then ((Dxescaped.f k s ((p + 1 : Nat) : Int)).bind fun bt311 => (if bt311.2.1 = true then (if (ints b).length < 140737488355328 then ((some (ints b ++ [bt311.1] : List Int)).bind fun y315 => (Dxvalue.l0 k y315 (y315.length : Int) bt311.2.2.1 bt311.2.2.2)) else (none)) else (some ((⟨#[]⟩ : ByteArray), false, bt311.2.2.1, bt311.2.2.2)))) else ((if (c.toNat : Int) = 32 then (Dxvalue.l0 k (ints (b ++ [c])) (kept : Int) s ((p + 1 : Nat) : Int)) else (Dxvalue.l0 k (ints (b ++ [c])) ((b.length + 1 : Nat) : Int) s ((p + 1 : Nat) : Int)))))))) v → Ev (fun k => Dxvalue.l0 k (ints b) (kept : Int) s (p : Int)) v := by
          intro v h
          refine hst (Ev.neg (fun h' => hsep.1 (e44.1 h')) (Ev.neg (fun h' => hsep.2.1 (e59.1 h')) ?_))
          rw [beq_eq_false_iff_ne.2 (fun h' => hsep.2.2 (e43.1 h'))]
          refine Ev.step (fun k => by rw [Dxvalue.j1]) (Ev.neg (by simp) (Ev.congr (fun k => ?_) h))
          rw [if_pos hil, Option.bind_some, ints_snoc, ints_length (b ++ [c]), wsucc (by omega), List.length_append, List.length_singleton]
        by_cases hbad : c = 34 ∨ c = 60 ∨ c = 62
        · refine ⟨fun _ => ?_, fun v r' h => by rw [scanN, if_neg hsep', if_pos hbad] at h; simp at h⟩
          by_cases h34 : c = 34
          · exact ⟨_, _, _, hst2 (Ev.pos (e34.2 h34) Ev.rfl')⟩
          by_cases h60 : c = 60
          · exact ⟨_, _, _, hst2 (Ev.neg (fun h => h34 (e34.1 h)) (Ev.pos (e60.2 h60) Ev.rfl'))⟩
          have h62 : c = 62 := by rcases hbad with h | h | h; exact absurd h h34; exact absurd h h60; exact h
          exact ⟨_, _, _, hst2 (Ev.neg (fun h => h34 (e34.1 h)) (Ev.neg (fun h => h60 (e60.1 h)) (Ev.pos (e62.2 h62) Ev.rfl')))⟩
        · have hbad' := hbad
          simp only [not_or] at hbad
          rw [scanN, if_neg hsep', if_neg hbad']
          have hst3 := fun {v : VOut} (h) => hst2 (v := v) (Ev.neg (fun h => hbad.1 (e34.1 h)) (Ev.neg (fun h => hbad.2.1 (e60.1 h)) (Ev.neg (fun h => hbad.2.2 (e62.1 h)) h)))
          by_cases h92 : c = 92
          · rw [if_pos h92]
            obtain ⟨k1, k2⟩ := escaped_ev s hs (p + 1) (by omega)
            rw [g3] at k1 k2
            cases he : esc r with
            | none =>
              obtain ⟨n', s', q, hq⟩ := k1 he
              exact ⟨fun _ => ⟨_, _, _, hst3 (Ev.pos (e92.2 h92) (Ev.bind hq (Ev.neg (by simp) Ev.rfl')))⟩, fun v r' h => by simp at h⟩
            | some x =>
              obtain ⟨q, q1, q2, q3, q4⟩ := k2 x.1 x.2 he
              have hi := ih q (b ++ [x.1]) (b.length + 1) q1 (by omega) (by simp) (by simp; omega)
              rw [q3] at hi
              simp only [Option.bind_some]
              have hgo : ∀ {v : VOut}, Ev (fun k => Dxvalue.l0 k (ints (b ++ [x.1])) ((b.length + 1 : Nat) : Int) s (q : Int)) v → Ev (fun k => Dxvalue.l0 k (ints b) (kept : Int) s (p : Int)) v := by
                intro v h
                refine hst3 (Ev.pos (e92.2 h92) (Ev.bind q4 (Ev.pos rfl (Ev.pos hil ?_))))
                refine Ev.congr (fun k => ?_) h
                rw [Option.bind_some, ints_snoc, ints_length, List.length_append, List.length_singleton]
              refine ⟨fun h => ?_, fun v r' h => ?_⟩
              · obtain ⟨t, s', q', h'⟩ := hi.1 h
                exact ⟨t, s', q', hgo h'⟩
              · obtain ⟨q', d1, d2, d3, d4⟩ := hi.2 v r' h
                exact ⟨q', d1, by omega, d3, hgo d4⟩
          · rw [if_neg h92]
            have hi := ih (p + 1) (b ++ [c]) (if c = 32 then kept else b.length + 1) (by omega) (by omega) (by split <;> simp; omega) (by simp; omega)
            rw [g3] at hi
            have hgo : ∀ {v : VOut}, Ev (fun k => Dxvalue.l0 k (ints (b ++ [c])) ((if c = 32 then kept else b.length + 1 : Nat) : Int) s ((p + 1 : Nat) : Int)) v → Ev (fun k => Dxvalue.l0 k (ints b) (kept : Int) s (p : Int)) v := by
              intro v h
              refine hst3 (Ev.neg (fun h' => h92 (e92.1 h')) ?_)
              by_cases h32 : c = 32
              · rw [if_pos h32] at h
                exact Ev.pos (e32.2 h32) h
              · rw [if_neg h32] at h
                exact Ev.neg (fun h' => h32 (e32.1 h')) h
            refine ⟨fun h => ?_, fun v r' h => ?_⟩
            · obtain ⟨t, s', q', h'⟩ := hi.1 h
              exact ⟨t, s', q', hgo h'⟩
            · obtain ⟨q', d1, d2, d3, d4⟩ := hi.2 v r' h
              exact ⟨q', d1, by omega, d3, hgo d4⟩
theorem hasPrefix35 (u : ByteArray) : strings_HasPrefix.f u (⟨#[35]⟩ : ByteArray) = some (match bl u with | [] => false | c :: _ => c == 35) := by
  unfold strings_HasPrefix.f stringslite_HasPrefix.f
  have h1 : ((⟨#[35]⟩ : ByteArray)).size = 1 := rfl
  rw [h1]
  cases hu : bl u with
  | nil =>
    have : u.size = 0 := by rw [← bl_length, hu]; rfl
    rw [this]; rfl
  | cons c r =>
    have : u.size = r.length + 1 := by rw [← bl_length, hu]; rfl
    rw [if_pos (by omega), if_pos (by omega), if_pos (by omega)]
    simp only [Option.bind_some, Lib.toList_data, Option.some.injEq]
    rw [Lib.extract_data, show u.data.toList = bl u from rfl, hu]
    simp
theorem value_ev (s : ByteArray) (hs : s.size ≤ 1000000) (p : Nat) (hp : p ≤ s.size) :
    (valueB ((bl s).drop p) = none → ∃ t s' q, Ev (fun k => Dxvalue.f k s (p : Int)) (t, false, s', q)) ∧
    (∀ v r', valueB ((bl s).drop p) = some (v, r') → ∃ q : Nat, q ≤ s.size ∧ p ≤ q ∧ (bl s).drop q = r' ∧ Ev (fun k => Dxvalue.f k s (p : Int)) (⟨v.toArray⟩, true, s, (q : Int))) := by
  obtain ⟨q1, a1, a2, a3, a4⟩ := blanks_f s hs p hp
  have hbu : bl (s.extract q1 s.size) = (bl s).drop q1 := by
    unfold bl; rw [Lib.extract_data, List.take_of_length_le]
    rw [List.length_drop]; have := bl_length s; unfold bl at this; omega
  have hpre := hasPrefix35 (s.extract q1 s.size)
  rw [hbu] at hpre
  have hst : ∀ {v : VOut} {b : Bool}, strings_HasPrefix.f (s.extract q1 s.size) (⟨#[35]⟩ : ByteArray) = some b → Ev (fun k => if b = true then (some ((⟨#[]⟩ : ByteArray), false, s, (q1 : Int))) else (Dxvalue.l0 k ([] : List Int) 0 s (q1 : Int))) v → Ev (fun k => Dxvalue.f k s (p : Int)) v := by
    intro v b hb h
    unfold Dxvalue.f
    refine Ev.bind a4 (Ev.pos (by dsimp only; omega) (Ev.pos (by dsimp only; omega) ?_))
    dsimp only
    rw [Int.toNat_natCast]
    exact Ev.bindc hb h
  unfold valueB
  rw [← a3]
  cases hr : (bl s).drop q1 with
  | nil =>
    rw [hr] at hpre
    have h0 := scan_ev s hs 1 q1 [] 0 a2 (by have := drop_nil hr; omega) (Nat.le_refl _) (Nat.zero_le _)
    rw [hr] at h0
    refine ⟨fun h => by simp at h, fun v r' h => ?_⟩
    simp only [Option.some.injEq, Prod.mk.injEq] at h
    obtain ⟨rfl, rfl⟩ := h
    obtain ⟨q, d1, d2, d3, d4⟩ := h0.2 [] [] rfl
    exact ⟨q, d1, by omega, d3, hst hpre (Ev.neg (by simp) d4)⟩
  | cons c r =>
    rw [hr] at hpre
    have h0 := scan_ev s hs (r.length + 2) q1 [] 0 a2 (by have := congrArg List.length hr; rw [List.length_drop, bl_length] at this; simp at this; omega) (Nat.le_refl _) (Nat.zero_le _)
    rw [hr] at h0
    dsimp only at hpre ⊢
    by_cases h35 : c = 35
    · rw [if_pos h35]
      rw [beq_iff_eq.2 h35] at hpre
      exact ⟨fun _ => ⟨_, _, _, hst hpre (Ev.pos rfl Ev.rfl')⟩, fun v r' h => by simp at h⟩
    · rw [if_neg h35]
      rw [beq_eq_false_iff_ne.2 h35] at hpre
      refine ⟨fun h => ?_, fun v r' h => ?_⟩
      · obtain ⟨t, s', q', h'⟩ := h0.1 h
        exact ⟨t, s', q', hst hpre (Ev.neg (by simp) h')⟩
      · obtain ⟨q', d1, d2, d3, d4⟩ := h0.2 v r' h
        exact ⟨q', d1, by omega, d3, hst hpre (Ev.neg (by simp) d4)⟩
abbrev AvaS := S96
def mkA (x : Pr) : AvaS := ⟨⟨x.1.toArray⟩, ⟨x.2.toArray⟩⟩
def mkR (l : List Pr) : List AvaS := l.map mkA
def mkN (n : List (List Pr)) : List (List AvaS) := n.map mkR
theorem mkR_snoc (l : List Pr) (x : Pr) : mkR l ++ [mkA x] = mkR (l ++ [x]) := by simp [mkR]
theorem mkN_snoc (l : List (List Pr)) (x : List Pr) : mkN l ++ [mkR x] = mkN (l ++ [x]) := by simp [mkN]
theorem mkR_len (l : List Pr) : (mkR l).length = l.length := by simp [mkR]
theorem mkN_len (l : List (List Pr)) : (mkN l).length = l.length := by simp [mkN]
theorem parse_loop (s : ByteArray) (hs : s.size ≤ 100000) : ∀ (n p : Nat) (rdn : List Pr) (l : List (List Pr)), p ≤ s.size → s.size - p < n → rdn.length ≤ p → l.length ≤ p →
    (goB n ((bl s).drop p) rdn l = none → Ev (fun k => dn_Parse.l0 k s (mkN l) (mkR rdn) s (p : Int)) ([], 4)) ∧
    (∀ N b, goB n ((bl s).drop p) rdn l = some N → Ev (fun k => dn_Right.f k (mkN N)) b → Ev (fun k => dn_Parse.l0 k s (mkN l) (mkR rdn) s (p : Int)) (if b = true then (mkN N, 0) else ([], 4))) := by
  intro n
  induction n with
  | zero => intro p rdn l hp hn; omega
  | succ n ih =>
    intro p rdn l hp hn hr1 hl1
    obtain ⟨k1, k2⟩ := kind_ev s hs p hp
    rw [goB]
    cases hk : kindB ((bl s).drop p) with
    | none =>
      obtain ⟨t, s', q, hq⟩ := k1 hk
      refine ⟨fun _ => Ev.step (fun k => by rw [dn_Parse.l0]) ?_, fun N b h => by simp at h⟩
      exact Ev.bind hq (Ev.neg (by simp) Ev.rfl')
    | some x =>
      obtain ⟨q1, a1, a2, a3, a4⟩ := k2 x.1 x.2 hk
      obtain ⟨v1, v2⟩ := value_ev s (by omega) q1 a1
      rw [a3] at v1 v2
      simp only [Option.bind_some]
      cases hv : valueB x.2 with
      | none =>
        obtain ⟨t, s', q, hq⟩ := v1 hv
        refine ⟨fun _ => Ev.step (fun k => by rw [dn_Parse.l0]) ?_, fun N b h => by simp at h⟩
        exact Ev.bind a4 (Ev.pos rfl (Ev.bind hq (Ev.neg (by simp) Ev.rfl')))
      | some y =>
        obtain ⟨q2, b1, b2, b3, b4⟩ := v2 y.1 y.2 hv
        simp only [Option.bind_some]
        have hst : ∀ {o : List (List AvaS) × Int}, Ev (fun k => if (q2 : Int) = (s.size : Int) then (dn_Parse.j1 k s (mkN l) (mkR (rdn ++ [(x.1, y.1)])) ((q2 : Int) == (s.size : Int)) true s (q2 : Int)) else (if (0 : Int) ≤ (q2 : Int) then (if (q2 : Int) < (s.size : Int) then (dn_Parse.j1 k s (mkN l) (mkR (rdn ++ [(x.1, y.1)])) ((q2 : Int) == (s.size : Int)) ((bt s (q2 : Int)) != 43) s (q2 : Int)) else (none)) else (none))) o → Ev (fun k => dn_Parse.l0 k s (mkN l) (mkR rdn) s (p : Int)) o := by
          intro o h
          refine Ev.step (fun k => by rw [dn_Parse.l0]) ?_
          refine Ev.bind a4 (Ev.pos rfl (Ev.bind b4 (Ev.pos rfl (Ev.pos (by rw [mkR_len]; omega) ?_))))
          refine Ev.bindc rfl ?_
          dsimp only
          rw [show mkR rdn ++ [(⟨⟨x.1.toArray⟩, ⟨y.1.toArray⟩⟩ : AvaS)] = mkR (rdn ++ [(x.1, y.1)]) from mkR_snoc rdn (x.1, y.1)]
          exact h
        have hlen : (mkN l).length < 5864062014805 := by rw [mkN_len]; omega
        cases hr : y.2 with
        | nil =>
          rw [hr] at b3
          have hq : q2 = s.size := by have := drop_nil b3; omega
          refine ⟨fun h => by simp at h, fun N b h hR => ?_⟩
          simp only [Option.some.injEq] at h
          subst h
          refine hst (Ev.pos (by omega) ?_)
          rw [beq_iff_eq.2 (by omega : (q2 : Int) = (s.size : Int))]
          refine Ev.step (fun k => by rw [dn_Parse.j1]) ?_
          refine Ev.pos rfl (Ev.pos hlen (Ev.bindc rfl (Ev.pos rfl ?_)))
          rw [mkN_snoc]
          refine Ev.bind hR ?_
          cases b with
          | true => exact Ev.pos rfl Ev.rfl'
          | false => exact Ev.neg (by simp) Ev.rfl'
        | cons c r3 =>
          rw [hr] at b3
          obtain ⟨g1, g2, g3⟩ := drop_cons b3
          have e43 : ((c.toNat : Int) = 43) ↔ c = 43 := ieq c 43
          have hst2 : ∀ {o : List (List AvaS) × Int}, Ev (fun k => dn_Parse.j1 k s (mkN l) (mkR (rdn ++ [(x.1, y.1)])) false ((c.toNat : Int) != 43) s (q2 : Int)) o → Ev (fun k => dn_Parse.l0 k s (mkN l) (mkR rdn) s (p : Int)) o := by
            intro o h
            refine hst (Ev.neg (by omega) (Ev.pos (by omega) (Ev.pos (by omega) ?_)))
            rw [beq_eq_false_iff_ne.2 (by omega : (q2 : Int) ≠ (s.size : Int)), g2]
            exact h
          dsimp only
          by_cases hc : c = 43
          · rw [if_pos hc]
            have hi := ih (q2 + 1) (rdn ++ [(x.1, y.1)]) l (by omega) (by omega) (by simp; omega) (by omega)
            rw [g3] at hi
            have hgo : ∀ {o : List (List AvaS) × Int}, Ev (fun k => dn_Parse.l0 k s (mkN l) (mkR (rdn ++ [(x.1, y.1)])) s ((q2 + 1 : Nat) : Int)) o → Ev (fun k => dn_Parse.l0 k s (mkN l) (mkR rdn) s (p : Int)) o := by
              intro o h
              refine hst2 ?_
              rw [show ((c.toNat : Int) != 43) = false by rw [bne, beq_iff_eq.2 (e43.2 hc)]; rfl]
              refine Ev.step (fun k => by rw [dn_Parse.j1]) (Ev.neg (by simp) (Ev.neg (by simp) ?_))
              rw [wsucc (by omega)]; exact h
            exact ⟨fun h => hgo (hi.1 h), fun N b h hR => hgo (hi.2 N b h hR)⟩
          · rw [if_neg hc]
            have hi := ih (q2 + 1) [] (l ++ [rdn ++ [(x.1, y.1)]]) (by omega) (by omega) (by simp) (by simp; omega)
            rw [g3] at hi
            have hgo : ∀ {o : List (List AvaS) × Int}, Ev (fun k => dn_Parse.l0 k s (mkN (l ++ [rdn ++ [(x.1, y.1)]])) (mkR []) s ((q2 + 1 : Nat) : Int)) o → Ev (fun k => dn_Parse.l0 k s (mkN l) (mkR rdn) s (p : Int)) o := by
              intro o h
              refine hst2 ?_
              rw [show ((c.toNat : Int) != 43) = true by rw [bne, beq_eq_false_iff_ne.2 (fun h => hc (e43.1 h))]; rfl]
              refine Ev.step (fun k => by rw [dn_Parse.j1]) ?_
              refine Ev.pos rfl (Ev.pos hlen (Ev.bindc rfl (Ev.neg (by simp) ?_)))
              rw [wsucc (by omega), mkN_snoc]; exact h
            exact ⟨fun h => hgo (hi.1 h), fun N b h hR => hgo (hi.2 N b h hR)⟩
theorem dw_idem {α : Type} (p : α → Bool) (l : List α) : (l.dropWhile p).dropWhile p = l.dropWhile p := by
  cases h : l.dropWhile p with
  | nil => rfl
  | cons c r => exact List.dropWhile_cons_of_neg (by simp [dw_head h])
theorem goB_blank (n : Nat) (r : List UInt8) (rdn : List Pr) (l : List (List Pr)) : goB (n + 1) (r.dropWhile (· == 32)) rdn l = goB (n + 1) r rdn l := by
  rw [goB, goB]
  have : kindB (r.dropWhile (· == 32)) = kindB r := by unfold kindB; rw [dw_idem]
  rw [this]
theorem parse_ev (s : ByteArray) (hs : s.size ≤ 100000) :
    (s.size > 1000 → Ev (fun k => dn_Parse.f k s) ([], 5)) ∧
    (s.size ≤ 1000 → (bl s).dropWhile (· == 32) = [] → Ev (fun k => dn_Parse.f k s) ([], 0)) ∧
    (s.size ≤ 1000 → (bl s).dropWhile (· == 32) ≠ [] → ((signs (bl s)).bind fun L => goP L [] [] []) = none → Ev (fun k => dn_Parse.f k s) ([], 4)) ∧
    (s.size ≤ 1000 → (bl s).dropWhile (· == 32) ≠ [] → ∀ N b, ((signs (bl s)).bind fun L => goP L [] [] []) = some N → Ev (fun k => dn_Right.f k (mkN N)) b → Ev (fun k => dn_Parse.f k s) (if b = true then (mkN N, 0) else ([], 4))) := by
  refine ⟨fun h => ?_, ?_⟩
  · unfold dn_Parse.f
    exact Ev.pos (by omega) Ev.rfl'
  obtain ⟨q1, a1, a2, a3, a4⟩ := blanks_f s (by omega) 0 (Nat.zero_le _)
  rw [List.drop_zero] at a3
  have hstart : ∀ (h : s.size ≤ 1000) (hne : (bl s).dropWhile (· == 32) ≠ []) {o : List (List AvaS) × Int}, Ev (fun k => dn_Parse.l0 k s (mkN []) (mkR []) s (q1 : Int)) o → Ev (fun k => dn_Parse.f k s) o := by
    intro h hne o ho
    unfold dn_Parse.f
    refine Ev.neg (by omega) ?_
    refine Ev.bind a4 (Ev.neg ?_ ho)
    dsimp only
    intro h'
    exact hne (by rw [← a3]; exact drop_end (by omega))
  have hsig : ((signs (bl s)).bind fun L => goP L [] [] []) = goB (s.size + 1) ((bl s).drop q1) [] [] := by
    rw [a3, goB_blank]
    exact (goB_eq (s.size + 1) (bl s) [] [] (by rw [bl_length]; omega)).symm
  refine ⟨fun h he => ?_, fun h hne hn => ?_, fun h hne N b hn hR => ?_⟩
  · unfold dn_Parse.f
    refine Ev.neg (by omega) ?_
    refine Ev.bind a4 (Ev.pos ?_ Ev.rfl')
    dsimp only
    have := drop_nil (a3.trans he)
    omega
  · rw [hsig] at hn
    exact hstart h hne ((parse_loop s hs (s.size + 1) q1 [] [] a2 (by omega) (Nat.zero_le _) (Nat.zero_le _)).1 hn)
  · rw [hsig] at hn
    exact hstart h hne ((parse_loop s hs (s.size + 1) q1 [] [] a2 (by omega) (Nat.zero_le _) (Nat.zero_le _)).2 N b hn hR)
theorem u8s (n : Nat) (h : n < 256) : n.toUInt8.toNat = n := by
  have e : n.toUInt8.toNat = n % 2 ^ 8 := UInt8.toNat_ofNat'
  rw [e]; exact Nat.mod_eq_of_lt h
def cutAt {α : Type} [DecidableEq α] (b : α) : List α → List (List α)
  | [] => [[]]
  | c :: r => if c = b then [] :: cutAt b r else match cutAt b r with
    | [] => [[c]]
    | w :: ws => (c :: w) :: ws
theorem cutAt_ne {α : Type} [DecidableEq α] (b : α) (l : List α) : cutAt b l ≠ [] := by
  cases l with
  | nil => simp [cutAt]
  | cons c r =>
    unfold cutAt
    split
    · simp
    · split <;> simp
theorem cutAt_cons {α : Type} [DecidableEq α] {b c : α} {l : List α} {w : List α} {ws : List (List α)} (hc : c ≠ b) (h : cutAt b l = w :: ws) : cutAt b (c :: l) = (c :: w) :: ws := by
  unfold cutAt; rw [if_neg hc, h]
theorem cutAt_blank {α : Type} [DecidableEq α] (b : α) (l : List α) : cutAt b (b :: l) = [] :: cutAt b l := by rw [cutAt, if_pos rfl]
theorem cutAt_app {α : Type} [DecidableEq α] {b : α} : ∀ (a l : List α), (∀ x ∈ a, x ≠ b) → ∀ {w : List α} {ws : List (List α)}, cutAt b l = w :: ws → cutAt b (a ++ l) = (a ++ w) :: ws
  | [], l, _, w, ws, h => h
  | x :: a, l, ha, w, ws, h => cutAt_cons (ha x (by simp)) (cutAt_app a l (fun y hy => ha y (by simp [hy])) h)
theorem cutAt_none {α : Type} [DecidableEq α] {b : α} (a : List α) (h : ∀ x ∈ a, x ≠ b) : cutAt b a = [a] := by
  have := cutAt_app a [] h (w := []) (ws := []) rfl
  simpa using this
def words {α : Type} [DecidableEq α] (b : α) (l : List α) : List (List α) := (cutAt b l).filter (fun w => !w.isEmpty)
def nb (r : List Int) : Bool := match r with
  | [] => false
  | y :: _ => y != 32
def sq : List Int → Bool → List Int
  | [], _ => []
  | x :: r, ne => if x ≠ 32 ∨ (ne = true ∧ nb r = true) then x :: sq r true else sq r ne
theorem inter_cons {α : Type} (s w : List α) : ∀ (ws : List (List α)), s.intercalate (w :: ws) = w ++ ws.flatMap (s ++ ·)
  | [] => by simp [List.intercalate]
  | v :: ws => by
    have ih := inter_cons s v ws
    have : s.intercalate (w :: v :: ws) = w ++ (s ++ s.intercalate (v :: ws)) := by simp [List.intercalate, List.intersperse]
    rw [this, ih]; simp
theorem sq_true : ∀ (l w : List Int) (ws : List (List Int)), cutAt 32 l = w :: ws → sq l true = w ++ (ws.filter (fun w => !w.isEmpty)).flatMap ([32] ++ ·)
  | [], w, ws, h => by
    simp only [cutAt, List.cons.injEq] at h
    obtain ⟨rfl, rfl⟩ := h; rfl
  | x :: r, w, ws, h => by
    by_cases hx : x = 32
    · subst hx
      have h' : cutAt (32 : Int) (32 :: r) = [] :: cutAt 32 r := cutAt_blank 32 r
      rw [h'] at h
      simp only [List.cons.injEq] at h
      obtain ⟨rfl, rfl⟩ := h
      cases r with
      | nil => rfl
      | cons y r2 =>
        obtain ⟨w2, ws2, h2⟩ := List.exists_cons_of_ne_nil (cutAt_ne (32 : Int) (y :: r2))
        have ih := sq_true (y :: r2) w2 ws2 h2
        rw [h2]
        by_cases hy : y = 32
        · subst hy
          have e : sq (32 :: 32 :: r2) true = sq (32 :: r2) true := by
            conv => lhs; rw [sq]
            rw [if_neg (by simp [nb])]
          have hw : w2 = [] := by
            have h'' : cutAt (32 : Int) (32 :: r2) = [] :: cutAt 32 r2 := cutAt_blank 32 r2
            rw [h''] at h2; simp at h2; exact h2.1
          subst hw
          rw [e, ih]; simp
        · have e : sq (32 :: y :: r2) true = 32 :: sq (y :: r2) true := by
            conv => lhs; rw [sq]
            rw [if_pos (by simp [hy, nb])]
          have hw : w2 ≠ [] := by
            obtain ⟨w3, ws3, h3⟩ := List.exists_cons_of_ne_nil (cutAt_ne (32 : Int) r2)
            rw [cutAt_cons hy h3] at h2; simp at h2; rw [← h2.1]; simp
          rw [e, ih]
          rw [List.filter_cons_of_pos (by simp [hw])]; simp
    · obtain ⟨w2, ws2, h2⟩ := List.exists_cons_of_ne_nil (cutAt_ne (32 : Int) r)
      rw [cutAt_cons hx h2] at h
      simp only [List.cons.injEq] at h
      obtain ⟨rfl, rfl⟩ := h
      have ih := sq_true r w2 ws2 h2
      have e : sq (x :: r) true = x :: sq r true := by
        conv => lhs; rw [sq]
        rw [if_pos (Or.inl hx)]
      rw [e, ih]; rfl
theorem sq_words : ∀ (l : List Int), sq l false = [32].intercalate (words 32 l)
  | [] => rfl
  | x :: r => by
    by_cases hx : x = 32
    · subst hx
      have h' : words (32 : Int) (32 :: r) = words 32 r := by unfold words; rw [cutAt_blank, List.filter_cons_of_neg (by simp)]
      have e : sq (32 :: r) false = sq r false := by
        conv => lhs; rw [sq]
        rw [if_neg (by simp)]
      rw [e, h', sq_words r]
    · obtain ⟨w2, ws2, h2⟩ := List.exists_cons_of_ne_nil (cutAt_ne (32 : Int) r)
      have e : sq (x :: r) false = x :: sq r true := by
        conv => lhs; rw [sq]
        rw [if_pos (Or.inl hx)]
      rw [e, sq_true r w2 ws2 h2]
      unfold words
      rw [cutAt_cons hx h2, List.filter_cons_of_pos (by simp), inter_cons]; rfl
theorem enc_blank : Lib.encodeRune 32 = [32] := by decide
theorem enc_other (r : Int) (h : r ≠ 32) : Lib.encodeRune r ≠ [] ∧ ∀ c ∈ Lib.encodeRune r, c ≠ 32 := by
  by_cases h1 : 0 ≤ r ∧ r ≤ 127
  · unfold Lib.encodeRune
    rw [Lib.encodeRuneZ_one h1.1 h1.2]
    refine ⟨by simp, ?_⟩
    intro c hc
    simp only [List.map_cons, List.map_nil, List.mem_singleton] at hc
    subst hc
    intro h2
    have := congrArg UInt8.toNat h2
    rw [u8s _ (by omega)] at this
    have h32 : (32 : UInt8).toNat = 32 := rfl
    omega
  · have hall : ∀ z : List Int, (∀ x ∈ z, 128 ≤ x ∧ x < 256) → ∀ c ∈ z.map (fun x => x.toNat.toUInt8), c ≠ 32 := by
      intro z hz c hc h2
      obtain ⟨x, hx, rfl⟩ := List.mem_map.1 hc
      have := hz x hx
      have h3 := congrArg UInt8.toNat h2
      rw [u8s _ (by omega)] at h3
      have h32 : (32 : UInt8).toNat = 32 := rfl
      omega
    unfold Lib.encodeRune
    by_cases h2 : 128 ≤ r ∧ r ≤ 2047
    · rw [Lib.encodeRuneZ_two h2.1 h2.2]
      exact ⟨by simp, hall _ (by simp; omega)⟩
    by_cases h3 : (2048 ≤ r ∧ r < 55296) ∨ (57343 < r ∧ r ≤ 65535)
    · rw [Lib.encodeRuneZ_three h3]
      exact ⟨by simp, hall _ (by simp; omega)⟩
    by_cases h4 : 65536 ≤ r ∧ r ≤ 1114111
    · rw [Lib.encodeRuneZ_four h4.1 h4.2]
      exact ⟨by simp, hall _ (by simp; omega)⟩
    · rw [Lib.encodeRuneZ_bad (by omega)]
      exact ⟨by simp, hall _ (by simp)⟩
theorem encAll_cons (r : Int) (l : List Int) : encAll (r :: l) = Lib.encodeRune r ++ encAll l := rfl
theorem encAll_app (a b : List Int) : encAll (a ++ b) = encAll a ++ encAll b := by simp [encAll]
theorem encAll_nil' {l : List Int} : encAll l = [] ↔ l = [] := by
  cases l with
  | nil => simp [encAll]
  | cons r l =>
    rw [encAll_cons]
    by_cases h : r = 32
    · subst h; rw [enc_blank]; simp
    · simp [(enc_other r h).1]
theorem cut_enc : ∀ (l : List Int), cutAt 32 (encAll l) = (cutAt 32 l).map encAll
  | [] => rfl
  | r :: l => by
    have ih := cut_enc l
    rw [encAll_cons]
    by_cases h : r = 32
    · subst h
      rw [enc_blank]
      show cutAt 32 (32 :: encAll l) = _
      have h1 := cutAt_blank (32 : UInt8) (encAll l)
      have h2 := cutAt_blank (32 : Int) l
      rw [h1, h2, ih]; rfl
    · obtain ⟨w2, ws2, h2⟩ := List.exists_cons_of_ne_nil (cutAt_ne (32 : Int) l)
      rw [h2] at ih
      rw [cutAt_app _ _ (enc_other r h).2 ih, cutAt_cons h h2]; rfl
theorem words_enc (l : List Int) : words 32 (encAll l) = (words 32 l).map encAll := by
  unfold words
  rw [cut_enc, List.filter_map]
  congr 1
  refine List.filter_congr fun w _ => ?_
  have := @encAll_nil' w
  cases w with
  | nil => rfl
  | cons x w =>
    have : encAll (x :: w) ≠ [] := fun h => by simp [encAll_nil'] at h
    simp [this]
theorem encAll_inter (ws : List (List Int)) : encAll ([32].intercalate ws) = [32].intercalate (ws.map encAll) := by
  cases ws with
  | nil => rfl
  | cons w ws =>
    rw [inter_cons, List.map_cons, inter_cons, encAll_app]
    congr 1
    induction ws with
    | nil => rfl
    | cons v ws ih => rw [List.flatMap_cons, List.map_cons, List.flatMap_cons, encAll_app, encAll_app, ih, show encAll [32] = [32] from by decide]
def readyOf (fold : Bool) (s : ByteArray) : Option (List UInt8) := (runesN s s.size 0).map fun l => encAll (sq (l.filterMap (mapRune fold)) false)
theorem ready_words (l : List Int) : [32].intercalate (words 32 (encAll l)) = encAll (sq l false) := by rw [words_enc, sq_words, encAll_inter]
theorem index_blank (a b : List UInt8) (h : ∀ c ∈ a, c ≠ 32) : Lib.index (a ++ 32 :: b) [32] = (a.length : Int) := by
  rw [Lib.index_one]
  induction a with
  | nil => rfl
  | cons c a ih =>
    have hc := h c (by simp)
    have ih := ih fun x hx => h x (by simp [hx])
    rw [List.cons_append, Lib.indexByte, if_neg (by simpa using hc), ih, if_neg (by simp <;> omega)]
    simp
theorem index_noblank (a : List UInt8) (h : ∀ c ∈ a, c ≠ 32) : Lib.index a [32] = -1 := by
  rw [Lib.index_one]
  induction a with
  | nil => rfl
  | cons c a ih =>
    have hc := h c (by simp)
    have ih := ih fun x hx => h x (by simp [hx])
    rw [Lib.indexByte, if_neg (by simpa using hc), ih]; rfl
theorem first_blank (l : List UInt8) : (∀ c ∈ l, c ≠ 32) ∨ ∃ a b, l = a ++ 32 :: b ∧ ∀ c ∈ a, c ≠ 32 := by
  induction l with
  | nil => exact .inl (by simp)
  | cons c l ih =>
    by_cases hc : c = 32
    · exact .inr ⟨[], l, by rw [hc]; rfl, by simp⟩
    · rcases ih with h | ⟨a, b, rfl, h⟩
      · exact .inl fun x hx => by rcases List.mem_cons.1 hx with rfl | hx; exact hc; exact h x hx
      · exact .inr ⟨c :: a, b, rfl, fun x hx => by rcases List.mem_cons.1 hx with rfl | hx; exact hc; exact h x hx⟩
theorem splitK_blank : ∀ (k : Nat) (l : List UInt8), l.count 32 ≤ k → Lib.splitK [32] 0 k l = cutAt 32 l
  | 0, l, h => by
    have hn : ∀ c ∈ l, c ≠ 32 := by
      intro c hc h2; subst h2
      have := List.count_pos_iff.2 hc; omega
    rw [cutAt_none l hn]; rfl
  | k + 1, l, h => by
    rcases first_blank l with hn | ⟨a, b, rfl, hn⟩
    · rw [Lib.splitK, index_noblank l hn, if_pos (show ((-1 : Int) == -1) = true from rfl), cutAt_none l hn]
    · rw [Lib.splitK, index_blank a b hn, if_neg (by simp <;> omega)]
      have hc : b.count 32 ≤ k := by
        rw [List.count_append, List.count_cons] at h; simp at h; omega
      obtain ⟨w2, ws2, h2⟩ := List.exists_cons_of_ne_nil (cutAt_ne (32 : UInt8) (32 :: b))
      have h3 := cutAt_blank (32 : UInt8) b
      rw [cutAt_app a _ hn h3, List.append_nil]
      congr 1
      · simp
      · have e : (a ++ 32 :: b).drop ((a.length : Int).toNat + ([32] : List UInt8).length) = b := by simp
        rw [e]
        exact splitK_blank k b hc
theorem split_f (t : List UInt8) (ht : t.length ≤ 1000000) : ∃ ps : List ByteArray, strings_Split.f ⟨t.toArray⟩ (⟨#[32]⟩ : ByteArray) = some ps ∧ ps.map (·.data.toList) = cutAt 32 t := by
  unfold strings_Split.f
  refine ⟨_, by rw [if_pos (by rw [← bl_length]; exact ht), if_pos (show 1 ≤ (⟨#[32]⟩ : ByteArray).size from Nat.le_refl _)], ?_⟩
  rw [Lib.splitB_data]
  show Lib.splitK [32] 0 (Lib.count t [32]) t = _
  exact splitK_blank _ _ (by rw [Lib.count_one]; exact Nat.le_refl _)
theorem rdOf_at {L : List ByteArray} {i : Nat} {x : ByteArray} {r : List ByteArray} (h : L.drop i = x :: r) : i < L.length ∧ rdOf ByteArray.empty L (i : Int) = x ∧ L.drop (i + 1) = r := by
  have h1 : i < L.length := by
    rcases Nat.lt_or_ge i L.length with h' | h'
    · exact h'
    · rw [List.drop_eq_nil_of_le h'] at h; cases h
  refine ⟨h1, ?_, ?_⟩
  · have h0 : L[i]? = some x := by
      have := congrArg List.head? h
      rw [List.head?_drop] at this; simpa using this
    unfold rdOf
    rw [List.getD_eq_getElem?_getD, Int.toNat_natCast, h0]; rfl
  · have := congrArg List.tail h
    rw [List.tail_drop] at this; simpa using this
theorem ready_loop (ps : List ByteArray) (hps : ps.length ≤ 1000000) {t : ByteArray} : ∀ (n i : Nat) (acc : List ByteArray), ps.length - i = n → i ≤ ps.length → acc.length ≤ i →
    strings_Join.f (acc ++ (ps.drop i).filter (fun w => !w.data.toList.isEmpty)) (⟨#[32]⟩ : ByteArray) = some t →
    Ev (fun k => prep_Ready.l0 k acc ps (ps.length : Int) (i : Int)) (t, 0) := by
  intro n
  induction n with
  | zero =>
    intro i acc hn hi ha hj
    rw [List.drop_eq_nil_of_le (by omega)] at hj
    simp only [List.filter_nil, List.append_nil] at hj
    refine Ev.step (fun k => by rw [prep_Ready.l0]) ?_
    exact Ev.neg (by omega) (Ev.bindc hj Ev.rfl')
  | succ n ih =>
    intro i acc hn hi ha hj
    cases hr : ps.drop i with
    | nil => have := List.drop_eq_nil_iff.1 hr; omega
    | cons x r =>
      obtain ⟨g1, g2, g3⟩ := rdOf_at hr
      rw [hr] at hj
      refine Ev.step (fun k => by rw [prep_Ready.l0]) ?_
      rw [g2, wsucc (by omega), Lib.toList_data]
      refine Ev.pos (by omega) (Ev.pos (by omega) (Ev.pos (by omega) ?_))
      by_cases hx : x.data.toList = []
      · refine Ev.pos hx (ih (i + 1) acc (by omega) (by omega) (by omega) ?_)
        rw [g3]
        rw [List.filter_cons_of_neg (by simp [hx])] at hj; exact hj
      · refine Ev.neg hx (Ev.pos (by omega) (ih (i + 1) (acc ++ [x]) (by omega) (by omega) (by simp; omega) ?_))
        rw [g3]
        rw [List.filter_cons_of_pos (by simpa using hx)] at hj
        rw [List.append_assoc]; exact hj
theorem cutAt_len {α : Type} [DecidableEq α] (b : α) : ∀ l : List α, (cutAt b l).length ≤ l.length + 1
  | [] => by simp [cutAt]
  | c :: r => by
    have ih := cutAt_len b r
    by_cases hc : c = b
    · subst hc; rw [cutAt_blank]; simp; omega
    · obtain ⟨w2, ws2, h2⟩ := List.exists_cons_of_ne_nil (cutAt_ne b r)
      rw [h2] at ih
      rw [cutAt_cons hc h2]; simp at ih ⊢; omega
theorem sq_len : ∀ (l : List Int) (b : Bool), (sq l b).length ≤ l.length
  | [], _ => Nat.le_refl _
  | x :: r, b => by
    rw [sq]
    split
    · have := sq_len r true; simp; omega
    · have := sq_len r b; simp; omega
theorem ready_ev (s : ByteArray) (hs : s.size ≤ 100000) (fold : Bool) : Ev (fun k => prep_Ready.f k s fold) (match readyOf fold s with | some t => (⟨t.toArray⟩, 0) | none => (⟨#[]⟩, 19)) := by
  unfold prep_Ready.f
  have hm : prep_Map.f s fold = some (prep_Map.of fold (runesN s s.size 0)) := by unfold prep_Map.f; rw [if_pos (by omega)]
  refine Ev.bindc hm ?_
  unfold readyOf
  cases hr : runesN s s.size 0 with
  | none => exact Ev.neg (show ¬ ((19 : Int) = 0) by decide) Ev.rfl'
  | some l =>
    obtain ⟨_, hll⟩ := runesN_le s _ _ l hr
    have hfl : (l.filterMap (mapRune fold)).length ≤ s.size := Nat.le_trans (List.length_filterMap_le _ _) hll
    have hel := encAll_length (l.filterMap (mapRune fold))
    obtain ⟨ps, h1, h2⟩ := split_f (encAll (l.filterMap (mapRune fold))) (by omega)
    have hpl : ps.length ≤ 1000000 := by
      have := cutAt_len (32 : UInt8) (encAll (l.filterMap (mapRune fold)))
      rw [← h2, List.length_map] at this; omega
    refine Ev.pos (show (0 : Int) = 0 from rfl) (Ev.bindc h1 ?_)
    refine ready_loop ps hpl _ 0 [] rfl (Nat.zero_le _) (Nat.le_refl _) ?_
    rw [List.drop_zero, List.nil_append]
    unfold strings_Join.f
    have hj : joinB (ps.filter fun w => !w.data.toList.isEmpty) (⟨#[32]⟩ : ByteArray) = encAll (sq (l.filterMap (mapRune fold)) false) := by
      unfold joinB
      rw [← ready_words]
      unfold words
      rw [← h2, List.filter_map]; rfl
    have hfl2 : (ps.filter fun w => !w.data.toList.isEmpty).length ≤ ps.length := List.length_filter_le _ _
    have hsq := sq_len (l.filterMap (mapRune fold)) false
    have hel2 := encAll_length (sq (l.filterMap (mapRune fold)) false)
    rw [if_pos (by omega), hj, if_pos (by omega)]
theorem getD_at {α : Type} {L : List α} {i : Nat} {x d : α} {r : List α} (h : L.drop i = x :: r) : i < L.length ∧ L.getD ((i : Int).toNat) d = x ∧ L.drop (i + 1) = r := by
  have h1 : i < L.length := by
    rcases Nat.lt_or_ge i L.length with h' | h'
    · exact h'
    · rw [List.drop_eq_nil_of_le h'] at h; cases h
  refine ⟨h1, ?_, ?_⟩
  · have h0 : L[i]? = some x := by
      have := congrArg List.head? h
      rw [List.head?_drop] at this; simpa using this
    rw [List.getD_eq_getElem?_getD, Int.toNat_natCast, h0]; rfl
  · have := congrArg List.tail h
    rw [List.tail_drop] at this; simpa using this
abbrev rdR := rd_L8
theorem rdA_at {L : List AvaS} {i : Nat} {x : AvaS} {r : List AvaS} (h : L.drop i = x :: r) : rd_T96 L (i : Int) = x := (getD_at h).2.1
theorem rdR_at {L : List (List AvaS)} {i : Nat} {x : List AvaS} {r : List (List AvaS)} (h : L.drop i = x :: r) : rd_L8 L (i : Int) = x := (getD_at h).2.1
def valueOk (s : ByteArray) : Bool := match readyOf true s with
  | some t => decide (s.size ≤ 255) && !t.isEmpty
  | none => false
theorem rightValue_ev (s : ByteArray) (hs : s.size ≤ 100000) : Ev (fun k => dn_rightValue.f k s) (valueOk s) := by
  unfold dn_rightValue.f valueOk
  have h := ready_ev s hs true
  cases hr : readyOf true s with
  | none =>
    rw [hr] at h
    refine Ev.bind h ?_
    by_cases hz : s.size ≤ 255
    · exact Ev.pos (by omega) (Ev.neg (show ¬ ((19 : Int) = 0) by decide) Ev.rfl')
    · exact Ev.neg (by omega) Ev.rfl'
  | some t =>
    rw [hr] at h
    refine Ev.bind h ?_
    dsimp only
    by_cases hz : s.size ≤ 255
    · refine Ev.pos (by omega) (Ev.pos rfl ?_)
      rw [Lib.toList_data, decide_eq_true hz]
      have : (t != ([] : List UInt8)) = (true && !t.isEmpty) := by cases t <;> rfl
      rw [← this]; exact Ev.rfl'
    · rw [decide_eq_false hz]
      exact Ev.neg (by omega) Ev.rfl'
def szA (a : AvaS) : Prop := a.f0.size ≤ 100000 ∧ a.f1.size ≤ 100000
def rdnIn : List AvaS → List AvaS → Bool
  | _, [] => true
  | pre, a :: rest => typeOk (bl a.f0) && valueOk a.f1 && !(pre.any (sameType a)) && rdnIn (pre ++ [a]) rest
def rdnOk (l : List AvaS) : Bool := decide (1 ≤ l.length ∧ l.length ≤ 4) && rdnIn [] l
theorem rdnGo_ev : ∀ (l pre : List AvaS), (∀ a ∈ l, szA a) → Ev (fun k => rdnGo k pre l) (rdnIn pre l)
  | [], pre, _ => show Ev _ true from Ev.congr (fun k => by rw [rdnGo]) Ev.rfl'
  | a :: rest, pre, h => by
    have ha := h a (by simp)
    have ih := rdnGo_ev rest (pre ++ [a]) fun b hb => h b (by simp [hb])
    refine Ev.congr (fun k => by rw [rdnGo]) ?_
    rw [rdnIn]
    cases hp : pre.any (sameType a) with
    | true => exact Ev.pos rfl (by simpa using Ev.rfl')
    | false =>
      refine Ev.neg (by simp) (Ev.bind (rightType_ev a.f0 (by have := ha.1; omega)) ?_)
      cases ht : typeOk (bl a.f0) with
      | false => exact Ev.neg (by simp) (by simpa using Ev.rfl')
      | true =>
        refine Ev.pos rfl (Ev.bind (rightValue_ev a.f1 ha.2) ?_)
        cases hv : valueOk a.f1 with
        | false => exact Ev.neg (by simp) (by simpa using Ev.rfl')
        | true => exact Ev.pos rfl (by simpa using ih)
theorem rightRdn_ev (l : List AvaS) (h : ∀ a ∈ l, szA a) : Ev (fun k => dn_rightRdn.f k l) (rdnOk l) := by
  unfold dn_rightRdn.f rdnOk
  by_cases h1 : l.length < 1
  · rw [decide_eq_false (by omega)]; exact Ev.pos h1 Ev.rfl'
  by_cases h2 : l.length > 4
  · rw [decide_eq_false (by omega)]; exact Ev.neg h1 (Ev.pos h2 Ev.rfl')
  · rw [decide_eq_true (by omega), Bool.true_and]; exact Ev.neg h1 (Ev.neg h2 (rdnGo_ev l [] h))
def nameOk (n : List (List AvaS)) : Bool := decide (n.length ≤ 12) && n.all rdnOk
def szN (n : List (List AvaS)) : Prop := ∀ l ∈ n, l.length ≤ 1000000 ∧ ∀ a ∈ l, szA a
theorem right_loop (n : List (List AvaS)) (hl : n.length ≤ 1000000) (h : szN n) : ∀ (m i : Nat), n.length - i = m → i ≤ n.length → Ev (fun k => dn_Right.l0 k n (n.length : Int) (i : Int)) ((n.drop i).all rdnOk) := by
  intro m
  induction m with
  | zero =>
    intro i hm hi
    rw [List.drop_eq_nil_of_le (by omega)]
    show Ev _ true
    exact Ev.step (fun k => by rw [dn_Right.l0]) (Ev.neg (by omega) Ev.rfl')
  | succ m ih =>
    intro i hm hi
    cases hr : n.drop i with
    | nil => have := List.drop_eq_nil_iff.1 hr; omega
    | cons l r =>
      obtain ⟨g1, _, g3⟩ := getD_at (d := []) hr
      have g2 := rdR_at hr
      have hsz := h l (by
        have : l ∈ n.drop i := by rw [hr]; simp
        exact List.mem_of_mem_drop this)
      have hi2 := ih (i + 1) (by omega) (by omega)
      rw [g3] at hi2
      refine Ev.step (fun k => by rw [dn_Right.l0]) ?_
      rw [g2, wsucc (by omega), List.all_cons]
      refine Ev.pos (by omega) (Ev.pos (by omega) (Ev.pos (by omega) (Ev.bind (rightRdn_ev l hsz.2) ?_)))
      cases rdnOk l with
      | true => exact Ev.pos rfl (by simpa using hi2)
      | false => exact Ev.neg (by simp) (by simpa using Ev.rfl')
theorem right_ev (n : List (List AvaS)) (hl : n.length ≤ 1000000) (h : szN n) : Ev (fun k => dn_Right.f k n) (nameOk n) := by
  unfold dn_Right.f nameOk
  by_cases h1 : n.length ≤ 12
  · rw [decide_eq_true h1, Bool.true_and]
    refine Ev.neg (by omega) ?_
    have := right_loop n hl h _ 0 rfl (Nat.zero_le _)
    rw [List.drop_zero] at this; exact this
  · rw [decide_eq_false h1]; exact Ev.pos (by omega) Ev.rfl'
theorem scanN_len : ∀ (n : Nat) (r b : List UInt8) (kept : Nat) (v r' : List UInt8), scanN n r b kept = some (v, r') → v.length + r'.length ≤ b.length + r.length
  | 0, r, b, kept, v, r', h => by simp [scanN] at h
  | n + 1, [], b, kept, v, r', h => by
    simp only [scanN, Option.some.injEq, Prod.mk.injEq] at h
    obtain ⟨rfl, rfl⟩ := h
    simp; omega
  | n + 1, c :: r, b, kept, v, r', h => by
    simp only [scanN] at h
    split at h
    · simp only [Option.some.injEq, Prod.mk.injEq] at h
      obtain ⟨rfl, rfl⟩ := h
      simp; omega
    · split at h
      · cases h
      · split at h
        · cases he : esc r with
          | none => rw [he] at h; simp at h
          | some x =>
            rw [he] at h
            simp only [Option.bind_some] at h
            have := scanN_len n _ _ _ _ _ h
            have := esc_lt (x := x.1) (r' := x.2) he
            simp at *; omega
        · have := scanN_len n _ _ _ _ _ h
          simp at *; omega
theorem dw_len {α : Type} (p : α → Bool) (l : List α) : (l.dropWhile p).length ≤ l.length := by
  have := congrArg List.length (split_dw p l)
  rw [List.length_append] at this; omega
theorem kindB_len {r t r' : List UInt8} (h : kindB r = some (t, r')) : t.length + r'.length < r.length ∧ typeOk t = true := by
  obtain ⟨b1, t0, b2, rfl, _, ht, _, rfl⟩ := kind_yes h
  refine ⟨by simp; omega, ht⟩
theorem valueB_len {r v r' : List UInt8} (h : valueB r = some (v, r')) : v.length + r'.length ≤ r.length := by
  unfold valueB at h
  have := dw_len (· == 32) r
  cases hr : r.dropWhile (· == 32) with
  | nil =>
    rw [hr] at h; simp at h; obtain ⟨rfl, rfl⟩ := h; simp
  | cons c r1 =>
    rw [hr] at h this
    dsimp only at h
    split at h
    · cases h
    · have := scanN_len _ _ _ _ _ _ h
      simp at *; omega
def shortN (B : Nat) (n : List (List Pr)) : Prop := n.length ≤ B ∧ ∀ l ∈ n, l.length ≤ B ∧ ∀ a ∈ l, a.1.length ≤ B ∧ a.2.length ≤ B
theorem goB_short (B : Nat) : ∀ (n : Nat) (r : List UInt8) (rdn : List Pr) (l N : List (List Pr)), goB n r rdn l = some N → l.length + r.length ≤ B → rdn.length + r.length ≤ B → (∀ a ∈ rdn, a.1.length ≤ B ∧ a.2.length ≤ B) → (∀ x ∈ l, x.length ≤ B ∧ ∀ a ∈ x, a.1.length ≤ B ∧ a.2.length ≤ B) → shortN B N
  | 0, r, rdn, l, N, h, _, _, _, _ => by simp [goB] at h
  | n + 1, r, rdn, l, N, h, h1, h2, h3, h4 => by
    rw [goB] at h
    cases hk : kindB r with
    | none => rw [hk] at h; simp at h
    | some x =>
      rw [hk] at h
      simp only [Option.bind_some] at h
      have hkl := (kindB_len (t := x.1) (r' := x.2) hk).1
      cases hv : valueB x.2 with
      | none => rw [hv] at h; simp at h
      | some y =>
        rw [hv] at h
        simp only [Option.bind_some] at h
        have hvl := valueB_len (v := y.1) (r' := y.2) hv
        have hnew : ∀ a ∈ rdn ++ [(x.1, y.1)], a.1.length ≤ B ∧ a.2.length ≤ B := by
          intro a ha
          rcases List.mem_append.1 ha with ha | ha
          · exact h3 a ha
          · simp only [List.mem_singleton] at ha; subst ha
            exact ⟨by dsimp only; omega, by dsimp only; omega⟩
        have hlen : (rdn ++ [(x.1, y.1)]).length ≤ B := by simp; omega
        have hl2 : ∀ z ∈ l ++ [rdn ++ [(x.1, y.1)]], z.length ≤ B ∧ ∀ a ∈ z, a.1.length ≤ B ∧ a.2.length ≤ B := by
          intro z hz
          rcases List.mem_append.1 hz with hz | hz
          · exact h4 z hz
          · simp only [List.mem_singleton] at hz; subst hz
            exact ⟨hlen, hnew⟩
        cases hr : y.2 with
        | nil =>
          rw [hr] at h
          simp only [Option.some.injEq] at h
          subst h
          exact ⟨by simp; omega, hl2⟩
        | cons c r3 =>
          rw [hr] at h hvl
          simp only [List.length_cons] at hvl
          dsimp only at h
          split at h
          · exact goB_short B n r3 _ _ N h (by omega) (by simp; omega) hnew h4
          · exact goB_short B n r3 _ _ N h (by simp; omega) (by simp; omega) (by simp) hl2
theorem sz_mk {B : Nat} (hB : B ≤ 100000) {n : List (List Pr)} (h : shortN B n) : (mkN n).length ≤ 1000000 ∧ szN (mkN n) ∧ ∀ l ∈ mkN n, l.length ≤ 1000000 := by
  have hs : szN (mkN n) := by
    intro l hl
    obtain ⟨x, hx, rfl⟩ := List.mem_map.1 hl
    obtain ⟨h1, h2⟩ := h.2 x hx
    refine ⟨by rw [mkR_len]; omega, ?_⟩
    intro a ha
    obtain ⟨p, hp, rfl⟩ := List.mem_map.1 ha
    obtain ⟨k1, k2⟩ := h2 p hp
    have e1 : (mkA p).f0.size = p.1.length := by rw [← bl_length]; rfl
    have e2 : (mkA p).f1.size = p.2.length := by rw [← bl_length]; rfl
    exact ⟨by omega, by omega⟩
  exact ⟨by rw [mkN_len]; have := h.1; omega, hs, fun l hl => (hs l hl).1⟩
theorem read_short {s : ByteArray} (hs : s.size ≤ 100000) {N : List (List Pr)} (h : ((signs (bl s)).bind fun L => goP L [] [] []) = some N) : shortN 100000 N := by
  rw [← goB_eq (s.size + 1) (bl s) [] [] (by rw [bl_length]; omega)] at h
  exact goB_short 100000 _ _ _ _ N h (by rw [bl_length]; simp; omega) (by rw [bl_length]; simp; omega) (by simp) (by simp)
theorem ev_mono {α : Type} {F : Nat → Option α} {v : α} (hm : ∀ k, LeO (F k) (F (k + 1))) (n : Nat) (h : F n = some v) : Ev F v := ⟨n, fun k hk => at_rounds hm hk h⟩
abbrev mkB (l : List UInt8) : ByteArray := ⟨l.toArray⟩
theorem mkB_size (l : List UInt8) : (mkB l).size = l.length := by rw [← bl_length]
end Go.Proofs.YtpklcnpmppaaoaaGreatDoor.Print
namespace Go.Proofs.YtpklcnpmppaaoaaGreatDoor.Print
open Go.RowKit Go.Proofs.YtpklcnpmppaaoaaGreatDoorW.PrintWords
def strings_ReplaceAll.f (a0 a1 a2 : ByteArray) : Option ByteArray :=
  if a0.size ≤ 1000000 then (if 1 ≤ a1.size then (if a2.size ≤ 1000 then some ⟨(Lib.replaceAll a0.data.toList a1.data.toList a2.data.toList).toArray⟩ else none) else none) else none
theorem strings_ReplaceAll.calls (a0 a1 a2 : ByteArray) (r : ByteArray) (w : World) (hG : Gw w) (h : strings_ReplaceAll.f a0 a1 a2 = some r) :
    Calls Tryz.prog 83 #[.string a0, .string a1, .string a2] w fun e w' => e = .returned (.string r) ∧ Below w.heap.size w w' := by
  unfold strings_ReplaceAll.f at h
  by_cases c : a0.size ≤ 1000000
  · by_cases c1 : 1 ≤ a1.size
    · by_cases c2 : a2.size ≤ 1000
      · rw [if_pos c, if_pos c1, if_pos c2] at h
        injection h with h
        subst h
        obtain ⟨m, hm⟩ := hG.maxLen
        have hle := Lib.countB_le a1 c1 a0.size a0 (Nat.le_refl _)
        have : Lib.countB a0 a1 * a2.size ≤ 1000000 * 1000 := Nat.mul_le_mul (by omega) c2
        exact Tryz.strings_ReplaceAll a0 a1 a2 m w (by omega) hm c1 (by omega)
      · rw [if_pos c, if_pos c1, if_neg c2] at h; cases h
    · rw [if_pos c, if_neg c1] at h; cases h
  · rw [if_neg c] at h; cases h
end Go.Proofs.YtpklcnpmppaaoaaGreatDoor.Print
namespace Go.Proofs
open Go.Shelf
def Tryz.lays170_ren : Go.Shelf.Ren := ⟨fun | 170 => 148 | n => n, fun | 70 => 108 | 3 => 3 | 0 => 0 | 72 => 110 | 37 => 82 | 5 => 5 | n => n, fun | n => n⟩
theorem Tryz.lays170 : Go.Proofs.Lays.n170 Tryz.prog Tryz.lays170_ren := {
  mixed := by kernel_rfl
  f170 := Tryz.func148.trans (congrArg some (by kernel_rfl))
  t0 := Tryz.underlying0
  a0 := Tryz.isAgg0
  z0 := Tryz.sizeOf0
  v0 := Tryz.zeroValue0
  t3 := Tryz.underlying3
  a3 := Tryz.isAgg3
  z3 := Tryz.sizeOf3
  v3 := Tryz.zeroValue3
  t37 := Tryz.underlying82
  a37 := Tryz.isAgg82
  z37 := Tryz.sizeOf82
  v37 := Tryz.zeroValue82
  t70 := Tryz.underlying108
  a70 := Tryz.isAgg108
  z70 := Tryz.sizeOf108
  v70 := Tryz.zeroValue108
  t72 := Tryz.underlying110
  a72 := Tryz.isAgg110
  z72 := Tryz.sizeOf110
  v72 := Tryz.zeroValue110 }
open Go.RowKit in
theorem Tryz.Builder_Len_f (B b : Nat) (bs : List Value) (w : World) (h : Lib.IsBuilderF 110 5 B b bs w) :
    Calls Tryz.prog 148 #[.pointer (some ⟨b, 0, none⟩)] w fun e w' => e = .returned (.int .i64 bs.length) ∧ w' = w := Any.Builder_Len_f Tryz.lays170 B b bs w h
end Go.Proofs
namespace Go.Proofs.YtpklcnpmppaaoaaGreatDoor.Print
open Go.RowKit Go.Proofs.YtpklcnpmppaaoaaGreatDoorW.PrintWords Go.Proofs.YtpklcnpmppaaoaaGreatDoorW.PrintLast Go.Proofs.YtpklcnpmppaaoaaGreatDoorW.PrintMore
set_option linter.unusedVariables false
set_option linter.unusedSimpArgs false
theorem idx_of1 (z : UInt8) (a b : List UInt8) (h : ∀ c ∈ a, c ≠ z) : Lib.index (a ++ z :: b) [z] = (a.length : Int) := by
  rw [Lib.index_one]
  induction a with
  | nil => simp [Lib.indexByte]
  | cons c a ih =>
    have hc := h c (by simp)
    have ih := ih fun x hx => h x (by simp [hx])
    rw [List.cons_append, Lib.indexByte, if_neg (by simpa using hc), ih, if_neg (by simp <;> omega)]
    simp
theorem first_z (z : UInt8) (l : List UInt8) : (∀ c ∈ l, c ≠ z) ∨ ∃ a b, l = a ++ z :: b ∧ ∀ c ∈ a, c ≠ z := by
  induction l with
  | nil => exact .inl (by simp)
  | cons c l ih =>
    by_cases hc : c = z
    · exact .inr ⟨[], l, by rw [hc]; rfl, by simp⟩
    · rcases ih with h | ⟨a, b, rfl, h⟩
      · exact .inl fun x hx => by rcases List.mem_cons.1 hx with rfl | hx; exact hc; exact h x hx
      · exact .inr ⟨c :: a, b, rfl, fun x hx => by rcases List.mem_cons.1 hx with rfl | hx; exact hc; exact h x hx⟩
def swapZ (z : UInt8) (new l : List UInt8) : List UInt8 := l.flatMap fun c => if c = z then new else [c]
theorem swapZ_none (z : UInt8) (new : List UInt8) : ∀ (a : List UInt8), (∀ c ∈ a, c ≠ z) → swapZ z new a = a
  | [], _ => rfl
  | c :: a, h => by
    have ih := swapZ_none z new a fun x hx => h x (by simp [hx])
    show (if c = z then new else [c]) ++ swapZ z new a = _
    rw [if_neg (h c (by simp)), ih]; rfl
theorem replaceK_z (z : UInt8) (new : List UInt8) : ∀ (k : Nat) (l : List UInt8), l.count z = k → Lib.replaceK [z] new k l = swapZ z new l
  | 0, l, h => by
    have hn : ∀ c ∈ l, c ≠ z := by
      intro c hc h2; subst h2
      have := List.count_pos_iff.2 hc; omega
    rw [swapZ_none z new l hn]; rfl
  | k + 1, l, h => by
    rcases first_z z l with hn | ⟨a, b, rfl, hn⟩
    · have : l.count z = 0 := List.count_eq_zero.2 fun hc => hn z hc rfl
      omega
    · have hc : b.count z = k := by
        rw [List.count_append, List.count_cons] at h
        have : a.count z = 0 := List.count_eq_zero.2 fun hc => hn z hc rfl
        simp at h; omega
      rw [Lib.replaceK_hit [z] new k _ a.length (idx_of1 z a b hn), show (a ++ z :: b).drop (a.length + ([z] : List UInt8).length) = b by simp, replaceK_z z new k b hc]
      have : swapZ z new (a ++ z :: b) = swapZ z new a ++ (new ++ swapZ z new b) := by simp [swapZ]
      rw [this, swapZ_none z new a hn]; simp
theorem replaceAll_z (z : UInt8) (new l : List UInt8) (h : ([z] == new) = false) : Lib.replaceAll l [z] new = swapZ z new l := by
  unfold Lib.replaceAll Lib.replace
  rw [h]
  have : Lib.replaceNum l [z] (-1) = l.count z := by
    unfold Lib.replaceNum
    rw [if_pos (Or.inl (by decide)), Lib.count_one]
  rw [this, replaceK_z z new _ l rfl]; rfl
theorem swapZ_len (z : UInt8) (new : List UInt8) (B : Nat) (hB : 1 ≤ B) (hn : new.length ≤ B) : ∀ (l : List UInt8), (swapZ z new l).length ≤ B * l.length
  | [] => by simp [swapZ]
  | c :: l => by
    have ih := swapZ_len z new B hB hn l
    have h : (if c = z then new else [c]).length ≤ B := by
      split
      · exact hn
      · simpa using hB
    have : swapZ z new (c :: l) = (if c = z then new else [c]) ++ swapZ z new l := rfl
    rw [this, List.length_append, List.length_cons, Nat.mul_succ]; omega
def part1 (p : ByteArray) : List UInt8 := swapZ 0 [0, 255] p.data.toList ++ [0, 1]
def tupOf (l : List ByteArray) : List UInt8 := l.flatMap part1
def field_Tuple.f (l0 : List ByteArray) : Option (ByteArray × Int) :=
  if 16 < l0.length then some (⟨#[]⟩, 1) else if l0.any (fun p => decide (4096 < p.size)) = true then some (⟨#[]⟩, 5) else if 4096 < (tupOf l0).length then some (⟨#[]⟩, 5) else some (⟨(tupOf l0).toArray⟩, 0)
theorem tupOf_snoc (l : List ByteArray) (p : ByteArray) : tupOf (l ++ [p]) = tupOf l ++ part1 p := by simp [tupOf]
theorem part1_len (p : ByteArray) (h : p.size ≤ 4096) : (part1 p).length ≤ 8194 := by
  have := swapZ_len 0 [0, 255] 2 (by omega) (by simp) p.data.toList
  have h2 : p.data.toList.length = p.size := by simp
  unfold part1
  rw [List.length_append]
  simp only [List.length_cons, List.length_nil]; omega
theorem rep_f (p : ByteArray) (h : p.size ≤ 4096) : strings_ReplaceAll.f p (⟨#[0]⟩ : ByteArray) (⟨#[0, 255]⟩ : ByteArray) = some ⟨(swapZ 0 [0, 255] p.data.toList).toArray⟩ := by
  unfold strings_ReplaceAll.f
  rw [if_pos (by omega), if_pos (show 1 ≤ (⟨#[0]⟩ : ByteArray).size from Nat.le_refl _), if_pos (show (⟨#[0, 255]⟩ : ByteArray).size ≤ 1000 by decide)]
  have : Lib.replaceAll p.data.toList (⟨#[0]⟩ : ByteArray).data.toList (⟨#[0, 255]⟩ : ByteArray).data.toList = swapZ 0 [0, 255] p.data.toList := replaceAll_z 0 [0, 255] _ (by decide)
  rw [this]
theorem take_succ_ba (l : List ByteArray) (k : Nat) (h : k < l.length) : l.take (k + 1) = l.take k ++ [l.getD k ByteArray.empty] := by
  rw [List.take_succ_eq_append_getElem h]
  simp [List.getD_eq_getElem?_getD, h]
set_option maxHeartbeats 4000000 in
set_option maxRecDepth 1000000 in
theorem field_Tuple.calls (A0 : Option Addr) (c0 : Nat) (l0 : List ByteArray) (r1 : ByteArray) (r2 : Int) (w : World) (hr0 : Kd.C Kd.string w A0 l0.length l0) (hc0 : l0.length ≤ c0) (hG : Gw w) (h : field_Tuple.f l0 = some (r1, r2)) :
    Calls Tryz.prog 126 #[.slice A0 l0.length c0] w fun e w' => e = .returned (.tuple #[.string r1, .int .i64 r2]) ∧ Below w.heap.size w w' := by
  have hlm := hr0.2.1
  unfold field_Tuple.f at h
  by_cases h16 : 16 < l0.length
  · rw [if_pos h16] at h
    simp only [Option.some.injEq, Prod.mk.injEq] at h
    obtain ⟨rfl, rfl⟩ := h
    clear hr0
    go_enter Tryz.func126, Tryz.ntmps126
    go_wp2
    go_ret2
    exact ⟨rfl, Below.refl _ _⟩
  · rw [if_neg h16] at h
    have HH := Aside0.mk h
    have HC := Aside0.mk hr0
    have HG := Aside0.mk hG
    clear h hr0 hG
    go_enter Tryz.func126, Tryz.ntmps126
    go_wp2
    go_loopw [12] (fun i wr => ∃ (k : Nat) (acc : List UInt8), k ≤ l0.length ∧ i = .int .i64 k ∧ Aside0 (Bld w.heap.size w.heap.size (Lib.byteCells acc) wr) ∧ Aside0 (Below w.heap.size w wr) ∧ Aside0 (acc = tupOf (l0.take k)) ∧ Aside0 (acc.length ≤ 8194 * k) ∧ Aside0 (∀ p ∈ l0.take k, p.size ≤ 4096)) (fun i wr => l0.length - (intOf i).toNat)
    case atStart =>
      exact ⟨0, [], Nat.zero_le _, rfl, ⟨Lib.IsBuilderF.of (Lib.fresh_isBuilder 110 5 w)⟩, ⟨(Below.refl _ w).alloc (Nat.le_refl _) _⟩, ⟨rfl⟩, ⟨by simp⟩, ⟨by simp⟩⟩
    case round =>
      obtain ⟨k, acc, hk, rfl, HB, hbw, hacc, hacl, hsml⟩ := hrel
      by_cases hlt : k < l0.length
      · obtain ⟨ad, hA, hc⟩ := (Kd.reads_of_C (d := ByteArray.empty) HC.out).at_ (k : Int) (by omega) (by omega)
        have hcw := (hbw.out.cell (World.block_lt_of_cell? _ _ hc)).trans hc
        clear hc
        subst hA
        have hts := take_succ_ba l0 k hlt
        have hmem : l0.getD k ByteArray.empty ∈ l0 := by rw [List.getD_eq_getElem?_getD, List.getElem?_eq_getElem hlt]; simp
        simp only [Int.toNat_natCast, rdOf] at hcw
        generalize hx : l0.getD k ByteArray.empty = p at *
        have HT := Aside0.mk hts
        have HM := Aside0.mk hmem
        clear hts hx hmem
        by_cases hz : 4096 < p.size
        · go_wp2
          go_ret2
          have hany : l0.any (fun p => decide (4096 < p.size)) = true := List.any_eq_true.2 ⟨p, HM.out, by simpa using hz⟩
          have := HH.out
          rw [if_pos hany] at this
          simp only [Option.some.injEq, Prod.mk.injEq] at this
          obtain ⟨rfl, rfl⟩ := this
          exact ⟨rfl, hbw.out⟩
        · have HF := Aside0.mk (rep_f p (by omega))
          have hpl := part1_len p (by omega)
          have h15 : k ≤ 15 := by omega
          have hsw := swapZ_len 0 [0, 255] 2 (by omega) (by simp) p.data.toList
          have h2 : p.data.toList.length = p.size := by simp
          have HS := Aside0.mk (show (swapZ 0 [0, 255] p.data.toList).length ≤ 8192 by omega)
          clear hsw h2
          go_wp2_with (first
            | (go_at_call 83; (with_reducible refine (strings_ReplaceAll.calls _ _ _ _ _ ?hG HF.out).mono ?_); (case hG => exact HG.out.below hbw.out); rintro e w2 ⟨rfl, hb2⟩; have hcc := Aside0.mk (Lib.IsBuilderF.below HB.out hb2); replace hb2 := Aside0.mk (hbw.out.trans (hb2.mono hbw.out.size)))
            | (go_at_call 102; first
                | ((with_reducible refine (bld_WriteString w.heap.size w.heap.size _ _ _ g1.out ?h3 ?h4).mono ?_); (case h3 => have q1 := hacl.out; have q2 := HS.out; simp [Lib.byteCells_length, Lib.strCells_length, ByteArray.size]; omega); (case h4 => have a2 := hb2.out.size; have a3 := g2.out.size; omega); rintro e w4 ⟨rfl, f1, f2, _⟩; replace f1 := Aside0.mk f1; replace f2 := Aside0.mk f2)
                | ((with_reducible refine (bld_WriteString w.heap.size w.heap.size (Lib.byteCells acc) _ _ ?hB ?h3 ?h4).mono ?_); (case hB => exact hcc.out); (case h3 => have q1 := hacl.out; have q2 := HS.out; simp [Lib.byteCells_length, ByteArray.size]; omega); (case h4 => have a2 := hb2.out.size; omega); rintro e w3 ⟨rfl, g1, g2, _⟩; replace g1 := Aside0.mk g1; replace g2 := Aside0.mk g2)))
          go_roundw
          case rel =>
            refine ⟨k + 1, acc ++ part1 p, by omega, by go_num, ⟨?_⟩, ⟨hb2.out.trans (g2.out.trans f2.out)⟩, ⟨?_⟩, ⟨?_⟩, ⟨?_⟩⟩
            · have := f1.out
              rw [Lib.byteCells_append]
              simpa [Lib.byteCells, Lib.strCells, part1, List.append_assoc] using this
            · rw [HT.out, tupOf_snoc, hacc.out]
            · have := hacl.out; rw [List.length_append]; omega
            · intro x hx
              rw [HT.out] at hx
              rcases List.mem_append.1 hx with hx | hx
              · exact hsml.out x hx
              · simp only [List.mem_singleton] at hx; subst hx; omega
          case measure => simp [intOf]; omega
      · obtain rfl : k = l0.length := by omega
        have hac2 : acc = tupOf l0 := by rw [hacc.out, List.take_length]
        have hall : ¬ l0.any (fun p => decide (4096 < p.size)) = true := by
          rw [List.any_eq_true]
          rintro ⟨x, hx, h2⟩
          have := hsml.out x (by rw [List.take_length]; exact hx)
          simp at h2; omega
        have H2 := HH.out
        rw [if_neg hall, ← hac2] at H2
        have HA := Aside0.mk H2
        clear hac2 hall H2 HH hacc
        have hbl : (Lib.byteCells acc).length = acc.length := Lib.byteCells_length _
        by_cases hz : 4096 < acc.length
        · have := HA.out
          rw [if_pos hz] at this
          simp only [Option.some.injEq, Prod.mk.injEq] at this
          obtain ⟨rfl, rfl⟩ := this
          have hz2 : 4096 < (Lib.byteCells acc).length := by omega
          clear hbl
          go_wp2_with (go_at_call 148; (with_reducible refine (Tryz.Builder_Len_f w.heap.size w.heap.size _ _ HB.out).mono ?_); rintro e w2 ⟨rfl, rfl⟩)
          go_ret2
          exact ⟨rfl, hbw.out⟩
        · have := HA.out
          rw [if_neg hz] at this
          simp only [Option.some.injEq, Prod.mk.injEq] at this
          obtain ⟨rfl, rfl⟩ := this
          have hz2 : ¬ 4096 < (Lib.byteCells acc).length := by omega
          clear hbl
          go_wp2_with (first
            | (go_at_call 148; (with_reducible refine (Tryz.Builder_Len_f w.heap.size w.heap.size _ _ HB.out).mono ?_); rintro e w2 ⟨rfl, rfl⟩)
            | (go_at_call 89; (with_reducible refine (bld_String w.heap.size w.heap.size _ _ HB.out ?h1).mono ?_); (case h1 => have := hbw.out.size; omega); rintro e w2 ⟨rfl, h2⟩; replace h2 := Aside0.mk h2))
          go_ret2
          exact ⟨rfl, hbw.out.trans h2.out⟩
end Go.Proofs.YtpklcnpmppaaoaaGreatDoor.Print
namespace Go.Proofs
open Go.Shelf
def Tryz.lays190_ren : Go.Shelf.Ren := ⟨fun | 190 => 127 | 125 => 150 | 258 => 149 | 128 => 170 | 129 => 171 | 302 => 161 | 303 => 162 | 304 => 163 | 305 => 164 | 306 => 165 | 307 => 166 | 308 => 167 | 309 => 168 | 310 => 169 | 333 => 176 | 329 => 177 | 330 => 178 | 334 => 179 | 335 => 180 | 336 => 181 | 344 => 186 | n => n, fun | 31 => 31 | 9 => 9 | 3 => 3 | 46 => 68 | 0 => 0 | 51 => 152 | 53 => 128 | 4 => 4 | 183 => 169 | 182 => 168 | 131 => 173 | 5 => 5 | 218 => 185 | 222 => 189 | 228 => 194 | 229 => 114 | n => n, fun | n => n⟩
theorem Tryz.lays190 : Go.Proofs.Lays.n190 Tryz.prog Tryz.lays190_ren := {
  mixed := by kernel_rfl
  f125 := Tryz.func150.trans (congrArg some (by kernel_rfl))
  f128 := Tryz.func170.trans (congrArg some (by kernel_rfl))
  f129 := Tryz.func171.trans (congrArg some (by kernel_rfl))
  f190 := Tryz.func127.trans (congrArg some (by kernel_rfl))
  f258 := Tryz.func149.trans (congrArg some (by kernel_rfl))
  f302 := Tryz.func161.trans (congrArg some (by kernel_rfl))
  f303 := Tryz.func162.trans (congrArg some (by kernel_rfl))
  f304 := Tryz.func163.trans (congrArg some (by kernel_rfl))
  f305 := Tryz.func164.trans (congrArg some (by kernel_rfl))
  f306 := Tryz.func165.trans (congrArg some (by kernel_rfl))
  f307 := Tryz.func166.trans (congrArg some (by kernel_rfl))
  f308 := Tryz.func167.trans (congrArg some (by kernel_rfl))
  f309 := Tryz.func168.trans (congrArg some (by kernel_rfl))
  f310 := Tryz.func169.trans (congrArg some (by kernel_rfl))
  f329 := Tryz.func177.trans (congrArg some (by kernel_rfl))
  f330 := Tryz.func178.trans (congrArg some (by kernel_rfl))
  f333 := Tryz.func176.trans (congrArg some (by kernel_rfl))
  f334 := Tryz.func179.trans (congrArg some (by kernel_rfl))
  f335 := Tryz.func180.trans (congrArg some (by kernel_rfl))
  f336 := Tryz.func181.trans (congrArg some (by kernel_rfl))
  f344 := Tryz.func186.trans (congrArg some (by kernel_rfl))
  t0 := Tryz.underlying0
  a0 := Tryz.isAgg0
  z0 := Tryz.sizeOf0
  v0 := Tryz.zeroValue0
  t3 := Tryz.underlying3
  a3 := Tryz.isAgg3
  z3 := Tryz.sizeOf3
  v3 := Tryz.zeroValue3
  t4 := Tryz.underlying4
  a4 := Tryz.isAgg4
  z4 := Tryz.sizeOf4
  v4 := Tryz.zeroValue4
  t5 := Tryz.underlying5
  a5 := Tryz.isAgg5
  z5 := Tryz.sizeOf5
  v5 := Tryz.zeroValue5
  t9 := Tryz.underlying9
  a9 := Tryz.isAgg9
  z9 := Tryz.sizeOf9
  v9 := Tryz.zeroValue9
  t31 := Tryz.underlying31
  a31 := Tryz.isAgg31
  z31 := Tryz.sizeOf31
  v31 := Tryz.zeroValue31
  t46 := Tryz.underlying68
  a46 := Tryz.isAgg68
  z46 := Tryz.sizeOf68
  v46 := Tryz.zeroValue68
  t51 := Tryz.underlying152
  a51 := Tryz.isAgg152
  z51 := Tryz.sizeOf152
  v51 := Tryz.zeroValue152
  t53 := Tryz.underlying128
  a53 := Tryz.isAgg128
  z53 := Tryz.sizeOf128
  v53 := Tryz.zeroValue128
  t131 := Tryz.underlying173
  a131 := Tryz.isAgg173
  z131 := Tryz.sizeOf173
  v131 := Tryz.zeroValue173
  t182 := Tryz.underlying168
  a182 := Tryz.isAgg168
  z182 := Tryz.sizeOf168
  v182 := Tryz.zeroValue168
  t183 := Tryz.underlying169
  a183 := Tryz.isAgg169
  z183 := Tryz.sizeOf169
  v183 := Tryz.zeroValue169
  t218 := Tryz.underlying185
  a218 := Tryz.isAgg185
  z218 := Tryz.sizeOf185
  v218 := Tryz.zeroValue185
  t222 := Tryz.underlying189
  a222 := Tryz.isAgg189
  z222 := Tryz.sizeOf189
  v222 := Tryz.zeroValue189
  t228 := Tryz.underlying194
  a228 := Tryz.isAgg194
  z228 := Tryz.sizeOf194
  v228 := Tryz.zeroValue194
  t229 := Tryz.underlying114
  a229 := Tryz.isAgg114
  z229 := Tryz.sizeOf114
  v229 := Tryz.zeroValue114 }
open Go.Sort Go.RowKit in
theorem Tryz.slices_Sort_string (blk off cap : Nat) (ss : List (List UInt8)) (w : World) (hH : Holds encStr w blk off ss.toArray) (hblk : blk < w.heap.size) (hsz : ss.length < 4611686018427387904) :
    Calls Tryz.prog 127 #[.slice (some ⟨blk, off, none⟩) ss.length cap] w fun e w' =>
      e = .returned (.tuple #[]) ∧ ∃ n os, w' = grow (putRow encStr (Sort.ahead w n) blk off (ss.mergeSort fun x y => decide (x ≤ y)).toArray) os := Any.slices_Sort_string Tryz.lays190 blk off cap ss w hH hblk hsz
open Go.RowKit Go.Sort in
theorem Tryz.slices_Sort_string_none (p : Option Addr) (cap : Nat) (w : World) :
    Calls Tryz.prog 127 #[.slice p 0 cap] w fun e w' => e = .returned (.tuple #[]) ∧ w' = w := Any.slices_Sort_string_none Tryz.lays190 p cap w
end Go.Proofs
namespace Go.Proofs.YtpklcnpmppaaoaaGreatDoor.Print
open Go.RowKit Go.Proofs.YtpklcnpmppaaoaaGreatDoorW.PrintWords Go.Proofs.YtpklcnpmppaaoaaGreatDoorW.PrintLast Go.Proofs.YtpklcnpmppaaoaaGreatDoorW.PrintMore Go.Sort
set_option linter.unusedVariables false
def sortL (l : List (List UInt8)) : List (List UInt8) := l.mergeSort fun x y => decide (x ≤ y)
def sortB (xs : List ByteArray) : List ByteArray := (sortL (xs.map (·.data.toList))).map fun l => ⟨l.toArray⟩
theorem sortB_len (xs : List ByteArray) : (sortB xs).length = xs.length := by simp [sortB, sortL]
theorem encs_str (xs : List ByteArray) : encs Value.string xs = (xs.map (·.data.toList)).map encStr := by
  unfold encs
  rw [List.map_map]
  exact List.map_congr_left fun x _ => rfl
theorem encs_sort (xs : List ByteArray) : encs Value.string (sortB xs) = (sortL (xs.map (·.data.toList))).map encStr := by
  unfold encs sortB
  rw [List.map_map]
  exact List.map_congr_left fun x _ => rfl
theorem sort_own (A : Option Addr) (c : Nat) (xs : List ByteArray) (B : Nat) (w : World) (ho : Kd.R Kd.string 9 w B (fun _ => True) (.slice A xs.length c) xs) (hB : B ≤ w.heap.size) (hle : xs.length ≤ 1000000) :
    Calls Tryz.prog 127 #[.slice A xs.length c] w fun e w' => e = .returned (.tuple #[]) ∧ Kd.R Kd.string 9 w' B (fun _ => True) (.slice A xs.length c) (sortB xs) ∧ Below B w w' := by
  have hrow := Kd.own_of_R ho
  rw [encs_str] at hrow
  have hmax := (Kd.R_reads' ho).2.2.2.1
  rcases hrow.2 with ⟨hnil, hn0⟩ | ⟨g, cap, cur, hv, hbase, hb, h1, h2, h3, h4⟩
  · have hx : xs = [] := List.eq_nil_of_length_eq_zero (by simpa using hn0)
    subst hx
    refine (Tryz.slices_Sort_string_none A c w).mono ?_
    rintro e w' ⟨he, rfl⟩
    have e0 : sortB [] = [] := by simp [sortB, sortL]
    rw [e0]
    exact ⟨he, ho, Below.refl _ _⟩
  · injection hv with hA hl hc
    subst hA; subst hc
    have hH : Holds encStr w g 0 (xs.map (·.data.toList)).toArray := holds_of_block hb (by simpa using h4)
    have hlen : xs.length = (xs.map (·.data.toList)).length := by simp
    have hcall := Tryz.slices_Sort_string g 0 c (xs.map (·.data.toList)) w hH (Array.getElem?_eq_some_iff.1 hb).1 (by rw [← hlen]; omega)
    rw [← hlen] at hcall
    refine hcall.mono ?_
    rintro e w' ⟨he, n, os, rfl⟩
    have hs := ownsRow_sorted (w := w) (n := n) (os := os) (ss := xs.map (·.data.toList)) (ts := sortL (xs.map (·.data.toList))) (by simp [sortL]) hbase hb (by rw [← hlen]; exact h1) h2 h3
    rw [← hlen, ← encs_sort] at hs
    refine ⟨he, Kd.R_of_own (by rw [sortB_len]; exact hs) (fun _ _ => trivial), ?_⟩
    exact (Below.refl B w).grown (grownBy_sorted _) hB (fun j hj => by cases hj; exact hbase)
theorem join_le {l : List ByteArray} {s r : ByteArray} (h : strings_Join.f (sortB l) s = some r) : l.length ≤ 1000000 := by
  unfold strings_Join.f at h
  by_cases c : (sortB l).length ≤ 1000000
  · rw [sortB_len] at c; exact c
  · rw [if_neg c] at h; cases h
theorem join_n (A0 : Option Addr) (c0 : Nat) (l0 : List ByteArray) (n : Nat) (hn : l0.length = n) (a1 : ByteArray) (r : ByteArray) (w : World) (hr0 : Kd.C Kd.string w A0 l0.length l0) (hc0 : l0.length ≤ c0) (h : strings_Join.f l0 a1 = some r) :
    Calls Tryz.prog 71 #[.slice A0 n c0, .string a1] w fun e w' => e = .returned (.string r) ∧ Below w.heap.size w w' := by
  subst hn
  exact strings_Join.calls A0 c0 l0 a1 r w hr0 hc0 h
theorem reads_srt {A : Option Addr} {c : Nat} {xs : List ByteArray} {B : Nat} {w : World} {ok : Nat → Prop} (h : Kd.R Kd.string 9 w B ok (.slice A xs.length c) (sortB xs)) : (sortB xs).length ≤ c ∧ Kd.C Kd.string w A (sortB xs).length (sortB xs) := by
  have h2 := Kd.R_reads' (xs := sortB xs) (n := xs.length) h
  refine ⟨?_, ?_⟩
  · rw [sortB_len]; exact h2.2.1
  · exact h2.2.2
end Go.Proofs.YtpklcnpmppaaoaaGreatDoor.Print
namespace Go.Proofs.YtpklcnpmppaaoaaGreatDoor.Print
open Go.RowKit Go.Proofs.YtpklcnpmppaaoaaGreatDoorW.PrintWords Go.Proofs.YtpklcnpmppaaoaaGreatDoorW.PrintLast Go.Proofs.YtpklcnpmppaaoaaGreatDoorW.PrintMore
attribute [local go_sem] max2_int min2_int max_two min_two max_three min_three max_four min_four
set_option linter.unusedVariables false
set_option linter.unusedSimpArgs false
def dn_key.l0 : Nat → List ByteArray → List (S96) → Int → Int → Option (ByteArray)
 | 0, _, _, _, _ => none
 | k + 1, x3, x10, x11, x12 => if x12 < x11 then (if 0 ≤ x12 then (if x12 < (x10.length : Int) then ((prep_Ready.f k ((rd_T96 x10 x12).f1) true).bind fun bt335 => ((field_Tuple.f (([(rd_T96 x10 x12).f0, bt335.1] : List ByteArray))).bind fun bt340 => (if x3.length < 8796093022208 then (dn_key.l0 k (x3 ++ [bt340.1]) x10 x11 (wrap64 (x12 + 1))) else (none)))) else (none)) else (none)) else ((strings_Join.f (sortB x3) (⟨#[]⟩ : ByteArray)).bind fun t345 => (some t345))
def dn_key.f (k : Nat) (l0 : List (S96)) : Option (ByteArray) := dn_key.l0 k ([] : List ByteArray) l0 (l0.length : Int) 0
theorem dn_key.mono_l : ∀ k, (∀ y0 y1 y2 y3, LeO (dn_key.l0 k y0 y1 y2 y3) (dn_key.l0 (k + 1) y0 y1 y2 y3))
 | 0 => fun _ _ _ _ r h => by simp [dn_key.l0] at h
 | k + 1 => by
  have ih0 := dn_key.mono_l k
  ·
   intro y0 y1 y2 y3
   unfold dn_key.l0
   repeat' first
   | (with_reducible exact ih0 _ _ _ _)
   | (with_reducible exact prep_Ready.mono _ _ _)
   | (with_reducible exact LeO.refl _)
   | (with_reducible exact LeO.none _)
   | (with_reducible refine LeO.ite ?_ ?_)
   | (with_reducible refine LeO.bind ?_ (fun _ => ?_))
theorem dn_key.mono : ∀ a0 k, LeO (dn_key.f k a0) (dn_key.f (k + 1) a0) := by
 intro a0 k
 have ih0 := dn_key.mono_l k
 unfold dn_key.f
 repeat' first
   | (with_reducible exact ih0 _ _ _ _)
   | (with_reducible exact prep_Ready.mono _ _ _)
   | (with_reducible exact LeO.refl _)
   | (with_reducible exact LeO.none _)
   | (with_reducible refine LeO.ite ?_ ?_)
   | (with_reducible refine LeO.bind ?_ (fun _ => ?_))
set_option maxHeartbeats 8000000 in
set_option maxRecDepth 100000 in
theorem dn_key.calls (k : Nat) (A0 : Option Addr) (c0 : Nat) (l0 : List (S96)) (r : ByteArray) (w : World) (hr0 : Kd.C k96 w A0 l0.length l0) (hc0 : l0.length ≤ c0) (hG : Gw w) (h : dn_key.f k l0 = some r) :
  Calls Tryz.prog 100 #[.slice A0 l0.length c0] w fun e w' => e = .returned (.string r) ∧ Below w.heap.size w w' := by
 have hu96 := Tryz.underlying96
 have HR0 := Aside0.mk hr0
 have HC0 := Aside0.mk hc0
 clear hr0 hc0
 have HB := Aside0.mk (Below.refl w.heap.size w)
 have HG := Aside0.mk hG
 clear hG
 have H : (dn_key.l0 k ([] : List ByteArray) l0 (l0.length : Int) 0) = some r := h
 clear h
 have H' := Aside0.mk H
 clear H
 go_enter Tryz.func100, Tryz.ntmps100
 go_wp2
 go_loopg [3, 12] k (fun kq v3 v12 w' => ∃ (x3_1 : List ByteArray) (x12_1 : Int), v12 = .int .i64 x12_1 ∧ Aside0 (dn_key.l0 kq x3_1 l0 (l0.length : Int) x12_1 = some r) ∧ Aside0 (kq ≤ k) ∧ Aside0 (Kd.R Kd.string 9 w' w.heap.size (fun _ => True) v3 x3_1) ∧ Aside0 (Below w.heap.size w w'))
 case atStart => exact ⟨(([] : List ByteArray)), (0), ap2, H', ⟨Nat.le_refl _⟩, ⟨by first | exact Kd.R_nil _ _ _ _ _ | exact Kd.N_nil _ _ _ _ _ | exact Kd.V_nil _ _ _ _ _ | exact Kd.Q_nil _ _ _ _ _ | exact Kd.S_nil _ _ _ _ _⟩, ⟨by repeat (first | (with_reducible first | exact HB.out | apply below_alloc | apply pw_below_drewN | apply below_drew1) | exact HB.out)⟩⟩
 case round =>
  clear H'
  try clear c1
  obtain ⟨x3_1, x12_1, rfl, HA, HK1, HO_3, HB⟩ := hrel
  cases gk with
  | zero => exact absurd HA.out (by simp [dn_key.l0])
  | succ k1 =>
   have H := HA.out
   clear HA
   simp only [dn_key.l0] at H
   by_cases c2 : x12_1 < (l0.length : Int)
   ·
    rw [if_pos c2] at H
    have c2b0 := decide_eq_true c2
    clear c2
    by_cases c3 : 0 ≤ x12_1
    ·
     rw [if_pos c3] at H
     have c3b0 := decide_eq_true c3
     clear c3
     by_cases c4 : x12_1 < (l0.length : Int)
     ·
      rw [if_pos c4] at H
      have c4b0 := decide_eq_true c4
      clear c4
      replace H := Option.bind_eq_some_iff.mp H
      obtain ⟨⟨t335, t336⟩, A50, H⟩ := H
      replace H : ((field_Tuple.f (([(rd_T96 l0 x12_1).f0, t335] : List ByteArray))).bind fun bt340 => (if x3_1.length < 8796093022208 then (dn_key.l0 k1 (x3_1 ++ [bt340.1]) l0 (l0.length : Int) (wrap64 (x12_1 + 1))) else (none))) = some r := H
      have A5 := Aside0.mk A50
      clear A50
      obtain ⟨y337, hy337⟩ : ∃ y_ : List ByteArray, y_ = (([(rd_T96 l0 x12_1).f0, t335] : List ByteArray)) := ⟨_, rfl⟩
      replace H : ((field_Tuple.f y337).bind fun bt340 => (if x3_1.length < 8796093022208 then (dn_key.l0 k1 (x3_1 ++ [bt340.1]) l0 (l0.length : Int) (wrap64 (x12_1 + 1))) else (none))) = some r := by first | (rw [hy337]; with_reducible exact H) | (have H2_ := (Option.bind_some _ _).symm.trans H; rw [hy337]; with_reducible exact H2_) | (have H2_ := (Option.bind_some _ _).symm.trans H; with_reducible exact H2_) | with_reducible exact H | (rw [hy337]; exact H) | exact H
      have Ny337 := Aside0.mk hy337
      clear hy337
      replace H := Option.bind_eq_some_iff.mp H
      obtain ⟨⟨t340, t341⟩, A60, H⟩ := H
      replace H : (if x3_1.length < 8796093022208 then (dn_key.l0 k1 (x3_1 ++ [t340]) l0 (l0.length : Int) (wrap64 (x12_1 + 1))) else (none)) = some r := H
      have A6 := Aside0.mk A60
      clear A60
      by_cases c7 : x3_1.length < 8796093022208
      ·
       rw [if_pos c7] at H
       have LMc7 := Aside0.mk c7
       clear c7
       obtain ⟨y342, hy342⟩ : ∃ y_ : List ByteArray, y_ = (x3_1 ++ [t340]) := ⟨_, rfl⟩
       replace H : (dn_key.l0 k1 y342 l0 (l0.length : Int) (wrap64 (x12_1 + 1))) = some r := by first | (rw [hy342]; with_reducible exact H) | (have H2_ := (Option.bind_some _ _).symm.trans H; rw [hy342]; with_reducible exact H2_) | (have H2_ := (Option.bind_some _ _).symm.trans H; with_reducible exact H2_) | with_reducible exact H | (rw [hy342]; exact H) | exact H
       have Ny342 := Aside0.mk hy342
       clear hy342
       have H' := Aside0.mk H
       clear H
       have p333 : 0 ≤ (x12_1 : Int) := of_decide_eq_true ap0
       have q333 : x12_1 < (l0.length : Int) := of_decide_eq_true ap0
       obtain ⟨ad333, e333, hx333_0, hx333_1⟩ := at_T96 HR0.out x12_1 p333 q333
       cases e333
       replace hx333_0 := (HB.out.cell (World.block_lt_of_cell? w _ hx333_0)).trans hx333_0
       replace hx333_1 := (HB.out.cell (World.block_lt_of_cell? w _ hx333_1)).trans hx333_1
       replace p333 := eq_true p333
       replace q333 := eq_true q333
       go_wp2_with (first | ((with_reducible refine gate_dst (N := 5) rfl ?_); refine box_event ?hg (N := 5) ?hd (cs := #[.string (⟨#[]⟩ : ByteArray), .string (⟨#[]⟩ : ByteArray)]) (t := 96) ?hr ?_; (case hd => rfl); (case hg => rfl); (case hr => first | (go_simp; done) | (go_simp; rfl)); intro gb334 hg w8 hbox hb; have n0_ := Aside0.mk (Kd.R_below (apAR HO_3.out) hb); have n1_ := Aside0.mk (below_step ap1 hb); have n2_ := Aside0.mk (hbox); have n3_ := Aside0.mk ((by rw [hg]; exact (below_size ap1) : w.heap.size ≤ gb334)); have n4_ := Aside0.mk ((by rw [hg]; exact (below_size ap1) : w.heap.size ≤ gb334)); clear HO_3; clear HB; have HO_3 := n0_; have HB := n1_; have BK334 := n2_; have GW334 := n3_; have GE334 := n4_; clear n0_ n1_ n2_ n3_ n4_; clear hb hbox hg; have hcz9_0 : w8.cell? ⟨gb334, 0, none⟩ = some (.string (⟨#[]⟩ : ByteArray)) := (blk_cell BK334.out 0).trans rfl; have hcz9_1 : w8.cell? ⟨gb334, 1, none⟩ = some (.string (⟨#[]⟩ : ByteArray)) := (blk_cell BK334.out 1).trans rfl; have hfz9_0 := blk_frozen BK334.out 0; have hfz9_1 := blk_frozen BK334.out 1) | ((with_reducible refine gate_callee (f := 67) rfl ?_); refine goesL_ (some 19) rfl rfl Tryz.func67 (by kernel_rfl) rfl #[.string ((rd_T96 l0 x12_1).f1), .bool true] rfl ap3 ?_; (with_reducible refine (prep_Ready.calls k1 ((rd_T96 l0 x12_1).f1) true t335 t336 _ ?side1 A5.out).mono ?_); (case side1 => first | exact HG.out | (refine Gw.below HG.out ?_; repeat (first | (with_reducible first | exact HB.out | apply below_alloc | apply pw_below_drewN | apply below_drew1 | refine below_set ?_ GE334.out) | exact HB.out))); rintro e w10 ⟨rfl, hb⟩; refine ⟨_, rfl, ?_⟩; have n0_ := Aside0.mk (Kd.R_below (by (with_reducible repeat (first | apply Kd.R_alloc | apply Kd.R_drewN | apply Kd.R_drew)); exact (Kd.R_mono (Kd.R_far (p := ⟨gb334, 1, none⟩) (Kd.R_far (p := ⟨gb334, 0, none⟩) (Kd.R_types HO_3.out BK334.out (by decide)) (fun _ hk => hk.2) (.string ((rd_T96 l0 x12_1).f0))) (fun _ hk => hk.2) (.string ((rd_T96 l0 x12_1).f1))) (fun _ h_ => h_.1))) hb); have n1_ := Aside0.mk (blk_below (g := gb334) (o := .cells #[.string ((rd_T96 l0 x12_1).f0), .string ((rd_T96 l0 x12_1).f1)] 96 (0, 0)) (by (with_reducible repeat (first | refine blk_drewN ?_ _ | refine blk_drew ?_ | refine blk_alloc ?_ _)); refine blk_put (cs := #[.string ((rd_T96 l0 x12_1).f0), .string (⟨#[]⟩ : ByteArray)]) ?_ 1 _ rfl; (with_reducible repeat (first | refine blk_drewN ?_ _ | refine blk_drew ?_ | refine blk_alloc ?_ _)); refine blk_put (cs := #[.string (⟨#[]⟩ : ByteArray), .string (⟨#[]⟩ : ByteArray)]) ?_ 0 _ rfl; (with_reducible repeat (first | refine blk_drewN ?_ _ | refine blk_drew ?_ | refine blk_alloc ?_ _)); exact BK334.out) hb); have n2_ := Aside0.mk (below_step (apG GE334.out) hb); clear HO_3; clear BK334; clear HB; have HO_3 := n0_; have BK334 := n1_; have HB := n2_; clear n0_ n1_ n2_; (try clear hb); (try clear hb2); (try clear hk); (try clear hi); have hcz11_0 : w10.cell? ⟨gb334, 0, none⟩ = some (.string ((rd_T96 l0 x12_1).f0)) := (blk_cell BK334.out 0).trans rfl; have hcz11_1 : w10.cell? ⟨gb334, 1, none⟩ = some (.string ((rd_T96 l0 x12_1).f1)) := (blk_cell BK334.out 1).trans rfl; have hfz11_0 := blk_frozen BK334.out 0; have hfz11_1 := blk_frozen BK334.out 1) | ((with_reducible refine gate_dst (N := 26) rfl ?_); refine Kd.R_lit Kd.string _ 9 ?hg (N := 26) ?hd (xs := ([(rd_T96 l0 x12_1).f0, t335] : List ByteArray)) (inner := [.string ((rd_T96 l0 x12_1).f0), .string t335]) (ok := fun _ => True) (okp := fun _ => True) ?hr ?hp (fun _ hk => hk) trivial (Below.refl _ _) (Nat.le_refl _) (by simp) ?_; (case hd => rfl); (case hg => rfl); (case hr => first | (go_simp; done) | (go_simp; rfl)); (case hp => exact (Reps.one (show Kd.M Kd.string _ _ _ ((rd_T96 l0 x12_1).f0) [.string ((rd_T96 l0 x12_1).f0)] from rfl) (Reps.one (show Kd.M Kd.string _ _ _ t335 [.string t335] from rfl) (Reps.none _ _)))); intro v338 w12 ho13 hb hg_ hnew_; clear hg_ hnew_; (first | rw [← Ny337.out] at ho13 | (simp only [Int.reduceToNat] at ho13; rw [← Ny337.out] at ho13)); have n0_ := Aside0.mk (Kd.R_elder' (apAR HO_3.out) (Kd.R_base ho13) hb); have n1_ := Aside0.mk (Kd.R_lower (Kd.R_new' ho13 (Kd.R_lt (apAR HO_3.out))) (below_size (apG GE334.out))); have n2_ := Aside0.mk (blk_below (g := gb334) (o := .cells #[.string ((rd_T96 l0 x12_1).f0), .string ((rd_T96 l0 x12_1).f1)] 96 (0, 0)) (apB BK334.out) hb); have n3_ := Aside0.mk (below_step (apG GE334.out) hb); clear HO_3; clear BK334; clear HB; have HO_3 := n0_; have HO339 := n1_; have BK334 := n2_; have HB := n3_; clear n0_ n1_ n2_ n3_; clear hb ho13; obtain ⟨Ao14, co14, eo14⟩ := Kd.R_slice HO339.out; subst eo14) | ((with_reducible refine gate_callee (f := 126) rfl ?_); refine goesL_ (some 27) rfl rfl Tryz.func126 (by kernel_rfl) rfl #[.slice Ao14 y337.length co14] rfl ap3 ?_; (with_reducible refine (field_Tuple.calls _ _ y337 t340 t341 _ ?side1 ?side2 ?side3 A6.out).mono ?_); (case side1 => repeat (first | exact (Kd.R_reads' HO339.out).2.2 | (with_reducible refine Kd.C_alloc ?_ _) | (with_reducible refine Kd.C_drewN ?_ _) | (with_reducible refine Kd.C_drew ?_))); (case side2 => exact (Kd.R_reads' HO339.out).2.1); (case side3 => first | exact HG.out | (refine Gw.below HG.out ?_; repeat (first | (with_reducible first | exact HB.out | apply below_alloc | apply pw_below_drewN | apply below_drew1 | refine below_set ?_ GE334.out) | exact HB.out))); rintro e w15 ⟨rfl, hb⟩; refine ⟨_, rfl, ?_⟩; have n0_ := Aside0.mk (Kd.R_below (apAR HO_3.out) hb); have n1_ := Aside0.mk (Kd.R_below (apAR HO339.out) hb); have n2_ := Aside0.mk (blk_below (g := gb334) (o := .cells #[.string ((rd_T96 l0 x12_1).f0), .string ((rd_T96 l0 x12_1).f1)] 96 (0, 0)) (apB BK334.out) hb); have n3_ := Aside0.mk (below_step (apG GE334.out) hb); clear HO_3; clear HO339; clear BK334; clear HB; have HO_3 := n0_; have HO339 := n1_; have BK334 := n2_; have HB := n3_; clear n0_ n1_ n2_ n3_; (try clear hb); (try clear hb2); (try clear hk); (try clear hi)) | ((with_reducible refine gate_builtin (b := .append) (xs := #[.tmp 30, .tmp 32]) rfl ?_); at_builtin; refine Kd.R_append Kd.string (w0 := w) w.heap.size rfl (.tmp 30) (.tmp 32) 31 9 (.string ⟨#[]⟩) 16 rfl Tryz.underlying31 info9 rfl (by decide) (by omega) u3 x3_1 t340 [.string t340] (fun k_ => some k_ ≠ (.slice Ao14 y337.length co14 : Value).ownBlock) (fun _ => False) rfl rfl ?aP (fun _ hk => hk.elim) ?aF ?aO ?aB ?aS ?aL ?_; (case aP => exact rfl); (case aB => exact (apG GE334.out)); (case aF => exact (fun k_ hk => Kd.fresh' (Kd.R_lt (apAR HO339.out)) k_ hk)); (case aO => exact (by (with_reducible repeat (first | apply Kd.R_alloc | apply Kd.R_drewN | apply Kd.R_drew)); exact Kd.R_mono HO_3.out (fun _ hk => hk.2))); (case aS => exact (below_size (apG GE334.out))); (case aL => have := LMc7.out; omega); intro v343 w16 ho hb hg hat; rw [← Ny342.out] at ho; have n0_ := Aside0.mk (blk_grown (g := gb334) (o := .cells #[.string ((rd_T96 l0 x12_1).f0), .string ((rd_T96 l0 x12_1).f1)] 96 (0, 0)) (apB BK334.out) hg (Kd.R_ne HO_3.out BK334.out (by decide))); have n1_ := Aside0.mk (Kd.R_after (ok := (fun _ => True)) (apAR HO339.out) hg hat); have n2_ := Aside0.mk (hb); have n3_ := Aside0.mk (ho); clear BK334; clear HO339; clear HB; clear HO_3; have BK334 := n0_; have HO339 := n1_; have HB := n2_; have HO344 := n3_; clear n0_ n1_ n2_ n3_; clear ho hb hg hat))
       go_roundg k1
       case measure => have := HK1.out; omega
       case rel => exact ⟨(y342), (wrap64 (x12_1 + 1)), ap2, H', ⟨by have := HK1.out; omega⟩, ⟨by (with_reducible repeat (first | apply Kd.R_alloc | apply Kd.R_drewN | apply Kd.R_drew)); exact Kd.R_mono HO344.out (fun _ hk => trivial)⟩, ⟨by repeat (first | (with_reducible first | exact HB.out | apply below_alloc | apply pw_below_drewN | apply below_drew1 | refine below_set ?_ GE334.out) | exact HB.out)⟩⟩
      ·
       rw [if_neg c7] at H
       exact absurd H (by simp)
     ·
      rw [if_neg c4] at H
      exact absurd H (by simp)
    ·
     rw [if_neg c3] at H
     exact absurd H (by simp)
   ·
    rw [if_neg c2] at H
    have c2b0 := decide_eq_false c2
    clear c2
    replace H := Option.bind_eq_some_iff.mp H
    obtain ⟨t345, A170, H⟩ := H
    replace H : (some t345) = some r := H
    have A17 := Aside0.mk A170
    clear A170
    obtain rfl := Option.some.inj H
    have JL := Aside0.mk A17.out
    obtain ⟨Ao18, co18, eo18⟩ := Kd.R_slice HO_3.out
    subst eo18
    go_wp2_with (first | ((with_reducible refine gate_callee (f := 127) rfl ?_); refine goesL_ (some 36) rfl rfl Tryz.func127 (by kernel_rfl) rfl #[.slice Ao18 x3_1.length co18] rfl ap3 ?_; (with_reducible refine (sort_own Ao18 co18 x3_1 w.heap.size _ ?sa ?sb ?sc).mono ?_); (case sa => exact (apAR HO_3.out)); (case sb => exact (below_size ap1)); (case sc => exact join_le JL.out); rintro e w90 ⟨rfl, ho0, hb⟩; refine ⟨_, rfl, ?_⟩; have n0_ := Aside0.mk ho0; have n1_ := Aside0.mk (Below.trans ap1 hb); clear HO_3; clear HB; have HO_3 := n0_; have HB := n1_; clear n0_ n1_; clear hb ho0) | ((with_reducible refine gate_callee (f := 71) rfl ?_); refine goesL_ (some 38) rfl rfl Tryz.func71 (by kernel_rfl) rfl #[.slice Ao18 x3_1.length co18, .string (⟨#[]⟩ : ByteArray)] rfl ap3 ?_; (with_reducible refine (join_n _ _ (sortB x3_1) x3_1.length (sortB_len _) (⟨#[]⟩ : ByteArray) t345 _ ?side1 ?side2 A17.out).mono ?_); (case side1 => repeat (first | exact (reads_srt HO_3.out).2 | (with_reducible refine Kd.C_alloc ?_ _) | (with_reducible refine Kd.C_drewN ?_ _) | (with_reducible refine Kd.C_drew ?_))); (case side2 => exact (reads_srt HO_3.out).1); rintro e w19 ⟨rfl, hb⟩; refine ⟨_, rfl, ?_⟩; have n0_ := Aside0.mk (Kd.R_below (apAR HO_3.out) hb); have n1_ := Aside0.mk (below_step ap1 hb); clear HO_3; clear HB; have HO_3 := n0_; have HB := n1_; clear n0_ n1_; (try clear hb); (try clear hb2); (try clear hk); (try clear hi)))
    go_ret
    exact ⟨by first | rfl | (simp [errW_none, errW_some, bne_nil8, beq_nil8]; done) | (simp [errW_none, errW_some] <;> rfl) | (simp [*, errW_none, errW_some] <;> rfl), by repeat (first | (with_reducible first | exact HB.out | apply below_alloc | apply pw_below_drewN | apply below_drew1) | exact HB.out)⟩
def dn_Keys.l0 : Nat → List (List (S96)) → List ByteArray → Int → Int → Option (List ByteArray × Int)
 | 0, _, _, _, _ => none
 | k + 1, x0, x4, x10, x11 => if x11 < x10 then (if 0 ≤ (wrap64 ((wrap64 ((x0.length : Int) - 1)) - x11)) then (if (wrap64 ((wrap64 ((x0.length : Int) - 1)) - x11)) < (x0.length : Int) then ((dn_key.f k (rd_L8 x0 (wrap64 ((wrap64 ((x0.length : Int) - 1)) - x11)))).bind fun t348 => (if x4.length < 8796093022208 then (dn_Keys.l0 k x0 (x4 ++ [t348]) x10 (wrap64 (x11 + 1))) else (none))) else (none)) else (none)) else (some (x4, 0))
def dn_Keys.f (k : Nat) (l0 : List (List (S96))) : Option (List ByteArray × Int) := (dn_Right.f k l0).bind fun t346 => (if t346 = true then (dn_Keys.l0 k l0 ([] : List ByteArray) (l0.length : Int) 0) else (some (([] : List ByteArray), 4)))
theorem dn_Keys.mono_l : ∀ k, (∀ y0 y1 y2 y3, LeO (dn_Keys.l0 k y0 y1 y2 y3) (dn_Keys.l0 (k + 1) y0 y1 y2 y3))
 | 0 => fun _ _ _ _ r h => by simp [dn_Keys.l0] at h
 | k + 1 => by
  have ih0 := dn_Keys.mono_l k
  ·
   intro y0 y1 y2 y3
   unfold dn_Keys.l0
   repeat' first
   | (with_reducible exact ih0 _ _ _ _)
   | (with_reducible exact dn_Right.mono _ _)
   | (with_reducible exact dn_key.mono _ _)
   | (with_reducible exact LeO.refl _)
   | (with_reducible exact LeO.none _)
   | (with_reducible refine LeO.ite ?_ ?_)
   | (with_reducible refine LeO.bind ?_ (fun _ => ?_))
theorem dn_Keys.mono : ∀ a0 k, LeO (dn_Keys.f k a0) (dn_Keys.f (k + 1) a0) := by
 intro a0 k
 have ih0 := dn_Keys.mono_l k
 unfold dn_Keys.f
 repeat' first
   | (with_reducible exact ih0 _ _ _ _)
   | (with_reducible exact dn_Right.mono _ _)
   | (with_reducible exact dn_key.mono _ _)
   | (with_reducible exact LeO.refl _)
   | (with_reducible exact LeO.none _)
   | (with_reducible refine LeO.ite ?_ ?_)
   | (with_reducible refine LeO.bind ?_ (fun _ => ?_))
set_option maxHeartbeats 8000000 in
set_option maxRecDepth 100000 in
theorem dn_Keys.calls (k : Nat) (A0 : Option Addr) (c0 : Nat) (l0 : List (List (S96))) (r1 : List ByteArray) (r2 : Int) (w : World) (hr0 : Kd.C (Kd.slice 96 k96) w A0 l0.length l0) (hc0 : l0.length ≤ c0) (hG : Gw w) (h : dn_Keys.f k l0 = some (r1, r2)) :
  Calls Tryz.prog 70 #[.slice A0 l0.length c0] w fun e w' => ∃ v0_ : Value, e = .returned (.tuple #[v0_, .int .i64 r2]) ∧ Kd.R Kd.string 9 w' w.heap.size (fun _ => True) v0_ r1 ∧ Below w.heap.size w w' := by
 have HR0 := Aside0.mk hr0
 have HC0 := Aside0.mk hc0
 clear hr0 hc0
 have HB := Aside0.mk (Below.refl w.heap.size w)
 have HG := Aside0.mk hG
 clear hG
 have H : ((dn_Right.f k l0).bind fun t346 => (if t346 = true then (dn_Keys.l0 k l0 ([] : List ByteArray) (l0.length : Int) 0) else (some (([] : List ByteArray), 4)))) = some (r1, r2) := h
 clear h
 replace H := Option.bind_eq_some_iff.mp H
 obtain ⟨t346, A20, H⟩ := H
 replace H : (if t346 = true then (dn_Keys.l0 k l0 ([] : List ByteArray) (l0.length : Int) 0) else (some (([] : List ByteArray), 4))) = some (r1, r2) := H
 have A2 := Aside0.mk A20
 clear A20
 by_cases c3 : t346 = true
 ·
  subst c3
  rw [if_pos rfl] at H
  have H' := Aside0.mk H
  clear H
  go_enter Tryz.func70, Tryz.ntmps70
  go_wp2_with (first | ((with_reducible refine gate_callee (f := 99) rfl ?_); refine goesL_ (some 7) rfl rfl Tryz.func99 (by kernel_rfl) rfl #[.slice A0 l0.length c0] rfl ap3 ?_; (with_reducible refine (dn_Right.calls k _ _ l0 true _ ?side1 ?side2 ?side3 A2.out).mono ?_); (case side1 => repeat (first | exact HR0.out | (with_reducible refine Kd.C_alloc ?_ _) | (with_reducible refine Kd.C_drewN ?_ _) | (with_reducible refine Kd.C_drew ?_))); (case side2 => exact HC0.out); (case side3 => exact ap6); rintro e w4 ⟨rfl, hb⟩; refine ⟨_, rfl, ?_⟩; have n0_ := Aside0.mk (below_step ap1 hb); clear HB; have HB := n0_; clear n0_; (try clear hb); (try clear hb2); (try clear hk); (try clear hi)))
  go_loopg [4, 11] k (fun kq v4 v11 w' => ∃ (x4_1 : List ByteArray) (x11_1 : Int), v11 = .int .i64 x11_1 ∧ Aside0 (dn_Keys.l0 kq l0 x4_1 (l0.length : Int) x11_1 = some (r1, r2)) ∧ Aside0 (kq ≤ k) ∧ Aside0 (Kd.R Kd.string 9 w' w.heap.size (fun _ => True) v4 x4_1) ∧ Aside0 (Below w.heap.size w w'))
  case atStart => exact ⟨(([] : List ByteArray)), (0), ap2, H', ⟨Nat.le_refl _⟩, ⟨by first | exact Kd.R_nil _ _ _ _ _ | exact Kd.N_nil _ _ _ _ _ | exact Kd.V_nil _ _ _ _ _ | exact Kd.Q_nil _ _ _ _ _ | exact Kd.S_nil _ _ _ _ _⟩, ⟨by repeat (first | (with_reducible first | exact HB.out | apply below_alloc | apply pw_below_drewN | apply below_drew1) | exact HB.out)⟩⟩
  case round =>
   clear H'
   try clear p2
   try clear c3
   obtain ⟨x4_1, x11_1, rfl, HA, HK1, HO_4, HB⟩ := hrel
   cases gk with
   | zero => exact absurd HA.out (by simp [dn_Keys.l0])
   | succ k1 =>
    have H := HA.out
    clear HA
    simp only [dn_Keys.l0] at H
    by_cases c5 : x11_1 < (l0.length : Int)
    ·
     rw [if_pos c5] at H
     have c5b0 := decide_eq_true c5
     clear c5
     obtain ⟨ji6, hji6⟩ : ∃ j_ : Int, (wrap64 ((wrap64 ((l0.length : Int) - 1)) - x11_1)) = j_ := ⟨_, rfl⟩
     replace H : (if 0 ≤ (ji6) then (if (ji6) < (l0.length : Int) then ((dn_key.f k1 (rd_L8 l0 (ji6))).bind fun t348 => (if x4_1.length < 8796093022208 then (dn_Keys.l0 k1 l0 (x4_1 ++ [t348]) (l0.length : Int) (wrap64 (x11_1 + 1))) else (none))) else (none)) else (none)) = some (r1, r2) := by first | (rw [hji6] at H; exact H) | (simp only [hji6] at H ⊢; exact H)
     have hji6w : (IntKind.i64.wrap ((wrap64 ((l0.length : Int) - 1)) - x11_1)) = ji6 := (i64_w _).trans hji6
     by_cases c7 : 0 ≤ (ji6)
     ·
      rw [if_pos c7] at H
      have c7b0 := decide_eq_true c7
      clear c7
      by_cases c8 : (ji6) < (l0.length : Int)
      ·
       rw [if_pos c8] at H
       have c8b0 := decide_eq_true c8
       clear c8
       replace H := Option.bind_eq_some_iff.mp H
       obtain ⟨t348, A90, H⟩ := H
       replace H : (if x4_1.length < 8796093022208 then (dn_Keys.l0 k1 l0 (x4_1 ++ [t348]) (l0.length : Int) (wrap64 (x11_1 + 1))) else (none)) = some (r1, r2) := H
       have A9 := Aside0.mk A90
       clear A90
       by_cases c10 : x4_1.length < 8796093022208
       ·
        rw [if_pos c10] at H
        have LMc10 := Aside0.mk c10
        clear c10
        obtain ⟨y349, hy349⟩ : ∃ y_ : List ByteArray, y_ = (x4_1 ++ [t348]) := ⟨_, rfl⟩
        replace H : (dn_Keys.l0 k1 l0 y349 (l0.length : Int) (wrap64 (x11_1 + 1))) = some (r1, r2) := by first | (rw [hy349]; with_reducible exact H) | (have H2_ := (Option.bind_some _ _).symm.trans H; rw [hy349]; with_reducible exact H2_) | (have H2_ := (Option.bind_some _ _).symm.trans H; with_reducible exact H2_) | with_reducible exact H | (rw [hy349]; exact H) | exact H
        have Ny349 := Aside0.mk hy349
        clear hy349
        have H' := Aside0.mk H
        clear H
        have p347 : 0 ≤ ((ji6) : Int) := of_decide_eq_true ap0
        have q347 : (ji6) < (l0.length : Int) := of_decide_eq_true ap0
        obtain ⟨ad347, A347_0, c347_0, e347, hx347_0, hl347_0, hi347_0⟩ := at_L8 HR0.out (ji6) p347 q347
        cases e347
        replace hx347_0 := (HB.out.cell (World.block_lt_of_cell? w _ hx347_0)).trans hx347_0
        have HR347_0 := Aside0.mk hi347_0
        have HC347_0 := Aside0.mk hl347_0
        clear hi347_0 hl347_0
        replace p347 := eq_true p347
        replace q347 := eq_true q347
        go_wp2_with (first | ((with_reducible refine gate_callee (f := 100) rfl ?_); refine goesL_ (some 23) rfl rfl Tryz.func100 (by kernel_rfl) rfl #[.slice A347_0 (rd_L8 l0 (ji6)).length c347_0] rfl (by (try simp only [List.map_toArray, List.map_cons, List.map_nil]); first | done | (simp only [hji6]; rfl) | rfl | (simp only [List.length_drop, List.length_take]; rfl)) ?_; (with_reducible refine (dn_key.calls k1 _ _ (rd_L8 l0 (ji6)) t348 _ ?side1 ?side2 ?side3 A9.out).mono ?_); (case side1 => repeat (first | exact (Kd.C_below HR347_0.out HB.out) | (with_reducible refine Kd.C_alloc ?_ _) | (with_reducible refine Kd.C_drewN ?_ _) | (with_reducible refine Kd.C_drew ?_))); (case side2 => exact HC347_0.out); (case side3 => exact ap6); rintro e w11 ⟨rfl, hb⟩; refine ⟨_, rfl, ?_⟩; have n0_ := Aside0.mk (Kd.R_below (apAR HO_4.out) hb); have n1_ := Aside0.mk (below_step ap1 hb); clear HO_4; clear HB; have HO_4 := n0_; have HB := n1_; clear n0_ n1_; (try clear hb); (try clear hb2); (try clear hk); (try clear hi)) | ((with_reducible refine gate_builtin (b := .append) (xs := #[.tmp 14, .tmp 24]) rfl ?_); at_builtin; refine Kd.R_append Kd.string (w0 := w) w.heap.size rfl (.tmp 14) (.tmp 24) 31 9 (.string ⟨#[]⟩) 16 rfl Tryz.underlying31 info9 rfl (by decide) (by omega) u4 x4_1 t348 [.string t348] (fun _ => True) (fun _ => False) rfl rfl ?aP (fun _ hk => hk.elim) ?aF ?aO ?aB ?aS ?aL ?_; (case aP => exact rfl); (case aB => exact ap1); (case aF => exact (fun _ _ => trivial)); (case aO => exact (apAR HO_4.out)); (case aS => exact (below_size ap1)); (case aL => have := LMc10.out; omega); intro v350 w12 ho hb hg hat; rw [← Ny349.out] at ho; have n0_ := Aside0.mk (hb); have n1_ := Aside0.mk (ho); clear HB; clear HO_4; have HB := n0_; have HO351 := n1_; clear n0_ n1_; clear ho hb hg hat))
        go_roundg k1
        case measure => have := HK1.out; omega
        case rel => exact ⟨(y349), (wrap64 (x11_1 + 1)), ap2, H', ⟨by have := HK1.out; omega⟩, ⟨by (with_reducible repeat (first | apply Kd.R_alloc | apply Kd.R_drewN | apply Kd.R_drew)); exact HO351.out⟩, ⟨by repeat (first | (with_reducible first | exact HB.out | apply below_alloc | apply pw_below_drewN | apply below_drew1) | exact HB.out)⟩⟩
       ·
        rw [if_neg c10] at H
        exact absurd H (by simp)
      ·
       rw [if_neg c8] at H
       exact absurd H (by simp)
     ·
      rw [if_neg c7] at H
      exact absurd H (by simp)
    ·
     rw [if_neg c5] at H
     have c5b0 := decide_eq_false c5
     clear c5
     simp only [Option.some.injEq, Prod.mk.injEq] at H
     obtain ⟨rfl, rfl⟩ := H
     go_wp2
     go_ret2
     exact ⟨_, by first | rfl | (simp [errW_none, errW_some, bne_nil8, beq_nil8]; done) | (simp [errW_none, errW_some] <;> rfl) | (simp [*, errW_none, errW_some] <;> rfl), by (with_reducible repeat (first | apply Kd.R_alloc | apply Kd.R_drewN | apply Kd.R_drew)); exact HO_4.out, by repeat (first | (with_reducible first | exact HB.out | apply below_alloc | apply pw_below_drewN | apply below_drew1) | exact HB.out)⟩
 ·
  replace c3 := Bool.eq_false_iff.mpr c3
  subst c3
  rw [if_neg (show ¬ (false = true) by decide)] at H
  simp only [Option.some.injEq, Prod.mk.injEq] at H
  obtain ⟨rfl, rfl⟩ := H
  go_enter Tryz.func70, Tryz.ntmps70
  go_wp2_with (first | ((with_reducible refine gate_callee (f := 99) rfl ?_); refine goesL_ (some 7) rfl rfl Tryz.func99 (by kernel_rfl) rfl #[.slice A0 l0.length c0] rfl ap3 ?_; (with_reducible refine (dn_Right.calls k _ _ l0 false _ ?side1 ?side2 ?side3 A2.out).mono ?_); (case side1 => repeat (first | exact HR0.out | (with_reducible refine Kd.C_alloc ?_ _) | (with_reducible refine Kd.C_drewN ?_ _) | (with_reducible refine Kd.C_drew ?_))); (case side2 => exact HC0.out); (case side3 => exact ap6); rintro e w13 ⟨rfl, hb⟩; refine ⟨_, rfl, ?_⟩; have n0_ := Aside0.mk (below_step ap1 hb); clear HB; have HB := n0_; clear n0_; (try clear hb); (try clear hb2); (try clear hk); (try clear hi)))
  go_ret2
  exact ⟨_, by first | rfl | (simp [errW_none, errW_some, bne_nil8, beq_nil8]; done) | (simp [errW_none, errW_some] <;> rfl) | (simp [*, errW_none, errW_some] <;> rfl), by first | exact Kd.R_nil _ _ _ _ _ | exact Kd.N_nil _ _ _ _ _ | exact Kd.V_nil _ _ _ _ _ | exact Kd.Q_nil _ _ _ _ _ | exact Kd.S_nil _ _ _ _ _, by repeat (first | (with_reducible first | exact HB.out | apply below_alloc | apply pw_below_drewN | apply below_drew1) | exact HB.out)⟩
end Go.Proofs.YtpklcnpmppaaoaaGreatDoor.Print
namespace Go.Proofs.YtpklcnpmppaaoaaGreatDoor.Print
open Go.RowKit Go.Proofs.YtpklcnpmppaaoaaGreatDoorW.PrintWords Go.Proofs.YtpklcnpmppaaoaaGreatDoorW.PrintLast Go.Proofs.YtpklcnpmppaaoaaGreatDoorW.PrintMore Go.Proofs.YtpklcnpmppaaoaaGreatDoor.Pure
set_option linter.unusedVariables false
set_option linter.unusedSimpArgs false
def readyB (s : ByteArray) : ByteArray := match readyOf true s with
  | some t => ⟨t.toArray⟩
  | none => ⟨#[]⟩
def tupB (l : List ByteArray) : ByteArray × Int :=
  if 16 < l.length then (⟨#[]⟩, 1) else if l.any (fun p => decide (4096 < p.size)) = true then (⟨#[]⟩, 5) else if 4096 < (tupOf l).length then (⟨#[]⟩, 5) else (⟨(tupOf l).toArray⟩, 0)
theorem tup_f (l : List ByteArray) : field_Tuple.f l = some (tupB l) := by
  unfold field_Tuple.f tupB
  by_cases h1 : 16 < l.length
  · rw [if_pos h1, if_pos h1]
  rw [if_neg h1, if_neg h1]
  by_cases h2 : l.any (fun p => decide (4096 < p.size)) = true
  · rw [if_pos h2, if_pos h2]
  rw [if_neg h2, if_neg h2]
  by_cases h3 : 4096 < (tupOf l).length
  · rw [if_pos h3, if_pos h3]
  · rw [if_neg h3, if_neg h3]
theorem tupB_len (l : List ByteArray) : (tupB l).1.size ≤ 4096 := by
  unfold tupB
  by_cases h1 : 16 < l.length
  · rw [if_pos h1]; decide
  rw [if_neg h1]
  by_cases h2 : l.any (fun p => decide (4096 < p.size)) = true
  · rw [if_pos h2]; decide
  rw [if_neg h2]
  by_cases h3 : 4096 < (tupOf l).length
  · rw [if_pos h3]; decide
  · rw [if_neg h3]; show (mkB (tupOf l)).size ≤ _; rw [mkB_size]; omega
def tupV (a : AvaS) : ByteArray := (tupB [a.f0, readyB a.f1]).1
theorem joinB_none (xs : List ByteArray) : joinB xs (⟨#[]⟩ : ByteArray) = (xs.map bl).flatten := by
  show ([] : List UInt8).intercalate (xs.map bl) = _
  cases h : xs.map bl with
  | nil => rfl
  | cons w ws => rw [inter_cons, List.flatten_cons, List.flatMap_def]; simp
theorem flat_len (B : Nat) : ∀ (l : List (List UInt8)), (∀ x ∈ l, x.length ≤ B) → l.flatten.length ≤ l.length * B
  | [], _ => by simp
  | x :: l, h => by
    have ih := flat_len B l fun y hy => h y (by simp [hy])
    have := h x (by simp)
    rw [List.flatten_cons, List.length_append, List.length_cons, Nat.succ_mul]; omega
theorem sortL_mem (l : List (List UInt8)) : ∀ x, x ∈ sortL l ↔ x ∈ l := fun x => (List.mergeSort_perm l _).mem_iff
theorem sortB_size (xs : List ByteArray) (h : ∀ x ∈ xs, x.size ≤ 4096) : ∀ x ∈ (sortB xs).map bl, x.length ≤ 4096 := by
  intro x hx
  unfold sortB at hx
  rw [List.map_map] at hx
  obtain ⟨y, hy, rfl⟩ := List.mem_map.1 hx
  obtain ⟨z, hz, rfl⟩ := List.mem_map.1 ((sortL_mem _ _).1 hy)
  have := h z hz
  rw [← bl_length] at this
  simpa using this
def keyOf (l : List AvaS) : ByteArray := ⟨((sortB (l.map tupV)).map bl).flatten.toArray⟩
theorem key_join (l : List AvaS) (h : l.length ≤ 1000) : strings_Join.f (sortB (l.map tupV)) (⟨#[]⟩ : ByteArray) = some (keyOf l) := by
  have hlen : (sortB (l.map tupV)).length = l.length := by rw [sortB_len, List.length_map]
  have hB := flat_len 4096 ((sortB (l.map tupV)).map bl) (sortB_size _ fun x hx => by
    obtain ⟨a, _, rfl⟩ := List.mem_map.1 hx
    exact tupB_len _)
  rw [List.length_map, hlen] at hB
  have h2 : l.length * 4096 ≤ 1000 * 4096 := Nat.mul_le_mul_right _ h
  unfold strings_Join.f
  rw [if_pos (by omega), joinB_none, if_pos (by omega)]; rfl
theorem ready_ev' (s : ByteArray) (hs : s.size ≤ 100000) : ∃ e, Ev (fun k => prep_Ready.f k s true) (readyB s, e) := by
  have h := ready_ev s hs true
  unfold readyB
  cases hr : readyOf true s with
  | none => rw [hr] at h; exact ⟨_, h⟩
  | some t => rw [hr] at h; exact ⟨_, h⟩
theorem take_next {α : Type} {l : List α} {i : Nat} {x : α} {r : List α} (h : l.drop i = x :: r) : l.take (i + 1) = l.take i ++ [x] := by
  obtain ⟨g1, g0, _⟩ := getD_at (d := x) h
  rw [List.take_succ_eq_append_getElem g1]
  congr 2
  rw [Int.toNat_natCast, List.getD_eq_getElem?_getD, List.getElem?_eq_getElem g1] at g0
  simpa using g0
theorem key_loop (l : List AvaS) (hl : l.length ≤ 1000) (hs : ∀ a ∈ l, szA a) : ∀ (m i : Nat), l.length - i = m → i ≤ l.length → Ev (fun k => dn_key.l0 k ((l.take i).map tupV) l (l.length : Int) (i : Int)) (keyOf l) := by
  intro m
  induction m with
  | zero =>
    intro i hm hi
    rw [List.take_of_length_le (by omega)]
    refine Ev.step (fun k => by rw [dn_key.l0]) ?_
    exact Ev.neg (by omega) (Ev.bindc (key_join l hl) Ev.rfl')
  | succ m ih =>
    intro i hm hi
    cases hr : l.drop i with
    | nil => have := List.drop_eq_nil_iff.1 hr; omega
    | cons a r =>
      obtain ⟨g1, _, g3⟩ := getD_at (d := a) hr
      have g2 := rdA_at hr
      have hsz := hs a (by
        have : a ∈ l.drop i := by rw [hr]; simp
        exact List.mem_of_mem_drop this)
      have hi2 := ih (i + 1) (by omega) (by omega)
      rw [take_next hr, List.map_append] at hi2
      obtain ⟨e, he⟩ := ready_ev' a.f1 hsz.2
      refine Ev.step (fun k => by rw [dn_key.l0]) ?_
      rw [g2, wsucc (by omega)]
      refine Ev.pos (by omega) (Ev.pos (by omega) (Ev.pos (by omega) (Ev.bind he ?_)))
      refine Ev.bindc (tup_f _) ?_
      exact Ev.pos (by rw [List.length_map, List.length_take]; omega) hi2
theorem key_ev (l : List AvaS) (hl : l.length ≤ 1000) (hs : ∀ a ∈ l, szA a) : Ev (fun k => dn_key.f k l) (keyOf l) := by
  unfold dn_key.f
  exact key_loop l hl hs _ 0 rfl (Nat.zero_le _)
def keysOf (n : List (List AvaS)) : List ByteArray := n.reverse.map keyOf
theorem rdR_get {n : List (List AvaS)} {j : Nat} (h : j < n.length) : rdR n (j : Int) = n[j] := rdR_at (r := n.drop (j + 1)) (List.drop_eq_getElem_cons h)
theorem keys_loop (n : List (List AvaS)) (hn : n.length ≤ 1000) (hs : ∀ l ∈ n, l.length ≤ 1000 ∧ ∀ a ∈ l, szA a) : ∀ (m i : Nat), n.length - i = m → i ≤ n.length → Ev (fun k => dn_Keys.l0 k n ((n.reverse.take i).map keyOf) (n.length : Int) (i : Int)) (keysOf n, 0) := by
  intro m
  induction m with
  | zero =>
    intro i hm hi
    rw [List.take_of_length_le (by rw [List.length_reverse]; omega)]
    refine Ev.step (fun k => by rw [dn_Keys.l0]) ?_
    exact Ev.neg (by omega) Ev.rfl'
  | succ m ih =>
    intro i hm hi
    have hlt : i < n.length := by omega
    have hi2 := ih (i + 1) (by omega) (by omega)
    have hj : n.length - 1 - i < n.length := by omega
    have hx : wrap64 ((wrap64 ((n.length : Int) - 1)) - (i : Int)) = ((n.length - 1 - i : Nat) : Int) := by unfold wrap64; omega
    have hr : n.reverse.drop i = n[n.length - 1 - i] :: n.reverse.drop (i + 1) := by
      rw [List.drop_eq_getElem_cons (by rw [List.length_reverse]; exact hlt), List.getElem_reverse]
    rw [take_next hr, List.map_append] at hi2
    obtain ⟨z1, z2⟩ := hs n[n.length - 1 - i] (List.getElem_mem _)
    refine Ev.step (fun k => by rw [dn_Keys.l0]) ?_
    have hg : rd_L8 n ((n.length - 1 - i : Nat) : Int) = n[n.length - 1 - i] := rdR_get hj
    rw [hx, hg, wsucc (by omega)]
    refine Ev.pos (by omega) (Ev.pos (by omega) (Ev.pos (by omega) (Ev.bind (key_ev _ z1 z2) ?_)))
    exact Ev.pos (by rw [List.length_map, List.length_take]; omega) hi2
theorem nameOk_sz {n : List (List AvaS)} (h : nameOk n = true) : n.length ≤ 12 ∧ ∀ l ∈ n, l.length ≤ 4 := by
  unfold nameOk at h
  rw [Bool.and_eq_true] at h
  refine ⟨by simpa using h.1, fun l hl => ?_⟩
  have := List.all_eq_true.1 h.2 l hl
  unfold rdnOk at this
  rw [Bool.and_eq_true] at this
  have h1 := of_decide_eq_true this.1
  exact h1.2
theorem keys_ev (n : List (List AvaS)) (hl : n.length ≤ 1000000) (h : szN n) : Ev (fun k => dn_Keys.f k n) (if nameOk n = true then (keysOf n, 0) else ([], 4)) := by
  unfold dn_Keys.f
  refine Ev.bind (right_ev n hl h) ?_
  cases hn : nameOk n with
  | false => exact Ev.neg (by simp) (by simpa using Ev.rfl')
  | true =>
    rw [if_pos rfl]
    obtain ⟨h1, h2⟩ := nameOk_sz hn
    exact Ev.pos rfl (keys_loop n (by omega) (fun l hl => ⟨by have := h2 l hl; omega, (h l hl).2⟩) _ 0 rfl (Nat.zero_le _))
theorem keysOf_len (n : List (List AvaS)) : (keysOf n).length = n.length := by unfold keysOf; simp
end Go.Proofs.YtpklcnpmppaaoaaGreatDoor.Print
namespace Go.Proofs.YtpklcnpmppaaoaaGreatDoor.Print
open Go.RowKit Go.Proofs.YtpklcnpmppaaoaaGreatDoorW.PrintWords Go.Proofs.YtpklcnpmppaaoaaGreatDoorW.PrintLast Go.Proofs.YtpklcnpmppaaoaaGreatDoorW.PrintMore
attribute [local go_sem] max2_int min2_int max_two min_two max_three min_three max_four min_four
set_option linter.unusedVariables false
set_option linter.unusedSimpArgs false
def stringslite_TrimPrefix.f (a0 : ByteArray) (a1 : ByteArray) : Option (ByteArray) := (stringslite_HasPrefix.f a0 a1).bind fun t155 => (if t155 = true then (if 0 ≤ (a1.size : Int) then (if (a1.size : Int) ≤ (a0.size : Int) then (some (a0.extract ((a1.size : Int) : Int).toNat a0.size)) else (none)) else (none)) else (some a0))
set_option maxHeartbeats 8000000 in
set_option maxRecDepth 100000 in
theorem stringslite_TrimPrefix.calls (a0 : ByteArray) (a1 : ByteArray) (r : ByteArray) (w : World) (h : stringslite_TrimPrefix.f a0 a1 = some r) :
  Calls Tryz.prog 121 #[.string a0, .string a1] w fun e w' => e = .returned (.string r) ∧ Drawn0 w w' := by
 have H : ((stringslite_HasPrefix.f a0 a1).bind fun t155 => (if t155 = true then (if 0 ≤ (a1.size : Int) then (if (a1.size : Int) ≤ (a0.size : Int) then (some (a0.extract ((a1.size : Int) : Int).toNat a0.size)) else (none)) else (none)) else (some a0))) = some r := h
 clear h
 replace H := Option.bind_eq_some_iff.mp H
 obtain ⟨t155, A30, H⟩ := H
 replace H : (if t155 = true then (if 0 ≤ (a1.size : Int) then (if (a1.size : Int) ≤ (a0.size : Int) then (some (a0.extract ((a1.size : Int) : Int).toNat a0.size)) else (none)) else (none)) else (some a0)) = some r := H
 have A3 := Aside0.mk A30
 clear A30
 by_cases c4 : t155 = true
 ·
  subst c4
  rw [if_pos rfl] at H
  by_cases c5 : 0 ≤ (a1.size : Int)
  ·
   rw [if_pos c5] at H
   have c5b0 := eq_true c5
   have c5b1 := decide_eq_true c5
   clear c5
   by_cases c6 : (a1.size : Int) ≤ (a0.size : Int)
   ·
    rw [if_pos c6] at H
    have c6b0 := eq_true c6
    have c6b1 := decide_eq_true c6
    clear c6
    obtain rfl := Option.some.inj H
    go_enter Tryz.func121, Tryz.ntmps121
    go_wp2_with (first | ((with_reducible refine gate_callee (f := 90) rfl ?_); refine goesL_ (some 7) rfl rfl Tryz.func90 (by kernel_rfl) rfl #[.string a0, .string a1] rfl ap3 ?_; (with_reducible refine (stringslite_HasPrefix.calls a0 a1 true _ A3.out).mono ?_); rintro e w' ⟨rfl, ⟨nd, rfl⟩⟩; refine ⟨_, rfl, ?_⟩))
    go_ret
    exact ⟨ap2, ap7⟩
   ·
    rw [if_neg c6] at H
    exact absurd H (by simp)
  ·
   rw [if_neg c5] at H
   exact absurd H (by simp)
 ·
  replace c4 := Bool.eq_false_iff.mpr c4
  subst c4
  rw [if_neg (show ¬ (false = true) by decide)] at H
  obtain rfl := Option.some.inj H
  go_enter Tryz.func121, Tryz.ntmps121
  go_wp2_with (first | ((with_reducible refine gate_callee (f := 90) rfl ?_); refine goesL_ (some 7) rfl rfl Tryz.func90 (by kernel_rfl) rfl #[.string a0, .string a1] rfl ap3 ?_; (with_reducible refine (stringslite_HasPrefix.calls a0 a1 false _ A3.out).mono ?_); rintro e w' ⟨rfl, ⟨nd, rfl⟩⟩; refine ⟨_, rfl, ?_⟩))
  go_ret
  exact ⟨ap2, ap7⟩
def strings_TrimPrefix.f (a0 : ByteArray) (a1 : ByteArray) : Option (ByteArray) := (stringslite_TrimPrefix.f a0 a1).bind fun t156 => (some t156)
set_option maxHeartbeats 8000000 in
set_option maxRecDepth 100000 in
theorem strings_TrimPrefix.calls (a0 : ByteArray) (a1 : ByteArray) (r : ByteArray) (w : World) (h : strings_TrimPrefix.f a0 a1 = some r) :
  Calls Tryz.prog 95 #[.string a0, .string a1] w fun e w' => e = .returned (.string r) ∧ Drawn0 w w' := by
 have H : ((stringslite_TrimPrefix.f a0 a1).bind fun t156 => (some t156)) = some r := h
 clear h
 replace H := Option.bind_eq_some_iff.mp H
 obtain ⟨t156, A30, H⟩ := H
 replace H : (some t156) = some r := H
 have A3 := Aside0.mk A30
 clear A30
 obtain rfl := Option.some.inj H
 go_enter Tryz.func95, Tryz.ntmps95
 go_wp2_with (first | ((with_reducible refine gate_callee (f := 121) rfl ?_); refine goesL_ (some 7) rfl rfl Tryz.func121 (by kernel_rfl) rfl #[.string a0, .string a1] rfl ap3 ?_; (with_reducible refine (stringslite_TrimPrefix.calls a0 a1 t156 _ A3.out).mono ?_); rintro e w' ⟨rfl, ⟨nd, rfl⟩⟩; refine ⟨_, rfl, ?_⟩))
 go_ret
 exact ⟨ap2, ap7⟩
mutual
def attr_number.j0 : Nat → ByteArray → Bool → Option (Bool)
 | 0, _, _ => none
 | k + 1, x3, x22 => if x22 = true then (some false) else (attr_number.l0 k x3 (x3.size : Int) 0)
def attr_number.l0 : Nat → ByteArray → Int → Int → Option (Bool)
 | 0, _, _, _ => none
 | k + 1, x3, x24, x25 => if x25 < x24 then (if 0 ≤ x25 then (if x25 < (x3.size : Int) then (if (bt x3 x25) < 48 then (some false) else (if (bt x3 x25) > 57 then (some false) else (attr_number.l0 k x3 x24 (wrap64 (x25 + 1))))) else (none)) else (none)) else (some true)
end
def attr_number.f (k : Nat) (a0 : ByteArray) : Option (Bool) := (strings_TrimPrefix.f a0 (⟨#[45]⟩ : ByteArray)).bind fun t157 => (if t157.toList = ([] : List UInt8) then (attr_number.j0 k t157 true) else (if (t157.size : Int) > 18 then (attr_number.j0 k t157 true) else (if 0 < (t157.size : Int) then (if (bt t157 0) = 48 then (attr_number.j0 k t157 (a0.toList != ([48] : List UInt8))) else (attr_number.j0 k t157 false)) else (none))))
theorem attr_number.mono_l : ∀ k, (∀ y0 y1, LeO (attr_number.j0 k y0 y1) (attr_number.j0 (k + 1) y0 y1)) ∧ (∀ y0 y1 y2, LeO (attr_number.l0 k y0 y1 y2) (attr_number.l0 (k + 1) y0 y1 y2))
 | 0 => ⟨fun _ _ r h => by simp [attr_number.j0] at h, fun _ _ _ r h => by simp [attr_number.l0] at h⟩
 | k + 1 => by
  obtain ⟨ih0, ih1⟩ := attr_number.mono_l k
  refine ⟨?_, ?_⟩
  ·
   intro y0 y1
   unfold attr_number.j0
   repeat' first
   | (with_reducible exact ih0 _ _)
   | (with_reducible exact ih1 _ _ _)
   | (with_reducible exact LeO.refl _)
   | (with_reducible exact LeO.none _)
   | (with_reducible refine LeO.ite ?_ ?_)
   | (with_reducible refine LeO.bind ?_ (fun _ => ?_))
  ·
   intro y0 y1 y2
   unfold attr_number.l0
   repeat' first
   | (with_reducible exact ih0 _ _)
   | (with_reducible exact ih1 _ _ _)
   | (with_reducible exact LeO.refl _)
   | (with_reducible exact LeO.none _)
   | (with_reducible refine LeO.ite ?_ ?_)
   | (with_reducible refine LeO.bind ?_ (fun _ => ?_))
theorem attr_number.mono : ∀ a0 k, LeO (attr_number.f k a0) (attr_number.f (k + 1) a0) := by
 intro a0 k
 obtain ⟨ih0, ih1⟩ := attr_number.mono_l k
 unfold attr_number.f
 repeat' first
   | (with_reducible exact ih0 _ _)
   | (with_reducible exact ih1 _ _ _)
   | (with_reducible exact LeO.refl _)
   | (with_reducible exact LeO.none _)
   | (with_reducible refine LeO.ite ?_ ?_)
   | (with_reducible refine LeO.bind ?_ (fun _ => ?_))
set_option maxHeartbeats 8000000 in
set_option maxRecDepth 100000 in
theorem attr_number.calls (k : Nat) (a0 : ByteArray) (r : Bool) (w : World) (h : attr_number.f k a0 = some r) :
  Calls Tryz.prog 68 #[.string a0] w fun e w' => e = .returned (.bool r) ∧ Drawn0 w w' := by
 have H : ((strings_TrimPrefix.f a0 (⟨#[45]⟩ : ByteArray)).bind fun t157 => (if t157.toList = ([] : List UInt8) then (attr_number.j0 k t157 true) else (if (t157.size : Int) > 18 then (attr_number.j0 k t157 true) else (if 0 < (t157.size : Int) then (if (bt t157 0) = 48 then (attr_number.j0 k t157 (a0.toList != ([48] : List UInt8))) else (attr_number.j0 k t157 false)) else (none))))) = some r := h
 clear h
 replace H := Option.bind_eq_some_iff.mp H
 obtain ⟨t157, A20, H⟩ := H
 replace H : (if t157.toList = ([] : List UInt8) then (attr_number.j0 k t157 true) else (if (t157.size : Int) > 18 then (attr_number.j0 k t157 true) else (if 0 < (t157.size : Int) then (if (bt t157 0) = 48 then (attr_number.j0 k t157 (a0.toList != ([48] : List UInt8))) else (attr_number.j0 k t157 false)) else (none)))) = some r := H
 have A2 := Aside0.mk A20
 clear A20
 have HC3 := Aside0.mk H
 clear H
 go_enter Tryz.func68, Tryz.ntmps68
 go_upto_region 2 with (first | ((with_reducible refine gate_callee (f := 95) rfl ?_); refine goesL_ (some 6) rfl rfl Tryz.func95 (by kernel_rfl) rfl #[.string a0, .string (⟨#[45]⟩ : ByteArray)] rfl ap3 ?_; (with_reducible refine (strings_TrimPrefix.calls a0 (⟨#[45]⟩ : ByteArray) t157 _ A2.out).mono ?_); rintro e w' ⟨rfl, ⟨nd, rfl⟩⟩; refine ⟨_, rfl, ?_⟩))
 (try simp only [Act.put, List.setIfInBounds_toArray, List.set_cons_zero, List.set_cons_succ])
 go_cut [22] (fun v22 wc => ∃ (kq : Nat) (x22_2 : Bool), v22 = .bool x22_2 ∧ Aside0 (attr_number.j0 kq t157 x22_2 = some r) ∧ Aside0 (kq ≤ k) ∧ Drawn0 w wc)
 case first =>
  have H := HC3.out
  clear HC3
  by_cases c4 : t157.toList = ([] : List UInt8)
  ·
   rw [if_pos c4] at H
   have c4b0 : (t157.toList == ([] : List UInt8)) = true := beq_iff_eq.mpr c4
   have c4b1 : (t157.toList != ([] : List UInt8)) = false := bne_eq_false_iff_eq.mpr c4
   clear c4
   (first | rw [c4b0] | (simp only [i64_w, i32_w]; rw [c4b0]) | skip)
   have H' := Aside0.mk H
   clear H
   go_wp2
   first | go_meet | (simp only [c4b0] at *; go_meet)
   case rel => exact ⟨_, (true), ap2, H', ⟨by first | omega | exact Nat.le_refl _⟩, by repeat (first | exact Drawn0.refl _ | apply Drawn0.step)⟩
  ·
   rw [if_neg c4] at H
   have c4b0 : (t157.toList == ([] : List UInt8)) = false := beq_eq_false_iff_ne.mpr c4
   have c4b1 : (t157.toList != ([] : List UInt8)) = true := bne_iff_ne.mpr c4
   (first | rw [c4b0] | (simp only [i64_w, i32_w]; rw [c4b0]) | skip)
   by_cases c5 : (t157.size : Int) > 18
   ·
    rw [if_pos c5] at H
    have c5b0 := decide_eq_true c5
    have c5b1 : decide (18 < t157.size) = true := decide_eq_true (by omega)
    clear c5
    have H' := Aside0.mk H
    clear H
    go_wp2
    first | go_meet | (simp only [c4b0] at *; go_meet) | (simp only [c4b0] at *; go_meet)
    case rel => exact ⟨_, (true), ap2, H', ⟨by first | omega | exact Nat.le_refl _⟩, by repeat (first | exact Drawn0.refl _ | apply Drawn0.step)⟩
   ·
    rw [if_neg c5] at H
    have c5b0 := decide_eq_false c5
    have c5b1 : decide (18 < t157.size) = false := decide_eq_false (by omega)
    clear c5
    by_cases c6 : 0 < (t157.size : Int)
    ·
     rw [if_pos c6] at H
     have c6b0 := decide_eq_true c6
     have c6b1 : decide (0 < t157.size) = true := decide_eq_true (by omega)
     clear c6
     by_cases c8 : (bt t157 0) = 48
     ·
      rw [if_pos c8] at H
      have c8b0 : ((bt t157 0) == 48) = true := beq_iff_eq.mpr c8
      have c8b1 : ((bt t157 0) != 48) = false := bne_eq_false_iff_eq.mpr c8
      clear c8
      have H' := Aside0.mk H
      clear H
      have p7 : 0 ≤ (0 : Int) := (by omega)
      have q7 : 0 < t157.size := (by have : (0 : Int) < (t157.size : Int) := of_decide_eq_true ap0; omega)
      have hx7 : ∀ h : 0 < t157.size, ((t157[0]'h).toNat : Int) = bt t157 0 := bt_at t157 0
      clear p7
      have qi7 : (0 < (t157.size : Int)) = True := eq_true (of_decide_eq_true ap0)
      replace q7 := eq_true q7
      go_wp2
      first | go_meet | (simp only [c8b0] at *; go_meet) | (simp only [c4b0] at *; go_meet) | (simp only [c4b0] at *; go_meet)
      case rel => exact ⟨_, ((a0.toList != ([48] : List UInt8))), ap2, H', ⟨by first | omega | exact Nat.le_refl _⟩, by repeat (first | exact Drawn0.refl _ | apply Drawn0.step)⟩
     ·
      rw [if_neg c8] at H
      have c8b0 : ((bt t157 0) == 48) = false := beq_eq_false_iff_ne.mpr c8
      have c8b1 : ((bt t157 0) != 48) = true := bne_iff_ne.mpr c8
      have H' := Aside0.mk H
      clear H
      have p7 : 0 ≤ (0 : Int) := (by omega)
      have q7 : 0 < t157.size := (by have : (0 : Int) < (t157.size : Int) := of_decide_eq_true ap0; omega)
      have hx7 : ∀ h : 0 < t157.size, ((t157[0]'h).toNat : Int) = bt t157 0 := bt_at t157 0
      clear p7
      have qi7 : (0 < (t157.size : Int)) = True := eq_true (of_decide_eq_true ap0)
      replace q7 := eq_true q7
      go_wp2
      first | go_meet | (simp only [c8b0] at *; go_meet) | (simp only [c8b0] at *; go_meet) | (simp only [c4b0] at *; go_meet)
      case rel => exact ⟨_, (false), ap2, H', ⟨by first | omega | exact Nat.le_refl _⟩, by repeat (first | exact Drawn0.refl _ | apply Drawn0.step)⟩
    ·
     rw [if_neg c6] at H
     exact absurd H (by simp)
 case rest =>
  clear HC3
  try clear p2
  try clear c4
  try clear c4b0
  try clear c4b1
  try clear c5
  try clear c5b0
  try clear c5b1
  try clear c6
  try clear c6b0
  try clear c6b1
  try clear p7
  try clear q7
  try clear hx7
  try clear qi7
  try clear c8
  try clear c8b0
  try clear c8b1
  try clear p7
  try clear q7
  obtain ⟨kq, x22_2, rfl, HA, HJ2, ⟨mc2, rfl⟩⟩ := hcut
  cases kq with
  | zero => exact absurd HA.out (by simp [attr_number.j0])
  | succ kj2 =>
   have H := HA.out
   clear HA
   simp only [attr_number.j0] at H
   by_cases c9 : x22_2 = true
   ·
    subst c9
    rw [if_pos rfl] at H
    obtain rfl := Option.some.inj H
    go_wp2
    go_ret
    exact ⟨ap2, ap7⟩
   ·
    replace c9 := Bool.eq_false_iff.mpr c9
    subst c9
    rw [if_neg (show ¬ (false = true) by decide)] at H
    have H' := Aside0.mk H
    clear H
    go_wp2
    go_loopg [25] kj2 (fun kq v25 w' => ∃ (x25_2 : Int), v25 = .int .i64 x25_2 ∧ Aside0 (attr_number.l0 kq t157 (t157.size : Int) x25_2 = some r) ∧ Aside0 (kq ≤ kj2) ∧ Drawn0 w w')
    case atStart => exact ⟨(0), ap2, H', ⟨Nat.le_refl _⟩, by repeat (first | exact Drawn0.refl _ | apply Drawn0.step)⟩
    case round =>
     clear H'
     try clear c2
     try clear p2
     try clear c4
     try clear c4b0
     try clear c4b1
     try clear c5
     try clear c5b0
     try clear c5b1
     try clear c6
     try clear c6b0
     try clear c6b1
     try clear p7
     try clear q7
     try clear hx7
     try clear qi7
     try clear c8
     try clear c8b0
     try clear c8b1
     try clear c9
     try clear p2
     try clear p7
     try clear q7
     obtain ⟨x25_2, rfl, HA, HK2, ⟨m2, rfl⟩⟩ := hrel
     cases gk with
     | zero => exact absurd HA.out (by simp [attr_number.l0])
     | succ k2 =>
      have H := HA.out
      clear HA
      simp only [attr_number.l0] at H
      by_cases c10 : x25_2 < (t157.size : Int)
      ·
       rw [if_pos c10] at H
       have c10b0 := decide_eq_true c10
       clear c10
       by_cases c11 : 0 ≤ x25_2
       ·
        rw [if_pos c11] at H
        have c11b0 := decide_eq_true c11
        clear c11
        by_cases c12 : x25_2 < (t157.size : Int)
        ·
         rw [if_pos c12] at H
         have c12b0 := decide_eq_true c12
         clear c12
         by_cases c14 : (bt t157 x25_2) < 48
         ·
          rw [if_pos c14] at H
          have c14b0 := decide_eq_true c14
          clear c14
          obtain rfl := Option.some.inj H
          have p13 : 0 ≤ (x25_2 : Int) := of_decide_eq_true ap0
          have q13 : x25_2 < (t157.size : Int) := of_decide_eq_true ap0
          have hx13 := bt_at t157 x25_2
          replace p13 := eq_true p13
          replace q13 := eq_true q13
          go_wp2
          go_ret
          exact ⟨ap2, ap7⟩
         ·
          rw [if_neg c14] at H
          have c14b0 := decide_eq_false c14
          clear c14
          by_cases c16 : (bt t157 x25_2) > 57
          ·
           rw [if_pos c16] at H
           have c16b0 := decide_eq_true c16
           clear c16
           obtain rfl := Option.some.inj H
           have p13 : 0 ≤ (x25_2 : Int) := of_decide_eq_true ap0
           have q13 : x25_2 < (t157.size : Int) := of_decide_eq_true ap0
           have hx13 := bt_at t157 x25_2
           replace p13 := eq_true p13
           replace q13 := eq_true q13
           have p15 : 0 ≤ (x25_2 : Int) := of_decide_eq_true ap0
           have q15 : x25_2 < (t157.size : Int) := of_decide_eq_true ap0
           have hx15 := bt_at t157 x25_2
           replace p15 := eq_true p15
           replace q15 := eq_true q15
           go_wp2
           go_ret
           exact ⟨ap2, ap7⟩
          ·
           rw [if_neg c16] at H
           have c16b0 := decide_eq_false c16
           clear c16
           have H' := Aside0.mk H
           clear H
           have p13 : 0 ≤ (x25_2 : Int) := of_decide_eq_true ap0
           have q13 : x25_2 < (t157.size : Int) := of_decide_eq_true ap0
           have hx13 := bt_at t157 x25_2
           replace p13 := eq_true p13
           replace q13 := eq_true q13
           have p15 : 0 ≤ (x25_2 : Int) := of_decide_eq_true ap0
           have q15 : x25_2 < (t157.size : Int) := of_decide_eq_true ap0
           have hx15 := bt_at t157 x25_2
           replace p15 := eq_true p15
           replace q15 := eq_true q15
           go_wp2
           go_roundg k2
           case measure => have := HJ2.out; have := HK2.out; omega
           case rel => exact ⟨(wrap64 (x25_2 + 1)), ap2, H', ⟨by have := HJ2.out; have := HK2.out; omega⟩, by repeat (first | exact Drawn0.refl _ | apply Drawn0.step)⟩
        ·
         rw [if_neg c12] at H
         exact absurd H (by simp)
       ·
        rw [if_neg c11] at H
        exact absurd H (by simp)
      ·
       rw [if_neg c10] at H
       have c10b0 := decide_eq_false c10
       clear c10
       obtain rfl := Option.some.inj H
       go_wp2
       go_ret
       exact ⟨ap2, ap7⟩
def prep_Phone.f (k : Nat) (a0 : ByteArray) : Option (ByteArray × Int) := (prep_Ready.f k a0 true).bind fun bt151 => (if bt151.2 = 0 then ((strings_ReplaceAll.f bt151.1 (⟨#[32]⟩ : ByteArray) (⟨#[]⟩ : ByteArray)).bind fun t153 => ((strings_ReplaceAll.f t153 (⟨#[45]⟩ : ByteArray) (⟨#[]⟩ : ByteArray)).bind fun t154 => (some (t154, 0)))) else (some ((⟨#[]⟩ : ByteArray), bt151.2)))
theorem prep_Phone.mono : ∀ a0 k, LeO (prep_Phone.f k a0) (prep_Phone.f (k + 1) a0) := by
 intro a0 k
 unfold prep_Phone.f
 repeat' first
   | (with_reducible exact prep_Ready.mono _ _ _)
   | (with_reducible exact LeO.refl _)
   | (with_reducible exact LeO.none _)
   | (with_reducible refine LeO.ite ?_ ?_)
   | (with_reducible refine LeO.bind ?_ (fun _ => ?_))
set_option maxHeartbeats 8000000 in
set_option maxRecDepth 100000 in
theorem prep_Phone.calls (k : Nat) (a0 : ByteArray) (r1 : ByteArray) (r2 : Int) (w : World) (hG : Gw w) (h : prep_Phone.f k a0 = some (r1, r2)) :
  Calls Tryz.prog 56 #[.string a0] w fun e w' => e = .returned (.tuple #[.string r1, .int .i64 r2]) ∧ Below w.heap.size w w' := by
 have HB := Aside0.mk (Below.refl w.heap.size w)
 have HG := Aside0.mk hG
 clear hG
 have H : ((prep_Ready.f k a0 true).bind fun bt151 => (if bt151.2 = 0 then ((strings_ReplaceAll.f bt151.1 (⟨#[32]⟩ : ByteArray) (⟨#[]⟩ : ByteArray)).bind fun t153 => ((strings_ReplaceAll.f t153 (⟨#[45]⟩ : ByteArray) (⟨#[]⟩ : ByteArray)).bind fun t154 => (some (t154, 0)))) else (some ((⟨#[]⟩ : ByteArray), bt151.2)))) = some (r1, r2) := h
 clear h
 replace H := Option.bind_eq_some_iff.mp H
 obtain ⟨⟨t151, t152⟩, A20, H⟩ := H
 replace H : (if t152 = 0 then ((strings_ReplaceAll.f t151 (⟨#[32]⟩ : ByteArray) (⟨#[]⟩ : ByteArray)).bind fun t153 => ((strings_ReplaceAll.f t153 (⟨#[45]⟩ : ByteArray) (⟨#[]⟩ : ByteArray)).bind fun t154 => (some (t154, 0)))) else (some ((⟨#[]⟩ : ByteArray), t152))) = some (r1, r2) := H
 have A2 := Aside0.mk A20
 clear A20
 by_cases c3 : t152 = 0
 ·
  rw [if_pos c3] at H
  have c3b0 : (t152 == 0) = true := beq_iff_eq.mpr c3
  have c3b1 : (t152 != 0) = false := bne_eq_false_iff_eq.mpr c3
  clear c3
  replace H := Option.bind_eq_some_iff.mp H
  obtain ⟨t153, A40, H⟩ := H
  replace H : ((strings_ReplaceAll.f t153 (⟨#[45]⟩ : ByteArray) (⟨#[]⟩ : ByteArray)).bind fun t154 => (some (t154, 0))) = some (r1, r2) := H
  have A4 := Aside0.mk A40
  clear A40
  replace H := Option.bind_eq_some_iff.mp H
  obtain ⟨t154, A50, H⟩ := H
  replace H : (some (t154, 0)) = some (r1, r2) := H
  have A5 := Aside0.mk A50
  clear A50
  simp only [Option.some.injEq, Prod.mk.injEq] at H
  obtain ⟨rfl, rfl⟩ := H
  go_enter Tryz.func56, Tryz.ntmps56
  go_wp2_with (first | ((with_reducible refine gate_callee (f := 67) rfl ?_); refine goesL_ (some 8) rfl rfl Tryz.func67 (by kernel_rfl) rfl #[.string a0, .bool true] rfl ap3 ?_; (with_reducible refine (prep_Ready.calls k a0 true t151 t152 _ ?side1 A2.out).mono ?_); (case side1 => exact ap6); rintro e w6 ⟨rfl, hb⟩; refine ⟨_, rfl, ?_⟩; have n0_ := Aside0.mk (below_step ap1 hb); clear HB; have HB := n0_; clear n0_; (try clear hb); (try clear hb2); (try clear hk); (try clear hi)) | ((with_reducible refine gate_callee (f := 83) rfl ?_); refine goesL_ (some 15) rfl rfl Tryz.func83 (by kernel_rfl) rfl #[.string t151, .string (⟨#[32]⟩ : ByteArray), .string (⟨#[]⟩ : ByteArray)] rfl ap3 ?_; (with_reducible refine (strings_ReplaceAll.calls t151 (⟨#[32]⟩ : ByteArray) (⟨#[]⟩ : ByteArray) t153 _ ?side1 A4.out).mono ?_); (case side1 => exact ap6); rintro e w7 ⟨rfl, hb⟩; refine ⟨_, rfl, ?_⟩; have n0_ := Aside0.mk (below_step ap1 hb); clear HB; have HB := n0_; clear n0_; (try clear hb); (try clear hb2); (try clear hk); (try clear hi)) | ((with_reducible refine gate_callee (f := 83) rfl ?_); refine goesL_ (some 16) rfl rfl Tryz.func83 (by kernel_rfl) rfl #[.string t153, .string (⟨#[45]⟩ : ByteArray), .string (⟨#[]⟩ : ByteArray)] rfl ap3 ?_; (with_reducible refine (strings_ReplaceAll.calls t153 (⟨#[45]⟩ : ByteArray) (⟨#[]⟩ : ByteArray) t154 _ ?side1 A5.out).mono ?_); (case side1 => exact ap6); rintro e w8 ⟨rfl, hb⟩; refine ⟨_, rfl, ?_⟩; have n0_ := Aside0.mk (below_step ap1 hb); clear HB; have HB := n0_; clear n0_; (try clear hb); (try clear hb2); (try clear hk); (try clear hi)))
  go_ret2
  exact ⟨by first | rfl | (simp [errW_none, errW_some, bne_nil8, beq_nil8]; done) | (simp [errW_none, errW_some] <;> rfl) | (simp [*, errW_none, errW_some] <;> rfl), by repeat (first | (with_reducible first | exact HB.out | apply below_alloc | apply pw_below_drewN | apply below_drew1) | exact HB.out)⟩
 ·
  rw [if_neg c3] at H
  have c3b0 : (t152 == 0) = false := beq_eq_false_iff_ne.mpr c3
  have c3b1 : (t152 != 0) = true := bne_iff_ne.mpr c3
  simp only [Option.some.injEq, Prod.mk.injEq] at H
  obtain ⟨rfl, rfl⟩ := H
  go_enter Tryz.func56, Tryz.ntmps56
  go_wp2_with (first | ((with_reducible refine gate_callee (f := 67) rfl ?_); refine goesL_ (some 8) rfl rfl Tryz.func67 (by kernel_rfl) rfl #[.string a0, .bool true] rfl ap3 ?_; (with_reducible refine (prep_Ready.calls k a0 true t151 t152 _ ?side1 A2.out).mono ?_); (case side1 => exact ap6); rintro e w9 ⟨rfl, hb⟩; refine ⟨_, rfl, ?_⟩; have n0_ := Aside0.mk (below_step ap1 hb); clear HB; have HB := n0_; clear n0_; (try clear hb); (try clear hb2); (try clear hk); (try clear hi)))
  go_ret2
  exact ⟨by first | rfl | (simp [errW_none, errW_some, bne_nil8, beq_nil8]; done) | (simp [errW_none, errW_some] <;> rfl) | (simp [*, errW_none, errW_some] <;> rfl), by repeat (first | (with_reducible first | exact HB.out | apply below_alloc | apply pw_below_drewN | apply below_drew1) | exact HB.out)⟩
def attr_form.j0 : Nat → ByteArray → Int → Bool → ByteArray → Int → Bool → Option (ByteArray × Bool)
 | 0, _, _, _, _, _, _ => none
 | k + 1, x1, x15, x16, x353000, x353001, x353002 => if x16 = true then ((prep_Ready.f k x1 (x353001 == 1)).bind fun bt353 => (if bt353.2 = 0 then (some (bt353.1, (bt353.1.toList != ([] : List UInt8)))) else (some (bt353.1, false)))) else (if x15 = 7 then ((prep_Phone.f k x1).bind fun bt355 => (if bt355.2 = 0 then (some (bt355.1, (bt355.1.toList != ([] : List UInt8)))) else (some (bt355.1, false)))) else (if x15 = 4 then ((attr_number.f k x1).bind fun t357 => (some (x1, t357))) else (if x15 = 5 then (if x1.toList = ([84, 82, 85, 69] : List UInt8) then (some (x1, true)) else (some (x1, (x1.toList == ([70, 65, 76, 83, 69] : List UInt8))))) else (if x15 = 6 then ((dn_Parse.f k x1).bind fun bt358 => ((dn_Keys.f k bt358.1).bind fun bt362 => ((strings_Join.f bt362.1 (⟨#[]⟩ : ByteArray)).bind fun t366 => (if bt358.2 = 0 then (some (t366, (bt362.2 == 0))) else (some (t366, false)))))) else (some (x1, true))))))
def attr_form.f (k : Nat) (a0_0 : ByteArray) (a0_1 : Int) (a0_2 : Bool) (a1 : ByteArray) : Option (ByteArray × Bool) := if a0_1 = 1 then (attr_form.j0 k a1 a0_1 (a0_1 == 1) a0_0 a0_1 a0_2) else (attr_form.j0 k a1 a0_1 (a0_1 == 2) a0_0 a0_1 a0_2)
theorem attr_form.mono_l : ∀ k, (∀ y0 y1 y2 y3 y4 y5, LeO (attr_form.j0 k y0 y1 y2 y3 y4 y5) (attr_form.j0 (k + 1) y0 y1 y2 y3 y4 y5))
 | 0 => fun _ _ _ _ _ _ r h => by simp [attr_form.j0] at h
 | k + 1 => by
  have ih0 := attr_form.mono_l k
  ·
   intro y0 y1 y2 y3 y4 y5
   unfold attr_form.j0
   repeat' first
   | (with_reducible exact ih0 _ _ _ _ _ _)
   | (with_reducible exact attr_number.mono _ _)
   | (with_reducible exact dn_Keys.mono _ _)
   | (with_reducible exact dn_Parse.mono _ _)
   | (with_reducible exact prep_Phone.mono _ _)
   | (with_reducible exact prep_Ready.mono _ _ _)
   | (with_reducible exact LeO.refl _)
   | (with_reducible exact LeO.none _)
   | (with_reducible refine LeO.ite ?_ ?_)
   | (with_reducible refine LeO.bind ?_ (fun _ => ?_))
theorem attr_form.mono : ∀ a0 a1 a2 a3 k, LeO (attr_form.f k a0 a1 a2 a3) (attr_form.f (k + 1) a0 a1 a2 a3) := by
 intro a0 a1 a2 a3 k
 have ih0 := attr_form.mono_l k
 unfold attr_form.f
 repeat' first
   | (with_reducible exact ih0 _ _ _ _ _ _)
   | (with_reducible exact attr_number.mono _ _)
   | (with_reducible exact dn_Keys.mono _ _)
   | (with_reducible exact dn_Parse.mono _ _)
   | (with_reducible exact prep_Phone.mono _ _)
   | (with_reducible exact prep_Ready.mono _ _ _)
   | (with_reducible exact LeO.refl _)
   | (with_reducible exact LeO.none _)
   | (with_reducible refine LeO.ite ?_ ?_)
   | (with_reducible refine LeO.bind ?_ (fun _ => ?_))
end Go.Proofs.YtpklcnpmppaaoaaGreatDoor.Print
