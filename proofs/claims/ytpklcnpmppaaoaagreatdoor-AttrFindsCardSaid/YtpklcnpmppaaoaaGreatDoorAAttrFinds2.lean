-- laid together by pack.py (a program of this session)
import Derived.Test.YtpklcnpmppaaoaaGreatDoorAAttrFinds1
namespace Go.Proofs.YtpklcnpmppaaoaaGreatDoor.Print
open Go.RowKit Go.Proofs.YtpklcnpmppaaoaaGreatDoorW.PrintWords Go.Proofs.YtpklcnpmppaaoaaGreatDoorW.PrintLast Go.Proofs.YtpklcnpmppaaoaaGreatDoorW.PrintMore
attribute [local go_sem] max2_int min2_int max_two min_two max_three min_three max_four min_four
set_option linter.unusedVariables false
set_option linter.unusedSimpArgs false
set_option maxHeartbeats 8000000 in
set_option maxRecDepth 100000 in
theorem Dxvalue.calls (k : Nat) (g : Nat) (s0_0 : ByteArray) (s0_1 : Int) (r1 : ByteArray) (r2 : Bool) (r3 : ByteArray) (r4 : Int) (w0 w : World) (hI : IsS120 w0 w g s0_0 s0_1) (hB : Below w0.heap.size w0 w) (h : Dxvalue.f k s0_0 s0_1 = some (r1, r2, r3, r4)) :
  Calls Tryz.prog 98 #[.pointer (some ⟨g, 0, none⟩)] w fun e w' => e = .returned (.tuple #[.string r1, .bool r2]) ∧ IsS120 w0 w' g r3 r4 ∧ Below w0.heap.size w0 w' ∧ KeepBut w w' g none := by
 have HI0 := Aside0.mk hI
 have HK := Aside0.mk (KeepBut.refl w g none)
 have HL := Aside0.mk hB.size
 clear hI
 have HW0 := Aside0.mk hB.size
 have HB := Aside0.mk hB
 clear hB
 have H : ((Dxblanks.f k s0_0 s0_1).bind fun bt169 => (if 0 ≤ bt169.2 then (if bt169.2 ≤ (bt169.1.size : Int) then ((strings_HasPrefix.f (bt169.1.extract (bt169.2 : Int).toNat bt169.1.size) (⟨#[35]⟩ : ByteArray)).bind fun t171 => (if t171 = true then (some ((⟨#[]⟩ : ByteArray), false, bt169.1, bt169.2)) else (Dxvalue.l0 k ([] : List Int) 0 bt169.1 bt169.2))) else (none)) else (none))) = some (r1, r2, r3, r4) := h
 clear h
 replace H := Option.bind_eq_some_iff.mp H
 obtain ⟨⟨t169, t170⟩, A20, H⟩ := H
 replace H : (if 0 ≤ t170 then (if t170 ≤ (t169.size : Int) then ((strings_HasPrefix.f (t169.extract (t170 : Int).toNat t169.size) (⟨#[35]⟩ : ByteArray)).bind fun t171 => (if t171 = true then (some ((⟨#[]⟩ : ByteArray), false, t169, t170)) else (Dxvalue.l0 k ([] : List Int) 0 t169 t170))) else (none)) else (none)) = some (r1, r2, r3, r4) := H
 have A2 := Aside0.mk A20
 clear A20
 by_cases c3 : 0 ≤ t170
 ·
  rw [if_pos c3] at H
  have c3b0 := eq_true c3
  have c3b1 := decide_eq_true c3
  clear c3
  by_cases c4 : t170 ≤ (t169.size : Int)
  ·
   rw [if_pos c4] at H
   have c4b0 := eq_true c4
   have c4b1 := decide_eq_true c4
   clear c4
   replace H := Option.bind_eq_some_iff.mp H
   obtain ⟨t171, A50, H⟩ := H
   replace H : (if t171 = true then (some ((⟨#[]⟩ : ByteArray), false, t169, t170)) else (Dxvalue.l0 k ([] : List Int) 0 t169 t170)) = some (r1, r2, r3, r4) := H
   have A5 := Aside0.mk A50
   clear A50
   by_cases c6 : t171 = true
   ·
    subst c6
    rw [if_pos rfl] at H
    simp only [Option.some.injEq, Prod.mk.injEq] at H
    obtain ⟨rfl, rfl, rfl, rfl⟩ := H
    go_enter Tryz.func98, Tryz.ntmps98
    go_wp2_with (first | (go_at_call 96; (with_reducible refine (Dxblanks.calls k g s0_0 s0_1 t169 t170 w0 _ ?side1 ?side2 A2.out).mono ?_); (case side1 => exact apI120 HI0.out); (case side2 => exact apS120 HI0.out); rintro e w7 ⟨rfl, hi, hb, hk⟩; have n0_ := Aside0.mk (KeepBut.trans ap5 hk (.inl rfl)); have n1_ := Aside0.mk (hb); have n2_ := Aside0.mk (hi); clear HK; clear HB; clear HI0; have HK := n0_; have HB := n1_; have HI0 := n2_; clear n0_ n1_ n2_; (try clear hb); (try clear hb2); (try clear hk); (try clear hi); obtain ⟨HGz8, hgz8⟩ := HI0.out; have hcz8_0 := cellS120_0 HGz8; have hcz8_1 := cellS120_1 HGz8; have hfz8_0 := blk_frozen HGz8 0; have hfz8_1 := blk_frozen HGz8 1; clear HGz8 hgz8) | (go_at_call 113; (with_reducible refine (strings_HasPrefix.calls (t169.extract (t170 : Int).toNat t169.size) (⟨#[35]⟩ : ByteArray) true _ A5.out).mono ?_); rintro e w' ⟨rfl, ⟨nd, rfl⟩⟩; (try exact ap4)))
    repeat (go_quiet (first | (go_at_call 96; (with_reducible refine (Dxblanks.calls k g s0_0 s0_1 t169 t170 w0 _ ?side1 ?side2 A2.out).mono ?_); (case side1 => exact apI120 HI0.out); (case side2 => exact apS120 HI0.out); rintro e w7 ⟨rfl, hi, hb, hk⟩; have n0_ := Aside0.mk (KeepBut.trans ap5 hk (.inl rfl)); have n1_ := Aside0.mk (hb); have n2_ := Aside0.mk (hi); clear HK; clear HB; clear HI0; have HK := n0_; have HB := n1_; have HI0 := n2_; clear n0_ n1_ n2_; (try clear hb); (try clear hb2); (try clear hk); (try clear hi); obtain ⟨HGz8, hgz8⟩ := HI0.out; have hcz8_0 := cellS120_0 HGz8; have hcz8_1 := cellS120_1 HGz8; have hfz8_0 := blk_frozen HGz8 0; have hfz8_1 := blk_frozen HGz8 1; clear HGz8 hgz8) | (go_at_call 113; (with_reducible refine (strings_HasPrefix.calls (t169.extract (t170 : Int).toNat t169.size) (⟨#[35]⟩ : ByteArray) true _ A5.out).mono ?_); rintro e w' ⟨rfl, ⟨nd, rfl⟩⟩; (try exact ap4))); try go_wp2_with (first | (go_at_call 96; (with_reducible refine (Dxblanks.calls k g s0_0 s0_1 t169 t170 w0 _ ?side1 ?side2 A2.out).mono ?_); (case side1 => exact apI120 HI0.out); (case side2 => exact apS120 HI0.out); rintro e w7 ⟨rfl, hi, hb, hk⟩; have n0_ := Aside0.mk (KeepBut.trans ap5 hk (.inl rfl)); have n1_ := Aside0.mk (hb); have n2_ := Aside0.mk (hi); clear HK; clear HB; clear HI0; have HK := n0_; have HB := n1_; have HI0 := n2_; clear n0_ n1_ n2_; (try clear hb); (try clear hb2); (try clear hk); (try clear hi); obtain ⟨HGz8, hgz8⟩ := HI0.out; have hcz8_0 := cellS120_0 HGz8; have hcz8_1 := cellS120_1 HGz8; have hfz8_0 := blk_frozen HGz8 0; have hfz8_1 := blk_frozen HGz8 1; clear HGz8 hgz8) | (go_at_call 113; (with_reducible refine (strings_HasPrefix.calls (t169.extract (t170 : Int).toNat t169.size) (⟨#[35]⟩ : ByteArray) true _ A5.out).mono ?_); rintro e w' ⟨rfl, ⟨nd, rfl⟩⟩; (try exact ap4))))
    go_ret2
    exact ⟨by first | rfl | (simp [errW_none, errW_some, bne_nil8, beq_nil8]; done) | (simp [errW_none, errW_some] <;> rfl) | (simp [*, errW_none, errW_some] <;> rfl), by repeat (first | (with_reducible first | exact HI0.out | apply IsS120.alloc | apply IsS120.drewN | apply IsS120.drew | apply IsS120.set_0 | apply IsS120.set_1) | exact HI0.out), by repeat (first | (with_reducible first | exact HB.out | apply below_alloc | apply pw_below_drewN | apply below_drew1 | refine below_set ?_ (IsS120.ge HI0.out)) | exact HB.out), by repeat (first | (with_reducible first | exact HK.out | apply KeepBut.set_ | apply keep_drewN | apply keep_drew | apply keep_alloc) | exact HK.out)⟩
   ·
    replace c6 := Bool.eq_false_iff.mpr c6
    subst c6
    rw [if_neg (show ¬ (false = true) by decide)] at H
    have H' := Aside0.mk H
    clear H
    go_enter Tryz.func98, Tryz.ntmps98
    go_wp2_with (first | (go_at_call 96; (with_reducible refine (Dxblanks.calls k g s0_0 s0_1 t169 t170 w0 _ ?side1 ?side2 A2.out).mono ?_); (case side1 => exact apI120 HI0.out); (case side2 => exact apS120 HI0.out); rintro e w9 ⟨rfl, hi, hb, hk⟩; have n0_ := Aside0.mk (KeepBut.trans ap5 hk (.inl rfl)); have n1_ := Aside0.mk (hb); have n2_ := Aside0.mk (hi); clear HK; clear HB; clear HI0; have HK := n0_; have HB := n1_; have HI0 := n2_; clear n0_ n1_ n2_; (try clear hb); (try clear hb2); (try clear hk); (try clear hi); obtain ⟨HGz10, hgz10⟩ := HI0.out; have hcz10_0 := cellS120_0 HGz10; have hcz10_1 := cellS120_1 HGz10; have hfz10_0 := blk_frozen HGz10 0; have hfz10_1 := blk_frozen HGz10 1; clear HGz10 hgz10) | (go_at_call 113; (with_reducible refine (strings_HasPrefix.calls (t169.extract (t170 : Int).toNat t169.size) (⟨#[35]⟩ : ByteArray) false _ A5.out).mono ?_); rintro e w' ⟨rfl, ⟨nd, rfl⟩⟩; (try exact ap4)))
    repeat (go_quiet (first | (go_at_call 96; (with_reducible refine (Dxblanks.calls k g s0_0 s0_1 t169 t170 w0 _ ?side1 ?side2 A2.out).mono ?_); (case side1 => exact apI120 HI0.out); (case side2 => exact apS120 HI0.out); rintro e w9 ⟨rfl, hi, hb, hk⟩; have n0_ := Aside0.mk (KeepBut.trans ap5 hk (.inl rfl)); have n1_ := Aside0.mk (hb); have n2_ := Aside0.mk (hi); clear HK; clear HB; clear HI0; have HK := n0_; have HB := n1_; have HI0 := n2_; clear n0_ n1_ n2_; (try clear hb); (try clear hb2); (try clear hk); (try clear hi); obtain ⟨HGz10, hgz10⟩ := HI0.out; have hcz10_0 := cellS120_0 HGz10; have hcz10_1 := cellS120_1 HGz10; have hfz10_0 := blk_frozen HGz10 0; have hfz10_1 := blk_frozen HGz10 1; clear HGz10 hgz10) | (go_at_call 113; (with_reducible refine (strings_HasPrefix.calls (t169.extract (t170 : Int).toNat t169.size) (⟨#[35]⟩ : ByteArray) false _ A5.out).mono ?_); rintro e w' ⟨rfl, ⟨nd, rfl⟩⟩; (try exact ap4))); try go_wp2_with (first | (go_at_call 96; (with_reducible refine (Dxblanks.calls k g s0_0 s0_1 t169 t170 w0 _ ?side1 ?side2 A2.out).mono ?_); (case side1 => exact apI120 HI0.out); (case side2 => exact apS120 HI0.out); rintro e w9 ⟨rfl, hi, hb, hk⟩; have n0_ := Aside0.mk (KeepBut.trans ap5 hk (.inl rfl)); have n1_ := Aside0.mk (hb); have n2_ := Aside0.mk (hi); clear HK; clear HB; clear HI0; have HK := n0_; have HB := n1_; have HI0 := n2_; clear n0_ n1_ n2_; (try clear hb); (try clear hb2); (try clear hk); (try clear hi); obtain ⟨HGz10, hgz10⟩ := HI0.out; have hcz10_0 := cellS120_0 HGz10; have hcz10_1 := cellS120_1 HGz10; have hfz10_0 := blk_frozen HGz10 0; have hfz10_1 := blk_frozen HGz10 1; clear HGz10 hgz10) | (go_at_call 113; (with_reducible refine (strings_HasPrefix.calls (t169.extract (t170 : Int).toNat t169.size) (⟨#[35]⟩ : ByteArray) false _ A5.out).mono ?_); rintro e w' ⟨rfl, ⟨nd, rfl⟩⟩; (try exact ap4))))
    go_loopg [4, 5] k (fun kq v4 v5 w' => ∃ (x4_1 : List Int) (x5_1 : Int) (x1000_1 : ByteArray) (x1001_1 : Int), v5 = .int .i64 x5_1 ∧ Aside0 (Dxvalue.l0 kq x4_1 x5_1 x1000_1 x1001_1 = some (r1, r2, r3, r4)) ∧ Aside0 (kq ≤ k) ∧ Aside0 (Kd.R (Kd.int .u8) 5 w' w.heap.size (fun _ => True) v4 x4_1) ∧ Aside0 (IsS120 w0 w' g x1000_1 x1001_1) ∧ Aside0 (KeepBut w w' g none) ∧ Aside0 (Below w0.heap.size w0 w'))
    case atStart => exact ⟨(([] : List Int)), (0), (t169), (t170), ap2, H', ⟨Nat.le_refl _⟩, ⟨by first | exact Kd.R_nil _ _ _ _ _ | exact Kd.N_nil _ _ _ _ _ | exact Kd.V_nil _ _ _ _ _ | exact Kd.Q_nil _ _ _ _ _ | exact Kd.S_nil _ _ _ _ _⟩, ⟨by repeat (first | (with_reducible first | exact HI0.out | apply IsS120.alloc | apply IsS120.drewN | apply IsS120.drew | apply IsS120.set_0 | apply IsS120.set_1) | exact HI0.out)⟩, ⟨by repeat (first | (with_reducible first | exact HK.out | apply KeepBut.set_ | apply keep_drewN | apply keep_drew | apply keep_alloc) | exact HK.out)⟩, ⟨by repeat (first | (with_reducible first | exact HB.out | apply below_alloc | apply pw_below_drewN | apply below_drew1 | refine below_set ?_ (IsS120.ge HI0.out)) | exact HB.out)⟩⟩
    case round =>
     clear H'
     try clear p2
     try clear c3
     try clear c3b0
     try clear c3b1
     try clear c4
     try clear c4b0
     try clear c4b1
     try clear c6
     try clear c9
     try clear hcz10_0
     try clear hcz10_1
     try clear hcz8_0
     try clear hcz8_1
     try clear hfz10_0
     try clear hfz10_1
     try clear hfz8_0
     try clear hfz8_1
     obtain ⟨x4_1, x5_1, x1000_1, x1001_1, rfl, HA, HK1, HO_4, HI0, HK, HB⟩ := hrel
     cases gk with
     | zero => exact absurd HA.out (by simp [Dxvalue.l0])
     | succ k1 =>
      have H := HA.out
      clear HA
      simp only [Dxvalue.l0] at H
      by_cases c11 : x1001_1 < (x1000_1.size : Int)
      ·
       rw [if_pos c11] at H
       have c11b0 := decide_eq_true c11
       clear c11
       by_cases c12 : 0 ≤ x1001_1
       ·
        rw [if_pos c12] at H
        have c12b0 := decide_eq_true c12
        clear c12
        have HC14 := Aside0.mk H
        clear H
        obtain ⟨HGz15, hgz15⟩ := HI0.out
        have hcz15_0 := cellS120_0 HGz15
        have hcz15_1 := cellS120_1 HGz15
        have hfz15_0 := blk_frozen HGz15 0
        have hfz15_1 := blk_frozen HGz15 1
        clear HGz15 hgz15
        have p13 : 0 ≤ (x1001_1 : Int) := of_decide_eq_true ap0
        have q13 : x1001_1 < (x1000_1.size : Int) := of_decide_eq_true ap0
        have hx13 := bt_at x1000_1 x1001_1
        replace p13 := eq_true p13
        replace q13 := eq_true q13
        go_upto_if 41 with (fail)
        repeat (go_quiet (fail); go_upto_if 41 with (fail))
        go_cut [41] (fun v41 wc => ∃ (kq : Nat) (x41_13 : Bool), v41 = .bool x41_13 ∧ Aside0 (Dxvalue.j1 kq x4_1 x5_1 (bt x1000_1 x1001_1) (bt x1000_1 x1001_1) x41_13 x1000_1 x1001_1 = some (r1, r2, r3, r4)) ∧ Aside0 (kq ≤ k1) ∧ Aside0 (Kd.R (Kd.int .u8) 5 wc w.heap.size (fun _ => True) u4 x4_1) ∧ Aside0 (IsS120 w0 wc g x1000_1 x1001_1) ∧ Aside0 (KeepBut w wc g none) ∧ Aside0 (Below w0.heap.size w0 wc))
        case first =>
         have H := HC14.out
         clear HC14
         by_cases c16 : (bt x1000_1 x1001_1) = 44
         ·
          rw [if_pos c16] at H
          have c16b0 : ((bt x1000_1 x1001_1) == 44) = true := beq_iff_eq.mpr c16
          have c16b1 : ((bt x1000_1 x1001_1) != 44) = false := bne_eq_false_iff_eq.mpr c16
          clear c16
          (first | rw [c16b0] | (simp only [i64_w, i32_w]; rw [c16b0]) | skip)
          have H' := Aside0.mk H
          clear H
          go_wp2
          repeat (go_quiet (fail); try go_wp2)
          first | go_meet | (simp only [c16b0] at *; go_meet)
          case rel => exact ⟨_, (((bt x1000_1 x1001_1) == 44)), ap2, H', ⟨by have := HK1.out; first | omega | exact Nat.le_refl _⟩, ⟨by (with_reducible repeat (first | apply Kd.R_alloc | apply Kd.R_drewN | apply Kd.R_drew)); exact HO_4.out⟩, ⟨by repeat (first | (with_reducible first | exact HI0.out | apply IsS120.alloc | apply IsS120.drewN | apply IsS120.drew | apply IsS120.set_0 | apply IsS120.set_1) | exact HI0.out)⟩, ⟨by repeat (first | (with_reducible first | exact HK.out | apply KeepBut.set_ | apply keep_drewN | apply keep_drew | apply keep_alloc) | exact HK.out)⟩, ⟨by repeat (first | (with_reducible first | exact HB.out | apply below_alloc | apply pw_below_drewN | apply below_drew1 | refine below_set ?_ (IsS120.ge HI0.out)) | exact HB.out)⟩⟩
         ·
          rw [if_neg c16] at H
          have c16b0 : ((bt x1000_1 x1001_1) == 44) = false := beq_eq_false_iff_ne.mpr c16
          have c16b1 : ((bt x1000_1 x1001_1) != 44) = true := bne_iff_ne.mpr c16
          (first | rw [c16b0] | (simp only [i64_w, i32_w]; rw [c16b0]) | skip)
          by_cases c17 : (bt x1000_1 x1001_1) = 59
          ·
           rw [if_pos c17] at H
           have c17b0 : ((bt x1000_1 x1001_1) == 59) = true := beq_iff_eq.mpr c17
           have c17b1 : ((bt x1000_1 x1001_1) != 59) = false := bne_eq_false_iff_eq.mpr c17
           clear c17
           have H' := Aside0.mk H
           clear H
           go_wp2
           repeat (go_quiet (fail); try go_wp2)
           first | go_meet | (simp only [c17b0] at *; go_meet) | (simp only [c16b0] at *; go_meet) | (simp only [c16b0] at *; go_meet)
           case rel => exact ⟨_, (((bt x1000_1 x1001_1) == 59)), ap2, H', ⟨by have := HK1.out; first | omega | exact Nat.le_refl _⟩, ⟨by (with_reducible repeat (first | apply Kd.R_alloc | apply Kd.R_drewN | apply Kd.R_drew)); exact HO_4.out⟩, ⟨by repeat (first | (with_reducible first | exact HI0.out | apply IsS120.alloc | apply IsS120.drewN | apply IsS120.drew | apply IsS120.set_0 | apply IsS120.set_1) | exact HI0.out)⟩, ⟨by repeat (first | (with_reducible first | exact HK.out | apply KeepBut.set_ | apply keep_drewN | apply keep_drew | apply keep_alloc) | exact HK.out)⟩, ⟨by repeat (first | (with_reducible first | exact HB.out | apply below_alloc | apply pw_below_drewN | apply below_drew1 | refine below_set ?_ (IsS120.ge HI0.out)) | exact HB.out)⟩⟩
          ·
           rw [if_neg c17] at H
           have c17b0 : ((bt x1000_1 x1001_1) == 59) = false := beq_eq_false_iff_ne.mpr c17
           have c17b1 : ((bt x1000_1 x1001_1) != 59) = true := bne_iff_ne.mpr c17
           have H' := Aside0.mk H
           clear H
           go_wp2
           repeat (go_quiet (fail); try go_wp2)
           first | go_meet | (simp only [c17b0] at *; go_meet) | (simp only [c17b0] at *; go_meet) | (simp only [c16b0] at *; go_meet)
           case rel => exact ⟨_, (((bt x1000_1 x1001_1) == 43)), ap2, H', ⟨by have := HK1.out; first | omega | exact Nat.le_refl _⟩, ⟨by (with_reducible repeat (first | apply Kd.R_alloc | apply Kd.R_drewN | apply Kd.R_drew)); exact HO_4.out⟩, ⟨by repeat (first | (with_reducible first | exact HI0.out | apply IsS120.alloc | apply IsS120.drewN | apply IsS120.drew | apply IsS120.set_0 | apply IsS120.set_1) | exact HI0.out)⟩, ⟨by repeat (first | (with_reducible first | exact HK.out | apply KeepBut.set_ | apply keep_drewN | apply keep_drew | apply keep_alloc) | exact HK.out)⟩, ⟨by repeat (first | (with_reducible first | exact HB.out | apply below_alloc | apply pw_below_drewN | apply below_drew1 | refine below_set ?_ (IsS120.ge HI0.out)) | exact HB.out)⟩⟩
        case rest =>
         clear HC14
         try clear c1
         try clear p1
         try clear q1
         try clear hx1
         try clear p2
         try clear c3
         try clear c3b0
         try clear c3b1
         try clear c4
         try clear c4b0
         try clear c4b1
         try clear c6
         try clear c9
         try clear c11
         try clear c11b0
         try clear c12
         try clear c12b0
         try clear p13
         try clear q13
         try clear hx13
         try clear c16
         try clear c16b0
         try clear c16b1
         try clear c17
         try clear c17b0
         try clear c17b1
         try clear hcz10_0
         try clear hcz10_1
         try clear hcz15_0
         try clear hcz15_1
         try clear hcz8_0
         try clear hcz8_1
         try clear hfz10_0
         try clear hfz10_1
         try clear hfz15_0
         try clear hfz15_1
         try clear hfz8_0
         try clear hfz8_1
         try clear p13
         try clear p2
         try clear q13
         obtain ⟨kq, x41_13, rfl, HA, HJ13, HO_4, HI0, HK, HB⟩ := hcut
         cases kq with
         | zero => exact absurd HA.out (by simp [Dxvalue.j1])
         | succ kj13 =>
          have H := HA.out
          clear HA
          simp only [Dxvalue.j1] at H
          by_cases c18 : x41_13 = true
          ·
           subst c18
           rw [if_pos rfl] at H
           by_cases c19 : 0 ≤ x5_1
           ·
            rw [if_pos c19] at H
            have c19b0 := eq_true c19
            have c19b1 := decide_eq_true c19
            clear c19
            by_cases c20 : x5_1 ≤ (x4_1.length : Int)
            ·
             rw [if_pos c20] at H
             have c20b0 := eq_true c20
             have c20b1 := decide_eq_true c20
             clear c20
             obtain ⟨y176, hy176⟩ : ∃ y_ : List Int, y_ = (x4_1.take (x5_1 : Int).toNat) := ⟨_, rfl⟩
             replace H : (some (strOfNums y176, true, x1000_1, x1001_1)) = some (r1, r2, r3, r4) := by first | (rw [hy176]; with_reducible exact H) | (have H2_ := (Option.bind_some _ _).symm.trans H; rw [hy176]; with_reducible exact H2_) | (have H2_ := (Option.bind_some _ _).symm.trans H; with_reducible exact H2_) | with_reducible exact H | (rw [hy176]; exact H) | exact H
             have Ny176 := Aside0.mk hy176
             clear hy176
             simp only [Option.some.injEq, Prod.mk.injEq] at H
             obtain ⟨rfl, rfl, rfl, rfl⟩ := H
             obtain ⟨Ao22, co22, eo22⟩ := Kd.R_slice HO_4.out
             subst eo22
             have q21 : (x5_1 : Int) ≤ ((x4_1.length : Int) : Int) := of_decide_eq_true ap0
             obtain ⟨i021, hi021, _, hsz21, _⟩ := info_parts info5
             have hroom21 : x4_1.length ≤ co22 := (Kd.R_reads' HO_4.out).2.1
             have hC21 : Kd.C (Kd.int .u8) _ Ao22 x4_1.length x4_1 := (Kd.R_reads' HO_4.out).2.2
             have hcut21 := cut_to (P := Tryz.prog) 82 5 .i64 Tryz.underlying82 hi021 Ao22 x4_1.length co22 x5_1 (of_decide_eq_true ap0) q21 hroom21
             have hr21 := Kd.C_take (m := (x5_1 : Int).toNat) hC21 (by omega)
             have hy21 : y176.length = (x5_1 : Int).toNat := (by rw [Ny176.out, List.length_take]; omega)
             rw [← Ny176.out] at hr21
             rw [← hy21] at hcut21
             have HR179 := Aside0.mk hr21
             have HC179 := Aside0.mk (show y176.length ≤ co22 from by omega)
             clear hr21 hC21 hroom21 hi021 hsz21
             have KY21 := Aside0.mk hy21
             clear hy21
             have KL21 := Aside0.mk (show (x5_1 : Int).toNat ≤ x4_1.length from by omega)
             replace q21 := eq_true q21
             have hcv23 := Kd.C_string (P := Tryz.prog) (A := Ao22) (c := co22) Tryz.underlying82 Tryz.underlying5 Tryz.underlying9 (apC HR179.out)
             have hcv23n := fun m_ => Kd.C_string (P := Tryz.prog) (A := Ao22) (c := co22) Tryz.underlying82 Tryz.underlying5 Tryz.underlying9 (Kd.C_drewN (apC HR179.out) m_)
             go_wp2
             repeat (go_quiet (fail); try go_wp2)
             go_ret2
             exact ⟨by first | rfl | (simp [errW_none, errW_some, bne_nil8, beq_nil8]; done) | (simp [errW_none, errW_some] <;> rfl) | (simp [*, errW_none, errW_some] <;> rfl), by repeat (first | (with_reducible first | exact HI0.out | apply IsS120.alloc | apply IsS120.drewN | apply IsS120.drew | apply IsS120.set_0 | apply IsS120.set_1) | exact HI0.out), by repeat (first | (with_reducible first | exact HB.out | apply below_alloc | apply pw_below_drewN | apply below_drew1 | refine below_set ?_ (IsS120.ge HI0.out)) | exact HB.out), by repeat (first | (with_reducible first | exact HK.out | apply KeepBut.set_ | apply keep_drewN | apply keep_drew | apply keep_alloc) | exact HK.out)⟩
            ·
             rw [if_neg c20] at H
             exact absurd H (by simp)
           ·
            rw [if_neg c19] at H
            exact absurd H (by simp)
          ·
           replace c18 := Bool.eq_false_iff.mpr c18
           subst c18
           rw [if_neg (show ¬ (false = true) by decide)] at H
           by_cases c24 : (bt x1000_1 x1001_1) = 34
           ·
            rw [if_pos c24] at H
            have c24b0 : ((bt x1000_1 x1001_1) == 34) = true := beq_iff_eq.mpr c24
            have c24b1 : ((bt x1000_1 x1001_1) != 34) = false := bne_eq_false_iff_eq.mpr c24
            clear c24
            simp only [Option.some.injEq, Prod.mk.injEq] at H
            obtain ⟨rfl, rfl, rfl, rfl⟩ := H
            go_wp2
            repeat (go_quiet (fail); try go_wp2)
            go_ret2
            exact ⟨by first | rfl | (simp [errW_none, errW_some, bne_nil8, beq_nil8]; done) | (simp [errW_none, errW_some] <;> rfl) | (simp [*, errW_none, errW_some] <;> rfl), by repeat (first | (with_reducible first | exact HI0.out | apply IsS120.alloc | apply IsS120.drewN | apply IsS120.drew | apply IsS120.set_0 | apply IsS120.set_1) | exact HI0.out), by repeat (first | (with_reducible first | exact HB.out | apply below_alloc | apply pw_below_drewN | apply below_drew1 | refine below_set ?_ (IsS120.ge HI0.out)) | exact HB.out), by repeat (first | (with_reducible first | exact HK.out | apply KeepBut.set_ | apply keep_drewN | apply keep_drew | apply keep_alloc) | exact HK.out)⟩
           ·
            rw [if_neg c24] at H
            have c24b0 : ((bt x1000_1 x1001_1) == 34) = false := beq_eq_false_iff_ne.mpr c24
            have c24b1 : ((bt x1000_1 x1001_1) != 34) = true := bne_iff_ne.mpr c24
            by_cases c25 : (bt x1000_1 x1001_1) = 60
            ·
             rw [if_pos c25] at H
             have c25b0 : ((bt x1000_1 x1001_1) == 60) = true := beq_iff_eq.mpr c25
             have c25b1 : ((bt x1000_1 x1001_1) != 60) = false := bne_eq_false_iff_eq.mpr c25
             clear c25
             simp only [Option.some.injEq, Prod.mk.injEq] at H
             obtain ⟨rfl, rfl, rfl, rfl⟩ := H
             go_wp2
             repeat (go_quiet (fail); try go_wp2)
             go_ret2
             exact ⟨by first | rfl | (simp [errW_none, errW_some, bne_nil8, beq_nil8]; done) | (simp [errW_none, errW_some] <;> rfl) | (simp [*, errW_none, errW_some] <;> rfl), by repeat (first | (with_reducible first | exact HI0.out | apply IsS120.alloc | apply IsS120.drewN | apply IsS120.drew | apply IsS120.set_0 | apply IsS120.set_1) | exact HI0.out), by repeat (first | (with_reducible first | exact HB.out | apply below_alloc | apply pw_below_drewN | apply below_drew1 | refine below_set ?_ (IsS120.ge HI0.out)) | exact HB.out), by repeat (first | (with_reducible first | exact HK.out | apply KeepBut.set_ | apply keep_drewN | apply keep_drew | apply keep_alloc) | exact HK.out)⟩
            ·
             rw [if_neg c25] at H
             have c25b0 : ((bt x1000_1 x1001_1) == 60) = false := beq_eq_false_iff_ne.mpr c25
             have c25b1 : ((bt x1000_1 x1001_1) != 60) = true := bne_iff_ne.mpr c25
             by_cases c26 : (bt x1000_1 x1001_1) = 62
             ·
              rw [if_pos c26] at H
              have c26b0 : ((bt x1000_1 x1001_1) == 62) = true := beq_iff_eq.mpr c26
              have c26b1 : ((bt x1000_1 x1001_1) != 62) = false := bne_eq_false_iff_eq.mpr c26
              clear c26
              simp only [Option.some.injEq, Prod.mk.injEq] at H
              obtain ⟨rfl, rfl, rfl, rfl⟩ := H
              go_wp2
              repeat (go_quiet (fail); try go_wp2)
              go_ret2
              exact ⟨by first | rfl | (simp [errW_none, errW_some, bne_nil8, beq_nil8]; done) | (simp [errW_none, errW_some] <;> rfl) | (simp [*, errW_none, errW_some] <;> rfl), by repeat (first | (with_reducible first | exact HI0.out | apply IsS120.alloc | apply IsS120.drewN | apply IsS120.drew | apply IsS120.set_0 | apply IsS120.set_1) | exact HI0.out), by repeat (first | (with_reducible first | exact HB.out | apply below_alloc | apply pw_below_drewN | apply below_drew1 | refine below_set ?_ (IsS120.ge HI0.out)) | exact HB.out), by repeat (first | (with_reducible first | exact HK.out | apply KeepBut.set_ | apply keep_drewN | apply keep_drew | apply keep_alloc) | exact HK.out)⟩
             ·
              rw [if_neg c26] at H
              have c26b0 : ((bt x1000_1 x1001_1) == 62) = false := beq_eq_false_iff_ne.mpr c26
              have c26b1 : ((bt x1000_1 x1001_1) != 62) = true := bne_iff_ne.mpr c26
              by_cases c27 : (bt x1000_1 x1001_1) = 92
              ·
               rw [if_pos c27] at H
               have c27b0 : ((bt x1000_1 x1001_1) == 92) = true := beq_iff_eq.mpr c27
               have c27b1 : ((bt x1000_1 x1001_1) != 92) = false := bne_eq_false_iff_eq.mpr c27
               clear c27
               replace H := Option.bind_eq_some_iff.mp H
               obtain ⟨⟨t180, t181, t182, t183⟩, A280, H⟩ := H
               replace H : (if t181 = true then (if x4_1.length < 140737488355328 then ((some (x4_1 ++ [t180] : List Int)).bind fun y184 => (Dxvalue.l0 kj13 y184 (y184.length : Int) t182 t183)) else (none)) else (some ((⟨#[]⟩ : ByteArray), false, t182, t183))) = some (r1, r2, r3, r4) := H
               have A28 := Aside0.mk A280
               clear A280
               by_cases c29 : t181 = true
               ·
                subst c29
                rw [if_pos rfl] at H
                by_cases c30 : x4_1.length < 140737488355328
                ·
                 rw [if_pos c30] at H
                 have LMc30 := Aside0.mk c30
                 clear c30
                 obtain ⟨y184, hy184⟩ : ∃ y_ : List Int, y_ = (x4_1 ++ [t180]) := ⟨_, rfl⟩
                 replace H : (Dxvalue.l0 kj13 y184 (y184.length : Int) t182 t183) = some (r1, r2, r3, r4) := by first | (rw [hy184]; with_reducible exact H) | (have H2_ := (Option.bind_some _ _).symm.trans H; rw [hy184]; with_reducible exact H2_) | (have H2_ := (Option.bind_some _ _).symm.trans H; with_reducible exact H2_) | with_reducible exact H | (rw [hy184]; exact H) | exact H
                 have Ny184 := Aside0.mk hy184
                 clear hy184
                 have H' := Aside0.mk H
                 clear H
                 obtain ⟨HGz31, hgz31⟩ := HI0.out
                 have hcz31_0 := cellS120_0 HGz31
                 have hcz31_1 := cellS120_1 HGz31
                 have hfz31_0 := blk_frozen HGz31 0
                 have hfz31_1 := blk_frozen HGz31 1
                 clear HGz31 hgz31
                 go_wp2_with (first | (go_at_call 124; (with_reducible refine (Dxescaped.calls kj13 g x1000_1 (wrap64 (x1001_1 + 1)) t180 true t182 t183 w0 _ ?side1 ?side2 A28.out).mono ?_); (case side1 => exact apI120 HI0.out); (case side2 => exact apS120 HI0.out); rintro e w32 ⟨rfl, hi, hb, hk⟩; have n0_ := Aside0.mk (Kd.R_mono (Kd.R_keep (IsS120.apart (show IsS120 w0 _ g x1000_1 (wrap64 (x1001_1 + 1)) from by repeat (first | (with_reducible first | exact HI0.out | apply IsS120.alloc | apply IsS120.drewN | apply IsS120.drew | apply IsS120.set_0 | apply IsS120.set_1) | exact HI0.out)) (by (with_reducible repeat (first | apply Kd.R_alloc | apply Kd.R_drewN | apply Kd.R_drew)); exact (Kd.R_mono (Kd.R_far (p := ⟨g, 1, none⟩) (IsS120.apart HI0.out HO_4.out (by decide)) (fun _ hk => hk.2) (.int .i64 (wrap64 (x1001_1 + 1)))) (fun _ h_ => h_.1))) (by decide)) hk (fun _ h => h.2)) (fun _ h => h.1)); have n1_ := Aside0.mk (KeepBut.trans ap5 hk (.inl rfl)); have n2_ := Aside0.mk (hb); have n3_ := Aside0.mk (hi); clear HO_4; clear HK; clear HB; clear HI0; have HO_4 := n0_; have HK := n1_; have HB := n2_; have HI0 := n3_; clear n0_ n1_ n2_ n3_; (try clear hb); (try clear hb2); (try clear hk); (try clear hi)) | ((with_reducible refine gate_builtin (b := .append) (xs := #[.tmp 69, .tmp 71]) rfl ?_); at_builtin; refine Kd.R_append (Kd.int .u8) w.heap.size rfl (.tmp 69) (.tmp 71) 82 5 (.int .u8 0) 1 rfl Tryz.underlying82 info5 rfl (by decide) (by omega) u4 x4_1 t180 [.int .u8 t180] (fun _ => True) (fun _ => False) rfl rfl ?aP (fun _ hk => hk.elim) ?aF ?aO (Below.refl _ _) ?aS ?aL ?_; (case aP => exact rfl); (case aF => exact (fun _ _ => trivial)); (case aO => exact (apAR HO_4.out)); (case aS => exact (keep_size (w := w) (g := g) (row := none) ap5)); (case aL => have := LMc30.out; omega); intro v185 w33 ho hb hg hat; rw [← Ny184.out] at ho; have n0_ := Aside0.mk (IsS120.grown (apI120 HI0.out) hg (IsS120.own_ne HI0.out HO_4.out (by decide))); have n1_ := Aside0.mk (below_weaken (apS120 HI0.out) HL.out hb); have n2_ := Aside0.mk (KeepBut.trans ap5 (KeepBut.of_grown hg g) (Kd.R_base2 HO_4.out)); have n3_ := Aside0.mk (ho); clear HI0; clear HB; clear HK; clear HO_4; have HI0 := n0_; have HB := n1_; have HK := n2_; have HO186 := n3_; clear n0_ n1_ n2_ n3_; clear ho hb hg hat; obtain ⟨Ao34, co34, eo34⟩ := Kd.R_slice HO186.out; subst eo34))
                 repeat (go_quiet (first | (go_at_call 124; (with_reducible refine (Dxescaped.calls kj13 g x1000_1 (wrap64 (x1001_1 + 1)) t180 true t182 t183 w0 _ ?side1 ?side2 A28.out).mono ?_); (case side1 => exact apI120 HI0.out); (case side2 => exact apS120 HI0.out); rintro e w32 ⟨rfl, hi, hb, hk⟩; have n0_ := Aside0.mk (Kd.R_mono (Kd.R_keep (IsS120.apart (show IsS120 w0 _ g x1000_1 (wrap64 (x1001_1 + 1)) from by repeat (first | (with_reducible first | exact HI0.out | apply IsS120.alloc | apply IsS120.drewN | apply IsS120.drew | apply IsS120.set_0 | apply IsS120.set_1) | exact HI0.out)) (by (with_reducible repeat (first | apply Kd.R_alloc | apply Kd.R_drewN | apply Kd.R_drew)); exact (Kd.R_mono (Kd.R_far (p := ⟨g, 1, none⟩) (IsS120.apart HI0.out HO_4.out (by decide)) (fun _ hk => hk.2) (.int .i64 (wrap64 (x1001_1 + 1)))) (fun _ h_ => h_.1))) (by decide)) hk (fun _ h => h.2)) (fun _ h => h.1)); have n1_ := Aside0.mk (KeepBut.trans ap5 hk (.inl rfl)); have n2_ := Aside0.mk (hb); have n3_ := Aside0.mk (hi); clear HO_4; clear HK; clear HB; clear HI0; have HO_4 := n0_; have HK := n1_; have HB := n2_; have HI0 := n3_; clear n0_ n1_ n2_ n3_; (try clear hb); (try clear hb2); (try clear hk); (try clear hi)) | ((with_reducible refine gate_builtin (b := .append) (xs := #[.tmp 69, .tmp 71]) rfl ?_); at_builtin; refine Kd.R_append (Kd.int .u8) w.heap.size rfl (.tmp 69) (.tmp 71) 82 5 (.int .u8 0) 1 rfl Tryz.underlying82 info5 rfl (by decide) (by omega) u4 x4_1 t180 [.int .u8 t180] (fun _ => True) (fun _ => False) rfl rfl ?aP (fun _ hk => hk.elim) ?aF ?aO (Below.refl _ _) ?aS ?aL ?_; (case aP => exact rfl); (case aF => exact (fun _ _ => trivial)); (case aO => exact (apAR HO_4.out)); (case aS => exact (keep_size (w := w) (g := g) (row := none) ap5)); (case aL => have := LMc30.out; omega); intro v185 w33 ho hb hg hat; rw [← Ny184.out] at ho; have n0_ := Aside0.mk (IsS120.grown (apI120 HI0.out) hg (IsS120.own_ne HI0.out HO_4.out (by decide))); have n1_ := Aside0.mk (below_weaken (apS120 HI0.out) HL.out hb); have n2_ := Aside0.mk (KeepBut.trans ap5 (KeepBut.of_grown hg g) (Kd.R_base2 HO_4.out)); have n3_ := Aside0.mk (ho); clear HI0; clear HB; clear HK; clear HO_4; have HI0 := n0_; have HB := n1_; have HK := n2_; have HO186 := n3_; clear n0_ n1_ n2_ n3_; clear ho hb hg hat; obtain ⟨Ao34, co34, eo34⟩ := Kd.R_slice HO186.out; subst eo34)); try go_wp2_with (first | (go_at_call 124; (with_reducible refine (Dxescaped.calls kj13 g x1000_1 (wrap64 (x1001_1 + 1)) t180 true t182 t183 w0 _ ?side1 ?side2 A28.out).mono ?_); (case side1 => exact apI120 HI0.out); (case side2 => exact apS120 HI0.out); rintro e w32 ⟨rfl, hi, hb, hk⟩; have n0_ := Aside0.mk (Kd.R_mono (Kd.R_keep (IsS120.apart (show IsS120 w0 _ g x1000_1 (wrap64 (x1001_1 + 1)) from by repeat (first | (with_reducible first | exact HI0.out | apply IsS120.alloc | apply IsS120.drewN | apply IsS120.drew | apply IsS120.set_0 | apply IsS120.set_1) | exact HI0.out)) (by (with_reducible repeat (first | apply Kd.R_alloc | apply Kd.R_drewN | apply Kd.R_drew)); exact (Kd.R_mono (Kd.R_far (p := ⟨g, 1, none⟩) (IsS120.apart HI0.out HO_4.out (by decide)) (fun _ hk => hk.2) (.int .i64 (wrap64 (x1001_1 + 1)))) (fun _ h_ => h_.1))) (by decide)) hk (fun _ h => h.2)) (fun _ h => h.1)); have n1_ := Aside0.mk (KeepBut.trans ap5 hk (.inl rfl)); have n2_ := Aside0.mk (hb); have n3_ := Aside0.mk (hi); clear HO_4; clear HK; clear HB; clear HI0; have HO_4 := n0_; have HK := n1_; have HB := n2_; have HI0 := n3_; clear n0_ n1_ n2_ n3_; (try clear hb); (try clear hb2); (try clear hk); (try clear hi)) | ((with_reducible refine gate_builtin (b := .append) (xs := #[.tmp 69, .tmp 71]) rfl ?_); at_builtin; refine Kd.R_append (Kd.int .u8) w.heap.size rfl (.tmp 69) (.tmp 71) 82 5 (.int .u8 0) 1 rfl Tryz.underlying82 info5 rfl (by decide) (by omega) u4 x4_1 t180 [.int .u8 t180] (fun _ => True) (fun _ => False) rfl rfl ?aP (fun _ hk => hk.elim) ?aF ?aO (Below.refl _ _) ?aS ?aL ?_; (case aP => exact rfl); (case aF => exact (fun _ _ => trivial)); (case aO => exact (apAR HO_4.out)); (case aS => exact (keep_size (w := w) (g := g) (row := none) ap5)); (case aL => have := LMc30.out; omega); intro v185 w33 ho hb hg hat; rw [← Ny184.out] at ho; have n0_ := Aside0.mk (IsS120.grown (apI120 HI0.out) hg (IsS120.own_ne HI0.out HO_4.out (by decide))); have n1_ := Aside0.mk (below_weaken (apS120 HI0.out) HL.out hb); have n2_ := Aside0.mk (KeepBut.trans ap5 (KeepBut.of_grown hg g) (Kd.R_base2 HO_4.out)); have n3_ := Aside0.mk (ho); clear HI0; clear HB; clear HK; clear HO_4; have HI0 := n0_; have HB := n1_; have HK := n2_; have HO186 := n3_; clear n0_ n1_ n2_ n3_; clear ho hb hg hat; obtain ⟨Ao34, co34, eo34⟩ := Kd.R_slice HO186.out; subst eo34)))
                 go_roundg kj13
                 case measure => have := HK1.out; have := HJ13.out; omega
                 case rel => exact ⟨(y184), ((y184.length : Int)), (t182), (t183), ap2, H', ⟨by have := HK1.out; have := HJ13.out; omega⟩, ⟨by (with_reducible repeat (first | apply Kd.R_alloc | apply Kd.R_drewN | apply Kd.R_drew)); exact HO186.out⟩, ⟨by repeat (first | (with_reducible first | exact HI0.out | apply IsS120.alloc | apply IsS120.drewN | apply IsS120.drew | apply IsS120.set_0 | apply IsS120.set_1) | exact HI0.out)⟩, ⟨by repeat (first | (with_reducible first | exact HK.out | apply KeepBut.set_ | apply keep_drewN | apply keep_drew | apply keep_alloc) | exact HK.out)⟩, ⟨by repeat (first | (with_reducible first | exact HB.out | apply below_alloc | apply pw_below_drewN | apply below_drew1 | refine below_set ?_ (IsS120.ge HI0.out)) | exact HB.out)⟩⟩
                ·
                 rw [if_neg c30] at H
                 exact absurd H (by simp)
               ·
                replace c29 := Bool.eq_false_iff.mpr c29
                subst c29
                rw [if_neg (show ¬ (false = true) by decide)] at H
                simp only [Option.some.injEq, Prod.mk.injEq] at H
                obtain ⟨rfl, rfl, rfl, rfl⟩ := H
                obtain ⟨HGz35, hgz35⟩ := HI0.out
                have hcz35_0 := cellS120_0 HGz35
                have hcz35_1 := cellS120_1 HGz35
                have hfz35_0 := blk_frozen HGz35 0
                have hfz35_1 := blk_frozen HGz35 1
                clear HGz35 hgz35
                go_wp2_with (first | (go_at_call 124; (with_reducible refine (Dxescaped.calls kj13 g x1000_1 (wrap64 (x1001_1 + 1)) t180 false t182 t183 w0 _ ?side1 ?side2 A28.out).mono ?_); (case side1 => exact apI120 HI0.out); (case side2 => exact apS120 HI0.out); rintro e w36 ⟨rfl, hi, hb, hk⟩; have n0_ := Aside0.mk (Kd.R_mono (Kd.R_keep (IsS120.apart (show IsS120 w0 _ g x1000_1 (wrap64 (x1001_1 + 1)) from by repeat (first | (with_reducible first | exact HI0.out | apply IsS120.alloc | apply IsS120.drewN | apply IsS120.drew | apply IsS120.set_0 | apply IsS120.set_1) | exact HI0.out)) (by (with_reducible repeat (first | apply Kd.R_alloc | apply Kd.R_drewN | apply Kd.R_drew)); exact (Kd.R_mono (Kd.R_far (p := ⟨g, 1, none⟩) (IsS120.apart HI0.out HO_4.out (by decide)) (fun _ hk => hk.2) (.int .i64 (wrap64 (x1001_1 + 1)))) (fun _ h_ => h_.1))) (by decide)) hk (fun _ h => h.2)) (fun _ h => h.1)); have n1_ := Aside0.mk (KeepBut.trans ap5 hk (.inl rfl)); have n2_ := Aside0.mk (hb); have n3_ := Aside0.mk (hi); clear HO_4; clear HK; clear HB; clear HI0; have HO_4 := n0_; have HK := n1_; have HB := n2_; have HI0 := n3_; clear n0_ n1_ n2_ n3_; (try clear hb); (try clear hb2); (try clear hk); (try clear hi)))
                repeat (go_quiet (first | (go_at_call 124; (with_reducible refine (Dxescaped.calls kj13 g x1000_1 (wrap64 (x1001_1 + 1)) t180 false t182 t183 w0 _ ?side1 ?side2 A28.out).mono ?_); (case side1 => exact apI120 HI0.out); (case side2 => exact apS120 HI0.out); rintro e w36 ⟨rfl, hi, hb, hk⟩; have n0_ := Aside0.mk (Kd.R_mono (Kd.R_keep (IsS120.apart (show IsS120 w0 _ g x1000_1 (wrap64 (x1001_1 + 1)) from by repeat (first | (with_reducible first | exact HI0.out | apply IsS120.alloc | apply IsS120.drewN | apply IsS120.drew | apply IsS120.set_0 | apply IsS120.set_1) | exact HI0.out)) (by (with_reducible repeat (first | apply Kd.R_alloc | apply Kd.R_drewN | apply Kd.R_drew)); exact (Kd.R_mono (Kd.R_far (p := ⟨g, 1, none⟩) (IsS120.apart HI0.out HO_4.out (by decide)) (fun _ hk => hk.2) (.int .i64 (wrap64 (x1001_1 + 1)))) (fun _ h_ => h_.1))) (by decide)) hk (fun _ h => h.2)) (fun _ h => h.1)); have n1_ := Aside0.mk (KeepBut.trans ap5 hk (.inl rfl)); have n2_ := Aside0.mk (hb); have n3_ := Aside0.mk (hi); clear HO_4; clear HK; clear HB; clear HI0; have HO_4 := n0_; have HK := n1_; have HB := n2_; have HI0 := n3_; clear n0_ n1_ n2_ n3_; (try clear hb); (try clear hb2); (try clear hk); (try clear hi))); try go_wp2_with (first | (go_at_call 124; (with_reducible refine (Dxescaped.calls kj13 g x1000_1 (wrap64 (x1001_1 + 1)) t180 false t182 t183 w0 _ ?side1 ?side2 A28.out).mono ?_); (case side1 => exact apI120 HI0.out); (case side2 => exact apS120 HI0.out); rintro e w36 ⟨rfl, hi, hb, hk⟩; have n0_ := Aside0.mk (Kd.R_mono (Kd.R_keep (IsS120.apart (show IsS120 w0 _ g x1000_1 (wrap64 (x1001_1 + 1)) from by repeat (first | (with_reducible first | exact HI0.out | apply IsS120.alloc | apply IsS120.drewN | apply IsS120.drew | apply IsS120.set_0 | apply IsS120.set_1) | exact HI0.out)) (by (with_reducible repeat (first | apply Kd.R_alloc | apply Kd.R_drewN | apply Kd.R_drew)); exact (Kd.R_mono (Kd.R_far (p := ⟨g, 1, none⟩) (IsS120.apart HI0.out HO_4.out (by decide)) (fun _ hk => hk.2) (.int .i64 (wrap64 (x1001_1 + 1)))) (fun _ h_ => h_.1))) (by decide)) hk (fun _ h => h.2)) (fun _ h => h.1)); have n1_ := Aside0.mk (KeepBut.trans ap5 hk (.inl rfl)); have n2_ := Aside0.mk (hb); have n3_ := Aside0.mk (hi); clear HO_4; clear HK; clear HB; clear HI0; have HO_4 := n0_; have HK := n1_; have HB := n2_; have HI0 := n3_; clear n0_ n1_ n2_ n3_; (try clear hb); (try clear hb2); (try clear hk); (try clear hi))))
                go_ret2
                exact ⟨by first | rfl | (simp [errW_none, errW_some, bne_nil8, beq_nil8]; done) | (simp [errW_none, errW_some] <;> rfl) | (simp [*, errW_none, errW_some] <;> rfl), by repeat (first | (with_reducible first | exact HI0.out | apply IsS120.alloc | apply IsS120.drewN | apply IsS120.drew | apply IsS120.set_0 | apply IsS120.set_1) | exact HI0.out), by repeat (first | (with_reducible first | exact HB.out | apply below_alloc | apply pw_below_drewN | apply below_drew1 | refine below_set ?_ (IsS120.ge HI0.out)) | exact HB.out), by repeat (first | (with_reducible first | exact HK.out | apply KeepBut.set_ | apply keep_drewN | apply keep_drew | apply keep_alloc) | exact HK.out)⟩
              ·
               rw [if_neg c27] at H
               have c27b0 : ((bt x1000_1 x1001_1) == 92) = false := beq_eq_false_iff_ne.mpr c27
               have c27b1 : ((bt x1000_1 x1001_1) != 92) = true := bne_iff_ne.mpr c27
               by_cases c37 : x4_1.length < 140737488355328
               ·
                rw [if_pos c37] at H
                have LMc37 := Aside0.mk c37
                clear c37
                obtain ⟨y187, hy187⟩ : ∃ y_ : List Int, y_ = (x4_1 ++ [(bt x1000_1 x1001_1)]) := ⟨_, rfl⟩
                replace H : (if (bt x1000_1 x1001_1) = 32 then (Dxvalue.l0 kj13 y187 x5_1 x1000_1 (wrap64 (x1001_1 + 1))) else (Dxvalue.l0 kj13 y187 (y187.length : Int) x1000_1 (wrap64 (x1001_1 + 1)))) = some (r1, r2, r3, r4) := by first | (rw [hy187]; with_reducible exact H) | (have H2_ := (Option.bind_some _ _).symm.trans H; rw [hy187]; with_reducible exact H2_) | (have H2_ := (Option.bind_some _ _).symm.trans H; with_reducible exact H2_) | with_reducible exact H | (rw [hy187]; exact H) | exact H
                have Ny187 := Aside0.mk hy187
                clear hy187
                by_cases c38 : (bt x1000_1 x1001_1) = 32
                ·
                 rw [if_pos c38] at H
                 have c38b0 : ((bt x1000_1 x1001_1) == 32) = true := beq_iff_eq.mpr c38
                 have c38b1 : ((bt x1000_1 x1001_1) != 32) = false := bne_eq_false_iff_eq.mpr c38
                 clear c38
                 have H' := Aside0.mk H
                 clear H
                 obtain ⟨HGz39, hgz39⟩ := HI0.out
                 have hcz39_0 := cellS120_0 HGz39
                 have hcz39_1 := cellS120_1 HGz39
                 have hfz39_0 := blk_frozen HGz39 0
                 have hfz39_1 := blk_frozen HGz39 1
                 clear HGz39 hgz39
                 go_wp2_with (first | ((with_reducible refine gate_builtin (b := .append) (xs := #[.tmp 75, .tmp 77]) rfl ?_); at_builtin; refine Kd.R_append (Kd.int .u8) w.heap.size rfl (.tmp 75) (.tmp 77) 82 5 (.int .u8 0) 1 rfl Tryz.underlying82 info5 rfl (by decide) (by omega) u4 x4_1 (bt x1000_1 x1001_1) [.int .u8 (bt x1000_1 x1001_1)] (fun _ => True) (fun _ => False) rfl (by first | (go_simp; done) | (go_simp; rfl)) ?aP (fun _ hk => hk.elim) ?aF ?aO (Below.refl _ _) ?aS ?aL ?_; (case aP => exact rfl); (case aF => exact (fun _ _ => trivial)); (case aO => exact (by (with_reducible repeat (first | apply Kd.R_alloc | apply Kd.R_drewN | apply Kd.R_drew)); exact Kd.R_mono (Kd.R_far (p := ⟨g, 1, none⟩) (IsS120.apart HI0.out HO_4.out (by decide)) (fun _ hk => hk.2) (.int .i64 (wrap64 (x1001_1 + 1)))) (fun _ hk => trivial))); (case aS => exact (keep_size (w := w) (g := g) (row := none) ap5)); (case aL => have := LMc37.out; omega); intro v188 w40 ho hb hg hat; rw [← Ny187.out] at ho; have n0_ := Aside0.mk (IsS120.grown (apI120 HI0.out) hg (IsS120.own_ne HI0.out HO_4.out (by decide))); have n1_ := Aside0.mk (below_weaken (apS120 HI0.out) HL.out hb); have n2_ := Aside0.mk (KeepBut.trans ap5 (KeepBut.of_grown hg g) (Kd.R_base2 HO_4.out)); have n3_ := Aside0.mk (ho); clear HI0; clear HB; clear HK; clear HO_4; have HI0 := n0_; have HB := n1_; have HK := n2_; have HO189 := n3_; clear n0_ n1_ n2_ n3_; clear ho hb hg hat))
                 repeat (go_quiet (first | ((with_reducible refine gate_builtin (b := .append) (xs := #[.tmp 75, .tmp 77]) rfl ?_); at_builtin; refine Kd.R_append (Kd.int .u8) w.heap.size rfl (.tmp 75) (.tmp 77) 82 5 (.int .u8 0) 1 rfl Tryz.underlying82 info5 rfl (by decide) (by omega) u4 x4_1 (bt x1000_1 x1001_1) [.int .u8 (bt x1000_1 x1001_1)] (fun _ => True) (fun _ => False) rfl (by first | (go_simp; done) | (go_simp; rfl)) ?aP (fun _ hk => hk.elim) ?aF ?aO (Below.refl _ _) ?aS ?aL ?_; (case aP => exact rfl); (case aF => exact (fun _ _ => trivial)); (case aO => exact (by (with_reducible repeat (first | apply Kd.R_alloc | apply Kd.R_drewN | apply Kd.R_drew)); exact Kd.R_mono (Kd.R_far (p := ⟨g, 1, none⟩) (IsS120.apart HI0.out HO_4.out (by decide)) (fun _ hk => hk.2) (.int .i64 (wrap64 (x1001_1 + 1)))) (fun _ hk => trivial))); (case aS => exact (keep_size (w := w) (g := g) (row := none) ap5)); (case aL => have := LMc37.out; omega); intro v188 w40 ho hb hg hat; rw [← Ny187.out] at ho; have n0_ := Aside0.mk (IsS120.grown (apI120 HI0.out) hg (IsS120.own_ne HI0.out HO_4.out (by decide))); have n1_ := Aside0.mk (below_weaken (apS120 HI0.out) HL.out hb); have n2_ := Aside0.mk (KeepBut.trans ap5 (KeepBut.of_grown hg g) (Kd.R_base2 HO_4.out)); have n3_ := Aside0.mk (ho); clear HI0; clear HB; clear HK; clear HO_4; have HI0 := n0_; have HB := n1_; have HK := n2_; have HO189 := n3_; clear n0_ n1_ n2_ n3_; clear ho hb hg hat)); try go_wp2_with (first | ((with_reducible refine gate_builtin (b := .append) (xs := #[.tmp 75, .tmp 77]) rfl ?_); at_builtin; refine Kd.R_append (Kd.int .u8) w.heap.size rfl (.tmp 75) (.tmp 77) 82 5 (.int .u8 0) 1 rfl Tryz.underlying82 info5 rfl (by decide) (by omega) u4 x4_1 (bt x1000_1 x1001_1) [.int .u8 (bt x1000_1 x1001_1)] (fun _ => True) (fun _ => False) rfl (by first | (go_simp; done) | (go_simp; rfl)) ?aP (fun _ hk => hk.elim) ?aF ?aO (Below.refl _ _) ?aS ?aL ?_; (case aP => exact rfl); (case aF => exact (fun _ _ => trivial)); (case aO => exact (by (with_reducible repeat (first | apply Kd.R_alloc | apply Kd.R_drewN | apply Kd.R_drew)); exact Kd.R_mono (Kd.R_far (p := ⟨g, 1, none⟩) (IsS120.apart HI0.out HO_4.out (by decide)) (fun _ hk => hk.2) (.int .i64 (wrap64 (x1001_1 + 1)))) (fun _ hk => trivial))); (case aS => exact (keep_size (w := w) (g := g) (row := none) ap5)); (case aL => have := LMc37.out; omega); intro v188 w40 ho hb hg hat; rw [← Ny187.out] at ho; have n0_ := Aside0.mk (IsS120.grown (apI120 HI0.out) hg (IsS120.own_ne HI0.out HO_4.out (by decide))); have n1_ := Aside0.mk (below_weaken (apS120 HI0.out) HL.out hb); have n2_ := Aside0.mk (KeepBut.trans ap5 (KeepBut.of_grown hg g) (Kd.R_base2 HO_4.out)); have n3_ := Aside0.mk (ho); clear HI0; clear HB; clear HK; clear HO_4; have HI0 := n0_; have HB := n1_; have HK := n2_; have HO189 := n3_; clear n0_ n1_ n2_ n3_; clear ho hb hg hat)))
                 go_roundg kj13
                 case measure => have := HK1.out; have := HJ13.out; omega
                 case rel => exact ⟨(y187), (x5_1), (x1000_1), (wrap64 (x1001_1 + 1)), ap2, H', ⟨by have := HK1.out; have := HJ13.out; omega⟩, ⟨by (with_reducible repeat (first | apply Kd.R_alloc | apply Kd.R_drewN | apply Kd.R_drew)); exact HO189.out⟩, ⟨by repeat (first | (with_reducible first | exact HI0.out | apply IsS120.alloc | apply IsS120.drewN | apply IsS120.drew | apply IsS120.set_0 | apply IsS120.set_1) | exact HI0.out)⟩, ⟨by repeat (first | (with_reducible first | exact HK.out | apply KeepBut.set_ | apply keep_drewN | apply keep_drew | apply keep_alloc) | exact HK.out)⟩, ⟨by repeat (first | (with_reducible first | exact HB.out | apply below_alloc | apply pw_below_drewN | apply below_drew1 | refine below_set ?_ (IsS120.ge HI0.out)) | exact HB.out)⟩⟩
                ·
                 rw [if_neg c38] at H
                 have c38b0 : ((bt x1000_1 x1001_1) == 32) = false := beq_eq_false_iff_ne.mpr c38
                 have c38b1 : ((bt x1000_1 x1001_1) != 32) = true := bne_iff_ne.mpr c38
                 have H' := Aside0.mk H
                 clear H
                 obtain ⟨HGz41, hgz41⟩ := HI0.out
                 have hcz41_0 := cellS120_0 HGz41
                 have hcz41_1 := cellS120_1 HGz41
                 have hfz41_0 := blk_frozen HGz41 0
                 have hfz41_1 := blk_frozen HGz41 1
                 clear HGz41 hgz41
                 go_wp2_with (first | ((with_reducible refine gate_builtin (b := .append) (xs := #[.tmp 75, .tmp 77]) rfl ?_); at_builtin; refine Kd.R_append (Kd.int .u8) w.heap.size rfl (.tmp 75) (.tmp 77) 82 5 (.int .u8 0) 1 rfl Tryz.underlying82 info5 rfl (by decide) (by omega) u4 x4_1 (bt x1000_1 x1001_1) [.int .u8 (bt x1000_1 x1001_1)] (fun _ => True) (fun _ => False) rfl (by first | (go_simp; done) | (go_simp; rfl)) ?aP (fun _ hk => hk.elim) ?aF ?aO (Below.refl _ _) ?aS ?aL ?_; (case aP => exact rfl); (case aF => exact (fun _ _ => trivial)); (case aO => exact (by (with_reducible repeat (first | apply Kd.R_alloc | apply Kd.R_drewN | apply Kd.R_drew)); exact Kd.R_mono (Kd.R_far (p := ⟨g, 1, none⟩) (IsS120.apart HI0.out HO_4.out (by decide)) (fun _ hk => hk.2) (.int .i64 (wrap64 (x1001_1 + 1)))) (fun _ hk => trivial))); (case aS => exact (keep_size (w := w) (g := g) (row := none) ap5)); (case aL => have := LMc37.out; omega); intro v188 w42 ho hb hg hat; rw [← Ny187.out] at ho; have n0_ := Aside0.mk (IsS120.grown (apI120 HI0.out) hg (IsS120.own_ne HI0.out HO_4.out (by decide))); have n1_ := Aside0.mk (below_weaken (apS120 HI0.out) HL.out hb); have n2_ := Aside0.mk (KeepBut.trans ap5 (KeepBut.of_grown hg g) (Kd.R_base2 HO_4.out)); have n3_ := Aside0.mk (ho); clear HI0; clear HB; clear HK; clear HO_4; have HI0 := n0_; have HB := n1_; have HK := n2_; have HO189 := n3_; clear n0_ n1_ n2_ n3_; clear ho hb hg hat; obtain ⟨Ao43, co43, eo43⟩ := Kd.R_slice HO189.out; subst eo43))
                 repeat (go_quiet (first | ((with_reducible refine gate_builtin (b := .append) (xs := #[.tmp 75, .tmp 77]) rfl ?_); at_builtin; refine Kd.R_append (Kd.int .u8) w.heap.size rfl (.tmp 75) (.tmp 77) 82 5 (.int .u8 0) 1 rfl Tryz.underlying82 info5 rfl (by decide) (by omega) u4 x4_1 (bt x1000_1 x1001_1) [.int .u8 (bt x1000_1 x1001_1)] (fun _ => True) (fun _ => False) rfl (by first | (go_simp; done) | (go_simp; rfl)) ?aP (fun _ hk => hk.elim) ?aF ?aO (Below.refl _ _) ?aS ?aL ?_; (case aP => exact rfl); (case aF => exact (fun _ _ => trivial)); (case aO => exact (by (with_reducible repeat (first | apply Kd.R_alloc | apply Kd.R_drewN | apply Kd.R_drew)); exact Kd.R_mono (Kd.R_far (p := ⟨g, 1, none⟩) (IsS120.apart HI0.out HO_4.out (by decide)) (fun _ hk => hk.2) (.int .i64 (wrap64 (x1001_1 + 1)))) (fun _ hk => trivial))); (case aS => exact (keep_size (w := w) (g := g) (row := none) ap5)); (case aL => have := LMc37.out; omega); intro v188 w42 ho hb hg hat; rw [← Ny187.out] at ho; have n0_ := Aside0.mk (IsS120.grown (apI120 HI0.out) hg (IsS120.own_ne HI0.out HO_4.out (by decide))); have n1_ := Aside0.mk (below_weaken (apS120 HI0.out) HL.out hb); have n2_ := Aside0.mk (KeepBut.trans ap5 (KeepBut.of_grown hg g) (Kd.R_base2 HO_4.out)); have n3_ := Aside0.mk (ho); clear HI0; clear HB; clear HK; clear HO_4; have HI0 := n0_; have HB := n1_; have HK := n2_; have HO189 := n3_; clear n0_ n1_ n2_ n3_; clear ho hb hg hat; obtain ⟨Ao43, co43, eo43⟩ := Kd.R_slice HO189.out; subst eo43)); try go_wp2_with (first | ((with_reducible refine gate_builtin (b := .append) (xs := #[.tmp 75, .tmp 77]) rfl ?_); at_builtin; refine Kd.R_append (Kd.int .u8) w.heap.size rfl (.tmp 75) (.tmp 77) 82 5 (.int .u8 0) 1 rfl Tryz.underlying82 info5 rfl (by decide) (by omega) u4 x4_1 (bt x1000_1 x1001_1) [.int .u8 (bt x1000_1 x1001_1)] (fun _ => True) (fun _ => False) rfl (by first | (go_simp; done) | (go_simp; rfl)) ?aP (fun _ hk => hk.elim) ?aF ?aO (Below.refl _ _) ?aS ?aL ?_; (case aP => exact rfl); (case aF => exact (fun _ _ => trivial)); (case aO => exact (by (with_reducible repeat (first | apply Kd.R_alloc | apply Kd.R_drewN | apply Kd.R_drew)); exact Kd.R_mono (Kd.R_far (p := ⟨g, 1, none⟩) (IsS120.apart HI0.out HO_4.out (by decide)) (fun _ hk => hk.2) (.int .i64 (wrap64 (x1001_1 + 1)))) (fun _ hk => trivial))); (case aS => exact (keep_size (w := w) (g := g) (row := none) ap5)); (case aL => have := LMc37.out; omega); intro v188 w42 ho hb hg hat; rw [← Ny187.out] at ho; have n0_ := Aside0.mk (IsS120.grown (apI120 HI0.out) hg (IsS120.own_ne HI0.out HO_4.out (by decide))); have n1_ := Aside0.mk (below_weaken (apS120 HI0.out) HL.out hb); have n2_ := Aside0.mk (KeepBut.trans ap5 (KeepBut.of_grown hg g) (Kd.R_base2 HO_4.out)); have n3_ := Aside0.mk (ho); clear HI0; clear HB; clear HK; clear HO_4; have HI0 := n0_; have HB := n1_; have HK := n2_; have HO189 := n3_; clear n0_ n1_ n2_ n3_; clear ho hb hg hat; obtain ⟨Ao43, co43, eo43⟩ := Kd.R_slice HO189.out; subst eo43)))
                 go_roundg kj13
                 case measure => have := HK1.out; have := HJ13.out; omega
                 case rel => exact ⟨(y187), ((y187.length : Int)), (x1000_1), (wrap64 (x1001_1 + 1)), ap2, H', ⟨by have := HK1.out; have := HJ13.out; omega⟩, ⟨by (with_reducible repeat (first | apply Kd.R_alloc | apply Kd.R_drewN | apply Kd.R_drew)); exact HO189.out⟩, ⟨by repeat (first | (with_reducible first | exact HI0.out | apply IsS120.alloc | apply IsS120.drewN | apply IsS120.drew | apply IsS120.set_0 | apply IsS120.set_1) | exact HI0.out)⟩, ⟨by repeat (first | (with_reducible first | exact HK.out | apply KeepBut.set_ | apply keep_drewN | apply keep_drew | apply keep_alloc) | exact HK.out)⟩, ⟨by repeat (first | (with_reducible first | exact HB.out | apply below_alloc | apply pw_below_drewN | apply below_drew1 | refine below_set ?_ (IsS120.ge HI0.out)) | exact HB.out)⟩⟩
               ·
                rw [if_neg c37] at H
                exact absurd H (by simp)
       ·
        rw [if_neg c12] at H
        exact absurd H (by simp)
      ·
       rw [if_neg c11] at H
       have c11b0 := decide_eq_false c11
       clear c11
       by_cases c44 : 0 ≤ x5_1
       ·
        rw [if_pos c44] at H
        have c44b0 := eq_true c44
        have c44b1 := decide_eq_true c44
        clear c44
        by_cases c45 : x5_1 ≤ (x4_1.length : Int)
        ·
         rw [if_pos c45] at H
         have c45b0 := eq_true c45
         have c45b1 := decide_eq_true c45
         clear c45
         obtain ⟨y172, hy172⟩ : ∃ y_ : List Int, y_ = (x4_1.take (x5_1 : Int).toNat) := ⟨_, rfl⟩
         replace H : (some (strOfNums y172, true, x1000_1, x1001_1)) = some (r1, r2, r3, r4) := by first | (rw [hy172]; with_reducible exact H) | (have H2_ := (Option.bind_some _ _).symm.trans H; rw [hy172]; with_reducible exact H2_) | (have H2_ := (Option.bind_some _ _).symm.trans H; with_reducible exact H2_) | with_reducible exact H | (rw [hy172]; exact H) | exact H
         have Ny172 := Aside0.mk hy172
         clear hy172
         simp only [Option.some.injEq, Prod.mk.injEq] at H
         obtain ⟨rfl, rfl, rfl, rfl⟩ := H
         obtain ⟨HGz46, hgz46⟩ := HI0.out
         have hcz46_0 := cellS120_0 HGz46
         have hcz46_1 := cellS120_1 HGz46
         have hfz46_0 := blk_frozen HGz46 0
         have hfz46_1 := blk_frozen HGz46 1
         clear HGz46 hgz46
         obtain ⟨Ao48, co48, eo48⟩ := Kd.R_slice HO_4.out
         subst eo48
         have q47 : (x5_1 : Int) ≤ ((x4_1.length : Int) : Int) := of_decide_eq_true ap0
         obtain ⟨i047, hi047, _, hsz47, _⟩ := info_parts info5
         have hroom47 : x4_1.length ≤ co48 := (Kd.R_reads' HO_4.out).2.1
         have hC47 : Kd.C (Kd.int .u8) _ Ao48 x4_1.length x4_1 := (Kd.R_reads' HO_4.out).2.2
         have hcut47 := cut_to (P := Tryz.prog) 82 5 .i64 Tryz.underlying82 hi047 Ao48 x4_1.length co48 x5_1 (of_decide_eq_true ap0) q47 hroom47
         have hr47 := Kd.C_take (m := (x5_1 : Int).toNat) hC47 (by omega)
         have hy47 : y172.length = (x5_1 : Int).toNat := (by rw [Ny172.out, List.length_take]; omega)
         rw [← Ny172.out] at hr47
         rw [← hy47] at hcut47
         have HR175 := Aside0.mk hr47
         have HC175 := Aside0.mk (show y172.length ≤ co48 from by omega)
         clear hr47 hC47 hroom47 hi047 hsz47
         have KY47 := Aside0.mk hy47
         clear hy47
         have KL47 := Aside0.mk (show (x5_1 : Int).toNat ≤ x4_1.length from by omega)
         replace q47 := eq_true q47
         have hcv49 := Kd.C_string (P := Tryz.prog) (A := Ao48) (c := co48) Tryz.underlying82 Tryz.underlying5 Tryz.underlying9 (apC HR175.out)
         have hcv49n := fun m_ => Kd.C_string (P := Tryz.prog) (A := Ao48) (c := co48) Tryz.underlying82 Tryz.underlying5 Tryz.underlying9 (Kd.C_drewN (apC HR175.out) m_)
         go_wp2
         repeat (go_quiet (fail); try go_wp2)
         go_ret2
         exact ⟨by first | rfl | (simp [errW_none, errW_some, bne_nil8, beq_nil8]; done) | (simp [errW_none, errW_some] <;> rfl) | (simp [*, errW_none, errW_some] <;> rfl), by repeat (first | (with_reducible first | exact HI0.out | apply IsS120.alloc | apply IsS120.drewN | apply IsS120.drew | apply IsS120.set_0 | apply IsS120.set_1) | exact HI0.out), by repeat (first | (with_reducible first | exact HB.out | apply below_alloc | apply pw_below_drewN | apply below_drew1 | refine below_set ?_ (IsS120.ge HI0.out)) | exact HB.out), by repeat (first | (with_reducible first | exact HK.out | apply KeepBut.set_ | apply keep_drewN | apply keep_drew | apply keep_alloc) | exact HK.out)⟩
        ·
         rw [if_neg c45] at H
         exact absurd H (by simp)
       ·
        rw [if_neg c44] at H
        exact absurd H (by simp)
  ·
   rw [if_neg c4] at H
   exact absurd H (by simp)
 ·
  rw [if_neg c3] at H
  exact absurd H (by simp)
mutual
def dn_Parse.l0 : Nat → ByteArray → List (List (S96)) → List (S96) → ByteArray → Int → Option ((List (List (S96))) × Int)
 | 0, _, _, _, _, _ => none
 | k + 1, x0, x5, x6, x195000, x195001 => (Dxkind.f k x195000 x195001).bind fun bt197 => (if bt197.2.1 = true then ((Dxvalue.f k bt197.2.2.1 bt197.2.2.2).bind fun bt201 => (if bt201.2.1 = true then (if x6.length < 4398046511104 then ((some (x6 ++ [(⟨bt197.1, bt201.1⟩ : S96)] : List (S96))).bind fun y205 => (if bt201.2.2.2 = (x0.size : Int) then (dn_Parse.j1 k x0 x5 y205 (bt201.2.2.2 == (x0.size : Int)) true bt201.2.2.1 bt201.2.2.2) else (if 0 ≤ bt201.2.2.2 then (if bt201.2.2.2 < (x0.size : Int) then (dn_Parse.j1 k x0 x5 y205 (bt201.2.2.2 == (x0.size : Int)) ((bt x0 bt201.2.2.2) != 43) bt201.2.2.1 bt201.2.2.2) else (none)) else (none)))) else (none)) else (some (([] : List (List (S96))), 4)))) else (some (([] : List (List (S96))), 4)))
def dn_Parse.j1 : Nat → ByteArray → List (List (S96)) → List (S96) → Bool → Bool → ByteArray → Int → Option ((List (List (S96))) × Int)
 | 0, _, _, _, _, _, _, _ => none
 | k + 1, x0, x5, x6, x10, x62, x195000, x195001 => if x62 = true then (if x5.length < 5864062014805 then ((some (x5 ++ [x6] : List (List (S96)))).bind fun y208 => (if x10 = true then ((dn_Right.f k y208).bind fun t211 => (if t211 = true then (some (y208, 0)) else (some (([] : List (List (S96))), 4)))) else (dn_Parse.l0 k x0 y208 ([] : List (S96)) x195000 (wrap64 (x195001 + 1))))) else (none)) else (if x10 = true then ((dn_Right.f k x5).bind fun t212 => (if t212 = true then (some (x5, 0)) else (some (([] : List (List (S96))), 4)))) else (dn_Parse.l0 k x0 x5 x6 x195000 (wrap64 (x195001 + 1))))
end
def dn_Parse.f (k : Nat) (a0 : ByteArray) : Option ((List (List (S96))) × Int) := if (a0.size : Int) > 1000 then (some (([] : List (List (S96))), 5)) else ((Dxblanks.f k a0 0).bind fun bt195 => (if bt195.2 = (a0.size : Int) then (some (([] : List (List (S96))), 0)) else (dn_Parse.l0 k a0 ([] : List (List (S96))) ([] : List (S96)) bt195.1 bt195.2)))
theorem dn_Parse.mono_l : ∀ k, (∀ y0 y1 y2 y3 y4, LeO (dn_Parse.l0 k y0 y1 y2 y3 y4) (dn_Parse.l0 (k + 1) y0 y1 y2 y3 y4)) ∧ (∀ y0 y1 y2 y3 y4 y5 y6, LeO (dn_Parse.j1 k y0 y1 y2 y3 y4 y5 y6) (dn_Parse.j1 (k + 1) y0 y1 y2 y3 y4 y5 y6))
 | 0 => ⟨fun _ _ _ _ _ r h => by simp [dn_Parse.l0] at h, fun _ _ _ _ _ _ _ r h => by simp [dn_Parse.j1] at h⟩
 | k + 1 => by
  obtain ⟨ih0, ih1⟩ := dn_Parse.mono_l k
  refine ⟨?_, ?_⟩
  ·
   intro y0 y1 y2 y3 y4
   unfold dn_Parse.l0
   repeat' first
   | (with_reducible exact ih0 _ _ _ _ _)
   | (with_reducible exact ih1 _ _ _ _ _ _ _)
   | (with_reducible exact dn_Right.mono _ _)
   | (with_reducible exact Dxblanks.mono _ _ _)
   | (with_reducible exact Dxkind.mono _ _ _)
   | (with_reducible exact Dxvalue.mono _ _ _)
   | (with_reducible exact LeO.refl _)
   | (with_reducible exact LeO.none _)
   | (with_reducible refine LeO.ite ?_ ?_)
   | (with_reducible refine LeO.bind ?_ (fun _ => ?_))
  ·
   intro y0 y1 y2 y3 y4 y5 y6
   unfold dn_Parse.j1
   repeat' first
   | (with_reducible exact ih0 _ _ _ _ _)
   | (with_reducible exact ih1 _ _ _ _ _ _ _)
   | (with_reducible exact dn_Right.mono _ _)
   | (with_reducible exact Dxblanks.mono _ _ _)
   | (with_reducible exact Dxkind.mono _ _ _)
   | (with_reducible exact Dxvalue.mono _ _ _)
   | (with_reducible exact LeO.refl _)
   | (with_reducible exact LeO.none _)
   | (with_reducible refine LeO.ite ?_ ?_)
   | (with_reducible refine LeO.bind ?_ (fun _ => ?_))
theorem dn_Parse.mono : ∀ a0 k, LeO (dn_Parse.f k a0) (dn_Parse.f (k + 1) a0) := by
 intro a0 k
 obtain ⟨ih0, ih1⟩ := dn_Parse.mono_l k
 unfold dn_Parse.f
 repeat' first
   | (with_reducible exact ih0 _ _ _ _ _)
   | (with_reducible exact ih1 _ _ _ _ _ _ _)
   | (with_reducible exact dn_Right.mono _ _)
   | (with_reducible exact Dxblanks.mono _ _ _)
   | (with_reducible exact Dxkind.mono _ _ _)
   | (with_reducible exact Dxvalue.mono _ _ _)
   | (with_reducible exact LeO.refl _)
   | (with_reducible exact LeO.none _)
   | (with_reducible refine LeO.ite ?_ ?_)
   | (with_reducible refine LeO.bind ?_ (fun _ => ?_))
set_option maxHeartbeats 8000000 in
set_option maxRecDepth 100000 in
theorem dn_Parse.calls (k : Nat) (a0 : ByteArray) (r1 : List (List (S96))) (r2 : Int) (w : World) (hG : Gw w) (h : dn_Parse.f k a0 = some (r1, r2)) :
  Calls Tryz.prog 69 #[.string a0] w fun e w' => ∃ v0_ : Value, e = .returned (.tuple #[v0_, .int .i64 r2]) ∧ Kd.S (Kd.slice 96 k96) 92 w' w.heap.size (fun _ => True) v0_ r1 ∧ Below w.heap.size w w' := by
 have hu120 := Tryz.underlying120
 have hu96 := Tryz.underlying96
 have HB := Aside0.mk (Below.refl w.heap.size w)
 have HG := Aside0.mk hG
 clear hG
 have H : (if (a0.size : Int) > 1000 then (some (([] : List (List (S96))), 5)) else ((Dxblanks.f k a0 0).bind fun bt195 => (if bt195.2 = (a0.size : Int) then (some (([] : List (List (S96))), 0)) else (dn_Parse.l0 k a0 ([] : List (List (S96))) ([] : List (S96)) bt195.1 bt195.2)))) = some (r1, r2) := h
 clear h
 by_cases c2 : (a0.size : Int) > 1000
 ·
  rw [if_pos c2] at H
  have c2b0 := decide_eq_true c2
  have c2b1 : decide (1000 < a0.size) = true := decide_eq_true (by omega)
  clear c2
  simp only [Option.some.injEq, Prod.mk.injEq] at H
  obtain ⟨rfl, rfl⟩ := H
  go_enter Tryz.func69, Tryz.ntmps69
  go_wp2
  go_ret2
  exact ⟨_, by first | rfl | (simp [errW_none, errW_some, bne_nil8, beq_nil8]; done) | (simp [errW_none, errW_some] <;> rfl) | (simp [*, errW_none, errW_some] <;> rfl), by first | exact Kd.S_nil _ _ _ _ _ | exact Kd.N_nil _ _ _ _ _ | exact Kd.V_nil _ _ _ _ _ | exact Kd.Q_nil _ _ _ _ _ | exact Kd.R_nil _ _ _ _ _, by repeat (first | (with_reducible first | exact HB.out | apply below_alloc | apply pw_below_drewN | apply below_drew1) | exact HB.out)⟩
 ·
  rw [if_neg c2] at H
  have c2b0 := decide_eq_false c2
  have c2b1 : decide (1000 < a0.size) = false := decide_eq_false (by omega)
  clear c2
  replace H := Option.bind_eq_some_iff.mp H
  obtain ⟨⟨t195, t196⟩, A30, H⟩ := H
  replace H : (if t196 = (a0.size : Int) then (some (([] : List (List (S96))), 0)) else (dn_Parse.l0 k a0 ([] : List (List (S96))) ([] : List (S96)) t195 t196)) = some (r1, r2) := H
  have A3 := Aside0.mk A30
  clear A30
  by_cases c4 : t196 = (a0.size : Int)
  ·
   rw [if_pos c4] at H
   have c4b0 : (t196 == (a0.size : Int)) = true := beq_iff_eq.mpr c4
   have c4b1 : (t196 != (a0.size : Int)) = false := bne_eq_false_iff_eq.mpr c4
   clear c4
   simp only [Option.some.injEq, Prod.mk.injEq] at H
   obtain ⟨rfl, rfl⟩ := H
   go_enter Tryz.func69, Tryz.ntmps69
   go_wp2_with (first | ((with_reducible refine gate_dst (N := 16) rfl ?_); refine box_event ?hg (N := 16) ?hd (cs := #[.string a0, .int .i64 0]) (t := 120) ?hr ?_; (case hd => rfl); (case hg => rfl); (case hr => first | (go_simp; done) | (go_simp; rfl)); intro gb194 hg w5 hbox hb; have n0_ := Aside0.mk (below_step ap1 hb); have n1_ := Aside0.mk ((show IsS120 w w5 gb194 a0 0 from ⟨hbox, (by rw [hg]; exact (below_size ap1) : w.heap.size ≤ gb194)⟩)); have n2_ := Aside0.mk ((by rw [hg]; exact (below_size ap1) : w.heap.size ≤ gb194)); have n3_ := Aside0.mk ((by rw [hg]; exact (below_size ap1) : w.heap.size ≤ gb194)); clear HB; have HB := n0_; have HI194 := n1_; have GW194 := n2_; have GE194 := n3_; clear n0_ n1_ n2_ n3_; clear hb hbox hg) | ((with_reducible refine gate_callee (f := 96) rfl ?_); refine goesL_ (some 18) rfl rfl Tryz.func96 (by kernel_rfl) rfl #[.pointer (some ⟨gb194, 0, none⟩)] rfl ap3 ?_; (with_reducible refine (Dxblanks.calls k gb194 a0 0 t195 t196 w _ ?side1 ?side2 A3.out).mono ?_); (case side1 => exact apI120 HI194.out); (case side2 => exact apS120 HI194.out); rintro e w6 ⟨rfl, hi, hb, hk⟩; refine ⟨_, rfl, ?_⟩; have n0_ := Aside0.mk (hb); have n1_ := Aside0.mk (hi); clear HB; clear HI194; have HB := n0_; have HI194 := n1_; clear n0_ n1_; (try clear hb); (try clear hb2); (try clear hk); (try clear hi); obtain ⟨HGz7, hgz7⟩ := HI194.out; have hcz7_0 := cellS120_0 HGz7; have hcz7_1 := cellS120_1 HGz7; have hfz7_0 := blk_frozen HGz7 0; have hfz7_1 := blk_frozen HGz7 1; clear HGz7 hgz7))
   go_ret2
   exact ⟨_, by first | rfl | (simp [errW_none, errW_some, bne_nil8, beq_nil8]; done) | (simp [errW_none, errW_some] <;> rfl) | (simp [*, errW_none, errW_some] <;> rfl), by first | exact Kd.S_nil _ _ _ _ _ | exact Kd.N_nil _ _ _ _ _ | exact Kd.V_nil _ _ _ _ _ | exact Kd.Q_nil _ _ _ _ _ | exact Kd.R_nil _ _ _ _ _, by repeat (first | (with_reducible first | exact HB.out | apply below_alloc | apply pw_below_drewN | apply below_drew1 | refine below_set ?_ (IsS120.ge HI194.out)) | exact HB.out)⟩
  ·
   rw [if_neg c4] at H
   have c4b0 : (t196 == (a0.size : Int)) = false := beq_eq_false_iff_ne.mpr c4
   have c4b1 : (t196 != (a0.size : Int)) = true := bne_iff_ne.mpr c4
   have H' := Aside0.mk H
   clear H
   go_enter Tryz.func69, Tryz.ntmps69
   go_wp2_with (first | ((with_reducible refine gate_dst (N := 16) rfl ?_); refine box_event ?hg (N := 16) ?hd (cs := #[.string a0, .int .i64 0]) (t := 120) ?hr ?_; (case hd => rfl); (case hg => rfl); (case hr => first | (go_simp; done) | (go_simp; rfl)); intro gb194 hg w8 hbox hb; have n0_ := Aside0.mk (below_step ap1 hb); have n1_ := Aside0.mk ((show IsS120 w w8 gb194 a0 0 from ⟨hbox, (by rw [hg]; exact (below_size ap1) : w.heap.size ≤ gb194)⟩)); have n2_ := Aside0.mk ((by rw [hg]; exact (below_size ap1) : w.heap.size ≤ gb194)); have n3_ := Aside0.mk ((by rw [hg]; exact (below_size ap1) : w.heap.size ≤ gb194)); clear HB; have HB := n0_; have HI194 := n1_; have GW194 := n2_; have GE194 := n3_; clear n0_ n1_ n2_ n3_; clear hb hbox hg) | ((with_reducible refine gate_callee (f := 96) rfl ?_); refine goesL_ (some 18) rfl rfl Tryz.func96 (by kernel_rfl) rfl #[.pointer (some ⟨gb194, 0, none⟩)] rfl ap3 ?_; (with_reducible refine (Dxblanks.calls k gb194 a0 0 t195 t196 w _ ?side1 ?side2 A3.out).mono ?_); (case side1 => exact apI120 HI194.out); (case side2 => exact apS120 HI194.out); rintro e w9 ⟨rfl, hi, hb, hk⟩; refine ⟨_, rfl, ?_⟩; have n0_ := Aside0.mk (hb); have n1_ := Aside0.mk (hi); clear HB; clear HI194; have HB := n0_; have HI194 := n1_; clear n0_ n1_; (try clear hb); (try clear hb2); (try clear hk); (try clear hi); obtain ⟨HGz10, hgz10⟩ := HI194.out; have hcz10_0 := cellS120_0 HGz10; have hcz10_1 := cellS120_1 HGz10; have hfz10_0 := blk_frozen HGz10 0; have hfz10_1 := blk_frozen HGz10 1; clear HGz10 hgz10))
   go_loopg [5, 6] k (fun kq v5 v6 w' => ∃ (x5_1 : List (List (S96))) (x6_1 : List (S96)) (x195000_1 : ByteArray) (x195001_1 : Int), Aside0 (dn_Parse.l0 kq a0 x5_1 x6_1 x195000_1 x195001_1 = some (r1, r2)) ∧ Aside0 (kq ≤ k) ∧ Aside0 (Kd.S (Kd.slice 96 k96) 92 w' w.heap.size (fun k_ => some k_ ≠ (v6 : Value).ownBlock) v5 x5_1) ∧ Aside0 (Kd.R k96 96 w' w.heap.size (fun _ => True) v6 x6_1) ∧ Aside0 (IsS120 w w' gb194 x195000_1 x195001_1) ∧ Aside0 (Below w.heap.size w w'))
   case atStart => exact ⟨(([] : List (List (S96)))), (([] : List (S96))), (t195), (t196), H', ⟨Nat.le_refl _⟩, ⟨by first | exact Kd.S_nil _ _ _ _ _ | exact Kd.N_nil _ _ _ _ _ | exact Kd.V_nil _ _ _ _ _ | exact Kd.Q_nil _ _ _ _ _ | exact Kd.R_nil _ _ _ _ _⟩, ⟨by first | exact Kd.R_nil _ _ _ _ _ | exact Kd.N_nil _ _ _ _ _ | exact Kd.V_nil _ _ _ _ _ | exact Kd.Q_nil _ _ _ _ _ | exact Kd.S_nil _ _ _ _ _⟩, ⟨by repeat (first | (with_reducible first | exact HI194.out | apply IsS120.alloc | apply IsS120.drewN | apply IsS120.drew | apply IsS120.set_0 | apply IsS120.set_1) | exact HI194.out)⟩, ⟨by repeat (first | (with_reducible first | exact HB.out | apply below_alloc | apply pw_below_drewN | apply below_drew1 | refine below_set ?_ (IsS120.ge HI194.out)) | exact HB.out)⟩⟩
   case round =>
    clear H'
    try clear c2
    try clear c2b0
    try clear c2b1
    try clear p2
    try clear c4
    try clear c4b0
    try clear c4b1
    try clear c6
    try clear c9
    try clear hcz10_0
    try clear hcz10_1
    try clear hcz7_0
    try clear hcz7_1
    try clear hfz10_0
    try clear hfz10_1
    try clear hfz7_0
    try clear hfz7_1
    obtain ⟨x5_1, x6_1, x195000_1, x195001_1, HA, HK1, HO_5, HO_6, HI194, HB⟩ := hrel
    cases gk with
    | zero => exact absurd HA.out (by simp [dn_Parse.l0])
    | succ k1 =>
     have H := HA.out
     clear HA
     simp only [dn_Parse.l0] at H
     replace H := Option.bind_eq_some_iff.mp H
     obtain ⟨⟨t197, t198, t199, t200⟩, A110, H⟩ := H
     replace H : (if t198 = true then ((Dxvalue.f k1 t199 t200).bind fun bt201 => (if bt201.2.1 = true then (if x6_1.length < 4398046511104 then ((some (x6_1 ++ [(⟨t197, bt201.1⟩ : S96)] : List (S96))).bind fun y205 => (if bt201.2.2.2 = (a0.size : Int) then (dn_Parse.j1 k1 a0 x5_1 y205 (bt201.2.2.2 == (a0.size : Int)) true bt201.2.2.1 bt201.2.2.2) else (if 0 ≤ bt201.2.2.2 then (if bt201.2.2.2 < (a0.size : Int) then (dn_Parse.j1 k1 a0 x5_1 y205 (bt201.2.2.2 == (a0.size : Int)) ((bt a0 bt201.2.2.2) != 43) bt201.2.2.1 bt201.2.2.2) else (none)) else (none)))) else (none)) else (some (([] : List (List (S96))), 4)))) else (some (([] : List (List (S96))), 4))) = some (r1, r2) := H
     have A11 := Aside0.mk A110
     clear A110
     by_cases c12 : t198 = true
     ·
      subst c12
      rw [if_pos rfl] at H
      replace H := Option.bind_eq_some_iff.mp H
      obtain ⟨⟨t201, t202, t203, t204⟩, A130, H⟩ := H
      replace H : (if t202 = true then (if x6_1.length < 4398046511104 then ((some (x6_1 ++ [(⟨t197, t201⟩ : S96)] : List (S96))).bind fun y205 => (if t204 = (a0.size : Int) then (dn_Parse.j1 k1 a0 x5_1 y205 (t204 == (a0.size : Int)) true t203 t204) else (if 0 ≤ t204 then (if t204 < (a0.size : Int) then (dn_Parse.j1 k1 a0 x5_1 y205 (t204 == (a0.size : Int)) ((bt a0 t204) != 43) t203 t204) else (none)) else (none)))) else (none)) else (some (([] : List (List (S96))), 4))) = some (r1, r2) := H
      have A13 := Aside0.mk A130
      clear A130
      by_cases c14 : t202 = true
      ·
       subst c14
       rw [if_pos rfl] at H
       by_cases c15 : x6_1.length < 4398046511104
       ·
        rw [if_pos c15] at H
        have LMc15 := Aside0.mk c15
        clear c15
        obtain ⟨y205, hy205⟩ : ∃ y_ : List (S96), y_ = (x6_1 ++ [(⟨t197, t201⟩ : S96)]) := ⟨_, rfl⟩
        replace H : (if t204 = (a0.size : Int) then (dn_Parse.j1 k1 a0 x5_1 y205 (t204 == (a0.size : Int)) true t203 t204) else (if 0 ≤ t204 then (if t204 < (a0.size : Int) then (dn_Parse.j1 k1 a0 x5_1 y205 (t204 == (a0.size : Int)) ((bt a0 t204) != 43) t203 t204) else (none)) else (none))) = some (r1, r2) := by first | (rw [hy205]; with_reducible exact H) | (have H2_ := (Option.bind_some _ _).symm.trans H; rw [hy205]; with_reducible exact H2_) | (have H2_ := (Option.bind_some _ _).symm.trans H; with_reducible exact H2_) | with_reducible exact H | (rw [hy205]; exact H) | exact H
        have Ny205 := Aside0.mk hy205
        clear hy205
        have HC16 := Aside0.mk H
        clear H
        go_upto_region 17 with (first | ((with_reducible refine gate_callee (f := 97) rfl ?_); refine goesL_ (some 28) rfl rfl Tryz.func97 (by kernel_rfl) rfl #[.pointer (some ⟨gb194, 0, none⟩)] rfl ap3 ?_; (with_reducible refine (Dxkind.calls k1 gb194 x195000_1 x195001_1 t197 true t199 t200 w _ ?side1 ?side2 ?side3 A11.out).mono ?_); (case side1 => exact apI120 HI194.out); (case side2 => exact apS120 HI194.out); (case side3 => first | exact HG.out | (refine Gw.below HG.out ?_; repeat (first | (with_reducible first | exact HB.out | apply below_alloc | apply pw_below_drewN | apply below_drew1 | refine below_set ?_ (IsS120.ge HI194.out)) | exact HB.out))); rintro e w17 ⟨rfl, hi, hb, hk⟩; refine ⟨_, rfl, ?_⟩; have n0_ := Aside0.mk (Kd.S_mono (Kd.S_keep (IsS120.apartS (show IsS120 w _ gb194 x195000_1 x195001_1 from by repeat (first | (with_reducible first | exact HI194.out | apply IsS120.alloc | apply IsS120.drewN | apply IsS120.drew | apply IsS120.set_0 | apply IsS120.set_1) | exact HI194.out)) (apAS HO_5.out) (by decide)) hk (fun _ h => h.2)) (fun _ h => h.1)); have n1_ := Aside0.mk (Kd.R_mono (Kd.R_keep (IsS120.apart (show IsS120 w _ gb194 x195000_1 x195001_1 from by repeat (first | (with_reducible first | exact HI194.out | apply IsS120.alloc | apply IsS120.drewN | apply IsS120.drew | apply IsS120.set_0 | apply IsS120.set_1) | exact HI194.out)) (apAR HO_6.out) (by decide)) hk (fun _ h => h.2)) (fun _ h => h.1)); have n2_ := Aside0.mk (hb); have n3_ := Aside0.mk (hi); clear HO_5; clear HO_6; clear HB; clear HI194; have HO_5 := n0_; have HO_6 := n1_; have HB := n2_; have HI194 := n3_; clear n0_ n1_ n2_ n3_; (try clear hb); (try clear hb2); (try clear hk); (try clear hi)) | ((with_reducible refine gate_callee (f := 98) rfl ?_); refine goesL_ (some 35) rfl rfl Tryz.func98 (by kernel_rfl) rfl #[.pointer (some ⟨gb194, 0, none⟩)] rfl ap3 ?_; (with_reducible refine (Dxvalue.calls k1 gb194 t199 t200 t201 true t203 t204 w _ ?side1 ?side2 A13.out).mono ?_); (case side1 => exact apI120 HI194.out); (case side2 => exact apS120 HI194.out); rintro e w18 ⟨rfl, hi, hb, hk⟩; refine ⟨_, rfl, ?_⟩; have n0_ := Aside0.mk (Kd.S_mono (Kd.S_keep (IsS120.apartS (show IsS120 w _ gb194 t199 t200 from by repeat (first | (with_reducible first | exact HI194.out | apply IsS120.alloc | apply IsS120.drewN | apply IsS120.drew | apply IsS120.set_0 | apply IsS120.set_1) | exact HI194.out)) (apAS HO_5.out) (by decide)) hk (fun _ h => h.2)) (fun _ h => h.1)); have n1_ := Aside0.mk (Kd.R_mono (Kd.R_keep (IsS120.apart (show IsS120 w _ gb194 t199 t200 from by repeat (first | (with_reducible first | exact HI194.out | apply IsS120.alloc | apply IsS120.drewN | apply IsS120.drew | apply IsS120.set_0 | apply IsS120.set_1) | exact HI194.out)) (apAR HO_6.out) (by decide)) hk (fun _ h => h.2)) (fun _ h => h.1)); have n2_ := Aside0.mk (hb); have n3_ := Aside0.mk (hi); clear HO_5; clear HO_6; clear HB; clear HI194; have HO_5 := n0_; have HO_6 := n1_; have HB := n2_; have HI194 := n3_; clear n0_ n1_ n2_ n3_; (try clear hb); (try clear hb2); (try clear hk); (try clear hi)) | ((with_reducible refine gate_builtin (b := .append) (xs := #[.tmp 40, .tmp 44]) rfl ?_); at_builtin; refine Kd.R_append k96 (w0 := w) w.heap.size rfl (.tmp 40) (.tmp 44) 92 96 (.agg #[(.string ⟨#[]⟩), (.string ⟨#[]⟩)]) 32 rfl Tryz.underlying92 info96 rfl (by decide) (by omega) u6 x6_1 (⟨t197, t201⟩ : S96) [.string t197, .string t201] (fun _ => True) (fun _ => False) rfl rfl ?aP (fun _ hk => hk.elim) ?aF ?aO ?aB ?aS ?aL ?_; (case aP => exact k96_mkM _ _ _ (⟨t197, t201⟩ : S96)); (case aB => exact (apS120 HI194.out)); (case aF => exact (fun _ _ => trivial)); (case aO => exact (apAR HO_6.out)); (case aS => exact (below_size (apS120 HI194.out))); (case aL => have := LMc15.out; omega); intro v206 w19 ho hb hg hat; rw [← Ny205.out] at ho; have n0_ := Aside0.mk (Kd.S_after (ok := (fun _ => True)) (by (with_reducible repeat (first | apply Kd.S_alloc | apply Kd.S_drewN | apply Kd.S_drew)); exact Kd.S_mono HO_5.out (fun _ hk => ⟨trivial, hk⟩)) hg hat); have n1_ := Aside0.mk (IsS120.grown (apI120 HI194.out) hg (IsS120.own_ne HI194.out HO_6.out (by decide))); have n2_ := Aside0.mk (hb); have n3_ := Aside0.mk (ho); clear HO_5; clear HI194; clear HB; clear HO_6; have HO_5 := n0_; have HI194 := n1_; have HB := n2_; have HO207 := n3_; clear n0_ n1_ n2_ n3_; clear ho hb hg hat; obtain ⟨HGz20, hgz20⟩ := HI194.out; have hcz20_0 := cellS120_0 HGz20; have hcz20_1 := cellS120_1 HGz20; have hfz20_0 := blk_frozen HGz20 0; have hfz20_1 := blk_frozen HGz20 1; clear HGz20 hgz20))
        (try simp only [Act.put, List.setIfInBounds_toArray, List.set_cons_zero, List.set_cons_succ])
        go_cut [62] (fun v62 wc => ∃ (kq : Nat) (x62_15 : Bool), v62 = .bool x62_15 ∧ Aside0 (dn_Parse.j1 kq a0 x5_1 y205 (t204 == (a0.size : Int)) x62_15 t203 t204 = some (r1, r2)) ∧ Aside0 (kq ≤ k1) ∧ Aside0 (Kd.S (Kd.slice 96 k96) 92 wc w.heap.size (fun k_ => some k_ ≠ (v206 : Value).ownBlock) u5 x5_1) ∧ Aside0 (Kd.R k96 96 wc w.heap.size (fun _ => True) v206 y205) ∧ Aside0 (IsS120 w wc gb194 t203 t204) ∧ Aside0 (Below w.heap.size w wc))
        case first =>
         have H := HC16.out
         clear HC16
         by_cases c21 : t204 = (a0.size : Int)
         ·
          rw [if_pos c21] at H
          have c21b0 : (t204 == (a0.size : Int)) = true := beq_iff_eq.mpr c21
          have c21b1 : (t204 != (a0.size : Int)) = false := bne_eq_false_iff_eq.mpr c21
          clear c21
          (first | rw [c21b0] | (simp only [i64_w, i32_w]; rw [c21b0]) | skip)
          have H' := Aside0.mk H
          clear H
          go_wp2
          first | go_meet | (simp only [c21b0] at *; go_meet) | (simp only [c4b0] at *; go_meet) | (simp only [c4b0] at *; go_meet)
          case rel => exact ⟨_, (true), ap2, H', ⟨by have := HK1.out; first | omega | exact Nat.le_refl _⟩, ⟨by (with_reducible repeat (first | apply Kd.S_alloc | apply Kd.S_drewN | apply Kd.S_drew)); exact Kd.S_mono HO_5.out (fun _ hk => hk.2)⟩, ⟨by (with_reducible repeat (first | apply Kd.R_alloc | apply Kd.R_drewN | apply Kd.R_drew)); exact HO207.out⟩, ⟨by repeat (first | (with_reducible first | exact HI194.out | apply IsS120.alloc | apply IsS120.drewN | apply IsS120.drew | apply IsS120.set_0 | apply IsS120.set_1) | exact HI194.out)⟩, ⟨by repeat (first | (with_reducible first | exact HB.out | apply below_alloc | apply pw_below_drewN | apply below_drew1 | refine below_set ?_ (IsS120.ge HI194.out)) | exact HB.out)⟩⟩
         ·
          rw [if_neg c21] at H
          have c21b0 : (t204 == (a0.size : Int)) = false := beq_eq_false_iff_ne.mpr c21
          have c21b1 : (t204 != (a0.size : Int)) = true := bne_iff_ne.mpr c21
          (first | rw [c21b0] | (simp only [i64_w, i32_w]; rw [c21b0]) | skip)
          by_cases c22 : 0 ≤ t204
          ·
           rw [if_pos c22] at H
           have c22b0 := decide_eq_true c22
           clear c22
           by_cases c23 : t204 < (a0.size : Int)
           ·
            rw [if_pos c23] at H
            have c23b0 := decide_eq_true c23
            clear c23
            have H' := Aside0.mk H
            clear H
            obtain ⟨HGz25, hgz25⟩ := HI194.out
            have hcz25_0 := cellS120_0 HGz25
            have hcz25_1 := cellS120_1 HGz25
            have hfz25_0 := blk_frozen HGz25 0
            have hfz25_1 := blk_frozen HGz25 1
            clear HGz25 hgz25
            have p24 : 0 ≤ (t204 : Int) := of_decide_eq_true ap0
            have q24 : t204 < (a0.size : Int) := of_decide_eq_true ap0
            have hx24 := bt_at a0 t204
            replace p24 := eq_true p24
            replace q24 := eq_true q24
            go_wp2
            first | go_meet | (simp only [c21b0] at *; go_meet) | (simp only [c21b0] at *; go_meet) | (simp only [c4b0] at *; go_meet)
            case rel => exact ⟨_, (((bt a0 t204) != 43)), ap2, H', ⟨by have := HK1.out; first | omega | exact Nat.le_refl _⟩, ⟨by (with_reducible repeat (first | apply Kd.S_alloc | apply Kd.S_drewN | apply Kd.S_drew)); exact Kd.S_mono HO_5.out (fun _ hk => hk.2)⟩, ⟨by (with_reducible repeat (first | apply Kd.R_alloc | apply Kd.R_drewN | apply Kd.R_drew)); exact HO207.out⟩, ⟨by repeat (first | (with_reducible first | exact HI194.out | apply IsS120.alloc | apply IsS120.drewN | apply IsS120.drew | apply IsS120.set_0 | apply IsS120.set_1) | exact HI194.out)⟩, ⟨by repeat (first | (with_reducible first | exact HB.out | apply below_alloc | apply pw_below_drewN | apply below_drew1 | refine below_set ?_ (IsS120.ge HI194.out)) | exact HB.out)⟩⟩
           ·
            rw [if_neg c23] at H
            exact absurd H (by simp)
          ·
           rw [if_neg c22] at H
           exact absurd H (by simp)
        case rest =>
         clear HC16
         try clear c1
         try clear c2
         try clear c2b0
         try clear c2b1
         try clear p2
         try clear q2
         try clear hx2
         try clear c4
         try clear c4b0
         try clear c4b1
         try clear c6
         try clear c9
         try clear c12
         try clear c14
         try clear c15
         try clear c21
         try clear c21b0
         try clear c21b1
         try clear c22
         try clear c22b0
         try clear c23
         try clear c23b0
         try clear p24
         try clear q24
         try clear hx24
         try clear hcz10_0
         try clear hcz10_1
         try clear hcz20_0
         try clear hcz20_1
         try clear hcz25_0
         try clear hcz25_1
         try clear hcz7_0
         try clear hcz7_1
         try clear hfz10_0
         try clear hfz10_1
         try clear hfz20_0
         try clear hfz20_1
         try clear hfz25_0
         try clear hfz25_1
         try clear hfz7_0
         try clear hfz7_1
         try clear p2
         try clear p24
         try clear q24
         obtain ⟨kq, x62_15, rfl, HA, HJ15, HO_5, HO_6, HI194, HB⟩ := hcut
         cases kq with
         | zero => exact absurd HA.out (by simp [dn_Parse.j1])
         | succ kj15 =>
          have H := HA.out
          clear HA
          simp only [dn_Parse.j1] at H
          by_cases c26 : x62_15 = true
          ·
           subst c26
           rw [if_pos rfl] at H
           by_cases c27 : x5_1.length < 5864062014805
           ·
            rw [if_pos c27] at H
            have LMc27 := Aside0.mk c27
            clear c27
            obtain ⟨y208, hy208⟩ : ∃ y_ : List (List (S96)), y_ = (x5_1 ++ [y205]) := ⟨_, rfl⟩
            replace H : (if (t204 == (a0.size : Int)) = true then ((dn_Right.f kj15 y208).bind fun t211 => (if t211 = true then (some (y208, 0)) else (some (([] : List (List (S96))), 4)))) else (dn_Parse.l0 kj15 a0 y208 ([] : List (S96)) t203 (wrap64 (t204 + 1)))) = some (r1, r2) := by first | (rw [hy208]; with_reducible exact H) | (have H2_ := (Option.bind_some _ _).symm.trans H; rw [hy208]; with_reducible exact H2_) | (have H2_ := (Option.bind_some _ _).symm.trans H; with_reducible exact H2_) | with_reducible exact H | (rw [hy208]; exact H) | exact H
            have Ny208 := Aside0.mk hy208
            clear hy208
            by_cases c28 : (t204 == (a0.size : Int)) = true
            ·
             rw [if_pos c28] at H
             have c28b0 : (t204 == (a0.size : Int)) = true := c28
             (try (have c28b1 : decide (t204 = (a0.size : Int)) = true := by simpa using c28))
             (try (have c28b2 : (t204 == (a0.size : Int)) = true := by simpa using c28))
             clear c28
             replace H := Option.bind_eq_some_iff.mp H
             obtain ⟨t211, A290, H⟩ := H
             replace H : (if t211 = true then (some (y208, 0)) else (some (([] : List (List (S96))), 4))) = some (r1, r2) := H
             have A29 := Aside0.mk A290
             clear A290
             by_cases c30 : t211 = true
             ·
              subst c30
              rw [if_pos rfl] at H
              simp only [Option.some.injEq, Prod.mk.injEq] at H
              obtain ⟨rfl, rfl⟩ := H
              obtain ⟨Ao32, co32, eo32⟩ := Kd.R_slice HO_6.out
              subst eo32
              go_wp2_with (first | ((with_reducible refine gate_builtin (b := .append) (xs := #[.tmp 63, .tmp 65]) rfl ?_); at_builtin; refine Kd.S_append (Kd.slice 96 k96) (w0 := w) w.heap.size rfl (.tmp 63) (.tmp 65) 71 92 (.slice none 0 0) 24 rfl Tryz.underlying71 info92 rfl (by decide) (by omega) u5 x5_1 y205 [.slice Ao32 y205.length co32] (fun _ => True) (fun k_ => some k_ = (.slice Ao32 y205.length co32 : Value).ownBlock) rfl rfl ?aP (fun k_ hk_ => ((Kd.R_mono (ok' := fun k_ => ((fun _ => True)) k_ ∧ some k_ ≠ (u5 : Value).ownBlock) (Kd.R_apart' (HO_6.out) (Kd.S_typed HO_5.out) (by decide)) (fun k_ hk => ⟨trivial, hk.2⟩))).1 k_ hk_.symm) ?aF ?aO ?aB ?aS ?aL ?_; (case aP => exact Kd.M_row (Kd.R_mono (Kd.R_tight rfl (Kd.R_mono (ok' := fun k_ => ((fun _ => True)) k_ ∧ some k_ ≠ (u5 : Value).ownBlock) (Kd.R_apart' (HO_6.out) (Kd.S_typed HO_5.out) (by decide)) (fun k_ hk => ⟨trivial, hk.2⟩))) (fun _ h_ => h_))); (case aB => exact (apS120 HI194.out)); (case aF => exact (fun _ _ => trivial)); (case aO => exact (by (with_reducible repeat (first | apply Kd.S_alloc | apply Kd.S_drewN | apply Kd.S_drew)); exact Kd.S_mono HO_5.out (fun k_ hk => ⟨trivial, fun e_ => hk e_⟩))); (case aS => exact (below_size (apS120 HI194.out))); (case aL => have := LMc27.out; omega); intro v209 w31 ho hb hg hat; rw [← Ny208.out] at ho; have n0_ := Aside0.mk (IsS120.grown (apI120 HI194.out) hg (IsS120.own_neS HI194.out HO_5.out (by decide))); have n1_ := Aside0.mk (hb); have n2_ := Aside0.mk (ho); clear HI194; clear HB; clear HO_5; clear HO_6; have HI194 := n0_; have HB := n1_; have HO210 := n2_; clear n0_ n1_ n2_; clear ho hb hg hat; obtain ⟨Ao33, co33, eo33⟩ := Kd.S_slice HO210.out; subst eo33) | ((with_reducible refine gate_callee (f := 99) rfl ?_); refine goesL_ (some 76) rfl rfl Tryz.func99 (by kernel_rfl) rfl #[.slice Ao33 y208.length co33] rfl ap3 ?_; (with_reducible refine (dn_Right.calls kj15 _ _ y208 true _ ?side1 ?side2 ?side3 A29.out).mono ?_); (case side1 => repeat (first | exact (Kd.S_reads' HO210.out).2.2 | (with_reducible refine Kd.C_alloc ?_ _) | (with_reducible refine Kd.C_drewN ?_ _) | (with_reducible refine Kd.C_drew ?_))); (case side2 => exact (Kd.S_reads' HO210.out).2.1); (case side3 => first | exact HG.out | (refine Gw.below HG.out ?_; repeat (first | (with_reducible first | exact HB.out | apply below_alloc | apply pw_below_drewN | apply below_drew1 | refine below_set ?_ (IsS120.ge HI194.out)) | exact HB.out))); rintro e w34 ⟨rfl, hb⟩; refine ⟨_, rfl, ?_⟩; have n0_ := Aside0.mk (Kd.S_below (apAS HO210.out) hb); have n1_ := Aside0.mk (IsS120.below (apI120 HI194.out) hb); have n2_ := Aside0.mk (below_step (apS120 HI194.out) hb); clear HO210; clear HI194; clear HB; have HO210 := n0_; have HI194 := n1_; have HB := n2_; clear n0_ n1_ n2_; (try clear hb); (try clear hb2); (try clear hk); (try clear hi)))
              go_ret2
              exact ⟨_, by first | rfl | (simp [errW_none, errW_some, bne_nil8, beq_nil8]; done) | (simp [errW_none, errW_some] <;> rfl) | (simp [*, errW_none, errW_some] <;> rfl), by (with_reducible repeat (first | apply Kd.S_alloc | apply Kd.S_drewN | apply Kd.S_drew)); exact HO210.out, by repeat (first | (with_reducible first | exact HB.out | apply below_alloc | apply pw_below_drewN | apply below_drew1 | refine below_set ?_ (IsS120.ge HI194.out)) | exact HB.out)⟩
             ·
              replace c30 := Bool.eq_false_iff.mpr c30
              subst c30
              rw [if_neg (show ¬ (false = true) by decide)] at H
              simp only [Option.some.injEq, Prod.mk.injEq] at H
              obtain ⟨rfl, rfl⟩ := H
              obtain ⟨Ao36, co36, eo36⟩ := Kd.R_slice HO_6.out
              subst eo36
              go_wp2_with (first | ((with_reducible refine gate_builtin (b := .append) (xs := #[.tmp 63, .tmp 65]) rfl ?_); at_builtin; refine Kd.S_append (Kd.slice 96 k96) (w0 := w) w.heap.size rfl (.tmp 63) (.tmp 65) 71 92 (.slice none 0 0) 24 rfl Tryz.underlying71 info92 rfl (by decide) (by omega) u5 x5_1 y205 [.slice Ao36 y205.length co36] (fun _ => True) (fun k_ => some k_ = (.slice Ao36 y205.length co36 : Value).ownBlock) rfl rfl ?aP (fun k_ hk_ => ((Kd.R_mono (ok' := fun k_ => ((fun _ => True)) k_ ∧ some k_ ≠ (u5 : Value).ownBlock) (Kd.R_apart' (HO_6.out) (Kd.S_typed HO_5.out) (by decide)) (fun k_ hk => ⟨trivial, hk.2⟩))).1 k_ hk_.symm) ?aF ?aO ?aB ?aS ?aL ?_; (case aP => exact Kd.M_row (Kd.R_mono (Kd.R_tight rfl (Kd.R_mono (ok' := fun k_ => ((fun _ => True)) k_ ∧ some k_ ≠ (u5 : Value).ownBlock) (Kd.R_apart' (HO_6.out) (Kd.S_typed HO_5.out) (by decide)) (fun k_ hk => ⟨trivial, hk.2⟩))) (fun _ h_ => h_))); (case aB => exact (apS120 HI194.out)); (case aF => exact (fun _ _ => trivial)); (case aO => exact (by (with_reducible repeat (first | apply Kd.S_alloc | apply Kd.S_drewN | apply Kd.S_drew)); exact Kd.S_mono HO_5.out (fun k_ hk => ⟨trivial, fun e_ => hk e_⟩))); (case aS => exact (below_size (apS120 HI194.out))); (case aL => have := LMc27.out; omega); intro v209 w35 ho hb hg hat; rw [← Ny208.out] at ho; have n0_ := Aside0.mk (IsS120.grown (apI120 HI194.out) hg (IsS120.own_neS HI194.out HO_5.out (by decide))); have n1_ := Aside0.mk (hb); have n2_ := Aside0.mk (ho); clear HI194; clear HB; clear HO_5; clear HO_6; have HI194 := n0_; have HB := n1_; have HO210 := n2_; clear n0_ n1_ n2_; clear ho hb hg hat; obtain ⟨Ao37, co37, eo37⟩ := Kd.S_slice HO210.out; subst eo37) | ((with_reducible refine gate_callee (f := 99) rfl ?_); refine goesL_ (some 76) rfl rfl Tryz.func99 (by kernel_rfl) rfl #[.slice Ao37 y208.length co37] rfl ap3 ?_; (with_reducible refine (dn_Right.calls kj15 _ _ y208 false _ ?side1 ?side2 ?side3 A29.out).mono ?_); (case side1 => repeat (first | exact (Kd.S_reads' HO210.out).2.2 | (with_reducible refine Kd.C_alloc ?_ _) | (with_reducible refine Kd.C_drewN ?_ _) | (with_reducible refine Kd.C_drew ?_))); (case side2 => exact (Kd.S_reads' HO210.out).2.1); (case side3 => first | exact HG.out | (refine Gw.below HG.out ?_; repeat (first | (with_reducible first | exact HB.out | apply below_alloc | apply pw_below_drewN | apply below_drew1 | refine below_set ?_ (IsS120.ge HI194.out)) | exact HB.out))); rintro e w38 ⟨rfl, hb⟩; refine ⟨_, rfl, ?_⟩; have n0_ := Aside0.mk (Kd.S_below (apAS HO210.out) hb); have n1_ := Aside0.mk (IsS120.below (apI120 HI194.out) hb); have n2_ := Aside0.mk (below_step (apS120 HI194.out) hb); clear HO210; clear HI194; clear HB; have HO210 := n0_; have HI194 := n1_; have HB := n2_; clear n0_ n1_ n2_; (try clear hb); (try clear hb2); (try clear hk); (try clear hi)))
              go_ret2
              exact ⟨_, by first | rfl | (simp [errW_none, errW_some, bne_nil8, beq_nil8]; done) | (simp [errW_none, errW_some] <;> rfl) | (simp [*, errW_none, errW_some] <;> rfl), by first | exact Kd.S_nil _ _ _ _ _ | exact Kd.N_nil _ _ _ _ _ | exact Kd.V_nil _ _ _ _ _ | exact Kd.Q_nil _ _ _ _ _ | exact Kd.R_nil _ _ _ _ _, by repeat (first | (with_reducible first | exact HB.out | apply below_alloc | apply pw_below_drewN | apply below_drew1 | refine below_set ?_ (IsS120.ge HI194.out)) | exact HB.out)⟩
            ·
             rw [if_neg c28] at H
             have c28b0 : (t204 == (a0.size : Int)) = false := by simpa using c28
             (try (have c28b1 : decide (t204 = (a0.size : Int)) = false := by simpa using c28))
             (try (have c28b2 : (t204 == (a0.size : Int)) = false := by simpa using c28))
             (try (have c28b3 : ¬ (t204 = (a0.size : Int)) := by simpa using c28))
             clear c28
             have H' := Aside0.mk H
             clear H
             obtain ⟨Ao40, co40, eo40⟩ := Kd.R_slice HO_6.out
             subst eo40
             go_wp2_with (first | ((with_reducible refine gate_builtin (b := .append) (xs := #[.tmp 63, .tmp 65]) rfl ?_); at_builtin; refine Kd.S_append (Kd.slice 96 k96) (w0 := w) w.heap.size rfl (.tmp 63) (.tmp 65) 71 92 (.slice none 0 0) 24 rfl Tryz.underlying71 info92 rfl (by decide) (by omega) u5 x5_1 y205 [.slice Ao40 y205.length co40] (fun _ => True) (fun k_ => some k_ = (.slice Ao40 y205.length co40 : Value).ownBlock) rfl rfl ?aP (fun k_ hk_ => ((Kd.R_mono (ok' := fun k_ => ((fun _ => True)) k_ ∧ some k_ ≠ (u5 : Value).ownBlock) (Kd.R_apart' (HO_6.out) (Kd.S_typed HO_5.out) (by decide)) (fun k_ hk => ⟨trivial, hk.2⟩))).1 k_ hk_.symm) ?aF ?aO ?aB ?aS ?aL ?_; (case aP => exact Kd.M_row (Kd.R_mono (Kd.R_tight rfl (Kd.R_mono (ok' := fun k_ => ((fun _ => True)) k_ ∧ some k_ ≠ (u5 : Value).ownBlock) (Kd.R_apart' (HO_6.out) (Kd.S_typed HO_5.out) (by decide)) (fun k_ hk => ⟨trivial, hk.2⟩))) (fun _ h_ => h_))); (case aB => exact (apS120 HI194.out)); (case aF => exact (fun _ _ => trivial)); (case aO => exact (by (with_reducible repeat (first | apply Kd.S_alloc | apply Kd.S_drewN | apply Kd.S_drew)); exact Kd.S_mono HO_5.out (fun k_ hk => ⟨trivial, fun e_ => hk e_⟩))); (case aS => exact (below_size (apS120 HI194.out))); (case aL => have := LMc27.out; omega); intro v209 w39 ho hb hg hat; rw [← Ny208.out] at ho; have n0_ := Aside0.mk (IsS120.grown (apI120 HI194.out) hg (IsS120.own_neS HI194.out HO_5.out (by decide))); have n1_ := Aside0.mk (hb); have n2_ := Aside0.mk (ho); clear HI194; clear HB; clear HO_5; clear HO_6; have HI194 := n0_; have HB := n1_; have HO210 := n2_; clear n0_ n1_ n2_; clear ho hb hg hat; obtain ⟨HGz41, hgz41⟩ := HI194.out; have hcz41_0 := cellS120_0 HGz41; have hcz41_1 := cellS120_1 HGz41; have hfz41_0 := blk_frozen HGz41 0; have hfz41_1 := blk_frozen HGz41 1; clear HGz41 hgz41))
             go_roundg kj15
             case measure => have := HK1.out; have := HJ15.out; omega
             case rel => exact ⟨(y208), (([] : List (S96))), (t203), (wrap64 (t204 + 1)), H', ⟨by have := HK1.out; have := HJ15.out; omega⟩, ⟨by (with_reducible repeat (first | apply Kd.S_alloc | apply Kd.S_drewN | apply Kd.S_drew)); exact Kd.S_mono (Kd.S_far (p := ⟨gb194, 1, none⟩) (IsS120.apartS HI194.out HO210.out (by decide)) (fun _ hk => hk.2) (.int .i64 (wrap64 (t204 + 1)))) (fun _ hk => (by simp [Value.ownBlock]))⟩, ⟨by first | exact Kd.R_nil _ _ _ _ _ | exact Kd.N_nil _ _ _ _ _ | exact Kd.V_nil _ _ _ _ _ | exact Kd.Q_nil _ _ _ _ _ | exact Kd.S_nil _ _ _ _ _⟩, ⟨by repeat (first | (with_reducible first | exact HI194.out | apply IsS120.alloc | apply IsS120.drewN | apply IsS120.drew | apply IsS120.set_0 | apply IsS120.set_1) | exact HI194.out)⟩, ⟨by repeat (first | (with_reducible first | exact HB.out | apply below_alloc | apply pw_below_drewN | apply below_drew1 | refine below_set ?_ (IsS120.ge HI194.out)) | exact HB.out)⟩⟩
           ·
            rw [if_neg c27] at H
            exact absurd H (by simp)
          ·
           replace c26 := Bool.eq_false_iff.mpr c26
           subst c26
           rw [if_neg (show ¬ (false = true) by decide)] at H
           by_cases c42 : (t204 == (a0.size : Int)) = true
           ·
            rw [if_pos c42] at H
            have c42b0 : (t204 == (a0.size : Int)) = true := c42
            (try (have c42b1 : decide (t204 = (a0.size : Int)) = true := by simpa using c42))
            (try (have c42b2 : (t204 == (a0.size : Int)) = true := by simpa using c42))
            clear c42
            replace H := Option.bind_eq_some_iff.mp H
            obtain ⟨t212, A430, H⟩ := H
            replace H : (if t212 = true then (some (x5_1, 0)) else (some (([] : List (List (S96))), 4))) = some (r1, r2) := H
            have A43 := Aside0.mk A430
            clear A430
            by_cases c44 : t212 = true
            ·
             subst c44
             rw [if_pos rfl] at H
             simp only [Option.some.injEq, Prod.mk.injEq] at H
             obtain ⟨rfl, rfl⟩ := H
             obtain ⟨Ao45, co45, eo45⟩ := Kd.S_slice HO_5.out
             subst eo45
             go_wp2_with (first | ((with_reducible refine gate_callee (f := 99) rfl ?_); refine goesL_ (some 76) rfl rfl Tryz.func99 (by kernel_rfl) rfl #[.slice Ao45 x5_1.length co45] rfl ap3 ?_; (with_reducible refine (dn_Right.calls kj15 _ _ x5_1 true _ ?side1 ?side2 ?side3 A43.out).mono ?_); (case side1 => repeat (first | exact (Kd.S_reads' HO_5.out).2.2 | (with_reducible refine Kd.C_alloc ?_ _) | (with_reducible refine Kd.C_drewN ?_ _) | (with_reducible refine Kd.C_drew ?_))); (case side2 => exact (Kd.S_reads' HO_5.out).2.1); (case side3 => first | exact HG.out | (refine Gw.below HG.out ?_; repeat (first | (with_reducible first | exact HB.out | apply below_alloc | apply pw_below_drewN | apply below_drew1 | refine below_set ?_ (IsS120.ge HI194.out)) | exact HB.out))); rintro e w46 ⟨rfl, hb⟩; refine ⟨_, rfl, ?_⟩; have n0_ := Aside0.mk (Kd.S_below (apAS HO_5.out) hb); have n1_ := Aside0.mk (Kd.R_below (apAR HO_6.out) hb); have n2_ := Aside0.mk (IsS120.below (apI120 HI194.out) hb); have n3_ := Aside0.mk (below_step (apS120 HI194.out) hb); clear HO_5; clear HO_6; clear HI194; clear HB; have HO_5 := n0_; have HO_6 := n1_; have HI194 := n2_; have HB := n3_; clear n0_ n1_ n2_ n3_; (try clear hb); (try clear hb2); (try clear hk); (try clear hi)))
             go_ret2
             exact ⟨_, by first | rfl | (simp [errW_none, errW_some, bne_nil8, beq_nil8]; done) | (simp [errW_none, errW_some] <;> rfl) | (simp [*, errW_none, errW_some] <;> rfl), by (with_reducible repeat (first | apply Kd.S_alloc | apply Kd.S_drewN | apply Kd.S_drew)); exact Kd.S_mono HO_5.out (fun _ hk => trivial), by repeat (first | (with_reducible first | exact HB.out | apply below_alloc | apply pw_below_drewN | apply below_drew1 | refine below_set ?_ (IsS120.ge HI194.out)) | exact HB.out)⟩
            ·
             replace c44 := Bool.eq_false_iff.mpr c44
             subst c44
             rw [if_neg (show ¬ (false = true) by decide)] at H
             simp only [Option.some.injEq, Prod.mk.injEq] at H
             obtain ⟨rfl, rfl⟩ := H
             obtain ⟨Ao47, co47, eo47⟩ := Kd.S_slice HO_5.out
             subst eo47
             go_wp2_with (first | ((with_reducible refine gate_callee (f := 99) rfl ?_); refine goesL_ (some 76) rfl rfl Tryz.func99 (by kernel_rfl) rfl #[.slice Ao47 x5_1.length co47] rfl ap3 ?_; (with_reducible refine (dn_Right.calls kj15 _ _ x5_1 false _ ?side1 ?side2 ?side3 A43.out).mono ?_); (case side1 => repeat (first | exact (Kd.S_reads' HO_5.out).2.2 | (with_reducible refine Kd.C_alloc ?_ _) | (with_reducible refine Kd.C_drewN ?_ _) | (with_reducible refine Kd.C_drew ?_))); (case side2 => exact (Kd.S_reads' HO_5.out).2.1); (case side3 => first | exact HG.out | (refine Gw.below HG.out ?_; repeat (first | (with_reducible first | exact HB.out | apply below_alloc | apply pw_below_drewN | apply below_drew1 | refine below_set ?_ (IsS120.ge HI194.out)) | exact HB.out))); rintro e w48 ⟨rfl, hb⟩; refine ⟨_, rfl, ?_⟩; have n0_ := Aside0.mk (Kd.S_below (apAS HO_5.out) hb); have n1_ := Aside0.mk (Kd.R_below (apAR HO_6.out) hb); have n2_ := Aside0.mk (IsS120.below (apI120 HI194.out) hb); have n3_ := Aside0.mk (below_step (apS120 HI194.out) hb); clear HO_5; clear HO_6; clear HI194; clear HB; have HO_5 := n0_; have HO_6 := n1_; have HI194 := n2_; have HB := n3_; clear n0_ n1_ n2_ n3_; (try clear hb); (try clear hb2); (try clear hk); (try clear hi)))
             go_ret2
             exact ⟨_, by first | rfl | (simp [errW_none, errW_some, bne_nil8, beq_nil8]; done) | (simp [errW_none, errW_some] <;> rfl) | (simp [*, errW_none, errW_some] <;> rfl), by first | exact Kd.S_nil _ _ _ _ _ | exact Kd.N_nil _ _ _ _ _ | exact Kd.V_nil _ _ _ _ _ | exact Kd.Q_nil _ _ _ _ _ | exact Kd.R_nil _ _ _ _ _, by repeat (first | (with_reducible first | exact HB.out | apply below_alloc | apply pw_below_drewN | apply below_drew1 | refine below_set ?_ (IsS120.ge HI194.out)) | exact HB.out)⟩
           ·
            rw [if_neg c42] at H
            have c42b0 : (t204 == (a0.size : Int)) = false := by simpa using c42
            (try (have c42b1 : decide (t204 = (a0.size : Int)) = false := by simpa using c42))
            (try (have c42b2 : (t204 == (a0.size : Int)) = false := by simpa using c42))
            (try (have c42b3 : ¬ (t204 = (a0.size : Int)) := by simpa using c42))
            clear c42
            have H' := Aside0.mk H
            clear H
            obtain ⟨HGz49, hgz49⟩ := HI194.out
            have hcz49_0 := cellS120_0 HGz49
            have hcz49_1 := cellS120_1 HGz49
            have hfz49_0 := blk_frozen HGz49 0
            have hfz49_1 := blk_frozen HGz49 1
            clear HGz49 hgz49
            go_wp2
            go_roundg kj15
            case measure => have := HK1.out; have := HJ15.out; omega
            case rel => exact ⟨(x5_1), (y205), (t203), (wrap64 (t204 + 1)), H', ⟨by have := HK1.out; have := HJ15.out; omega⟩, ⟨by (with_reducible repeat (first | apply Kd.S_alloc | apply Kd.S_drewN | apply Kd.S_drew)); exact Kd.S_mono (Kd.S_far (p := ⟨gb194, 1, none⟩) (IsS120.apartS HI194.out HO_5.out (by decide)) (fun _ hk => hk.2) (.int .i64 (wrap64 (t204 + 1)))) (fun _ hk => hk.1)⟩, ⟨by (with_reducible repeat (first | apply Kd.R_alloc | apply Kd.R_drewN | apply Kd.R_drew)); exact Kd.R_mono (Kd.R_far (p := ⟨gb194, 1, none⟩) (IsS120.apart HI194.out HO_6.out (by decide)) (fun _ hk => hk.2) (.int .i64 (wrap64 (t204 + 1)))) (fun _ hk => trivial)⟩, ⟨by repeat (first | (with_reducible first | exact HI194.out | apply IsS120.alloc | apply IsS120.drewN | apply IsS120.drew | apply IsS120.set_0 | apply IsS120.set_1) | exact HI194.out)⟩, ⟨by repeat (first | (with_reducible first | exact HB.out | apply below_alloc | apply pw_below_drewN | apply below_drew1 | refine below_set ?_ (IsS120.ge HI194.out)) | exact HB.out)⟩⟩
       ·
        rw [if_neg c15] at H
        exact absurd H (by simp)
      ·
       replace c14 := Bool.eq_false_iff.mpr c14
       subst c14
       rw [if_neg (show ¬ (false = true) by decide)] at H
       simp only [Option.some.injEq, Prod.mk.injEq] at H
       obtain ⟨rfl, rfl⟩ := H
       go_wp2_with (first | ((with_reducible refine gate_callee (f := 97) rfl ?_); refine goesL_ (some 28) rfl rfl Tryz.func97 (by kernel_rfl) rfl #[.pointer (some ⟨gb194, 0, none⟩)] rfl ap3 ?_; (with_reducible refine (Dxkind.calls k1 gb194 x195000_1 x195001_1 t197 true t199 t200 w _ ?side1 ?side2 ?side3 A11.out).mono ?_); (case side1 => exact apI120 HI194.out); (case side2 => exact apS120 HI194.out); (case side3 => first | exact HG.out | (refine Gw.below HG.out ?_; repeat (first | (with_reducible first | exact HB.out | apply below_alloc | apply pw_below_drewN | apply below_drew1 | refine below_set ?_ (IsS120.ge HI194.out)) | exact HB.out))); rintro e w50 ⟨rfl, hi, hb, hk⟩; refine ⟨_, rfl, ?_⟩; have n0_ := Aside0.mk (Kd.S_mono (Kd.S_keep (IsS120.apartS (show IsS120 w _ gb194 x195000_1 x195001_1 from by repeat (first | (with_reducible first | exact HI194.out | apply IsS120.alloc | apply IsS120.drewN | apply IsS120.drew | apply IsS120.set_0 | apply IsS120.set_1) | exact HI194.out)) (apAS HO_5.out) (by decide)) hk (fun _ h => h.2)) (fun _ h => h.1)); have n1_ := Aside0.mk (Kd.R_mono (Kd.R_keep (IsS120.apart (show IsS120 w _ gb194 x195000_1 x195001_1 from by repeat (first | (with_reducible first | exact HI194.out | apply IsS120.alloc | apply IsS120.drewN | apply IsS120.drew | apply IsS120.set_0 | apply IsS120.set_1) | exact HI194.out)) (apAR HO_6.out) (by decide)) hk (fun _ h => h.2)) (fun _ h => h.1)); have n2_ := Aside0.mk (hb); have n3_ := Aside0.mk (hi); clear HO_5; clear HO_6; clear HB; clear HI194; have HO_5 := n0_; have HO_6 := n1_; have HB := n2_; have HI194 := n3_; clear n0_ n1_ n2_ n3_; (try clear hb); (try clear hb2); (try clear hk); (try clear hi)) | ((with_reducible refine gate_callee (f := 98) rfl ?_); refine goesL_ (some 35) rfl rfl Tryz.func98 (by kernel_rfl) rfl #[.pointer (some ⟨gb194, 0, none⟩)] rfl ap3 ?_; (with_reducible refine (Dxvalue.calls k1 gb194 t199 t200 t201 false t203 t204 w _ ?side1 ?side2 A13.out).mono ?_); (case side1 => exact apI120 HI194.out); (case side2 => exact apS120 HI194.out); rintro e w51 ⟨rfl, hi, hb, hk⟩; refine ⟨_, rfl, ?_⟩; have n0_ := Aside0.mk (Kd.S_mono (Kd.S_keep (IsS120.apartS (show IsS120 w _ gb194 t199 t200 from by repeat (first | (with_reducible first | exact HI194.out | apply IsS120.alloc | apply IsS120.drewN | apply IsS120.drew | apply IsS120.set_0 | apply IsS120.set_1) | exact HI194.out)) (apAS HO_5.out) (by decide)) hk (fun _ h => h.2)) (fun _ h => h.1)); have n1_ := Aside0.mk (Kd.R_mono (Kd.R_keep (IsS120.apart (show IsS120 w _ gb194 t199 t200 from by repeat (first | (with_reducible first | exact HI194.out | apply IsS120.alloc | apply IsS120.drewN | apply IsS120.drew | apply IsS120.set_0 | apply IsS120.set_1) | exact HI194.out)) (apAR HO_6.out) (by decide)) hk (fun _ h => h.2)) (fun _ h => h.1)); have n2_ := Aside0.mk (hb); have n3_ := Aside0.mk (hi); clear HO_5; clear HO_6; clear HB; clear HI194; have HO_5 := n0_; have HO_6 := n1_; have HB := n2_; have HI194 := n3_; clear n0_ n1_ n2_ n3_; (try clear hb); (try clear hb2); (try clear hk); (try clear hi)))
       go_ret2
       exact ⟨_, by first | rfl | (simp [errW_none, errW_some, bne_nil8, beq_nil8]; done) | (simp [errW_none, errW_some] <;> rfl) | (simp [*, errW_none, errW_some] <;> rfl), by first | exact Kd.S_nil _ _ _ _ _ | exact Kd.N_nil _ _ _ _ _ | exact Kd.V_nil _ _ _ _ _ | exact Kd.Q_nil _ _ _ _ _ | exact Kd.R_nil _ _ _ _ _, by repeat (first | (with_reducible first | exact HB.out | apply below_alloc | apply pw_below_drewN | apply below_drew1 | refine below_set ?_ (IsS120.ge HI194.out)) | exact HB.out)⟩
     ·
      replace c12 := Bool.eq_false_iff.mpr c12
      subst c12
      rw [if_neg (show ¬ (false = true) by decide)] at H
      simp only [Option.some.injEq, Prod.mk.injEq] at H
      obtain ⟨rfl, rfl⟩ := H
      go_wp2_with (first | ((with_reducible refine gate_callee (f := 97) rfl ?_); refine goesL_ (some 28) rfl rfl Tryz.func97 (by kernel_rfl) rfl #[.pointer (some ⟨gb194, 0, none⟩)] rfl ap3 ?_; (with_reducible refine (Dxkind.calls k1 gb194 x195000_1 x195001_1 t197 false t199 t200 w _ ?side1 ?side2 ?side3 A11.out).mono ?_); (case side1 => exact apI120 HI194.out); (case side2 => exact apS120 HI194.out); (case side3 => first | exact HG.out | (refine Gw.below HG.out ?_; repeat (first | (with_reducible first | exact HB.out | apply below_alloc | apply pw_below_drewN | apply below_drew1 | refine below_set ?_ (IsS120.ge HI194.out)) | exact HB.out))); rintro e w52 ⟨rfl, hi, hb, hk⟩; refine ⟨_, rfl, ?_⟩; have n0_ := Aside0.mk (Kd.S_mono (Kd.S_keep (IsS120.apartS (show IsS120 w _ gb194 x195000_1 x195001_1 from by repeat (first | (with_reducible first | exact HI194.out | apply IsS120.alloc | apply IsS120.drewN | apply IsS120.drew | apply IsS120.set_0 | apply IsS120.set_1) | exact HI194.out)) (apAS HO_5.out) (by decide)) hk (fun _ h => h.2)) (fun _ h => h.1)); have n1_ := Aside0.mk (Kd.R_mono (Kd.R_keep (IsS120.apart (show IsS120 w _ gb194 x195000_1 x195001_1 from by repeat (first | (with_reducible first | exact HI194.out | apply IsS120.alloc | apply IsS120.drewN | apply IsS120.drew | apply IsS120.set_0 | apply IsS120.set_1) | exact HI194.out)) (apAR HO_6.out) (by decide)) hk (fun _ h => h.2)) (fun _ h => h.1)); have n2_ := Aside0.mk (hb); have n3_ := Aside0.mk (hi); clear HO_5; clear HO_6; clear HB; clear HI194; have HO_5 := n0_; have HO_6 := n1_; have HB := n2_; have HI194 := n3_; clear n0_ n1_ n2_ n3_; (try clear hb); (try clear hb2); (try clear hk); (try clear hi)))
      go_ret2
      exact ⟨_, by first | rfl | (simp [errW_none, errW_some, bne_nil8, beq_nil8]; done) | (simp [errW_none, errW_some] <;> rfl) | (simp [*, errW_none, errW_some] <;> rfl), by first | exact Kd.S_nil _ _ _ _ _ | exact Kd.N_nil _ _ _ _ _ | exact Kd.V_nil _ _ _ _ _ | exact Kd.Q_nil _ _ _ _ _ | exact Kd.R_nil _ _ _ _ _, by repeat (first | (with_reducible first | exact HB.out | apply below_alloc | apply pw_below_drewN | apply below_drew1 | refine below_set ?_ (IsS120.ge HI194.out)) | exact HB.out)⟩
end Go.Proofs.YtpklcnpmppaaoaaGreatDoor.Print
namespace Go.Proofs.YtpklcnpmppaaoaaGreatDoor.Print
open Go.RowKit Go.Proofs.YtpklcnpmppaaoaaGreatDoorW.PrintWords Go.Proofs.YtpklcnpmppaaoaaGreatDoorW.PrintLast Go.Proofs.YtpklcnpmppaaoaaGreatDoorW.PrintMore Go.Proofs.YtpklcnpmppaaoaaGreatDoor.Pure
set_option linter.unusedVariables false
set_option linter.unusedSimpArgs false
abbrev bl (s : ByteArray) : List UInt8 := s.data.toList
theorem bl_length (s : ByteArray) : (bl s).length = s.size := by simp [bl]
theorem bt_get {s : ByteArray} {p : Nat} {c : UInt8} (h : (bl s)[p]? = some c) : p < s.size ∧ bt s (p : Int) = (c.toNat : Int) := by
  obtain ⟨hp, hc⟩ := List.getElem?_eq_some_iff.1 h
  rw [bl_length] at hp
  refine ⟨hp, ?_⟩
  unfold bt
  rw [dif_pos (by simpa using hp)]
  simp only [Int.toNat_natCast]
  rw [← hc]; simp [bl]; rfl
theorem drop_cons {s : ByteArray} {p : Nat} {c : UInt8} {r : List UInt8} (h : (bl s).drop p = c :: r) : p < s.size ∧ bt s (p : Int) = (c.toNat : Int) ∧ (bl s).drop (p + 1) = r := by
  have h0 : (bl s)[p]? = some c := by
    have := congrArg List.head? h
    rw [List.head?_drop] at this; simpa using this
  obtain ⟨h1, h2⟩ := bt_get h0
  refine ⟨h1, h2, ?_⟩
  have := congrArg List.tail h
  rw [List.tail_drop] at this; simpa using this
theorem drop_nil {s : ByteArray} {p : Nat} (h : (bl s).drop p = []) : s.size ≤ p := by
  rw [← bl_length]; exact List.drop_eq_nil_iff.1 h
theorem wsucc {p : Nat} (h : p ≤ 2000000) : wrap64 ((p : Int) + 1) = ((p + 1 : Nat) : Int) := by unfold wrap64; omega
def ints (l : List UInt8) : List Int := l.map fun c => (c.toNat : Int)
theorem strOfNums_ints (l : List UInt8) : strOfNums (ints l) = ⟨l.toArray⟩ := by
  unfold strOfNums ints
  rw [List.map_map]
  congr 1
  have : (List.map ((fun n => UInt8.ofNat n.toNat) ∘ fun c => ((c : UInt8).toNat : Int)) l) = l := by
    conv => rhs; rw [← List.map_id l]
    exact List.map_congr_left fun c _ => by simp
  rw [this]
theorem ints_length (l : List UInt8) : (ints l).length = l.length := by simp [ints]
theorem rdOf_at {L : List ByteArray} {i : Nat} {x : ByteArray} {r : List ByteArray} (h : L.drop i = x :: r) : i < L.length ∧ rdOf ByteArray.empty L (i : Int) = x ∧ L.drop (i + 1) = r := by
  have h1 : i < L.length := by
    rcases Nat.lt_or_ge i L.length with h' | h'
    · exact h'
    · rw [List.drop_eq_nil_of_le h'] at h; cases h
  refine ⟨h1, ?_, ?_⟩
  · have h0 : L[i]? = some x := by
      have := congrArg List.head? h
      rw [List.head?_drop] at this; simpa using this
    unfold rdOf
    rw [List.getD_eq_getElem?_getD, Int.toNat_natCast, h0]; rfl
  · have := congrArg List.tail h
    rw [List.tail_drop] at this; simpa using this
theorem ints_app (a b : List UInt8) : ints a ++ ints b = ints (a ++ b) := by simp [ints]
theorem getD_at {α : Type} {L : List α} {i : Nat} {x d : α} {r : List α} (h : L.drop i = x :: r) : i < L.length ∧ L.getD ((i : Int).toNat) d = x ∧ L.drop (i + 1) = r := by
  have h1 : i < L.length := by
    rcases Nat.lt_or_ge i L.length with h' | h'
    · exact h'
    · rw [List.drop_eq_nil_of_le h'] at h; cases h
  refine ⟨h1, ?_, ?_⟩
  · have h0 : L[i]? = some x := by
      have := congrArg List.head? h
      rw [List.head?_drop] at this; simpa using this
    rw [List.getD_eq_getElem?_getD, Int.toNat_natCast, h0]; rfl
  · have := congrArg List.tail h
    rw [List.tail_drop] at this; simpa using this
theorem ev_mono {α : Type} {F : Nat → Option α} {v : α} (hm : ∀ k, LeO (F k) (F (k + 1))) (n : Nat) (h : F n = some v) : Ev F v := ⟨n, fun k hk => at_rounds hm hk h⟩
abbrev mkB (l : List UInt8) : ByteArray := ⟨l.toArray⟩
end Go.Proofs.YtpklcnpmppaaoaaGreatDoor.Print
namespace Go.Proofs.YtpklcnpmppaaoaaGreatDoor.Print
open Go.RowKit Go.Proofs.YtpklcnpmppaaoaaGreatDoorW.PrintWords
def strings_ReplaceAll.f (a0 a1 a2 : ByteArray) : Option ByteArray :=
  if a0.size ≤ 1000000 then (if 1 ≤ a1.size then (if a2.size ≤ 1000 then some ⟨(Lib.replaceAll a0.data.toList a1.data.toList a2.data.toList).toArray⟩ else none) else none) else none
theorem strings_ReplaceAll.calls (a0 a1 a2 : ByteArray) (r : ByteArray) (w : World) (hG : Gw w) (h : strings_ReplaceAll.f a0 a1 a2 = some r) :
    Calls Tryz.prog 83 #[.string a0, .string a1, .string a2] w fun e w' => e = .returned (.string r) ∧ Below w.heap.size w w' := by
  unfold strings_ReplaceAll.f at h
  by_cases c : a0.size ≤ 1000000
  · by_cases c1 : 1 ≤ a1.size
    · by_cases c2 : a2.size ≤ 1000
      · rw [if_pos c, if_pos c1, if_pos c2] at h
        injection h with h
        subst h
        obtain ⟨m, hm⟩ := hG.maxLen
        have hle := Lib.countB_le a1 c1 a0.size a0 (Nat.le_refl _)
        have : Lib.countB a0 a1 * a2.size ≤ 1000000 * 1000 := Nat.mul_le_mul (by omega) c2
        exact Tryz.strings_ReplaceAll a0 a1 a2 m w (by omega) hm c1 (by omega)
      · rw [if_pos c, if_pos c1, if_neg c2] at h; cases h
    · rw [if_pos c, if_neg c1] at h; cases h
  · rw [if_neg c] at h; cases h
end Go.Proofs.YtpklcnpmppaaoaaGreatDoor.Print
namespace Go.Proofs
open Go.Shelf
def Tryz.lays170_ren : Go.Shelf.Ren := ⟨fun | 170 => 148 | n => n, fun | 70 => 108 | 3 => 3 | 0 => 0 | 72 => 110 | 37 => 82 | 5 => 5 | n => n, fun | n => n⟩
theorem Tryz.lays170 : Go.Proofs.Lays.n170 Tryz.prog Tryz.lays170_ren := {
  mixed := by kernel_rfl
  f170 := Tryz.func148.trans (congrArg some (by kernel_rfl))
  t0 := Tryz.underlying0
  a0 := Tryz.isAgg0
  z0 := Tryz.sizeOf0
  v0 := Tryz.zeroValue0
  t3 := Tryz.underlying3
  a3 := Tryz.isAgg3
  z3 := Tryz.sizeOf3
  v3 := Tryz.zeroValue3
  t37 := Tryz.underlying82
  a37 := Tryz.isAgg82
  z37 := Tryz.sizeOf82
  v37 := Tryz.zeroValue82
  t70 := Tryz.underlying108
  a70 := Tryz.isAgg108
  z70 := Tryz.sizeOf108
  v70 := Tryz.zeroValue108
  t72 := Tryz.underlying110
  a72 := Tryz.isAgg110
  z72 := Tryz.sizeOf110
  v72 := Tryz.zeroValue110 }
open Go.RowKit in
theorem Tryz.Builder_Len_f (B b : Nat) (bs : List Value) (w : World) (h : Lib.IsBuilderF 110 5 B b bs w) :
    Calls Tryz.prog 148 #[.pointer (some ⟨b, 0, none⟩)] w fun e w' => e = .returned (.int .i64 bs.length) ∧ w' = w := Any.Builder_Len_f Tryz.lays170 B b bs w h
end Go.Proofs
namespace Go.Proofs.YtpklcnpmppaaoaaGreatDoor.Print
open Go.RowKit Go.Proofs.YtpklcnpmppaaoaaGreatDoorW.PrintWords Go.Proofs.YtpklcnpmppaaoaaGreatDoorW.PrintLast Go.Proofs.YtpklcnpmppaaoaaGreatDoorW.PrintMore
set_option linter.unusedVariables false
set_option linter.unusedSimpArgs false
theorem idx_of1 (z : UInt8) (a b : List UInt8) (h : ∀ c ∈ a, c ≠ z) : Lib.index (a ++ z :: b) [z] = (a.length : Int) := by
  rw [Lib.index_one]
  induction a with
  | nil => simp [Lib.indexByte]
  | cons c a ih =>
    have hc := h c (by simp)
    have ih := ih fun x hx => h x (by simp [hx])
    rw [List.cons_append, Lib.indexByte, if_neg (by simpa using hc), ih, if_neg (by simp <;> omega)]
    simp
theorem first_z (z : UInt8) (l : List UInt8) : (∀ c ∈ l, c ≠ z) ∨ ∃ a b, l = a ++ z :: b ∧ ∀ c ∈ a, c ≠ z := by
  induction l with
  | nil => exact .inl (by simp)
  | cons c l ih =>
    by_cases hc : c = z
    · exact .inr ⟨[], l, by rw [hc]; rfl, by simp⟩
    · rcases ih with h | ⟨a, b, rfl, h⟩
      · exact .inl fun x hx => by rcases List.mem_cons.1 hx with rfl | hx; exact hc; exact h x hx
      · exact .inr ⟨c :: a, b, rfl, fun x hx => by rcases List.mem_cons.1 hx with rfl | hx; exact hc; exact h x hx⟩
def swapZ (z : UInt8) (new l : List UInt8) : List UInt8 := l.flatMap fun c => if c = z then new else [c]
theorem swapZ_none (z : UInt8) (new : List UInt8) : ∀ (a : List UInt8), (∀ c ∈ a, c ≠ z) → swapZ z new a = a
  | [], _ => rfl
  | c :: a, h => by
    have ih := swapZ_none z new a fun x hx => h x (by simp [hx])
    show (if c = z then new else [c]) ++ swapZ z new a = _
    rw [if_neg (h c (by simp)), ih]; rfl
theorem replaceK_z (z : UInt8) (new : List UInt8) : ∀ (k : Nat) (l : List UInt8), l.count z = k → Lib.replaceK [z] new k l = swapZ z new l
  | 0, l, h => by
    have hn : ∀ c ∈ l, c ≠ z := by
      intro c hc h2; subst h2
      have := List.count_pos_iff.2 hc; omega
    rw [swapZ_none z new l hn]; rfl
  | k + 1, l, h => by
    rcases first_z z l with hn | ⟨a, b, rfl, hn⟩
    · have : l.count z = 0 := List.count_eq_zero.2 fun hc => hn z hc rfl
      omega
    · have hc : b.count z = k := by
        rw [List.count_append, List.count_cons] at h
        have : a.count z = 0 := List.count_eq_zero.2 fun hc => hn z hc rfl
        simp at h; omega
      rw [Lib.replaceK_hit [z] new k _ a.length (idx_of1 z a b hn), show (a ++ z :: b).drop (a.length + ([z] : List UInt8).length) = b by simp, replaceK_z z new k b hc]
      have : swapZ z new (a ++ z :: b) = swapZ z new a ++ (new ++ swapZ z new b) := by simp [swapZ]
      rw [this, swapZ_none z new a hn]; simp
theorem replaceAll_z (z : UInt8) (new l : List UInt8) (h : ([z] == new) = false) : Lib.replaceAll l [z] new = swapZ z new l := by
  unfold Lib.replaceAll Lib.replace
  rw [h]
  have : Lib.replaceNum l [z] (-1) = l.count z := by
    unfold Lib.replaceNum
    rw [if_pos (Or.inl (by decide)), Lib.count_one]
  rw [this, replaceK_z z new _ l rfl]; rfl
theorem swapZ_len (z : UInt8) (new : List UInt8) (B : Nat) (hB : 1 ≤ B) (hn : new.length ≤ B) : ∀ (l : List UInt8), (swapZ z new l).length ≤ B * l.length
  | [] => by simp [swapZ]
  | c :: l => by
    have ih := swapZ_len z new B hB hn l
    have h : (if c = z then new else [c]).length ≤ B := by
      split
      · exact hn
      · simpa using hB
    have : swapZ z new (c :: l) = (if c = z then new else [c]) ++ swapZ z new l := rfl
    rw [this, List.length_append, List.length_cons, Nat.mul_succ]; omega
def part1 (p : ByteArray) : List UInt8 := swapZ 0 [0, 255] p.data.toList ++ [0, 1]
def tupOf (l : List ByteArray) : List UInt8 := l.flatMap part1
def field_Tuple.f (l0 : List ByteArray) : Option (ByteArray × Int) :=
  if 16 < l0.length then some (⟨#[]⟩, 1) else if l0.any (fun p => decide (4096 < p.size)) = true then some (⟨#[]⟩, 5) else if 4096 < (tupOf l0).length then some (⟨#[]⟩, 5) else some (⟨(tupOf l0).toArray⟩, 0)
theorem tupOf_snoc (l : List ByteArray) (p : ByteArray) : tupOf (l ++ [p]) = tupOf l ++ part1 p := by simp [tupOf]
theorem part1_len (p : ByteArray) (h : p.size ≤ 4096) : (part1 p).length ≤ 8194 := by
  have := swapZ_len 0 [0, 255] 2 (by omega) (by simp) p.data.toList
  have h2 : p.data.toList.length = p.size := by simp
  unfold part1
  rw [List.length_append]
  simp only [List.length_cons, List.length_nil]; omega
theorem rep_f (p : ByteArray) (h : p.size ≤ 4096) : strings_ReplaceAll.f p (⟨#[0]⟩ : ByteArray) (⟨#[0, 255]⟩ : ByteArray) = some ⟨(swapZ 0 [0, 255] p.data.toList).toArray⟩ := by
  unfold strings_ReplaceAll.f
  rw [if_pos (by omega), if_pos (show 1 ≤ (⟨#[0]⟩ : ByteArray).size from Nat.le_refl _), if_pos (show (⟨#[0, 255]⟩ : ByteArray).size ≤ 1000 by decide)]
  have : Lib.replaceAll p.data.toList (⟨#[0]⟩ : ByteArray).data.toList (⟨#[0, 255]⟩ : ByteArray).data.toList = swapZ 0 [0, 255] p.data.toList := replaceAll_z 0 [0, 255] _ (by decide)
  rw [this]
theorem take_succ_ba (l : List ByteArray) (k : Nat) (h : k < l.length) : l.take (k + 1) = l.take k ++ [l.getD k ByteArray.empty] := by
  rw [List.take_succ_eq_append_getElem h]
  simp [List.getD_eq_getElem?_getD, h]
set_option maxHeartbeats 4000000 in
set_option maxRecDepth 1000000 in
theorem field_Tuple.calls (A0 : Option Addr) (c0 : Nat) (l0 : List ByteArray) (r1 : ByteArray) (r2 : Int) (w : World) (hr0 : Kd.C Kd.string w A0 l0.length l0) (hc0 : l0.length ≤ c0) (hG : Gw w) (h : field_Tuple.f l0 = some (r1, r2)) :
    Calls Tryz.prog 126 #[.slice A0 l0.length c0] w fun e w' => e = .returned (.tuple #[.string r1, .int .i64 r2]) ∧ Below w.heap.size w w' := by
  have hlm := hr0.2.1
  unfold field_Tuple.f at h
  by_cases h16 : 16 < l0.length
  · rw [if_pos h16] at h
    simp only [Option.some.injEq, Prod.mk.injEq] at h
    obtain ⟨rfl, rfl⟩ := h
    clear hr0
    go_enter Tryz.func126, Tryz.ntmps126
    go_wp2
    go_ret2
    exact ⟨rfl, Below.refl _ _⟩
  · rw [if_neg h16] at h
    have HH := Aside0.mk h
    have HC := Aside0.mk hr0
    have HG := Aside0.mk hG
    clear h hr0 hG
    go_enter Tryz.func126, Tryz.ntmps126
    go_wp2
    go_loopw [12] (fun i wr => ∃ (k : Nat) (acc : List UInt8), k ≤ l0.length ∧ i = .int .i64 k ∧ Aside0 (Bld w.heap.size w.heap.size (Lib.byteCells acc) wr) ∧ Aside0 (Below w.heap.size w wr) ∧ Aside0 (acc = tupOf (l0.take k)) ∧ Aside0 (acc.length ≤ 8194 * k) ∧ Aside0 (∀ p ∈ l0.take k, p.size ≤ 4096)) (fun i wr => l0.length - (intOf i).toNat)
    case atStart =>
      exact ⟨0, [], Nat.zero_le _, rfl, ⟨Lib.IsBuilderF.of (Lib.fresh_isBuilder 110 5 w)⟩, ⟨(Below.refl _ w).alloc (Nat.le_refl _) _⟩, ⟨rfl⟩, ⟨by simp⟩, ⟨by simp⟩⟩
    case round =>
      obtain ⟨k, acc, hk, rfl, HB, hbw, hacc, hacl, hsml⟩ := hrel
      by_cases hlt : k < l0.length
      · obtain ⟨ad, hA, hc⟩ := (Kd.reads_of_C (d := ByteArray.empty) HC.out).at_ (k : Int) (by omega) (by omega)
        have hcw := (hbw.out.cell (World.block_lt_of_cell? _ _ hc)).trans hc
        clear hc
        subst hA
        have hts := take_succ_ba l0 k hlt
        have hmem : l0.getD k ByteArray.empty ∈ l0 := by rw [List.getD_eq_getElem?_getD, List.getElem?_eq_getElem hlt]; simp
        simp only [Int.toNat_natCast, rdOf] at hcw
        generalize hx : l0.getD k ByteArray.empty = p at *
        have HT := Aside0.mk hts
        have HM := Aside0.mk hmem
        clear hts hx hmem
        by_cases hz : 4096 < p.size
        · go_wp2
          go_ret2
          have hany : l0.any (fun p => decide (4096 < p.size)) = true := List.any_eq_true.2 ⟨p, HM.out, by simpa using hz⟩
          have := HH.out
          rw [if_pos hany] at this
          simp only [Option.some.injEq, Prod.mk.injEq] at this
          obtain ⟨rfl, rfl⟩ := this
          exact ⟨rfl, hbw.out⟩
        · have HF := Aside0.mk (rep_f p (by omega))
          have hpl := part1_len p (by omega)
          have h15 : k ≤ 15 := by omega
          have hsw := swapZ_len 0 [0, 255] 2 (by omega) (by simp) p.data.toList
          have h2 : p.data.toList.length = p.size := by simp
          have HS := Aside0.mk (show (swapZ 0 [0, 255] p.data.toList).length ≤ 8192 by omega)
          clear hsw h2
          go_wp2_with (first
            | (go_at_call 83; (with_reducible refine (strings_ReplaceAll.calls _ _ _ _ _ ?hG HF.out).mono ?_); (case hG => exact HG.out.below hbw.out); rintro e w2 ⟨rfl, hb2⟩; have hcc := Aside0.mk (Lib.IsBuilderF.below HB.out hb2); replace hb2 := Aside0.mk (hbw.out.trans (hb2.mono hbw.out.size)))
            | (go_at_call 102; first
                | ((with_reducible refine (bld_WriteString w.heap.size w.heap.size _ _ _ g1.out ?h3 ?h4).mono ?_); (case h3 => have q1 := hacl.out; have q2 := HS.out; simp [Lib.byteCells_length, Lib.strCells_length, ByteArray.size]; omega); (case h4 => have a2 := hb2.out.size; have a3 := g2.out.size; omega); rintro e w4 ⟨rfl, f1, f2, _⟩; replace f1 := Aside0.mk f1; replace f2 := Aside0.mk f2)
                | ((with_reducible refine (bld_WriteString w.heap.size w.heap.size (Lib.byteCells acc) _ _ ?hB ?h3 ?h4).mono ?_); (case hB => exact hcc.out); (case h3 => have q1 := hacl.out; have q2 := HS.out; simp [Lib.byteCells_length, ByteArray.size]; omega); (case h4 => have a2 := hb2.out.size; omega); rintro e w3 ⟨rfl, g1, g2, _⟩; replace g1 := Aside0.mk g1; replace g2 := Aside0.mk g2)))
          go_roundw
          case rel =>
            refine ⟨k + 1, acc ++ part1 p, by omega, by go_num, ⟨?_⟩, ⟨hb2.out.trans (g2.out.trans f2.out)⟩, ⟨?_⟩, ⟨?_⟩, ⟨?_⟩⟩
            · have := f1.out
              rw [Lib.byteCells_append]
              simpa [Lib.byteCells, Lib.strCells, part1, List.append_assoc] using this
            · rw [HT.out, tupOf_snoc, hacc.out]
            · have := hacl.out; rw [List.length_append]; omega
            · intro x hx
              rw [HT.out] at hx
              rcases List.mem_append.1 hx with hx | hx
              · exact hsml.out x hx
              · simp only [List.mem_singleton] at hx; subst hx; omega
          case measure => simp [intOf]; omega
      · obtain rfl : k = l0.length := by omega
        have hac2 : acc = tupOf l0 := by rw [hacc.out, List.take_length]
        have hall : ¬ l0.any (fun p => decide (4096 < p.size)) = true := by
          rw [List.any_eq_true]
          rintro ⟨x, hx, h2⟩
          have := hsml.out x (by rw [List.take_length]; exact hx)
          simp at h2; omega
        have H2 := HH.out
        rw [if_neg hall, ← hac2] at H2
        have HA := Aside0.mk H2
        clear hac2 hall H2 HH hacc
        have hbl : (Lib.byteCells acc).length = acc.length := Lib.byteCells_length _
        by_cases hz : 4096 < acc.length
        · have := HA.out
          rw [if_pos hz] at this
          simp only [Option.some.injEq, Prod.mk.injEq] at this
          obtain ⟨rfl, rfl⟩ := this
          have hz2 : 4096 < (Lib.byteCells acc).length := by omega
          clear hbl
          go_wp2_with (go_at_call 148; (with_reducible refine (Tryz.Builder_Len_f w.heap.size w.heap.size _ _ HB.out).mono ?_); rintro e w2 ⟨rfl, rfl⟩)
          go_ret2
          exact ⟨rfl, hbw.out⟩
        · have := HA.out
          rw [if_neg hz] at this
          simp only [Option.some.injEq, Prod.mk.injEq] at this
          obtain ⟨rfl, rfl⟩ := this
          have hz2 : ¬ 4096 < (Lib.byteCells acc).length := by omega
          clear hbl
          go_wp2_with (first
            | (go_at_call 148; (with_reducible refine (Tryz.Builder_Len_f w.heap.size w.heap.size _ _ HB.out).mono ?_); rintro e w2 ⟨rfl, rfl⟩)
            | (go_at_call 89; (with_reducible refine (bld_String w.heap.size w.heap.size _ _ HB.out ?h1).mono ?_); (case h1 => have := hbw.out.size; omega); rintro e w2 ⟨rfl, h2⟩; replace h2 := Aside0.mk h2))
          go_ret2
          exact ⟨rfl, hbw.out.trans h2.out⟩
end Go.Proofs.YtpklcnpmppaaoaaGreatDoor.Print
namespace Go.Proofs
open Go.Shelf
def Tryz.lays190_ren : Go.Shelf.Ren := ⟨fun | 190 => 127 | 125 => 150 | 258 => 149 | 128 => 170 | 129 => 171 | 302 => 161 | 303 => 162 | 304 => 163 | 305 => 164 | 306 => 165 | 307 => 166 | 308 => 167 | 309 => 168 | 310 => 169 | 333 => 176 | 329 => 177 | 330 => 178 | 334 => 179 | 335 => 180 | 336 => 181 | 344 => 186 | n => n, fun | 31 => 31 | 9 => 9 | 3 => 3 | 46 => 68 | 0 => 0 | 51 => 152 | 53 => 128 | 4 => 4 | 183 => 169 | 182 => 168 | 131 => 173 | 5 => 5 | 218 => 185 | 222 => 189 | 228 => 194 | 229 => 114 | n => n, fun | n => n⟩
theorem Tryz.lays190 : Go.Proofs.Lays.n190 Tryz.prog Tryz.lays190_ren := {
  mixed := by kernel_rfl
  f125 := Tryz.func150.trans (congrArg some (by kernel_rfl))
  f128 := Tryz.func170.trans (congrArg some (by kernel_rfl))
  f129 := Tryz.func171.trans (congrArg some (by kernel_rfl))
  f190 := Tryz.func127.trans (congrArg some (by kernel_rfl))
  f258 := Tryz.func149.trans (congrArg some (by kernel_rfl))
  f302 := Tryz.func161.trans (congrArg some (by kernel_rfl))
  f303 := Tryz.func162.trans (congrArg some (by kernel_rfl))
  f304 := Tryz.func163.trans (congrArg some (by kernel_rfl))
  f305 := Tryz.func164.trans (congrArg some (by kernel_rfl))
  f306 := Tryz.func165.trans (congrArg some (by kernel_rfl))
  f307 := Tryz.func166.trans (congrArg some (by kernel_rfl))
  f308 := Tryz.func167.trans (congrArg some (by kernel_rfl))
  f309 := Tryz.func168.trans (congrArg some (by kernel_rfl))
  f310 := Tryz.func169.trans (congrArg some (by kernel_rfl))
  f329 := Tryz.func177.trans (congrArg some (by kernel_rfl))
  f330 := Tryz.func178.trans (congrArg some (by kernel_rfl))
  f333 := Tryz.func176.trans (congrArg some (by kernel_rfl))
  f334 := Tryz.func179.trans (congrArg some (by kernel_rfl))
  f335 := Tryz.func180.trans (congrArg some (by kernel_rfl))
  f336 := Tryz.func181.trans (congrArg some (by kernel_rfl))
  f344 := Tryz.func186.trans (congrArg some (by kernel_rfl))
  t0 := Tryz.underlying0
  a0 := Tryz.isAgg0
  z0 := Tryz.sizeOf0
  v0 := Tryz.zeroValue0
  t3 := Tryz.underlying3
  a3 := Tryz.isAgg3
  z3 := Tryz.sizeOf3
  v3 := Tryz.zeroValue3
  t4 := Tryz.underlying4
  a4 := Tryz.isAgg4
  z4 := Tryz.sizeOf4
  v4 := Tryz.zeroValue4
  t5 := Tryz.underlying5
  a5 := Tryz.isAgg5
  z5 := Tryz.sizeOf5
  v5 := Tryz.zeroValue5
  t9 := Tryz.underlying9
  a9 := Tryz.isAgg9
  z9 := Tryz.sizeOf9
  v9 := Tryz.zeroValue9
  t31 := Tryz.underlying31
  a31 := Tryz.isAgg31
  z31 := Tryz.sizeOf31
  v31 := Tryz.zeroValue31
  t46 := Tryz.underlying68
  a46 := Tryz.isAgg68
  z46 := Tryz.sizeOf68
  v46 := Tryz.zeroValue68
  t51 := Tryz.underlying152
  a51 := Tryz.isAgg152
  z51 := Tryz.sizeOf152
  v51 := Tryz.zeroValue152
  t53 := Tryz.underlying128
  a53 := Tryz.isAgg128
  z53 := Tryz.sizeOf128
  v53 := Tryz.zeroValue128
  t131 := Tryz.underlying173
  a131 := Tryz.isAgg173
  z131 := Tryz.sizeOf173
  v131 := Tryz.zeroValue173
  t182 := Tryz.underlying168
  a182 := Tryz.isAgg168
  z182 := Tryz.sizeOf168
  v182 := Tryz.zeroValue168
  t183 := Tryz.underlying169
  a183 := Tryz.isAgg169
  z183 := Tryz.sizeOf169
  v183 := Tryz.zeroValue169
  t218 := Tryz.underlying185
  a218 := Tryz.isAgg185
  z218 := Tryz.sizeOf185
  v218 := Tryz.zeroValue185
  t222 := Tryz.underlying189
  a222 := Tryz.isAgg189
  z222 := Tryz.sizeOf189
  v222 := Tryz.zeroValue189
  t228 := Tryz.underlying194
  a228 := Tryz.isAgg194
  z228 := Tryz.sizeOf194
  v228 := Tryz.zeroValue194
  t229 := Tryz.underlying114
  a229 := Tryz.isAgg114
  z229 := Tryz.sizeOf114
  v229 := Tryz.zeroValue114 }
open Go.Sort Go.RowKit in
theorem Tryz.slices_Sort_string (blk off cap : Nat) (ss : List (List UInt8)) (w : World) (hH : Holds encStr w blk off ss.toArray) (hblk : blk < w.heap.size) (hsz : ss.length < 4611686018427387904) :
    Calls Tryz.prog 127 #[.slice (some ⟨blk, off, none⟩) ss.length cap] w fun e w' =>
      e = .returned (.tuple #[]) ∧ ∃ n os, w' = grow (putRow encStr (Sort.ahead w n) blk off (ss.mergeSort fun x y => decide (x ≤ y)).toArray) os := Any.slices_Sort_string Tryz.lays190 blk off cap ss w hH hblk hsz
open Go.RowKit Go.Sort in
theorem Tryz.slices_Sort_string_none (p : Option Addr) (cap : Nat) (w : World) :
    Calls Tryz.prog 127 #[.slice p 0 cap] w fun e w' => e = .returned (.tuple #[]) ∧ w' = w := Any.slices_Sort_string_none Tryz.lays190 p cap w
end Go.Proofs
namespace Go.Proofs.YtpklcnpmppaaoaaGreatDoor.Print
open Go.RowKit Go.Proofs.YtpklcnpmppaaoaaGreatDoorW.PrintWords Go.Proofs.YtpklcnpmppaaoaaGreatDoorW.PrintLast Go.Proofs.YtpklcnpmppaaoaaGreatDoorW.PrintMore Go.Sort
set_option linter.unusedVariables false
def sortL (l : List (List UInt8)) : List (List UInt8) := l.mergeSort fun x y => decide (x ≤ y)
def sortB (xs : List ByteArray) : List ByteArray := (sortL (xs.map (·.data.toList))).map fun l => ⟨l.toArray⟩
theorem sortB_len (xs : List ByteArray) : (sortB xs).length = xs.length := by simp [sortB, sortL]
theorem encs_str (xs : List ByteArray) : encs Value.string xs = (xs.map (·.data.toList)).map encStr := by
  unfold encs
  rw [List.map_map]
  exact List.map_congr_left fun x _ => rfl
theorem encs_sort (xs : List ByteArray) : encs Value.string (sortB xs) = (sortL (xs.map (·.data.toList))).map encStr := by
  unfold encs sortB
  rw [List.map_map]
  exact List.map_congr_left fun x _ => rfl
theorem sort_own (A : Option Addr) (c : Nat) (xs : List ByteArray) (B : Nat) (w : World) (ho : Kd.R Kd.string 9 w B (fun _ => True) (.slice A xs.length c) xs) (hB : B ≤ w.heap.size) (hle : xs.length ≤ 1000000) :
    Calls Tryz.prog 127 #[.slice A xs.length c] w fun e w' => e = .returned (.tuple #[]) ∧ Kd.R Kd.string 9 w' B (fun _ => True) (.slice A xs.length c) (sortB xs) ∧ Below B w w' := by
  have hrow := Kd.own_of_R ho
  rw [encs_str] at hrow
  have hmax := (Kd.R_reads' ho).2.2.2.1
  rcases hrow.2 with ⟨hnil, hn0⟩ | ⟨g, cap, cur, hv, hbase, hb, h1, h2, h3, h4⟩
  · have hx : xs = [] := List.eq_nil_of_length_eq_zero (by simpa using hn0)
    subst hx
    refine (Tryz.slices_Sort_string_none A c w).mono ?_
    rintro e w' ⟨he, rfl⟩
    have e0 : sortB [] = [] := by simp [sortB, sortL]
    rw [e0]
    exact ⟨he, ho, Below.refl _ _⟩
  · injection hv with hA hl hc
    subst hA; subst hc
    have hH : Holds encStr w g 0 (xs.map (·.data.toList)).toArray := holds_of_block hb (by simpa using h4)
    have hlen : xs.length = (xs.map (·.data.toList)).length := by simp
    have hcall := Tryz.slices_Sort_string g 0 c (xs.map (·.data.toList)) w hH (Array.getElem?_eq_some_iff.1 hb).1 (by rw [← hlen]; omega)
    rw [← hlen] at hcall
    refine hcall.mono ?_
    rintro e w' ⟨he, n, os, rfl⟩
    have hs := ownsRow_sorted (w := w) (n := n) (os := os) (ss := xs.map (·.data.toList)) (ts := sortL (xs.map (·.data.toList))) (by simp [sortL]) hbase hb (by rw [← hlen]; exact h1) h2 h3
    rw [← hlen, ← encs_sort] at hs
    refine ⟨he, Kd.R_of_own (by rw [sortB_len]; exact hs) (fun _ _ => trivial), ?_⟩
    exact (Below.refl B w).grown (grownBy_sorted _) hB (fun j hj => by cases hj; exact hbase)
theorem join_le {l : List ByteArray} {s r : ByteArray} (h : strings_Join.f (sortB l) s = some r) : l.length ≤ 1000000 := by
  unfold strings_Join.f at h
  by_cases c : (sortB l).length ≤ 1000000
  · rw [sortB_len] at c; exact c
  · rw [if_neg c] at h; cases h
theorem join_n (A0 : Option Addr) (c0 : Nat) (l0 : List ByteArray) (n : Nat) (hn : l0.length = n) (a1 : ByteArray) (r : ByteArray) (w : World) (hr0 : Kd.C Kd.string w A0 l0.length l0) (hc0 : l0.length ≤ c0) (h : strings_Join.f l0 a1 = some r) :
    Calls Tryz.prog 71 #[.slice A0 n c0, .string a1] w fun e w' => e = .returned (.string r) ∧ Below w.heap.size w w' := by
  subst hn
  exact strings_Join.calls A0 c0 l0 a1 r w hr0 hc0 h
theorem reads_srt {A : Option Addr} {c : Nat} {xs : List ByteArray} {B : Nat} {w : World} {ok : Nat → Prop} (h : Kd.R Kd.string 9 w B ok (.slice A xs.length c) (sortB xs)) : (sortB xs).length ≤ c ∧ Kd.C Kd.string w A (sortB xs).length (sortB xs) := by
  have h2 := Kd.R_reads' (xs := sortB xs) (n := xs.length) h
  refine ⟨?_, ?_⟩
  · rw [sortB_len]; exact h2.2.1
  · exact h2.2.2
end Go.Proofs.YtpklcnpmppaaoaaGreatDoor.Print
namespace Go.Proofs.YtpklcnpmppaaoaaGreatDoor.Print
open Go.RowKit Go.Proofs.YtpklcnpmppaaoaaGreatDoorW.PrintWords Go.Proofs.YtpklcnpmppaaoaaGreatDoorW.PrintLast Go.Proofs.YtpklcnpmppaaoaaGreatDoorW.PrintMore
attribute [local go_sem] max2_int min2_int max_two min_two max_three min_three max_four min_four
set_option linter.unusedVariables false
set_option linter.unusedSimpArgs false
def dn_key.l0 : Nat → List ByteArray → List (S96) → Int → Int → Option (ByteArray)
 | 0, _, _, _, _ => none
 | k + 1, x3, x10, x11, x12 => if x12 < x11 then (if 0 ≤ x12 then (if x12 < (x10.length : Int) then ((prep_Ready.f k ((rd_T96 x10 x12).f1) true).bind fun bt335 => ((field_Tuple.f (([(rd_T96 x10 x12).f0, bt335.1] : List ByteArray))).bind fun bt340 => (if x3.length < 8796093022208 then (dn_key.l0 k (x3 ++ [bt340.1]) x10 x11 (wrap64 (x12 + 1))) else (none)))) else (none)) else (none)) else ((strings_Join.f (sortB x3) (⟨#[]⟩ : ByteArray)).bind fun t345 => (some t345))
def dn_key.f (k : Nat) (l0 : List (S96)) : Option (ByteArray) := dn_key.l0 k ([] : List ByteArray) l0 (l0.length : Int) 0
theorem dn_key.mono_l : ∀ k, (∀ y0 y1 y2 y3, LeO (dn_key.l0 k y0 y1 y2 y3) (dn_key.l0 (k + 1) y0 y1 y2 y3))
 | 0 => fun _ _ _ _ r h => by simp [dn_key.l0] at h
 | k + 1 => by
  have ih0 := dn_key.mono_l k
  ·
   intro y0 y1 y2 y3
   unfold dn_key.l0
   repeat' first
   | (with_reducible exact ih0 _ _ _ _)
   | (with_reducible exact prep_Ready.mono _ _ _)
   | (with_reducible exact LeO.refl _)
   | (with_reducible exact LeO.none _)
   | (with_reducible refine LeO.ite ?_ ?_)
   | (with_reducible refine LeO.bind ?_ (fun _ => ?_))
theorem dn_key.mono : ∀ a0 k, LeO (dn_key.f k a0) (dn_key.f (k + 1) a0) := by
 intro a0 k
 have ih0 := dn_key.mono_l k
 unfold dn_key.f
 repeat' first
   | (with_reducible exact ih0 _ _ _ _)
   | (with_reducible exact prep_Ready.mono _ _ _)
   | (with_reducible exact LeO.refl _)
   | (with_reducible exact LeO.none _)
   | (with_reducible refine LeO.ite ?_ ?_)
   | (with_reducible refine LeO.bind ?_ (fun _ => ?_))
set_option maxHeartbeats 8000000 in
set_option maxRecDepth 100000 in
theorem dn_key.calls (k : Nat) (A0 : Option Addr) (c0 : Nat) (l0 : List (S96)) (r : ByteArray) (w : World) (hr0 : Kd.C k96 w A0 l0.length l0) (hc0 : l0.length ≤ c0) (hG : Gw w) (h : dn_key.f k l0 = some r) :
  Calls Tryz.prog 100 #[.slice A0 l0.length c0] w fun e w' => e = .returned (.string r) ∧ Below w.heap.size w w' := by
 have hu96 := Tryz.underlying96
 have HR0 := Aside0.mk hr0
 have HC0 := Aside0.mk hc0
 clear hr0 hc0
 have HB := Aside0.mk (Below.refl w.heap.size w)
 have HG := Aside0.mk hG
 clear hG
 have H : (dn_key.l0 k ([] : List ByteArray) l0 (l0.length : Int) 0) = some r := h
 clear h
 have H' := Aside0.mk H
 clear H
 go_enter Tryz.func100, Tryz.ntmps100
 go_wp2
 go_loopg [3, 12] k (fun kq v3 v12 w' => ∃ (x3_1 : List ByteArray) (x12_1 : Int), v12 = .int .i64 x12_1 ∧ Aside0 (dn_key.l0 kq x3_1 l0 (l0.length : Int) x12_1 = some r) ∧ Aside0 (kq ≤ k) ∧ Aside0 (Kd.R Kd.string 9 w' w.heap.size (fun _ => True) v3 x3_1) ∧ Aside0 (Below w.heap.size w w'))
 case atStart => exact ⟨(([] : List ByteArray)), (0), ap2, H', ⟨Nat.le_refl _⟩, ⟨by first | exact Kd.R_nil _ _ _ _ _ | exact Kd.N_nil _ _ _ _ _ | exact Kd.V_nil _ _ _ _ _ | exact Kd.Q_nil _ _ _ _ _ | exact Kd.S_nil _ _ _ _ _⟩, ⟨by repeat (first | (with_reducible first | exact HB.out | apply below_alloc | apply pw_below_drewN | apply below_drew1) | exact HB.out)⟩⟩
 case round =>
  clear H'
  try clear c1
  obtain ⟨x3_1, x12_1, rfl, HA, HK1, HO_3, HB⟩ := hrel
  cases gk with
  | zero => exact absurd HA.out (by simp [dn_key.l0])
  | succ k1 =>
   have H := HA.out
   clear HA
   simp only [dn_key.l0] at H
   by_cases c2 : x12_1 < (l0.length : Int)
   ·
    rw [if_pos c2] at H
    have c2b0 := decide_eq_true c2
    clear c2
    by_cases c3 : 0 ≤ x12_1
    ·
     rw [if_pos c3] at H
     have c3b0 := decide_eq_true c3
     clear c3
     by_cases c4 : x12_1 < (l0.length : Int)
     ·
      rw [if_pos c4] at H
      have c4b0 := decide_eq_true c4
      clear c4
      replace H := Option.bind_eq_some_iff.mp H
      obtain ⟨⟨t335, t336⟩, A50, H⟩ := H
      replace H : ((field_Tuple.f (([(rd_T96 l0 x12_1).f0, t335] : List ByteArray))).bind fun bt340 => (if x3_1.length < 8796093022208 then (dn_key.l0 k1 (x3_1 ++ [bt340.1]) l0 (l0.length : Int) (wrap64 (x12_1 + 1))) else (none))) = some r := H
      have A5 := Aside0.mk A50
      clear A50
      obtain ⟨y337, hy337⟩ : ∃ y_ : List ByteArray, y_ = (([(rd_T96 l0 x12_1).f0, t335] : List ByteArray)) := ⟨_, rfl⟩
      replace H : ((field_Tuple.f y337).bind fun bt340 => (if x3_1.length < 8796093022208 then (dn_key.l0 k1 (x3_1 ++ [bt340.1]) l0 (l0.length : Int) (wrap64 (x12_1 + 1))) else (none))) = some r := by first | (rw [hy337]; with_reducible exact H) | (have H2_ := (Option.bind_some _ _).symm.trans H; rw [hy337]; with_reducible exact H2_) | (have H2_ := (Option.bind_some _ _).symm.trans H; with_reducible exact H2_) | with_reducible exact H | (rw [hy337]; exact H) | exact H
      have Ny337 := Aside0.mk hy337
      clear hy337
      replace H := Option.bind_eq_some_iff.mp H
      obtain ⟨⟨t340, t341⟩, A60, H⟩ := H
      replace H : (if x3_1.length < 8796093022208 then (dn_key.l0 k1 (x3_1 ++ [t340]) l0 (l0.length : Int) (wrap64 (x12_1 + 1))) else (none)) = some r := H
      have A6 := Aside0.mk A60
      clear A60
      by_cases c7 : x3_1.length < 8796093022208
      ·
       rw [if_pos c7] at H
       have LMc7 := Aside0.mk c7
       clear c7
       obtain ⟨y342, hy342⟩ : ∃ y_ : List ByteArray, y_ = (x3_1 ++ [t340]) := ⟨_, rfl⟩
       replace H : (dn_key.l0 k1 y342 l0 (l0.length : Int) (wrap64 (x12_1 + 1))) = some r := by first | (rw [hy342]; with_reducible exact H) | (have H2_ := (Option.bind_some _ _).symm.trans H; rw [hy342]; with_reducible exact H2_) | (have H2_ := (Option.bind_some _ _).symm.trans H; with_reducible exact H2_) | with_reducible exact H | (rw [hy342]; exact H) | exact H
       have Ny342 := Aside0.mk hy342
       clear hy342
       have H' := Aside0.mk H
       clear H
       have p333 : 0 ≤ (x12_1 : Int) := of_decide_eq_true ap0
       have q333 : x12_1 < (l0.length : Int) := of_decide_eq_true ap0
       obtain ⟨ad333, e333, hx333_0, hx333_1⟩ := at_T96 HR0.out x12_1 p333 q333
       cases e333
       replace hx333_0 := (HB.out.cell (World.block_lt_of_cell? w _ hx333_0)).trans hx333_0
       replace hx333_1 := (HB.out.cell (World.block_lt_of_cell? w _ hx333_1)).trans hx333_1
       replace p333 := eq_true p333
       replace q333 := eq_true q333
       go_wp2_with (first | ((with_reducible refine gate_dst (N := 5) rfl ?_); refine box_event ?hg (N := 5) ?hd (cs := #[.string (⟨#[]⟩ : ByteArray), .string (⟨#[]⟩ : ByteArray)]) (t := 96) ?hr ?_; (case hd => rfl); (case hg => rfl); (case hr => first | (go_simp; done) | (go_simp; rfl)); intro gb334 hg w8 hbox hb; have n0_ := Aside0.mk (Kd.R_below (apAR HO_3.out) hb); have n1_ := Aside0.mk (below_step ap1 hb); have n2_ := Aside0.mk (hbox); have n3_ := Aside0.mk ((by rw [hg]; exact (below_size ap1) : w.heap.size ≤ gb334)); have n4_ := Aside0.mk ((by rw [hg]; exact (below_size ap1) : w.heap.size ≤ gb334)); clear HO_3; clear HB; have HO_3 := n0_; have HB := n1_; have BK334 := n2_; have GW334 := n3_; have GE334 := n4_; clear n0_ n1_ n2_ n3_ n4_; clear hb hbox hg; have hcz9_0 : w8.cell? ⟨gb334, 0, none⟩ = some (.string (⟨#[]⟩ : ByteArray)) := (blk_cell BK334.out 0).trans rfl; have hcz9_1 : w8.cell? ⟨gb334, 1, none⟩ = some (.string (⟨#[]⟩ : ByteArray)) := (blk_cell BK334.out 1).trans rfl; have hfz9_0 := blk_frozen BK334.out 0; have hfz9_1 := blk_frozen BK334.out 1) | ((with_reducible refine gate_callee (f := 67) rfl ?_); refine goesL_ (some 19) rfl rfl Tryz.func67 (by kernel_rfl) rfl #[.string ((rd_T96 l0 x12_1).f1), .bool true] rfl ap3 ?_; (with_reducible refine (prep_Ready.calls k1 ((rd_T96 l0 x12_1).f1) true t335 t336 _ ?side1 A5.out).mono ?_); (case side1 => first | exact HG.out | (refine Gw.below HG.out ?_; repeat (first | (with_reducible first | exact HB.out | apply below_alloc | apply pw_below_drewN | apply below_drew1 | refine below_set ?_ GE334.out) | exact HB.out))); rintro e w10 ⟨rfl, hb⟩; refine ⟨_, rfl, ?_⟩; have n0_ := Aside0.mk (Kd.R_below (by (with_reducible repeat (first | apply Kd.R_alloc | apply Kd.R_drewN | apply Kd.R_drew)); exact (Kd.R_mono (Kd.R_far (p := ⟨gb334, 1, none⟩) (Kd.R_far (p := ⟨gb334, 0, none⟩) (Kd.R_types HO_3.out BK334.out (by decide)) (fun _ hk => hk.2) (.string ((rd_T96 l0 x12_1).f0))) (fun _ hk => hk.2) (.string ((rd_T96 l0 x12_1).f1))) (fun _ h_ => h_.1))) hb); have n1_ := Aside0.mk (blk_below (g := gb334) (o := .cells #[.string ((rd_T96 l0 x12_1).f0), .string ((rd_T96 l0 x12_1).f1)] 96 (0, 0)) (by (with_reducible repeat (first | refine blk_drewN ?_ _ | refine blk_drew ?_ | refine blk_alloc ?_ _)); refine blk_put (cs := #[.string ((rd_T96 l0 x12_1).f0), .string (⟨#[]⟩ : ByteArray)]) ?_ 1 _ rfl; (with_reducible repeat (first | refine blk_drewN ?_ _ | refine blk_drew ?_ | refine blk_alloc ?_ _)); refine blk_put (cs := #[.string (⟨#[]⟩ : ByteArray), .string (⟨#[]⟩ : ByteArray)]) ?_ 0 _ rfl; (with_reducible repeat (first | refine blk_drewN ?_ _ | refine blk_drew ?_ | refine blk_alloc ?_ _)); exact BK334.out) hb); have n2_ := Aside0.mk (below_step (apG GE334.out) hb); clear HO_3; clear BK334; clear HB; have HO_3 := n0_; have BK334 := n1_; have HB := n2_; clear n0_ n1_ n2_; (try clear hb); (try clear hb2); (try clear hk); (try clear hi); have hcz11_0 : w10.cell? ⟨gb334, 0, none⟩ = some (.string ((rd_T96 l0 x12_1).f0)) := (blk_cell BK334.out 0).trans rfl; have hcz11_1 : w10.cell? ⟨gb334, 1, none⟩ = some (.string ((rd_T96 l0 x12_1).f1)) := (blk_cell BK334.out 1).trans rfl; have hfz11_0 := blk_frozen BK334.out 0; have hfz11_1 := blk_frozen BK334.out 1) | ((with_reducible refine gate_dst (N := 26) rfl ?_); refine Kd.R_lit Kd.string _ 9 ?hg (N := 26) ?hd (xs := ([(rd_T96 l0 x12_1).f0, t335] : List ByteArray)) (inner := [.string ((rd_T96 l0 x12_1).f0), .string t335]) (ok := fun _ => True) (okp := fun _ => True) ?hr ?hp (fun _ hk => hk) trivial (Below.refl _ _) (Nat.le_refl _) (by simp) ?_; (case hd => rfl); (case hg => rfl); (case hr => first | (go_simp; done) | (go_simp; rfl)); (case hp => exact (Reps.one (show Kd.M Kd.string _ _ _ ((rd_T96 l0 x12_1).f0) [.string ((rd_T96 l0 x12_1).f0)] from rfl) (Reps.one (show Kd.M Kd.string _ _ _ t335 [.string t335] from rfl) (Reps.none _ _)))); intro v338 w12 ho13 hb hg_ hnew_; clear hg_ hnew_; (first | rw [← Ny337.out] at ho13 | (simp only [Int.reduceToNat] at ho13; rw [← Ny337.out] at ho13)); have n0_ := Aside0.mk (Kd.R_elder' (apAR HO_3.out) (Kd.R_base ho13) hb); have n1_ := Aside0.mk (Kd.R_lower (Kd.R_new' ho13 (Kd.R_lt (apAR HO_3.out))) (below_size (apG GE334.out))); have n2_ := Aside0.mk (blk_below (g := gb334) (o := .cells #[.string ((rd_T96 l0 x12_1).f0), .string ((rd_T96 l0 x12_1).f1)] 96 (0, 0)) (apB BK334.out) hb); have n3_ := Aside0.mk (below_step (apG GE334.out) hb); clear HO_3; clear BK334; clear HB; have HO_3 := n0_; have HO339 := n1_; have BK334 := n2_; have HB := n3_; clear n0_ n1_ n2_ n3_; clear hb ho13; obtain ⟨Ao14, co14, eo14⟩ := Kd.R_slice HO339.out; subst eo14) | ((with_reducible refine gate_callee (f := 126) rfl ?_); refine goesL_ (some 27) rfl rfl Tryz.func126 (by kernel_rfl) rfl #[.slice Ao14 y337.length co14] rfl ap3 ?_; (with_reducible refine (field_Tuple.calls _ _ y337 t340 t341 _ ?side1 ?side2 ?side3 A6.out).mono ?_); (case side1 => repeat (first | exact (Kd.R_reads' HO339.out).2.2 | (with_reducible refine Kd.C_alloc ?_ _) | (with_reducible refine Kd.C_drewN ?_ _) | (with_reducible refine Kd.C_drew ?_))); (case side2 => exact (Kd.R_reads' HO339.out).2.1); (case side3 => first | exact HG.out | (refine Gw.below HG.out ?_; repeat (first | (with_reducible first | exact HB.out | apply below_alloc | apply pw_below_drewN | apply below_drew1 | refine below_set ?_ GE334.out) | exact HB.out))); rintro e w15 ⟨rfl, hb⟩; refine ⟨_, rfl, ?_⟩; have n0_ := Aside0.mk (Kd.R_below (apAR HO_3.out) hb); have n1_ := Aside0.mk (Kd.R_below (apAR HO339.out) hb); have n2_ := Aside0.mk (blk_below (g := gb334) (o := .cells #[.string ((rd_T96 l0 x12_1).f0), .string ((rd_T96 l0 x12_1).f1)] 96 (0, 0)) (apB BK334.out) hb); have n3_ := Aside0.mk (below_step (apG GE334.out) hb); clear HO_3; clear HO339; clear BK334; clear HB; have HO_3 := n0_; have HO339 := n1_; have BK334 := n2_; have HB := n3_; clear n0_ n1_ n2_ n3_; (try clear hb); (try clear hb2); (try clear hk); (try clear hi)) | ((with_reducible refine gate_builtin (b := .append) (xs := #[.tmp 30, .tmp 32]) rfl ?_); at_builtin; refine Kd.R_append Kd.string (w0 := w) w.heap.size rfl (.tmp 30) (.tmp 32) 31 9 (.string ⟨#[]⟩) 16 rfl Tryz.underlying31 info9 rfl (by decide) (by omega) u3 x3_1 t340 [.string t340] (fun k_ => some k_ ≠ (.slice Ao14 y337.length co14 : Value).ownBlock) (fun _ => False) rfl rfl ?aP (fun _ hk => hk.elim) ?aF ?aO ?aB ?aS ?aL ?_; (case aP => exact rfl); (case aB => exact (apG GE334.out)); (case aF => exact (fun k_ hk => Kd.fresh' (Kd.R_lt (apAR HO339.out)) k_ hk)); (case aO => exact (by (with_reducible repeat (first | apply Kd.R_alloc | apply Kd.R_drewN | apply Kd.R_drew)); exact Kd.R_mono HO_3.out (fun _ hk => hk.2))); (case aS => exact (below_size (apG GE334.out))); (case aL => have := LMc7.out; omega); intro v343 w16 ho hb hg hat; rw [← Ny342.out] at ho; have n0_ := Aside0.mk (blk_grown (g := gb334) (o := .cells #[.string ((rd_T96 l0 x12_1).f0), .string ((rd_T96 l0 x12_1).f1)] 96 (0, 0)) (apB BK334.out) hg (Kd.R_ne HO_3.out BK334.out (by decide))); have n1_ := Aside0.mk (Kd.R_after (ok := (fun _ => True)) (apAR HO339.out) hg hat); have n2_ := Aside0.mk (hb); have n3_ := Aside0.mk (ho); clear BK334; clear HO339; clear HB; clear HO_3; have BK334 := n0_; have HO339 := n1_; have HB := n2_; have HO344 := n3_; clear n0_ n1_ n2_ n3_; clear ho hb hg hat))
       go_roundg k1
       case measure => have := HK1.out; omega
       case rel => exact ⟨(y342), (wrap64 (x12_1 + 1)), ap2, H', ⟨by have := HK1.out; omega⟩, ⟨by (with_reducible repeat (first | apply Kd.R_alloc | apply Kd.R_drewN | apply Kd.R_drew)); exact Kd.R_mono HO344.out (fun _ hk => trivial)⟩, ⟨by repeat (first | (with_reducible first | exact HB.out | apply below_alloc | apply pw_below_drewN | apply below_drew1 | refine below_set ?_ GE334.out) | exact HB.out)⟩⟩
      ·
       rw [if_neg c7] at H
       exact absurd H (by simp)
     ·
      rw [if_neg c4] at H
      exact absurd H (by simp)
    ·
     rw [if_neg c3] at H
     exact absurd H (by simp)
   ·
    rw [if_neg c2] at H
    have c2b0 := decide_eq_false c2
    clear c2
    replace H := Option.bind_eq_some_iff.mp H
    obtain ⟨t345, A170, H⟩ := H
    replace H : (some t345) = some r := H
    have A17 := Aside0.mk A170
    clear A170
    obtain rfl := Option.some.inj H
    have JL := Aside0.mk A17.out
    obtain ⟨Ao18, co18, eo18⟩ := Kd.R_slice HO_3.out
    subst eo18
    go_wp2_with (first | ((with_reducible refine gate_callee (f := 127) rfl ?_); refine goesL_ (some 36) rfl rfl Tryz.func127 (by kernel_rfl) rfl #[.slice Ao18 x3_1.length co18] rfl ap3 ?_; (with_reducible refine (sort_own Ao18 co18 x3_1 w.heap.size _ ?sa ?sb ?sc).mono ?_); (case sa => exact (apAR HO_3.out)); (case sb => exact (below_size ap1)); (case sc => exact join_le JL.out); rintro e w90 ⟨rfl, ho0, hb⟩; refine ⟨_, rfl, ?_⟩; have n0_ := Aside0.mk ho0; have n1_ := Aside0.mk (Below.trans ap1 hb); clear HO_3; clear HB; have HO_3 := n0_; have HB := n1_; clear n0_ n1_; clear hb ho0) | ((with_reducible refine gate_callee (f := 71) rfl ?_); refine goesL_ (some 38) rfl rfl Tryz.func71 (by kernel_rfl) rfl #[.slice Ao18 x3_1.length co18, .string (⟨#[]⟩ : ByteArray)] rfl ap3 ?_; (with_reducible refine (join_n _ _ (sortB x3_1) x3_1.length (sortB_len _) (⟨#[]⟩ : ByteArray) t345 _ ?side1 ?side2 A17.out).mono ?_); (case side1 => repeat (first | exact (reads_srt HO_3.out).2 | (with_reducible refine Kd.C_alloc ?_ _) | (with_reducible refine Kd.C_drewN ?_ _) | (with_reducible refine Kd.C_drew ?_))); (case side2 => exact (reads_srt HO_3.out).1); rintro e w19 ⟨rfl, hb⟩; refine ⟨_, rfl, ?_⟩; have n0_ := Aside0.mk (Kd.R_below (apAR HO_3.out) hb); have n1_ := Aside0.mk (below_step ap1 hb); clear HO_3; clear HB; have HO_3 := n0_; have HB := n1_; clear n0_ n1_; (try clear hb); (try clear hb2); (try clear hk); (try clear hi)))
    go_ret
    exact ⟨by first | rfl | (simp [errW_none, errW_some, bne_nil8, beq_nil8]; done) | (simp [errW_none, errW_some] <;> rfl) | (simp [*, errW_none, errW_some] <;> rfl), by repeat (first | (with_reducible first | exact HB.out | apply below_alloc | apply pw_below_drewN | apply below_drew1) | exact HB.out)⟩
def dn_Keys.l0 : Nat → List (List (S96)) → List ByteArray → Int → Int → Option (List ByteArray × Int)
 | 0, _, _, _, _ => none
 | k + 1, x0, x4, x10, x11 => if x11 < x10 then (if 0 ≤ (wrap64 ((wrap64 ((x0.length : Int) - 1)) - x11)) then (if (wrap64 ((wrap64 ((x0.length : Int) - 1)) - x11)) < (x0.length : Int) then ((dn_key.f k (rd_L8 x0 (wrap64 ((wrap64 ((x0.length : Int) - 1)) - x11)))).bind fun t348 => (if x4.length < 8796093022208 then (dn_Keys.l0 k x0 (x4 ++ [t348]) x10 (wrap64 (x11 + 1))) else (none))) else (none)) else (none)) else (some (x4, 0))
def dn_Keys.f (k : Nat) (l0 : List (List (S96))) : Option (List ByteArray × Int) := (dn_Right.f k l0).bind fun t346 => (if t346 = true then (dn_Keys.l0 k l0 ([] : List ByteArray) (l0.length : Int) 0) else (some (([] : List ByteArray), 4)))
theorem dn_Keys.mono_l : ∀ k, (∀ y0 y1 y2 y3, LeO (dn_Keys.l0 k y0 y1 y2 y3) (dn_Keys.l0 (k + 1) y0 y1 y2 y3))
 | 0 => fun _ _ _ _ r h => by simp [dn_Keys.l0] at h
 | k + 1 => by
  have ih0 := dn_Keys.mono_l k
  ·
   intro y0 y1 y2 y3
   unfold dn_Keys.l0
   repeat' first
   | (with_reducible exact ih0 _ _ _ _)
   | (with_reducible exact dn_Right.mono _ _)
   | (with_reducible exact dn_key.mono _ _)
   | (with_reducible exact LeO.refl _)
   | (with_reducible exact LeO.none _)
   | (with_reducible refine LeO.ite ?_ ?_)
   | (with_reducible refine LeO.bind ?_ (fun _ => ?_))
theorem dn_Keys.mono : ∀ a0 k, LeO (dn_Keys.f k a0) (dn_Keys.f (k + 1) a0) := by
 intro a0 k
 have ih0 := dn_Keys.mono_l k
 unfold dn_Keys.f
 repeat' first
   | (with_reducible exact ih0 _ _ _ _)
   | (with_reducible exact dn_Right.mono _ _)
   | (with_reducible exact dn_key.mono _ _)
   | (with_reducible exact LeO.refl _)
   | (with_reducible exact LeO.none _)
   | (with_reducible refine LeO.ite ?_ ?_)
   | (with_reducible refine LeO.bind ?_ (fun _ => ?_))
set_option maxHeartbeats 8000000 in
set_option maxRecDepth 100000 in
theorem dn_Keys.calls (k : Nat) (A0 : Option Addr) (c0 : Nat) (l0 : List (List (S96))) (r1 : List ByteArray) (r2 : Int) (w : World) (hr0 : Kd.C (Kd.slice 96 k96) w A0 l0.length l0) (hc0 : l0.length ≤ c0) (hG : Gw w) (h : dn_Keys.f k l0 = some (r1, r2)) :
  Calls Tryz.prog 70 #[.slice A0 l0.length c0] w fun e w' => ∃ v0_ : Value, e = .returned (.tuple #[v0_, .int .i64 r2]) ∧ Kd.R Kd.string 9 w' w.heap.size (fun _ => True) v0_ r1 ∧ Below w.heap.size w w' := by
 have HR0 := Aside0.mk hr0
 have HC0 := Aside0.mk hc0
 clear hr0 hc0
 have HB := Aside0.mk (Below.refl w.heap.size w)
 have HG := Aside0.mk hG
 clear hG
 have H : ((dn_Right.f k l0).bind fun t346 => (if t346 = true then (dn_Keys.l0 k l0 ([] : List ByteArray) (l0.length : Int) 0) else (some (([] : List ByteArray), 4)))) = some (r1, r2) := h
 clear h
 replace H := Option.bind_eq_some_iff.mp H
 obtain ⟨t346, A20, H⟩ := H
 replace H : (if t346 = true then (dn_Keys.l0 k l0 ([] : List ByteArray) (l0.length : Int) 0) else (some (([] : List ByteArray), 4))) = some (r1, r2) := H
 have A2 := Aside0.mk A20
 clear A20
 by_cases c3 : t346 = true
 ·
  subst c3
  rw [if_pos rfl] at H
  have H' := Aside0.mk H
  clear H
  go_enter Tryz.func70, Tryz.ntmps70
  go_wp2_with (first | ((with_reducible refine gate_callee (f := 99) rfl ?_); refine goesL_ (some 7) rfl rfl Tryz.func99 (by kernel_rfl) rfl #[.slice A0 l0.length c0] rfl ap3 ?_; (with_reducible refine (dn_Right.calls k _ _ l0 true _ ?side1 ?side2 ?side3 A2.out).mono ?_); (case side1 => repeat (first | exact HR0.out | (with_reducible refine Kd.C_alloc ?_ _) | (with_reducible refine Kd.C_drewN ?_ _) | (with_reducible refine Kd.C_drew ?_))); (case side2 => exact HC0.out); (case side3 => exact ap6); rintro e w4 ⟨rfl, hb⟩; refine ⟨_, rfl, ?_⟩; have n0_ := Aside0.mk (below_step ap1 hb); clear HB; have HB := n0_; clear n0_; (try clear hb); (try clear hb2); (try clear hk); (try clear hi)))
  go_loopg [4, 11] k (fun kq v4 v11 w' => ∃ (x4_1 : List ByteArray) (x11_1 : Int), v11 = .int .i64 x11_1 ∧ Aside0 (dn_Keys.l0 kq l0 x4_1 (l0.length : Int) x11_1 = some (r1, r2)) ∧ Aside0 (kq ≤ k) ∧ Aside0 (Kd.R Kd.string 9 w' w.heap.size (fun _ => True) v4 x4_1) ∧ Aside0 (Below w.heap.size w w'))
  case atStart => exact ⟨(([] : List ByteArray)), (0), ap2, H', ⟨Nat.le_refl _⟩, ⟨by first | exact Kd.R_nil _ _ _ _ _ | exact Kd.N_nil _ _ _ _ _ | exact Kd.V_nil _ _ _ _ _ | exact Kd.Q_nil _ _ _ _ _ | exact Kd.S_nil _ _ _ _ _⟩, ⟨by repeat (first | (with_reducible first | exact HB.out | apply below_alloc | apply pw_below_drewN | apply below_drew1) | exact HB.out)⟩⟩
  case round =>
   clear H'
   try clear p2
   try clear c3
   obtain ⟨x4_1, x11_1, rfl, HA, HK1, HO_4, HB⟩ := hrel
   cases gk with
   | zero => exact absurd HA.out (by simp [dn_Keys.l0])
   | succ k1 =>
    have H := HA.out
    clear HA
    simp only [dn_Keys.l0] at H
    by_cases c5 : x11_1 < (l0.length : Int)
    ·
     rw [if_pos c5] at H
     have c5b0 := decide_eq_true c5
     clear c5
     obtain ⟨ji6, hji6⟩ : ∃ j_ : Int, (wrap64 ((wrap64 ((l0.length : Int) - 1)) - x11_1)) = j_ := ⟨_, rfl⟩
     replace H : (if 0 ≤ (ji6) then (if (ji6) < (l0.length : Int) then ((dn_key.f k1 (rd_L8 l0 (ji6))).bind fun t348 => (if x4_1.length < 8796093022208 then (dn_Keys.l0 k1 l0 (x4_1 ++ [t348]) (l0.length : Int) (wrap64 (x11_1 + 1))) else (none))) else (none)) else (none)) = some (r1, r2) := by first | (rw [hji6] at H; exact H) | (simp only [hji6] at H ⊢; exact H)
     have hji6w : (IntKind.i64.wrap ((wrap64 ((l0.length : Int) - 1)) - x11_1)) = ji6 := (i64_w _).trans hji6
     by_cases c7 : 0 ≤ (ji6)
     ·
      rw [if_pos c7] at H
      have c7b0 := decide_eq_true c7
      clear c7
      by_cases c8 : (ji6) < (l0.length : Int)
      ·
       rw [if_pos c8] at H
       have c8b0 := decide_eq_true c8
       clear c8
       replace H := Option.bind_eq_some_iff.mp H
       obtain ⟨t348, A90, H⟩ := H
       replace H : (if x4_1.length < 8796093022208 then (dn_Keys.l0 k1 l0 (x4_1 ++ [t348]) (l0.length : Int) (wrap64 (x11_1 + 1))) else (none)) = some (r1, r2) := H
       have A9 := Aside0.mk A90
       clear A90
       by_cases c10 : x4_1.length < 8796093022208
       ·
        rw [if_pos c10] at H
        have LMc10 := Aside0.mk c10
        clear c10
        obtain ⟨y349, hy349⟩ : ∃ y_ : List ByteArray, y_ = (x4_1 ++ [t348]) := ⟨_, rfl⟩
        replace H : (dn_Keys.l0 k1 l0 y349 (l0.length : Int) (wrap64 (x11_1 + 1))) = some (r1, r2) := by first | (rw [hy349]; with_reducible exact H) | (have H2_ := (Option.bind_some _ _).symm.trans H; rw [hy349]; with_reducible exact H2_) | (have H2_ := (Option.bind_some _ _).symm.trans H; with_reducible exact H2_) | with_reducible exact H | (rw [hy349]; exact H) | exact H
        have Ny349 := Aside0.mk hy349
        clear hy349
        have H' := Aside0.mk H
        clear H
        have p347 : 0 ≤ ((ji6) : Int) := of_decide_eq_true ap0
        have q347 : (ji6) < (l0.length : Int) := of_decide_eq_true ap0
        obtain ⟨ad347, A347_0, c347_0, e347, hx347_0, hl347_0, hi347_0⟩ := at_L8 HR0.out (ji6) p347 q347
        cases e347
        replace hx347_0 := (HB.out.cell (World.block_lt_of_cell? w _ hx347_0)).trans hx347_0
        have HR347_0 := Aside0.mk hi347_0
        have HC347_0 := Aside0.mk hl347_0
        clear hi347_0 hl347_0
        replace p347 := eq_true p347
        replace q347 := eq_true q347
        go_wp2_with (first | ((with_reducible refine gate_callee (f := 100) rfl ?_); refine goesL_ (some 23) rfl rfl Tryz.func100 (by kernel_rfl) rfl #[.slice A347_0 (rd_L8 l0 (ji6)).length c347_0] rfl (by (try simp only [List.map_toArray, List.map_cons, List.map_nil]); first | done | (simp only [hji6]; rfl) | rfl | (simp only [List.length_drop, List.length_take]; rfl)) ?_; (with_reducible refine (dn_key.calls k1 _ _ (rd_L8 l0 (ji6)) t348 _ ?side1 ?side2 ?side3 A9.out).mono ?_); (case side1 => repeat (first | exact (Kd.C_below HR347_0.out HB.out) | (with_reducible refine Kd.C_alloc ?_ _) | (with_reducible refine Kd.C_drewN ?_ _) | (with_reducible refine Kd.C_drew ?_))); (case side2 => exact HC347_0.out); (case side3 => exact ap6); rintro e w11 ⟨rfl, hb⟩; refine ⟨_, rfl, ?_⟩; have n0_ := Aside0.mk (Kd.R_below (apAR HO_4.out) hb); have n1_ := Aside0.mk (below_step ap1 hb); clear HO_4; clear HB; have HO_4 := n0_; have HB := n1_; clear n0_ n1_; (try clear hb); (try clear hb2); (try clear hk); (try clear hi)) | ((with_reducible refine gate_builtin (b := .append) (xs := #[.tmp 14, .tmp 24]) rfl ?_); at_builtin; refine Kd.R_append Kd.string (w0 := w) w.heap.size rfl (.tmp 14) (.tmp 24) 31 9 (.string ⟨#[]⟩) 16 rfl Tryz.underlying31 info9 rfl (by decide) (by omega) u4 x4_1 t348 [.string t348] (fun _ => True) (fun _ => False) rfl rfl ?aP (fun _ hk => hk.elim) ?aF ?aO ?aB ?aS ?aL ?_; (case aP => exact rfl); (case aB => exact ap1); (case aF => exact (fun _ _ => trivial)); (case aO => exact (apAR HO_4.out)); (case aS => exact (below_size ap1)); (case aL => have := LMc10.out; omega); intro v350 w12 ho hb hg hat; rw [← Ny349.out] at ho; have n0_ := Aside0.mk (hb); have n1_ := Aside0.mk (ho); clear HB; clear HO_4; have HB := n0_; have HO351 := n1_; clear n0_ n1_; clear ho hb hg hat))
        go_roundg k1
        case measure => have := HK1.out; omega
        case rel => exact ⟨(y349), (wrap64 (x11_1 + 1)), ap2, H', ⟨by have := HK1.out; omega⟩, ⟨by (with_reducible repeat (first | apply Kd.R_alloc | apply Kd.R_drewN | apply Kd.R_drew)); exact HO351.out⟩, ⟨by repeat (first | (with_reducible first | exact HB.out | apply below_alloc | apply pw_below_drewN | apply below_drew1) | exact HB.out)⟩⟩
       ·
        rw [if_neg c10] at H
        exact absurd H (by simp)
      ·
       rw [if_neg c8] at H
       exact absurd H (by simp)
     ·
      rw [if_neg c7] at H
      exact absurd H (by simp)
    ·
     rw [if_neg c5] at H
     have c5b0 := decide_eq_false c5
     clear c5
     simp only [Option.some.injEq, Prod.mk.injEq] at H
     obtain ⟨rfl, rfl⟩ := H
     go_wp2
     go_ret2
     exact ⟨_, by first | rfl | (simp [errW_none, errW_some, bne_nil8, beq_nil8]; done) | (simp [errW_none, errW_some] <;> rfl) | (simp [*, errW_none, errW_some] <;> rfl), by (with_reducible repeat (first | apply Kd.R_alloc | apply Kd.R_drewN | apply Kd.R_drew)); exact HO_4.out, by repeat (first | (with_reducible first | exact HB.out | apply below_alloc | apply pw_below_drewN | apply below_drew1) | exact HB.out)⟩
 ·
  replace c3 := Bool.eq_false_iff.mpr c3
  subst c3
  rw [if_neg (show ¬ (false = true) by decide)] at H
  simp only [Option.some.injEq, Prod.mk.injEq] at H
  obtain ⟨rfl, rfl⟩ := H
  go_enter Tryz.func70, Tryz.ntmps70
  go_wp2_with (first | ((with_reducible refine gate_callee (f := 99) rfl ?_); refine goesL_ (some 7) rfl rfl Tryz.func99 (by kernel_rfl) rfl #[.slice A0 l0.length c0] rfl ap3 ?_; (with_reducible refine (dn_Right.calls k _ _ l0 false _ ?side1 ?side2 ?side3 A2.out).mono ?_); (case side1 => repeat (first | exact HR0.out | (with_reducible refine Kd.C_alloc ?_ _) | (with_reducible refine Kd.C_drewN ?_ _) | (with_reducible refine Kd.C_drew ?_))); (case side2 => exact HC0.out); (case side3 => exact ap6); rintro e w13 ⟨rfl, hb⟩; refine ⟨_, rfl, ?_⟩; have n0_ := Aside0.mk (below_step ap1 hb); clear HB; have HB := n0_; clear n0_; (try clear hb); (try clear hb2); (try clear hk); (try clear hi)))
  go_ret2
  exact ⟨_, by first | rfl | (simp [errW_none, errW_some, bne_nil8, beq_nil8]; done) | (simp [errW_none, errW_some] <;> rfl) | (simp [*, errW_none, errW_some] <;> rfl), by first | exact Kd.R_nil _ _ _ _ _ | exact Kd.N_nil _ _ _ _ _ | exact Kd.V_nil _ _ _ _ _ | exact Kd.Q_nil _ _ _ _ _ | exact Kd.S_nil _ _ _ _ _, by repeat (first | (with_reducible first | exact HB.out | apply below_alloc | apply pw_below_drewN | apply below_drew1) | exact HB.out)⟩
end Go.Proofs.YtpklcnpmppaaoaaGreatDoor.Print
namespace Go.Proofs.YtpklcnpmppaaoaaGreatDoor.Print
open Go.RowKit Go.Proofs.YtpklcnpmppaaoaaGreatDoorW.PrintWords Go.Proofs.YtpklcnpmppaaoaaGreatDoorW.PrintLast Go.Proofs.YtpklcnpmppaaoaaGreatDoorW.PrintMore Go.Proofs.YtpklcnpmppaaoaaGreatDoor.Pure
set_option linter.unusedVariables false
set_option linter.unusedSimpArgs false
theorem take_next {α : Type} {l : List α} {i : Nat} {x : α} {r : List α} (h : l.drop i = x :: r) : l.take (i + 1) = l.take i ++ [x] := by
  obtain ⟨g1, g0, _⟩ := getD_at (d := x) h
  rw [List.take_succ_eq_append_getElem g1]
  congr 2
  rw [Int.toNat_natCast, List.getD_eq_getElem?_getD, List.getElem?_eq_getElem g1] at g0
  simpa using g0
theorem rdB_at {L : List ByteArray} {i : Nat} {x : ByteArray} {r : List ByteArray} (h : L.drop i = x :: r) : rdOf ByteArray.empty L (i : Int) = x := (rdOf_at h).2.1
end Go.Proofs.YtpklcnpmppaaoaaGreatDoor.Print
namespace Go.Proofs.YtpklcnpmppaaoaaGreatDoor.Print
open Go.RowKit Go.Proofs.YtpklcnpmppaaoaaGreatDoorW.PrintWords Go.Proofs.YtpklcnpmppaaoaaGreatDoorW.PrintLast Go.Proofs.YtpklcnpmppaaoaaGreatDoorW.PrintMore
attribute [local go_sem] max2_int min2_int max_two min_two max_three min_three max_four min_four
set_option linter.unusedVariables false
set_option linter.unusedSimpArgs false
def stringslite_TrimPrefix.f (a0 : ByteArray) (a1 : ByteArray) : Option (ByteArray) := (stringslite_HasPrefix.f a0 a1).bind fun t155 => (if t155 = true then (if 0 ≤ (a1.size : Int) then (if (a1.size : Int) ≤ (a0.size : Int) then (some (a0.extract ((a1.size : Int) : Int).toNat a0.size)) else (none)) else (none)) else (some a0))
set_option maxHeartbeats 8000000 in
set_option maxRecDepth 100000 in
theorem stringslite_TrimPrefix.calls (a0 : ByteArray) (a1 : ByteArray) (r : ByteArray) (w : World) (h : stringslite_TrimPrefix.f a0 a1 = some r) :
  Calls Tryz.prog 121 #[.string a0, .string a1] w fun e w' => e = .returned (.string r) ∧ Drawn0 w w' := by
 have H : ((stringslite_HasPrefix.f a0 a1).bind fun t155 => (if t155 = true then (if 0 ≤ (a1.size : Int) then (if (a1.size : Int) ≤ (a0.size : Int) then (some (a0.extract ((a1.size : Int) : Int).toNat a0.size)) else (none)) else (none)) else (some a0))) = some r := h
 clear h
 replace H := Option.bind_eq_some_iff.mp H
 obtain ⟨t155, A30, H⟩ := H
 replace H : (if t155 = true then (if 0 ≤ (a1.size : Int) then (if (a1.size : Int) ≤ (a0.size : Int) then (some (a0.extract ((a1.size : Int) : Int).toNat a0.size)) else (none)) else (none)) else (some a0)) = some r := H
 have A3 := Aside0.mk A30
 clear A30
 by_cases c4 : t155 = true
 ·
  subst c4
  rw [if_pos rfl] at H
  by_cases c5 : 0 ≤ (a1.size : Int)
  ·
   rw [if_pos c5] at H
   have c5b0 := eq_true c5
   have c5b1 := decide_eq_true c5
   clear c5
   by_cases c6 : (a1.size : Int) ≤ (a0.size : Int)
   ·
    rw [if_pos c6] at H
    have c6b0 := eq_true c6
    have c6b1 := decide_eq_true c6
    clear c6
    obtain rfl := Option.some.inj H
    go_enter Tryz.func121, Tryz.ntmps121
    go_wp2_with (first | ((with_reducible refine gate_callee (f := 90) rfl ?_); refine goesL_ (some 7) rfl rfl Tryz.func90 (by kernel_rfl) rfl #[.string a0, .string a1] rfl ap3 ?_; (with_reducible refine (stringslite_HasPrefix.calls a0 a1 true _ A3.out).mono ?_); rintro e w' ⟨rfl, ⟨nd, rfl⟩⟩; refine ⟨_, rfl, ?_⟩))
    go_ret
    exact ⟨ap2, ap7⟩
   ·
    rw [if_neg c6] at H
    exact absurd H (by simp)
  ·
   rw [if_neg c5] at H
   exact absurd H (by simp)
 ·
  replace c4 := Bool.eq_false_iff.mpr c4
  subst c4
  rw [if_neg (show ¬ (false = true) by decide)] at H
  obtain rfl := Option.some.inj H
  go_enter Tryz.func121, Tryz.ntmps121
  go_wp2_with (first | ((with_reducible refine gate_callee (f := 90) rfl ?_); refine goesL_ (some 7) rfl rfl Tryz.func90 (by kernel_rfl) rfl #[.string a0, .string a1] rfl ap3 ?_; (with_reducible refine (stringslite_HasPrefix.calls a0 a1 false _ A3.out).mono ?_); rintro e w' ⟨rfl, ⟨nd, rfl⟩⟩; refine ⟨_, rfl, ?_⟩))
  go_ret
  exact ⟨ap2, ap7⟩
def strings_TrimPrefix.f (a0 : ByteArray) (a1 : ByteArray) : Option (ByteArray) := (stringslite_TrimPrefix.f a0 a1).bind fun t156 => (some t156)
set_option maxHeartbeats 8000000 in
set_option maxRecDepth 100000 in
theorem strings_TrimPrefix.calls (a0 : ByteArray) (a1 : ByteArray) (r : ByteArray) (w : World) (h : strings_TrimPrefix.f a0 a1 = some r) :
  Calls Tryz.prog 95 #[.string a0, .string a1] w fun e w' => e = .returned (.string r) ∧ Drawn0 w w' := by
 have H : ((stringslite_TrimPrefix.f a0 a1).bind fun t156 => (some t156)) = some r := h
 clear h
 replace H := Option.bind_eq_some_iff.mp H
 obtain ⟨t156, A30, H⟩ := H
 replace H : (some t156) = some r := H
 have A3 := Aside0.mk A30
 clear A30
 obtain rfl := Option.some.inj H
 go_enter Tryz.func95, Tryz.ntmps95
 go_wp2_with (first | ((with_reducible refine gate_callee (f := 121) rfl ?_); refine goesL_ (some 7) rfl rfl Tryz.func121 (by kernel_rfl) rfl #[.string a0, .string a1] rfl ap3 ?_; (with_reducible refine (stringslite_TrimPrefix.calls a0 a1 t156 _ A3.out).mono ?_); rintro e w' ⟨rfl, ⟨nd, rfl⟩⟩; refine ⟨_, rfl, ?_⟩))
 go_ret
 exact ⟨ap2, ap7⟩
mutual
def attr_number.j0 : Nat → ByteArray → Bool → Option (Bool)
 | 0, _, _ => none
 | k + 1, x3, x22 => if x22 = true then (some false) else (attr_number.l0 k x3 (x3.size : Int) 0)
def attr_number.l0 : Nat → ByteArray → Int → Int → Option (Bool)
 | 0, _, _, _ => none
 | k + 1, x3, x24, x25 => if x25 < x24 then (if 0 ≤ x25 then (if x25 < (x3.size : Int) then (if (bt x3 x25) < 48 then (some false) else (if (bt x3 x25) > 57 then (some false) else (attr_number.l0 k x3 x24 (wrap64 (x25 + 1))))) else (none)) else (none)) else (some true)
end
def attr_number.f (k : Nat) (a0 : ByteArray) : Option (Bool) := (strings_TrimPrefix.f a0 (⟨#[45]⟩ : ByteArray)).bind fun t157 => (if t157.toList = ([] : List UInt8) then (attr_number.j0 k t157 true) else (if (t157.size : Int) > 18 then (attr_number.j0 k t157 true) else (if 0 < (t157.size : Int) then (if (bt t157 0) = 48 then (attr_number.j0 k t157 (a0.toList != ([48] : List UInt8))) else (attr_number.j0 k t157 false)) else (none))))
theorem attr_number.mono_l : ∀ k, (∀ y0 y1, LeO (attr_number.j0 k y0 y1) (attr_number.j0 (k + 1) y0 y1)) ∧ (∀ y0 y1 y2, LeO (attr_number.l0 k y0 y1 y2) (attr_number.l0 (k + 1) y0 y1 y2))
 | 0 => ⟨fun _ _ r h => by simp [attr_number.j0] at h, fun _ _ _ r h => by simp [attr_number.l0] at h⟩
 | k + 1 => by
  obtain ⟨ih0, ih1⟩ := attr_number.mono_l k
  refine ⟨?_, ?_⟩
  ·
   intro y0 y1
   unfold attr_number.j0
   repeat' first
   | (with_reducible exact ih0 _ _)
   | (with_reducible exact ih1 _ _ _)
   | (with_reducible exact LeO.refl _)
   | (with_reducible exact LeO.none _)
   | (with_reducible refine LeO.ite ?_ ?_)
   | (with_reducible refine LeO.bind ?_ (fun _ => ?_))
  ·
   intro y0 y1 y2
   unfold attr_number.l0
   repeat' first
   | (with_reducible exact ih0 _ _)
   | (with_reducible exact ih1 _ _ _)
   | (with_reducible exact LeO.refl _)
   | (with_reducible exact LeO.none _)
   | (with_reducible refine LeO.ite ?_ ?_)
   | (with_reducible refine LeO.bind ?_ (fun _ => ?_))
theorem attr_number.mono : ∀ a0 k, LeO (attr_number.f k a0) (attr_number.f (k + 1) a0) := by
 intro a0 k
 obtain ⟨ih0, ih1⟩ := attr_number.mono_l k
 unfold attr_number.f
 repeat' first
   | (with_reducible exact ih0 _ _)
   | (with_reducible exact ih1 _ _ _)
   | (with_reducible exact LeO.refl _)
   | (with_reducible exact LeO.none _)
   | (with_reducible refine LeO.ite ?_ ?_)
   | (with_reducible refine LeO.bind ?_ (fun _ => ?_))
set_option maxHeartbeats 8000000 in
set_option maxRecDepth 100000 in
theorem attr_number.calls (k : Nat) (a0 : ByteArray) (r : Bool) (w : World) (h : attr_number.f k a0 = some r) :
  Calls Tryz.prog 68 #[.string a0] w fun e w' => e = .returned (.bool r) ∧ Drawn0 w w' := by
 have H : ((strings_TrimPrefix.f a0 (⟨#[45]⟩ : ByteArray)).bind fun t157 => (if t157.toList = ([] : List UInt8) then (attr_number.j0 k t157 true) else (if (t157.size : Int) > 18 then (attr_number.j0 k t157 true) else (if 0 < (t157.size : Int) then (if (bt t157 0) = 48 then (attr_number.j0 k t157 (a0.toList != ([48] : List UInt8))) else (attr_number.j0 k t157 false)) else (none))))) = some r := h
 clear h
 replace H := Option.bind_eq_some_iff.mp H
 obtain ⟨t157, A20, H⟩ := H
 replace H : (if t157.toList = ([] : List UInt8) then (attr_number.j0 k t157 true) else (if (t157.size : Int) > 18 then (attr_number.j0 k t157 true) else (if 0 < (t157.size : Int) then (if (bt t157 0) = 48 then (attr_number.j0 k t157 (a0.toList != ([48] : List UInt8))) else (attr_number.j0 k t157 false)) else (none)))) = some r := H
 have A2 := Aside0.mk A20
 clear A20
 have HC3 := Aside0.mk H
 clear H
 go_enter Tryz.func68, Tryz.ntmps68
 go_upto_region 2 with (first | ((with_reducible refine gate_callee (f := 95) rfl ?_); refine goesL_ (some 6) rfl rfl Tryz.func95 (by kernel_rfl) rfl #[.string a0, .string (⟨#[45]⟩ : ByteArray)] rfl ap3 ?_; (with_reducible refine (strings_TrimPrefix.calls a0 (⟨#[45]⟩ : ByteArray) t157 _ A2.out).mono ?_); rintro e w' ⟨rfl, ⟨nd, rfl⟩⟩; refine ⟨_, rfl, ?_⟩))
 (try simp only [Act.put, List.setIfInBounds_toArray, List.set_cons_zero, List.set_cons_succ])
 go_cut [22] (fun v22 wc => ∃ (kq : Nat) (x22_2 : Bool), v22 = .bool x22_2 ∧ Aside0 (attr_number.j0 kq t157 x22_2 = some r) ∧ Aside0 (kq ≤ k) ∧ Drawn0 w wc)
 case first =>
  have H := HC3.out
  clear HC3
  by_cases c4 : t157.toList = ([] : List UInt8)
  ·
   rw [if_pos c4] at H
   have c4b0 : (t157.toList == ([] : List UInt8)) = true := beq_iff_eq.mpr c4
   have c4b1 : (t157.toList != ([] : List UInt8)) = false := bne_eq_false_iff_eq.mpr c4
   clear c4
   (first | rw [c4b0] | (simp only [i64_w, i32_w]; rw [c4b0]) | skip)
   have H' := Aside0.mk H
   clear H
   go_wp2
   first | go_meet | (simp only [c4b0] at *; go_meet)
   case rel => exact ⟨_, (true), ap2, H', ⟨by first | omega | exact Nat.le_refl _⟩, by repeat (first | exact Drawn0.refl _ | apply Drawn0.step)⟩
  ·
   rw [if_neg c4] at H
   have c4b0 : (t157.toList == ([] : List UInt8)) = false := beq_eq_false_iff_ne.mpr c4
   have c4b1 : (t157.toList != ([] : List UInt8)) = true := bne_iff_ne.mpr c4
   (first | rw [c4b0] | (simp only [i64_w, i32_w]; rw [c4b0]) | skip)
   by_cases c5 : (t157.size : Int) > 18
   ·
    rw [if_pos c5] at H
    have c5b0 := decide_eq_true c5
    have c5b1 : decide (18 < t157.size) = true := decide_eq_true (by omega)
    clear c5
    have H' := Aside0.mk H
    clear H
    go_wp2
    first | go_meet | (simp only [c4b0] at *; go_meet) | (simp only [c4b0] at *; go_meet)
    case rel => exact ⟨_, (true), ap2, H', ⟨by first | omega | exact Nat.le_refl _⟩, by repeat (first | exact Drawn0.refl _ | apply Drawn0.step)⟩
   ·
    rw [if_neg c5] at H
    have c5b0 := decide_eq_false c5
    have c5b1 : decide (18 < t157.size) = false := decide_eq_false (by omega)
    clear c5
    by_cases c6 : 0 < (t157.size : Int)
    ·
     rw [if_pos c6] at H
     have c6b0 := decide_eq_true c6
     have c6b1 : decide (0 < t157.size) = true := decide_eq_true (by omega)
     clear c6
     by_cases c8 : (bt t157 0) = 48
     ·
      rw [if_pos c8] at H
      have c8b0 : ((bt t157 0) == 48) = true := beq_iff_eq.mpr c8
      have c8b1 : ((bt t157 0) != 48) = false := bne_eq_false_iff_eq.mpr c8
      clear c8
      have H' := Aside0.mk H
      clear H
      have p7 : 0 ≤ (0 : Int) := (by omega)
      have q7 : 0 < t157.size := (by have : (0 : Int) < (t157.size : Int) := of_decide_eq_true ap0; omega)
      have hx7 : ∀ h : 0 < t157.size, ((t157[0]'h).toNat : Int) = bt t157 0 := bt_at t157 0
      clear p7
      have qi7 : (0 < (t157.size : Int)) = True := eq_true (of_decide_eq_true ap0)
      replace q7 := eq_true q7
      go_wp2
      first | go_meet | (simp only [c8b0] at *; go_meet) | (simp only [c4b0] at *; go_meet) | (simp only [c4b0] at *; go_meet)
      case rel => exact ⟨_, ((a0.toList != ([48] : List UInt8))), ap2, H', ⟨by first | omega | exact Nat.le_refl _⟩, by repeat (first | exact Drawn0.refl _ | apply Drawn0.step)⟩
     ·
      rw [if_neg c8] at H
      have c8b0 : ((bt t157 0) == 48) = false := beq_eq_false_iff_ne.mpr c8
      have c8b1 : ((bt t157 0) != 48) = true := bne_iff_ne.mpr c8
      have H' := Aside0.mk H
      clear H
      have p7 : 0 ≤ (0 : Int) := (by omega)
      have q7 : 0 < t157.size := (by have : (0 : Int) < (t157.size : Int) := of_decide_eq_true ap0; omega)
      have hx7 : ∀ h : 0 < t157.size, ((t157[0]'h).toNat : Int) = bt t157 0 := bt_at t157 0
      clear p7
      have qi7 : (0 < (t157.size : Int)) = True := eq_true (of_decide_eq_true ap0)
      replace q7 := eq_true q7
      go_wp2
      first | go_meet | (simp only [c8b0] at *; go_meet) | (simp only [c8b0] at *; go_meet) | (simp only [c4b0] at *; go_meet)
      case rel => exact ⟨_, (false), ap2, H', ⟨by first | omega | exact Nat.le_refl _⟩, by repeat (first | exact Drawn0.refl _ | apply Drawn0.step)⟩
    ·
     rw [if_neg c6] at H
     exact absurd H (by simp)
 case rest =>
  clear HC3
  try clear p2
  try clear c4
  try clear c4b0
  try clear c4b1
  try clear c5
  try clear c5b0
  try clear c5b1
  try clear c6
  try clear c6b0
  try clear c6b1
  try clear p7
  try clear q7
  try clear hx7
  try clear qi7
  try clear c8
  try clear c8b0
  try clear c8b1
  try clear p7
  try clear q7
  obtain ⟨kq, x22_2, rfl, HA, HJ2, ⟨mc2, rfl⟩⟩ := hcut
  cases kq with
  | zero => exact absurd HA.out (by simp [attr_number.j0])
  | succ kj2 =>
   have H := HA.out
   clear HA
   simp only [attr_number.j0] at H
   by_cases c9 : x22_2 = true
   ·
    subst c9
    rw [if_pos rfl] at H
    obtain rfl := Option.some.inj H
    go_wp2
    go_ret
    exact ⟨ap2, ap7⟩
   ·
    replace c9 := Bool.eq_false_iff.mpr c9
    subst c9
    rw [if_neg (show ¬ (false = true) by decide)] at H
    have H' := Aside0.mk H
    clear H
    go_wp2
    go_loopg [25] kj2 (fun kq v25 w' => ∃ (x25_2 : Int), v25 = .int .i64 x25_2 ∧ Aside0 (attr_number.l0 kq t157 (t157.size : Int) x25_2 = some r) ∧ Aside0 (kq ≤ kj2) ∧ Drawn0 w w')
    case atStart => exact ⟨(0), ap2, H', ⟨Nat.le_refl _⟩, by repeat (first | exact Drawn0.refl _ | apply Drawn0.step)⟩
    case round =>
     clear H'
     try clear c2
     try clear p2
     try clear c4
     try clear c4b0
     try clear c4b1
     try clear c5
     try clear c5b0
     try clear c5b1
     try clear c6
     try clear c6b0
     try clear c6b1
     try clear p7
     try clear q7
     try clear hx7
     try clear qi7
     try clear c8
     try clear c8b0
     try clear c8b1
     try clear c9
     try clear p2
     try clear p7
     try clear q7
     obtain ⟨x25_2, rfl, HA, HK2, ⟨m2, rfl⟩⟩ := hrel
     cases gk with
     | zero => exact absurd HA.out (by simp [attr_number.l0])
     | succ k2 =>
      have H := HA.out
      clear HA
      simp only [attr_number.l0] at H
      by_cases c10 : x25_2 < (t157.size : Int)
      ·
       rw [if_pos c10] at H
       have c10b0 := decide_eq_true c10
       clear c10
       by_cases c11 : 0 ≤ x25_2
       ·
        rw [if_pos c11] at H
        have c11b0 := decide_eq_true c11
        clear c11
        by_cases c12 : x25_2 < (t157.size : Int)
        ·
         rw [if_pos c12] at H
         have c12b0 := decide_eq_true c12
         clear c12
         by_cases c14 : (bt t157 x25_2) < 48
         ·
          rw [if_pos c14] at H
          have c14b0 := decide_eq_true c14
          clear c14
          obtain rfl := Option.some.inj H
          have p13 : 0 ≤ (x25_2 : Int) := of_decide_eq_true ap0
          have q13 : x25_2 < (t157.size : Int) := of_decide_eq_true ap0
          have hx13 := bt_at t157 x25_2
          replace p13 := eq_true p13
          replace q13 := eq_true q13
          go_wp2
          go_ret
          exact ⟨ap2, ap7⟩
         ·
          rw [if_neg c14] at H
          have c14b0 := decide_eq_false c14
          clear c14
          by_cases c16 : (bt t157 x25_2) > 57
          ·
           rw [if_pos c16] at H
           have c16b0 := decide_eq_true c16
           clear c16
           obtain rfl := Option.some.inj H
           have p13 : 0 ≤ (x25_2 : Int) := of_decide_eq_true ap0
           have q13 : x25_2 < (t157.size : Int) := of_decide_eq_true ap0
           have hx13 := bt_at t157 x25_2
           replace p13 := eq_true p13
           replace q13 := eq_true q13
           have p15 : 0 ≤ (x25_2 : Int) := of_decide_eq_true ap0
           have q15 : x25_2 < (t157.size : Int) := of_decide_eq_true ap0
           have hx15 := bt_at t157 x25_2
           replace p15 := eq_true p15
           replace q15 := eq_true q15
           go_wp2
           go_ret
           exact ⟨ap2, ap7⟩
          ·
           rw [if_neg c16] at H
           have c16b0 := decide_eq_false c16
           clear c16
           have H' := Aside0.mk H
           clear H
           have p13 : 0 ≤ (x25_2 : Int) := of_decide_eq_true ap0
           have q13 : x25_2 < (t157.size : Int) := of_decide_eq_true ap0
           have hx13 := bt_at t157 x25_2
           replace p13 := eq_true p13
           replace q13 := eq_true q13
           have p15 : 0 ≤ (x25_2 : Int) := of_decide_eq_true ap0
           have q15 : x25_2 < (t157.size : Int) := of_decide_eq_true ap0
           have hx15 := bt_at t157 x25_2
           replace p15 := eq_true p15
           replace q15 := eq_true q15
           go_wp2
           go_roundg k2
           case measure => have := HJ2.out; have := HK2.out; omega
           case rel => exact ⟨(wrap64 (x25_2 + 1)), ap2, H', ⟨by have := HJ2.out; have := HK2.out; omega⟩, by repeat (first | exact Drawn0.refl _ | apply Drawn0.step)⟩
        ·
         rw [if_neg c12] at H
         exact absurd H (by simp)
       ·
        rw [if_neg c11] at H
        exact absurd H (by simp)
      ·
       rw [if_neg c10] at H
       have c10b0 := decide_eq_false c10
       clear c10
       obtain rfl := Option.some.inj H
       go_wp2
       go_ret
       exact ⟨ap2, ap7⟩
def prep_Phone.f (k : Nat) (a0 : ByteArray) : Option (ByteArray × Int) := (prep_Ready.f k a0 true).bind fun bt151 => (if bt151.2 = 0 then ((strings_ReplaceAll.f bt151.1 (⟨#[32]⟩ : ByteArray) (⟨#[]⟩ : ByteArray)).bind fun t153 => ((strings_ReplaceAll.f t153 (⟨#[45]⟩ : ByteArray) (⟨#[]⟩ : ByteArray)).bind fun t154 => (some (t154, 0)))) else (some ((⟨#[]⟩ : ByteArray), bt151.2)))
theorem prep_Phone.mono : ∀ a0 k, LeO (prep_Phone.f k a0) (prep_Phone.f (k + 1) a0) := by
 intro a0 k
 unfold prep_Phone.f
 repeat' first
   | (with_reducible exact prep_Ready.mono _ _ _)
   | (with_reducible exact LeO.refl _)
   | (with_reducible exact LeO.none _)
   | (with_reducible refine LeO.ite ?_ ?_)
   | (with_reducible refine LeO.bind ?_ (fun _ => ?_))
set_option maxHeartbeats 8000000 in
set_option maxRecDepth 100000 in
theorem prep_Phone.calls (k : Nat) (a0 : ByteArray) (r1 : ByteArray) (r2 : Int) (w : World) (hG : Gw w) (h : prep_Phone.f k a0 = some (r1, r2)) :
  Calls Tryz.prog 56 #[.string a0] w fun e w' => e = .returned (.tuple #[.string r1, .int .i64 r2]) ∧ Below w.heap.size w w' := by
 have HB := Aside0.mk (Below.refl w.heap.size w)
 have HG := Aside0.mk hG
 clear hG
 have H : ((prep_Ready.f k a0 true).bind fun bt151 => (if bt151.2 = 0 then ((strings_ReplaceAll.f bt151.1 (⟨#[32]⟩ : ByteArray) (⟨#[]⟩ : ByteArray)).bind fun t153 => ((strings_ReplaceAll.f t153 (⟨#[45]⟩ : ByteArray) (⟨#[]⟩ : ByteArray)).bind fun t154 => (some (t154, 0)))) else (some ((⟨#[]⟩ : ByteArray), bt151.2)))) = some (r1, r2) := h
 clear h
 replace H := Option.bind_eq_some_iff.mp H
 obtain ⟨⟨t151, t152⟩, A20, H⟩ := H
 replace H : (if t152 = 0 then ((strings_ReplaceAll.f t151 (⟨#[32]⟩ : ByteArray) (⟨#[]⟩ : ByteArray)).bind fun t153 => ((strings_ReplaceAll.f t153 (⟨#[45]⟩ : ByteArray) (⟨#[]⟩ : ByteArray)).bind fun t154 => (some (t154, 0)))) else (some ((⟨#[]⟩ : ByteArray), t152))) = some (r1, r2) := H
 have A2 := Aside0.mk A20
 clear A20
 by_cases c3 : t152 = 0
 ·
  rw [if_pos c3] at H
  have c3b0 : (t152 == 0) = true := beq_iff_eq.mpr c3
  have c3b1 : (t152 != 0) = false := bne_eq_false_iff_eq.mpr c3
  clear c3
  replace H := Option.bind_eq_some_iff.mp H
  obtain ⟨t153, A40, H⟩ := H
  replace H : ((strings_ReplaceAll.f t153 (⟨#[45]⟩ : ByteArray) (⟨#[]⟩ : ByteArray)).bind fun t154 => (some (t154, 0))) = some (r1, r2) := H
  have A4 := Aside0.mk A40
  clear A40
  replace H := Option.bind_eq_some_iff.mp H
  obtain ⟨t154, A50, H⟩ := H
  replace H : (some (t154, 0)) = some (r1, r2) := H
  have A5 := Aside0.mk A50
  clear A50
  simp only [Option.some.injEq, Prod.mk.injEq] at H
  obtain ⟨rfl, rfl⟩ := H
  go_enter Tryz.func56, Tryz.ntmps56
  go_wp2_with (first | ((with_reducible refine gate_callee (f := 67) rfl ?_); refine goesL_ (some 8) rfl rfl Tryz.func67 (by kernel_rfl) rfl #[.string a0, .bool true] rfl ap3 ?_; (with_reducible refine (prep_Ready.calls k a0 true t151 t152 _ ?side1 A2.out).mono ?_); (case side1 => exact ap6); rintro e w6 ⟨rfl, hb⟩; refine ⟨_, rfl, ?_⟩; have n0_ := Aside0.mk (below_step ap1 hb); clear HB; have HB := n0_; clear n0_; (try clear hb); (try clear hb2); (try clear hk); (try clear hi)) | ((with_reducible refine gate_callee (f := 83) rfl ?_); refine goesL_ (some 15) rfl rfl Tryz.func83 (by kernel_rfl) rfl #[.string t151, .string (⟨#[32]⟩ : ByteArray), .string (⟨#[]⟩ : ByteArray)] rfl ap3 ?_; (with_reducible refine (strings_ReplaceAll.calls t151 (⟨#[32]⟩ : ByteArray) (⟨#[]⟩ : ByteArray) t153 _ ?side1 A4.out).mono ?_); (case side1 => exact ap6); rintro e w7 ⟨rfl, hb⟩; refine ⟨_, rfl, ?_⟩; have n0_ := Aside0.mk (below_step ap1 hb); clear HB; have HB := n0_; clear n0_; (try clear hb); (try clear hb2); (try clear hk); (try clear hi)) | ((with_reducible refine gate_callee (f := 83) rfl ?_); refine goesL_ (some 16) rfl rfl Tryz.func83 (by kernel_rfl) rfl #[.string t153, .string (⟨#[45]⟩ : ByteArray), .string (⟨#[]⟩ : ByteArray)] rfl ap3 ?_; (with_reducible refine (strings_ReplaceAll.calls t153 (⟨#[45]⟩ : ByteArray) (⟨#[]⟩ : ByteArray) t154 _ ?side1 A5.out).mono ?_); (case side1 => exact ap6); rintro e w8 ⟨rfl, hb⟩; refine ⟨_, rfl, ?_⟩; have n0_ := Aside0.mk (below_step ap1 hb); clear HB; have HB := n0_; clear n0_; (try clear hb); (try clear hb2); (try clear hk); (try clear hi)))
  go_ret2
  exact ⟨by first | rfl | (simp [errW_none, errW_some, bne_nil8, beq_nil8]; done) | (simp [errW_none, errW_some] <;> rfl) | (simp [*, errW_none, errW_some] <;> rfl), by repeat (first | (with_reducible first | exact HB.out | apply below_alloc | apply pw_below_drewN | apply below_drew1) | exact HB.out)⟩
 ·
  rw [if_neg c3] at H
  have c3b0 : (t152 == 0) = false := beq_eq_false_iff_ne.mpr c3
  have c3b1 : (t152 != 0) = true := bne_iff_ne.mpr c3
  simp only [Option.some.injEq, Prod.mk.injEq] at H
  obtain ⟨rfl, rfl⟩ := H
  go_enter Tryz.func56, Tryz.ntmps56
  go_wp2_with (first | ((with_reducible refine gate_callee (f := 67) rfl ?_); refine goesL_ (some 8) rfl rfl Tryz.func67 (by kernel_rfl) rfl #[.string a0, .bool true] rfl ap3 ?_; (with_reducible refine (prep_Ready.calls k a0 true t151 t152 _ ?side1 A2.out).mono ?_); (case side1 => exact ap6); rintro e w9 ⟨rfl, hb⟩; refine ⟨_, rfl, ?_⟩; have n0_ := Aside0.mk (below_step ap1 hb); clear HB; have HB := n0_; clear n0_; (try clear hb); (try clear hb2); (try clear hk); (try clear hi)))
  go_ret2
  exact ⟨by first | rfl | (simp [errW_none, errW_some, bne_nil8, beq_nil8]; done) | (simp [errW_none, errW_some] <;> rfl) | (simp [*, errW_none, errW_some] <;> rfl), by repeat (first | (with_reducible first | exact HB.out | apply below_alloc | apply pw_below_drewN | apply below_drew1) | exact HB.out)⟩
def attr_form.j0 : Nat → ByteArray → Int → Bool → ByteArray → Int → Bool → Option (ByteArray × Bool)
 | 0, _, _, _, _, _, _ => none
 | k + 1, x1, x15, x16, x353000, x353001, x353002 => if x16 = true then ((prep_Ready.f k x1 (x353001 == 1)).bind fun bt353 => (if bt353.2 = 0 then (some (bt353.1, (bt353.1.toList != ([] : List UInt8)))) else (some (bt353.1, false)))) else (if x15 = 7 then ((prep_Phone.f k x1).bind fun bt355 => (if bt355.2 = 0 then (some (bt355.1, (bt355.1.toList != ([] : List UInt8)))) else (some (bt355.1, false)))) else (if x15 = 4 then ((attr_number.f k x1).bind fun t357 => (some (x1, t357))) else (if x15 = 5 then (if x1.toList = ([84, 82, 85, 69] : List UInt8) then (some (x1, true)) else (some (x1, (x1.toList == ([70, 65, 76, 83, 69] : List UInt8))))) else (if x15 = 6 then ((dn_Parse.f k x1).bind fun bt358 => ((dn_Keys.f k bt358.1).bind fun bt362 => ((strings_Join.f bt362.1 (⟨#[]⟩ : ByteArray)).bind fun t366 => (if bt358.2 = 0 then (some (t366, (bt362.2 == 0))) else (some (t366, false)))))) else (some (x1, true))))))
def attr_form.f (k : Nat) (a0_0 : ByteArray) (a0_1 : Int) (a0_2 : Bool) (a1 : ByteArray) : Option (ByteArray × Bool) := if a0_1 = 1 then (attr_form.j0 k a1 a0_1 (a0_1 == 1) a0_0 a0_1 a0_2) else (attr_form.j0 k a1 a0_1 (a0_1 == 2) a0_0 a0_1 a0_2)
theorem attr_form.mono_l : ∀ k, (∀ y0 y1 y2 y3 y4 y5, LeO (attr_form.j0 k y0 y1 y2 y3 y4 y5) (attr_form.j0 (k + 1) y0 y1 y2 y3 y4 y5))
 | 0 => fun _ _ _ _ _ _ r h => by simp [attr_form.j0] at h
 | k + 1 => by
  have ih0 := attr_form.mono_l k
  ·
   intro y0 y1 y2 y3 y4 y5
   unfold attr_form.j0
   repeat' first
   | (with_reducible exact ih0 _ _ _ _ _ _)
   | (with_reducible exact attr_number.mono _ _)
   | (with_reducible exact dn_Keys.mono _ _)
   | (with_reducible exact dn_Parse.mono _ _)
   | (with_reducible exact prep_Phone.mono _ _)
   | (with_reducible exact prep_Ready.mono _ _ _)
   | (with_reducible exact LeO.refl _)
   | (with_reducible exact LeO.none _)
   | (with_reducible refine LeO.ite ?_ ?_)
   | (with_reducible refine LeO.bind ?_ (fun _ => ?_))
theorem attr_form.mono : ∀ a0 a1 a2 a3 k, LeO (attr_form.f k a0 a1 a2 a3) (attr_form.f (k + 1) a0 a1 a2 a3) := by
 intro a0 a1 a2 a3 k
 have ih0 := attr_form.mono_l k
 unfold attr_form.f
 repeat' first
   | (with_reducible exact ih0 _ _ _ _ _ _)
   | (with_reducible exact attr_number.mono _ _)
   | (with_reducible exact dn_Keys.mono _ _)
   | (with_reducible exact dn_Parse.mono _ _)
   | (with_reducible exact prep_Phone.mono _ _)
   | (with_reducible exact prep_Ready.mono _ _ _)
   | (with_reducible exact LeO.refl _)
   | (with_reducible exact LeO.none _)
   | (with_reducible refine LeO.ite ?_ ?_)
   | (with_reducible refine LeO.bind ?_ (fun _ => ?_))
set_option maxHeartbeats 8000000 in
set_option maxRecDepth 100000 in
theorem attr_form.calls (k : Nat) (a0_0 : ByteArray) (a0_1 : Int) (a0_2 : Bool) (a1 : ByteArray) (r1 : ByteArray) (r2 : Bool) (w : World) (hG : Gw w) (h : attr_form.f k a0_0 a0_1 a0_2 a1 = some (r1, r2)) :
  Calls Tryz.prog 43 #[.agg #[.string a0_0, .int .i64 a0_1, .bool a0_2], .string a1] w fun e w' => e = .returned (.tuple #[.string r1, .bool r2]) ∧ Below w.heap.size w w' := by
 have hu23 := Tryz.underlying23
 have HB := Aside0.mk (Below.refl w.heap.size w)
 have HG := Aside0.mk hG
 clear hG
 have H : (if a0_1 = 1 then (attr_form.j0 k a1 a0_1 (a0_1 == 1) a0_0 a0_1 a0_2) else (attr_form.j0 k a1 a0_1 (a0_1 == 2) a0_0 a0_1 a0_2)) = some (r1, r2) := h
 clear h
 have HC3 := Aside0.mk H
 clear H
 go_enter Tryz.func43, Tryz.ntmps43
 go_upto_if 16 with (first | ((with_reducible refine gate_dst (N := 2) rfl ?_); refine box_event ?hg (N := 2) ?hd (cs := #[.string a0_0, .int .i64 a0_1, .bool a0_2]) (t := 23) ?hr ?_; (case hd => rfl); (case hg => rfl); (case hr => first | (go_simp; done) | (go_simp; rfl)); intro gb352 hg w4 hbox hb; have n0_ := Aside0.mk (below_step ap1 hb); have n1_ := Aside0.mk (hbox); have n2_ := Aside0.mk ((by rw [hg]; exact (below_size ap1) : w.heap.size ≤ gb352)); have n3_ := Aside0.mk ((by rw [hg]; exact (below_size ap1) : w.heap.size ≤ gb352)); clear HB; have HB := n0_; have BK352 := n1_; have GW352 := n2_; have GE352 := n3_; clear n0_ n1_ n2_ n3_; clear hb hbox hg; have hcz5_0 : w4.cell? ⟨gb352, 0, none⟩ = some (.string a0_0) := (blk_cell BK352.out 0).trans rfl; have hcz5_1 : w4.cell? ⟨gb352, 1, none⟩ = some (.int .i64 a0_1) := (blk_cell BK352.out 1).trans rfl; have hcz5_2 : w4.cell? ⟨gb352, 2, none⟩ = some (.bool a0_2) := (blk_cell BK352.out 2).trans rfl; have hfz5_0 := blk_frozen BK352.out 0; have hfz5_1 := blk_frozen BK352.out 1; have hfz5_2 := blk_frozen BK352.out 2))
 (try simp only [Act.put, List.setIfInBounds_toArray, List.set_cons_zero, List.set_cons_succ])
 go_cut [16] (fun v16 wc => ∃ (kq : Nat) (x16_2 : Bool), v16 = .bool x16_2 ∧ Aside0 (attr_form.j0 kq a1 a0_1 x16_2 a0_0 a0_1 a0_2 = some (r1, r2)) ∧ Aside0 (kq ≤ k) ∧ Aside0 (wc.heap[gb352]? = some (.cells #[.string a0_0, .int .i64 a0_1, .bool a0_2] 23 (0, 0))) ∧ Aside0 (Below w.heap.size w wc))
 case first =>
  have H := HC3.out
  clear HC3
  by_cases c6 : a0_1 = 1
  ·
   rw [if_pos c6] at H
   have c6b0 : (a0_1 == 1) = true := beq_iff_eq.mpr c6
   have c6b1 : (a0_1 != 1) = false := bne_eq_false_iff_eq.mpr c6
   clear c6
   (first | rw [c6b0] | (simp only [i64_w, i32_w]; rw [c6b0]) | skip)
   have H' := Aside0.mk H
   clear H
   go_wp2
   first | go_meet | (simp only [c6b0] at *; go_meet)
   case rel => exact ⟨_, ((a0_1 == 1)), ap2, H', ⟨by first | omega | exact Nat.le_refl _⟩, ⟨by (with_reducible repeat (first | refine blk_drewN ?_ _ | refine blk_drew ?_ | refine blk_alloc ?_ _)); exact BK352.out⟩, ⟨by repeat (first | (with_reducible first | exact HB.out | apply below_alloc | apply pw_below_drewN | apply below_drew1 | refine below_set ?_ GE352.out) | exact HB.out)⟩⟩
  ·
   rw [if_neg c6] at H
   have c6b0 : (a0_1 == 1) = false := beq_eq_false_iff_ne.mpr c6
   have c6b1 : (a0_1 != 1) = true := bne_iff_ne.mpr c6
   (first | rw [c6b0] | (simp only [i64_w, i32_w]; rw [c6b0]) | skip)
   have H' := Aside0.mk H
   clear H
   go_wp2
   first | go_meet | (simp only [c6b0] at *; go_meet) | (simp only [c6b0] at *; go_meet)
   case rel => exact ⟨_, ((a0_1 == 2)), ap2, H', ⟨by first | omega | exact Nat.le_refl _⟩, ⟨by (with_reducible repeat (first | refine blk_drewN ?_ _ | refine blk_drew ?_ | refine blk_alloc ?_ _)); exact BK352.out⟩, ⟨by repeat (first | (with_reducible first | exact HB.out | apply below_alloc | apply pw_below_drewN | apply below_drew1 | refine below_set ?_ GE352.out) | exact HB.out)⟩⟩
 case rest =>
  clear HC3
  try clear p2
  try clear c4
  try clear c6
  try clear c6b0
  try clear c6b1
  try clear hcz5_0
  try clear hcz5_1
  try clear hcz5_2
  try clear hfz5_0
  try clear hfz5_1
  try clear hfz5_2
  obtain ⟨kq, x16_2, rfl, HA, HJ2, BK352, HB⟩ := hcut
  cases kq with
  | zero => exact absurd HA.out (by simp [attr_form.j0])
  | succ kj2 =>
   have H := HA.out
   clear HA
   simp only [attr_form.j0] at H
   by_cases c7 : x16_2 = true
   ·
    subst c7
    rw [if_pos rfl] at H
    replace H := Option.bind_eq_some_iff.mp H
    obtain ⟨⟨t353, t354⟩, A80, H⟩ := H
    replace H : (if t354 = 0 then (some (t353, (t353.toList != ([] : List UInt8)))) else (some (t353, false))) = some (r1, r2) := H
    have A8 := Aside0.mk A80
    clear A80
    by_cases c9 : t354 = 0
    ·
     rw [if_pos c9] at H
     have c9b0 : (t354 == 0) = true := beq_iff_eq.mpr c9
     have c9b1 : (t354 != 0) = false := bne_eq_false_iff_eq.mpr c9
     clear c9
     simp only [Option.some.injEq, Prod.mk.injEq] at H
     obtain ⟨rfl, rfl⟩ := H
     have hcz10_0 : wc.cell? ⟨gb352, 0, none⟩ = some (.string a0_0) := (blk_cell BK352.out 0).trans rfl
     have hcz10_1 : wc.cell? ⟨gb352, 1, none⟩ = some (.int .i64 a0_1) := (blk_cell BK352.out 1).trans rfl
     have hcz10_2 : wc.cell? ⟨gb352, 2, none⟩ = some (.bool a0_2) := (blk_cell BK352.out 2).trans rfl
     have hfz10_0 := blk_frozen BK352.out 0
     have hfz10_1 := blk_frozen BK352.out 1
     have hfz10_2 := blk_frozen BK352.out 2
     go_wp2_with (first | ((with_reducible refine gate_callee (f := 67) rfl ?_); refine goesL_ (some 24) rfl rfl Tryz.func67 (by kernel_rfl) rfl #[.string a1, .bool (a0_1 == 1)] rfl ap3 ?_; (with_reducible refine (prep_Ready.calls kj2 a1 (a0_1 == 1) t353 t354 _ ?side1 A8.out).mono ?_); (case side1 => first | exact HG.out | (refine Gw.below HG.out ?_; repeat (first | (with_reducible first | exact HB.out | apply below_alloc | apply pw_below_drewN | apply below_drew1 | refine below_set ?_ GE352.out) | exact HB.out))); rintro e w11 ⟨rfl, hb⟩; refine ⟨_, rfl, ?_⟩; have n0_ := Aside0.mk (blk_below (g := gb352) (o := .cells #[.string a0_0, .int .i64 a0_1, .bool a0_2] 23 (0, 0)) (apB BK352.out) hb); have n1_ := Aside0.mk (below_step (apG GE352.out) hb); clear BK352; clear HB; have BK352 := n0_; have HB := n1_; clear n0_ n1_; (try clear hb); (try clear hb2); (try clear hk); (try clear hi)))
     go_ret2
     exact ⟨by first | rfl | (simp [errW_none, errW_some, bne_nil8, beq_nil8]; done) | (simp [errW_none, errW_some] <;> rfl) | (simp [*, errW_none, errW_some] <;> rfl), by repeat (first | (with_reducible first | exact HB.out | apply below_alloc | apply pw_below_drewN | apply below_drew1 | refine below_set ?_ GE352.out) | exact HB.out)⟩
    ·
     rw [if_neg c9] at H
     have c9b0 : (t354 == 0) = false := beq_eq_false_iff_ne.mpr c9
     have c9b1 : (t354 != 0) = true := bne_iff_ne.mpr c9
     simp only [Option.some.injEq, Prod.mk.injEq] at H
     obtain ⟨rfl, rfl⟩ := H
     have hcz12_0 : wc.cell? ⟨gb352, 0, none⟩ = some (.string a0_0) := (blk_cell BK352.out 0).trans rfl
     have hcz12_1 : wc.cell? ⟨gb352, 1, none⟩ = some (.int .i64 a0_1) := (blk_cell BK352.out 1).trans rfl
     have hcz12_2 : wc.cell? ⟨gb352, 2, none⟩ = some (.bool a0_2) := (blk_cell BK352.out 2).trans rfl
     have hfz12_0 := blk_frozen BK352.out 0
     have hfz12_1 := blk_frozen BK352.out 1
     have hfz12_2 := blk_frozen BK352.out 2
     go_wp2_with (first | ((with_reducible refine gate_callee (f := 67) rfl ?_); refine goesL_ (some 24) rfl rfl Tryz.func67 (by kernel_rfl) rfl #[.string a1, .bool (a0_1 == 1)] rfl ap3 ?_; (with_reducible refine (prep_Ready.calls kj2 a1 (a0_1 == 1) t353 t354 _ ?side1 A8.out).mono ?_); (case side1 => first | exact HG.out | (refine Gw.below HG.out ?_; repeat (first | (with_reducible first | exact HB.out | apply below_alloc | apply pw_below_drewN | apply below_drew1 | refine below_set ?_ GE352.out) | exact HB.out))); rintro e w13 ⟨rfl, hb⟩; refine ⟨_, rfl, ?_⟩; have n0_ := Aside0.mk (blk_below (g := gb352) (o := .cells #[.string a0_0, .int .i64 a0_1, .bool a0_2] 23 (0, 0)) (apB BK352.out) hb); have n1_ := Aside0.mk (below_step (apG GE352.out) hb); clear BK352; clear HB; have BK352 := n0_; have HB := n1_; clear n0_ n1_; (try clear hb); (try clear hb2); (try clear hk); (try clear hi)))
     go_ret2
     exact ⟨by first | rfl | (simp [errW_none, errW_some, bne_nil8, beq_nil8]; done) | (simp [errW_none, errW_some] <;> rfl) | (simp [*, errW_none, errW_some] <;> rfl), by repeat (first | (with_reducible first | exact HB.out | apply below_alloc | apply pw_below_drewN | apply below_drew1 | refine below_set ?_ GE352.out) | exact HB.out)⟩
   ·
    replace c7 := Bool.eq_false_iff.mpr c7
    subst c7
    rw [if_neg (show ¬ (false = true) by decide)] at H
    by_cases c14 : a0_1 = 7
    ·
     rw [if_pos c14] at H
     have c14b0 : (a0_1 == 7) = true := beq_iff_eq.mpr c14
     have c14b1 : (a0_1 != 7) = false := bne_eq_false_iff_eq.mpr c14
     clear c14
     replace H := Option.bind_eq_some_iff.mp H
     obtain ⟨⟨t355, t356⟩, A150, H⟩ := H
     replace H : (if t356 = 0 then (some (t355, (t355.toList != ([] : List UInt8)))) else (some (t355, false))) = some (r1, r2) := H
     have A15 := Aside0.mk A150
     clear A150
     by_cases c16 : t356 = 0
     ·
      rw [if_pos c16] at H
      have c16b0 : (t356 == 0) = true := beq_iff_eq.mpr c16
      have c16b1 : (t356 != 0) = false := bne_eq_false_iff_eq.mpr c16
      clear c16
      simp only [Option.some.injEq, Prod.mk.injEq] at H
      obtain ⟨rfl, rfl⟩ := H
      go_wp2_with (first | ((with_reducible refine gate_callee (f := 56) rfl ?_); refine goesL_ (some 38) rfl rfl Tryz.func56 (by kernel_rfl) rfl #[.string a1] rfl ap3 ?_; (with_reducible refine (prep_Phone.calls kj2 a1 t355 t356 _ ?side1 A15.out).mono ?_); (case side1 => first | exact HG.out | (refine Gw.below HG.out ?_; repeat (first | (with_reducible first | exact HB.out | apply below_alloc | apply pw_below_drewN | apply below_drew1 | refine below_set ?_ GE352.out) | exact HB.out))); rintro e w17 ⟨rfl, hb⟩; refine ⟨_, rfl, ?_⟩; have n0_ := Aside0.mk (blk_below (g := gb352) (o := .cells #[.string a0_0, .int .i64 a0_1, .bool a0_2] 23 (0, 0)) (apB BK352.out) hb); have n1_ := Aside0.mk (below_step (apG GE352.out) hb); clear BK352; clear HB; have BK352 := n0_; have HB := n1_; clear n0_ n1_; (try clear hb); (try clear hb2); (try clear hk); (try clear hi)))
      go_ret2
      exact ⟨by first | rfl | (simp [errW_none, errW_some, bne_nil8, beq_nil8]; done) | (simp [errW_none, errW_some] <;> rfl) | (simp [*, errW_none, errW_some] <;> rfl), by repeat (first | (with_reducible first | exact HB.out | apply below_alloc | apply pw_below_drewN | apply below_drew1 | refine below_set ?_ GE352.out) | exact HB.out)⟩
     ·
      rw [if_neg c16] at H
      have c16b0 : (t356 == 0) = false := beq_eq_false_iff_ne.mpr c16
      have c16b1 : (t356 != 0) = true := bne_iff_ne.mpr c16
      simp only [Option.some.injEq, Prod.mk.injEq] at H
      obtain ⟨rfl, rfl⟩ := H
      go_wp2_with (first | ((with_reducible refine gate_callee (f := 56) rfl ?_); refine goesL_ (some 38) rfl rfl Tryz.func56 (by kernel_rfl) rfl #[.string a1] rfl ap3 ?_; (with_reducible refine (prep_Phone.calls kj2 a1 t355 t356 _ ?side1 A15.out).mono ?_); (case side1 => first | exact HG.out | (refine Gw.below HG.out ?_; repeat (first | (with_reducible first | exact HB.out | apply below_alloc | apply pw_below_drewN | apply below_drew1 | refine below_set ?_ GE352.out) | exact HB.out))); rintro e w18 ⟨rfl, hb⟩; refine ⟨_, rfl, ?_⟩; have n0_ := Aside0.mk (blk_below (g := gb352) (o := .cells #[.string a0_0, .int .i64 a0_1, .bool a0_2] 23 (0, 0)) (apB BK352.out) hb); have n1_ := Aside0.mk (below_step (apG GE352.out) hb); clear BK352; clear HB; have BK352 := n0_; have HB := n1_; clear n0_ n1_; (try clear hb); (try clear hb2); (try clear hk); (try clear hi)))
      go_ret2
      exact ⟨by first | rfl | (simp [errW_none, errW_some, bne_nil8, beq_nil8]; done) | (simp [errW_none, errW_some] <;> rfl) | (simp [*, errW_none, errW_some] <;> rfl), by repeat (first | (with_reducible first | exact HB.out | apply below_alloc | apply pw_below_drewN | apply below_drew1 | refine below_set ?_ GE352.out) | exact HB.out)⟩
    ·
     rw [if_neg c14] at H
     have c14b0 : (a0_1 == 7) = false := beq_eq_false_iff_ne.mpr c14
     have c14b1 : (a0_1 != 7) = true := bne_iff_ne.mpr c14
     by_cases c19 : a0_1 = 4
     ·
      rw [if_pos c19] at H
      have c19b0 : (a0_1 == 4) = true := beq_iff_eq.mpr c19
      have c19b1 : (a0_1 != 4) = false := bne_eq_false_iff_eq.mpr c19
      clear c19
      replace H := Option.bind_eq_some_iff.mp H
      obtain ⟨t357, A200, H⟩ := H
      replace H : (some (a1, t357)) = some (r1, r2) := H
      have A20 := Aside0.mk A200
      clear A200
      simp only [Option.some.injEq, Prod.mk.injEq] at H
      obtain ⟨rfl, rfl⟩ := H
      go_wp2_with (first | ((with_reducible refine gate_callee (f := 68) rfl ?_); refine goesL_ (some 52) rfl rfl Tryz.func68 (by kernel_rfl) rfl #[.string a1] rfl ap3 ?_; (with_reducible refine (attr_number.calls kj2 a1 t357 _ A20.out).mono ?_); rintro e w' ⟨rfl, ⟨nd, rfl⟩⟩; refine ⟨_, rfl, ?_⟩))
      go_ret2
      exact ⟨by first | rfl | (simp [errW_none, errW_some, bne_nil8, beq_nil8]; done) | (simp [errW_none, errW_some] <;> rfl) | (simp [*, errW_none, errW_some] <;> rfl), by repeat (first | (with_reducible first | exact HB.out | apply below_alloc | apply pw_below_drewN | apply below_drew1 | refine below_set ?_ GE352.out) | exact HB.out)⟩
     ·
      rw [if_neg c19] at H
      have c19b0 : (a0_1 == 4) = false := beq_eq_false_iff_ne.mpr c19
      have c19b1 : (a0_1 != 4) = true := bne_iff_ne.mpr c19
      by_cases c21 : a0_1 = 5
      ·
       rw [if_pos c21] at H
       have c21b0 : (a0_1 == 5) = true := beq_iff_eq.mpr c21
       have c21b1 : (a0_1 != 5) = false := bne_eq_false_iff_eq.mpr c21
       clear c21
       by_cases c22 : a1.toList = ([84, 82, 85, 69] : List UInt8)
       ·
        rw [if_pos c22] at H
        have c22b0 : (a1.toList == ([84, 82, 85, 69] : List UInt8)) = true := beq_iff_eq.mpr c22
        have c22b1 : (a1.toList != ([84, 82, 85, 69] : List UInt8)) = false := bne_eq_false_iff_eq.mpr c22
        clear c22
        simp only [Option.some.injEq, Prod.mk.injEq] at H
        obtain ⟨rfl, rfl⟩ := H
        go_wp2
        go_ret2
        exact ⟨by first | rfl | (simp [errW_none, errW_some, bne_nil8, beq_nil8]; done) | (simp [errW_none, errW_some] <;> rfl) | (simp [*, errW_none, errW_some] <;> rfl), by repeat (first | (with_reducible first | exact HB.out | apply below_alloc | apply pw_below_drewN | apply below_drew1 | refine below_set ?_ GE352.out) | exact HB.out)⟩
       ·
        rw [if_neg c22] at H
        have c22b0 : (a1.toList == ([84, 82, 85, 69] : List UInt8)) = false := beq_eq_false_iff_ne.mpr c22
        have c22b1 : (a1.toList != ([84, 82, 85, 69] : List UInt8)) = true := bne_iff_ne.mpr c22
        simp only [Option.some.injEq, Prod.mk.injEq] at H
        obtain ⟨rfl, rfl⟩ := H
        go_wp2
        go_ret2
        exact ⟨by first | rfl | (simp [errW_none, errW_some, bne_nil8, beq_nil8]; done) | (simp [errW_none, errW_some] <;> rfl) | (simp [*, errW_none, errW_some] <;> rfl), by repeat (first | (with_reducible first | exact HB.out | apply below_alloc | apply pw_below_drewN | apply below_drew1 | refine below_set ?_ GE352.out) | exact HB.out)⟩
      ·
       rw [if_neg c21] at H
       have c21b0 : (a0_1 == 5) = false := beq_eq_false_iff_ne.mpr c21
       have c21b1 : (a0_1 != 5) = true := bne_iff_ne.mpr c21
       by_cases c23 : a0_1 = 6
       ·
        rw [if_pos c23] at H
        have c23b0 : (a0_1 == 6) = true := beq_iff_eq.mpr c23
        have c23b1 : (a0_1 != 6) = false := bne_eq_false_iff_eq.mpr c23
        clear c23
        replace H := Option.bind_eq_some_iff.mp H
        obtain ⟨⟨t358, t359⟩, A240, H⟩ := H
        replace H : ((dn_Keys.f kj2 t358).bind fun bt362 => ((strings_Join.f bt362.1 (⟨#[]⟩ : ByteArray)).bind fun t366 => (if t359 = 0 then (some (t366, (bt362.2 == 0))) else (some (t366, false))))) = some (r1, r2) := H
        have A24 := Aside0.mk A240
        clear A240
        replace H := Option.bind_eq_some_iff.mp H
        obtain ⟨⟨t362, t363⟩, A250, H⟩ := H
        replace H : ((strings_Join.f t362 (⟨#[]⟩ : ByteArray)).bind fun t366 => (if t359 = 0 then (some (t366, (t363 == 0))) else (some (t366, false)))) = some (r1, r2) := H
        have A25 := Aside0.mk A250
        clear A250
        replace H := Option.bind_eq_some_iff.mp H
        obtain ⟨t366, A260, H⟩ := H
        replace H : (if t359 = 0 then (some (t366, (t363 == 0))) else (some (t366, false))) = some (r1, r2) := H
        have A26 := Aside0.mk A260
        clear A260
        by_cases c27 : t359 = 0
        ·
         rw [if_pos c27] at H
         have c27b0 : (t359 == 0) = true := beq_iff_eq.mpr c27
         have c27b1 : (t359 != 0) = false := bne_eq_false_iff_eq.mpr c27
         clear c27
         simp only [Option.some.injEq, Prod.mk.injEq] at H
         obtain ⟨rfl, rfl⟩ := H
         go_wp2_with (first | ((with_reducible refine gate_callee (f := 69) rfl ?_); refine goesL_ (some 66) rfl rfl Tryz.func69 (by kernel_rfl) rfl #[.string a1] rfl ap3 ?_; (with_reducible refine (dn_Parse.calls kj2 a1 t358 t359 _ ?side1 A24.out).mono ?_); (case side1 => first | exact HG.out | (refine Gw.below HG.out ?_; repeat (first | (with_reducible first | exact HB.out | apply below_alloc | apply pw_below_drewN | apply below_drew1 | refine below_set ?_ GE352.out) | exact HB.out))); rintro e w28 ⟨v360, rfl, ho0, hb⟩; refine ⟨_, rfl, ?_⟩; have n0_ := Aside0.mk (Kd.S_lower ho0 (below_size (apG GE352.out))); have n1_ := Aside0.mk (blk_below (g := gb352) (o := .cells #[.string a0_0, .int .i64 a0_1, .bool a0_2] 23 (0, 0)) (apB BK352.out) hb); have n2_ := Aside0.mk (below_step (apG GE352.out) hb); clear BK352; clear HB; have HO361 := n0_; have BK352 := n1_; have HB := n2_; clear n0_ n1_ n2_; (try clear hb); (try clear hb2); (try clear hk); (try clear hi); (try clear ho0); obtain ⟨Ao29, co29, eo29⟩ := Kd.S_slice HO361.out; subst eo29) | ((with_reducible refine gate_callee (f := 70) rfl ?_); refine goesL_ (some 71) rfl rfl Tryz.func70 (by kernel_rfl) rfl #[.slice Ao29 t358.length co29] rfl ap3 ?_; (with_reducible refine (dn_Keys.calls kj2 _ _ t358 t362 t363 _ ?side1 ?side2 ?side3 A25.out).mono ?_); (case side1 => repeat (first | exact (Kd.S_reads' HO361.out).2.2 | (with_reducible refine Kd.C_alloc ?_ _) | (with_reducible refine Kd.C_drewN ?_ _) | (with_reducible refine Kd.C_drew ?_))); (case side2 => exact (Kd.S_reads' HO361.out).2.1); (case side3 => first | exact HG.out | (refine Gw.below HG.out ?_; repeat (first | (with_reducible first | exact HB.out | apply below_alloc | apply pw_below_drewN | apply below_drew1 | refine below_set ?_ GE352.out) | exact HB.out))); rintro e w30 ⟨v364, rfl, ho0, hb⟩; refine ⟨_, rfl, ?_⟩; have n0_ := Aside0.mk (Kd.S_below (apAS HO361.out) hb); have n1_ := Aside0.mk (Kd.R_lower ho0 (below_size (apG GE352.out))); have n2_ := Aside0.mk (blk_below (g := gb352) (o := .cells #[.string a0_0, .int .i64 a0_1, .bool a0_2] 23 (0, 0)) (apB BK352.out) hb); have n3_ := Aside0.mk (below_step (apG GE352.out) hb); clear HO361; clear BK352; clear HB; have HO361 := n0_; have HO365 := n1_; have BK352 := n2_; have HB := n3_; clear n0_ n1_ n2_ n3_; (try clear hb); (try clear hb2); (try clear hk); (try clear hi); (try clear ho0); obtain ⟨Ao31, co31, eo31⟩ := Kd.R_slice HO365.out; subst eo31) | ((with_reducible refine gate_callee (f := 71) rfl ?_); refine goesL_ (some 75) rfl rfl Tryz.func71 (by kernel_rfl) rfl #[.slice Ao31 t362.length co31, .string (⟨#[]⟩ : ByteArray)] rfl ap3 ?_; (with_reducible refine (strings_Join.calls _ _ t362 (⟨#[]⟩ : ByteArray) t366 _ ?side1 ?side2 A26.out).mono ?_); (case side1 => repeat (first | exact (Kd.R_reads' HO365.out).2.2 | (with_reducible refine Kd.C_alloc ?_ _) | (with_reducible refine Kd.C_drewN ?_ _) | (with_reducible refine Kd.C_drew ?_))); (case side2 => exact (Kd.R_reads' HO365.out).2.1); rintro e w32 ⟨rfl, hb⟩; refine ⟨_, rfl, ?_⟩; have n0_ := Aside0.mk (Kd.S_below (apAS HO361.out) hb); have n1_ := Aside0.mk (Kd.R_below (apAR HO365.out) hb); have n2_ := Aside0.mk (blk_below (g := gb352) (o := .cells #[.string a0_0, .int .i64 a0_1, .bool a0_2] 23 (0, 0)) (apB BK352.out) hb); have n3_ := Aside0.mk (below_step (apG GE352.out) hb); clear HO361; clear HO365; clear BK352; clear HB; have HO361 := n0_; have HO365 := n1_; have BK352 := n2_; have HB := n3_; clear n0_ n1_ n2_ n3_; (try clear hb); (try clear hb2); (try clear hk); (try clear hi)))
         go_ret2
         exact ⟨by first | rfl | (simp [errW_none, errW_some, bne_nil8, beq_nil8]; done) | (simp [errW_none, errW_some] <;> rfl) | (simp [*, errW_none, errW_some] <;> rfl), by repeat (first | (with_reducible first | exact HB.out | apply below_alloc | apply pw_below_drewN | apply below_drew1 | refine below_set ?_ GE352.out) | exact HB.out)⟩
        ·
         rw [if_neg c27] at H
         have c27b0 : (t359 == 0) = false := beq_eq_false_iff_ne.mpr c27
         have c27b1 : (t359 != 0) = true := bne_iff_ne.mpr c27
         simp only [Option.some.injEq, Prod.mk.injEq] at H
         obtain ⟨rfl, rfl⟩ := H
         go_wp2_with (first | ((with_reducible refine gate_callee (f := 69) rfl ?_); refine goesL_ (some 66) rfl rfl Tryz.func69 (by kernel_rfl) rfl #[.string a1] rfl ap3 ?_; (with_reducible refine (dn_Parse.calls kj2 a1 t358 t359 _ ?side1 A24.out).mono ?_); (case side1 => first | exact HG.out | (refine Gw.below HG.out ?_; repeat (first | (with_reducible first | exact HB.out | apply below_alloc | apply pw_below_drewN | apply below_drew1 | refine below_set ?_ GE352.out) | exact HB.out))); rintro e w33 ⟨v360, rfl, ho0, hb⟩; refine ⟨_, rfl, ?_⟩; have n0_ := Aside0.mk (Kd.S_lower ho0 (below_size (apG GE352.out))); have n1_ := Aside0.mk (blk_below (g := gb352) (o := .cells #[.string a0_0, .int .i64 a0_1, .bool a0_2] 23 (0, 0)) (apB BK352.out) hb); have n2_ := Aside0.mk (below_step (apG GE352.out) hb); clear BK352; clear HB; have HO361 := n0_; have BK352 := n1_; have HB := n2_; clear n0_ n1_ n2_; (try clear hb); (try clear hb2); (try clear hk); (try clear hi); (try clear ho0); obtain ⟨Ao34, co34, eo34⟩ := Kd.S_slice HO361.out; subst eo34) | ((with_reducible refine gate_callee (f := 70) rfl ?_); refine goesL_ (some 71) rfl rfl Tryz.func70 (by kernel_rfl) rfl #[.slice Ao34 t358.length co34] rfl ap3 ?_; (with_reducible refine (dn_Keys.calls kj2 _ _ t358 t362 t363 _ ?side1 ?side2 ?side3 A25.out).mono ?_); (case side1 => repeat (first | exact (Kd.S_reads' HO361.out).2.2 | (with_reducible refine Kd.C_alloc ?_ _) | (with_reducible refine Kd.C_drewN ?_ _) | (with_reducible refine Kd.C_drew ?_))); (case side2 => exact (Kd.S_reads' HO361.out).2.1); (case side3 => first | exact HG.out | (refine Gw.below HG.out ?_; repeat (first | (with_reducible first | exact HB.out | apply below_alloc | apply pw_below_drewN | apply below_drew1 | refine below_set ?_ GE352.out) | exact HB.out))); rintro e w35 ⟨v364, rfl, ho0, hb⟩; refine ⟨_, rfl, ?_⟩; have n0_ := Aside0.mk (Kd.S_below (apAS HO361.out) hb); have n1_ := Aside0.mk (Kd.R_lower ho0 (below_size (apG GE352.out))); have n2_ := Aside0.mk (blk_below (g := gb352) (o := .cells #[.string a0_0, .int .i64 a0_1, .bool a0_2] 23 (0, 0)) (apB BK352.out) hb); have n3_ := Aside0.mk (below_step (apG GE352.out) hb); clear HO361; clear BK352; clear HB; have HO361 := n0_; have HO365 := n1_; have BK352 := n2_; have HB := n3_; clear n0_ n1_ n2_ n3_; (try clear hb); (try clear hb2); (try clear hk); (try clear hi); (try clear ho0); obtain ⟨Ao36, co36, eo36⟩ := Kd.R_slice HO365.out; subst eo36) | ((with_reducible refine gate_callee (f := 71) rfl ?_); refine goesL_ (some 75) rfl rfl Tryz.func71 (by kernel_rfl) rfl #[.slice Ao36 t362.length co36, .string (⟨#[]⟩ : ByteArray)] rfl ap3 ?_; (with_reducible refine (strings_Join.calls _ _ t362 (⟨#[]⟩ : ByteArray) t366 _ ?side1 ?side2 A26.out).mono ?_); (case side1 => repeat (first | exact (Kd.R_reads' HO365.out).2.2 | (with_reducible refine Kd.C_alloc ?_ _) | (with_reducible refine Kd.C_drewN ?_ _) | (with_reducible refine Kd.C_drew ?_))); (case side2 => exact (Kd.R_reads' HO365.out).2.1); rintro e w37 ⟨rfl, hb⟩; refine ⟨_, rfl, ?_⟩; have n0_ := Aside0.mk (Kd.S_below (apAS HO361.out) hb); have n1_ := Aside0.mk (Kd.R_below (apAR HO365.out) hb); have n2_ := Aside0.mk (blk_below (g := gb352) (o := .cells #[.string a0_0, .int .i64 a0_1, .bool a0_2] 23 (0, 0)) (apB BK352.out) hb); have n3_ := Aside0.mk (below_step (apG GE352.out) hb); clear HO361; clear HO365; clear BK352; clear HB; have HO361 := n0_; have HO365 := n1_; have BK352 := n2_; have HB := n3_; clear n0_ n1_ n2_ n3_; (try clear hb); (try clear hb2); (try clear hk); (try clear hi)))
         go_ret2
         exact ⟨by first | rfl | (simp [errW_none, errW_some, bne_nil8, beq_nil8]; done) | (simp [errW_none, errW_some] <;> rfl) | (simp [*, errW_none, errW_some] <;> rfl), by repeat (first | (with_reducible first | exact HB.out | apply below_alloc | apply pw_below_drewN | apply below_drew1 | refine below_set ?_ GE352.out) | exact HB.out)⟩
       ·
        rw [if_neg c23] at H
        have c23b0 : (a0_1 == 6) = false := beq_eq_false_iff_ne.mpr c23
        have c23b1 : (a0_1 != 6) = true := bne_iff_ne.mpr c23
        simp only [Option.some.injEq, Prod.mk.injEq] at H
        obtain ⟨rfl, rfl⟩ := H
        go_wp2
        go_ret2
        exact ⟨by first | rfl | (simp [errW_none, errW_some, bne_nil8, beq_nil8]; done) | (simp [errW_none, errW_some] <;> rfl) | (simp [*, errW_none, errW_some] <;> rfl), by repeat (first | (with_reducible first | exact HB.out | apply below_alloc | apply pw_below_drewN | apply below_drew1 | refine below_set ?_ GE352.out) | exact HB.out)⟩
def attr_known.f (a0_0 : ByteArray) (a0_1 : Int) (a0_2 : Bool) : Option (Bool) := if a0_1 ≥ 1 then (some (decide (a0_1 ≤ 7))) else (some false)
set_option maxHeartbeats 8000000 in
set_option maxRecDepth 100000 in
theorem attr_known.calls (a0_0 : ByteArray) (a0_1 : Int) (a0_2 : Bool) (r : Bool) (w : World) (h : attr_known.f a0_0 a0_1 a0_2 = some r) :
  Calls Tryz.prog 42 #[.agg #[.string a0_0, .int .i64 a0_1, .bool a0_2]] w fun e w' => e = .returned (.bool r) ∧ Below w.heap.size w w' := by
 have hu23 := Tryz.underlying23
 have HB := Aside0.mk (Below.refl w.heap.size w)
 have H : (if a0_1 ≥ 1 then (some (decide (a0_1 ≤ 7))) else (some false)) = some r := h
 clear h
 by_cases c2 : a0_1 ≥ 1
 ·
  rw [if_pos c2] at H
  have c2b0 := decide_eq_true c2
  clear c2
  obtain rfl := Option.some.inj H
  go_enter Tryz.func42, Tryz.ntmps42
  go_wp2_with (first | ((with_reducible refine gate_dst (N := 1) rfl ?_); refine box_event ?hg (N := 1) ?hd (cs := #[.string a0_0, .int .i64 a0_1, .bool a0_2]) (t := 23) ?hr ?_; (case hd => rfl); (case hg => rfl); (case hr => first | (go_simp; done) | (go_simp; rfl)); intro gb101 hg w3 hbox hb; have n0_ := Aside0.mk (below_step ap1 hb); have n1_ := Aside0.mk (hbox); have n2_ := Aside0.mk ((by rw [hg]; exact (below_size ap1) : w.heap.size ≤ gb101)); have n3_ := Aside0.mk ((by rw [hg]; exact (below_size ap1) : w.heap.size ≤ gb101)); clear HB; have HB := n0_; have BK101 := n1_; have GW101 := n2_; have GE101 := n3_; clear n0_ n1_ n2_ n3_; clear hb hbox hg; have hcz4_0 : w3.cell? ⟨gb101, 0, none⟩ = some (.string a0_0) := (blk_cell BK101.out 0).trans rfl; have hcz4_1 : w3.cell? ⟨gb101, 1, none⟩ = some (.int .i64 a0_1) := (blk_cell BK101.out 1).trans rfl; have hcz4_2 : w3.cell? ⟨gb101, 2, none⟩ = some (.bool a0_2) := (blk_cell BK101.out 2).trans rfl; have hfz4_0 := blk_frozen BK101.out 0; have hfz4_1 := blk_frozen BK101.out 1; have hfz4_2 := blk_frozen BK101.out 2))
  go_ret
  exact ⟨by first | rfl | (simp [errW_none, errW_some, bne_nil8, beq_nil8]; done) | (simp [errW_none, errW_some] <;> rfl) | (simp [*, errW_none, errW_some] <;> rfl), by repeat (first | (with_reducible first | exact HB.out | apply below_alloc | apply pw_below_drewN | apply below_drew1 | refine below_set ?_ GE101.out) | exact HB.out)⟩
 ·
  rw [if_neg c2] at H
  have c2b0 := decide_eq_false c2
  clear c2
  obtain rfl := Option.some.inj H
  go_enter Tryz.func42, Tryz.ntmps42
  go_wp2_with (first | ((with_reducible refine gate_dst (N := 1) rfl ?_); refine box_event ?hg (N := 1) ?hd (cs := #[.string a0_0, .int .i64 a0_1, .bool a0_2]) (t := 23) ?hr ?_; (case hd => rfl); (case hg => rfl); (case hr => first | (go_simp; done) | (go_simp; rfl)); intro gb101 hg w5 hbox hb; have n0_ := Aside0.mk (below_step ap1 hb); have n1_ := Aside0.mk (hbox); have n2_ := Aside0.mk ((by rw [hg]; exact (below_size ap1) : w.heap.size ≤ gb101)); have n3_ := Aside0.mk ((by rw [hg]; exact (below_size ap1) : w.heap.size ≤ gb101)); clear HB; have HB := n0_; have BK101 := n1_; have GW101 := n2_; have GE101 := n3_; clear n0_ n1_ n2_ n3_; clear hb hbox hg; have hcz6_0 : w5.cell? ⟨gb101, 0, none⟩ = some (.string a0_0) := (blk_cell BK101.out 0).trans rfl; have hcz6_1 : w5.cell? ⟨gb101, 1, none⟩ = some (.int .i64 a0_1) := (blk_cell BK101.out 1).trans rfl; have hcz6_2 : w5.cell? ⟨gb101, 2, none⟩ = some (.bool a0_2) := (blk_cell BK101.out 2).trans rfl; have hfz6_0 := blk_frozen BK101.out 0; have hfz6_1 := blk_frozen BK101.out 1; have hfz6_2 := blk_frozen BK101.out 2))
  go_ret
  exact ⟨by first | rfl | (simp [errW_none, errW_some, bne_nil8, beq_nil8]; done) | (simp [errW_none, errW_some] <;> rfl) | (simp [*, errW_none, errW_some] <;> rfl), by repeat (first | (with_reducible first | exact HB.out | apply below_alloc | apply pw_below_drewN | apply below_drew1 | refine below_set ?_ GE101.out) | exact HB.out)⟩
def attr_Normal.f (k : Nat) (a0_0 : ByteArray) (a0_1 : Int) (a0_2 : Bool) (a1 : ByteArray) : Option (ByteArray × Int) := (attr_known.f a0_0 a0_1 a0_2).bind fun t368 => (if t368 = true then (if (a1.size : Int) > 1000 then (some ((⟨#[]⟩ : ByteArray), 5)) else (if a1.toList = ([] : List UInt8) then (some ((⟨#[]⟩ : ByteArray), 4)) else ((attr_form.f k a0_0 a0_1 a0_2 a1).bind fun bt369 => (if bt369.2 = true then (some (bt369.1, 0)) else (some ((⟨#[]⟩ : ByteArray), 4)))))) else (some ((⟨#[]⟩ : ByteArray), 14)))
theorem attr_Normal.mono : ∀ a0 a1 a2 a3 k, LeO (attr_Normal.f k a0 a1 a2 a3) (attr_Normal.f (k + 1) a0 a1 a2 a3) := by
 intro a0 a1 a2 a3 k
 unfold attr_Normal.f
 repeat' first
   | (with_reducible exact attr_form.mono _ _ _ _ _)
   | (with_reducible exact LeO.refl _)
   | (with_reducible exact LeO.none _)
   | (with_reducible refine LeO.ite ?_ ?_)
   | (with_reducible refine LeO.bind ?_ (fun _ => ?_))
set_option maxHeartbeats 8000000 in
set_option maxRecDepth 100000 in
theorem attr_Normal.calls (k : Nat) (a0_0 : ByteArray) (a0_1 : Int) (a0_2 : Bool) (a1 : ByteArray) (r1 : ByteArray) (r2 : Int) (w : World) (hG : Gw w) (h : attr_Normal.f k a0_0 a0_1 a0_2 a1 = some (r1, r2)) :
  Calls Tryz.prog 19 #[.agg #[.string a0_0, .int .i64 a0_1, .bool a0_2], .string a1] w fun e w' => e = .returned (.tuple #[.string r1, .int .i64 r2]) ∧ Below w.heap.size w w' := by
 have hu23 := Tryz.underlying23
 have HB := Aside0.mk (Below.refl w.heap.size w)
 have HG := Aside0.mk hG
 clear hG
 have H : ((attr_known.f a0_0 a0_1 a0_2).bind fun t368 => (if t368 = true then (if (a1.size : Int) > 1000 then (some ((⟨#[]⟩ : ByteArray), 5)) else (if a1.toList = ([] : List UInt8) then (some ((⟨#[]⟩ : ByteArray), 4)) else ((attr_form.f k a0_0 a0_1 a0_2 a1).bind fun bt369 => (if bt369.2 = true then (some (bt369.1, 0)) else (some ((⟨#[]⟩ : ByteArray), 4)))))) else (some ((⟨#[]⟩ : ByteArray), 14)))) = some (r1, r2) := h
 clear h
 replace H := Option.bind_eq_some_iff.mp H
 obtain ⟨t368, A30, H⟩ := H
 replace H : (if t368 = true then (if (a1.size : Int) > 1000 then (some ((⟨#[]⟩ : ByteArray), 5)) else (if a1.toList = ([] : List UInt8) then (some ((⟨#[]⟩ : ByteArray), 4)) else ((attr_form.f k a0_0 a0_1 a0_2 a1).bind fun bt369 => (if bt369.2 = true then (some (bt369.1, 0)) else (some ((⟨#[]⟩ : ByteArray), 4)))))) else (some ((⟨#[]⟩ : ByteArray), 14))) = some (r1, r2) := H
 have A3 := Aside0.mk A30
 clear A30
 by_cases c4 : t368 = true
 ·
  subst c4
  rw [if_pos rfl] at H
  by_cases c5 : (a1.size : Int) > 1000
  ·
   rw [if_pos c5] at H
   have c5b0 := decide_eq_true c5
   have c5b1 : decide (1000 < a1.size) = true := decide_eq_true (by omega)
   clear c5
   simp only [Option.some.injEq, Prod.mk.injEq] at H
   obtain ⟨rfl, rfl⟩ := H
   go_enter Tryz.func19, Tryz.ntmps19
   go_wp2_with (first | ((with_reducible refine gate_dst (N := 2) rfl ?_); refine box_event ?hg (N := 2) ?hd (cs := #[.string a0_0, .int .i64 a0_1, .bool a0_2]) (t := 23) ?hr ?_; (case hd => rfl); (case hg => rfl); (case hr => first | (go_simp; done) | (go_simp; rfl)); intro gb367 hg w6 hbox hb; have n0_ := Aside0.mk (below_step ap1 hb); have n1_ := Aside0.mk (hbox); have n2_ := Aside0.mk ((by rw [hg]; exact (below_size ap1) : w.heap.size ≤ gb367)); have n3_ := Aside0.mk ((by rw [hg]; exact (below_size ap1) : w.heap.size ≤ gb367)); clear HB; have HB := n0_; have BK367 := n1_; have GW367 := n2_; have GE367 := n3_; clear n0_ n1_ n2_ n3_; clear hb hbox hg; have hcz7_0 : w6.cell? ⟨gb367, 0, none⟩ = some (.string a0_0) := (blk_cell BK367.out 0).trans rfl; have hcz7_1 : w6.cell? ⟨gb367, 1, none⟩ = some (.int .i64 a0_1) := (blk_cell BK367.out 1).trans rfl; have hcz7_2 : w6.cell? ⟨gb367, 2, none⟩ = some (.bool a0_2) := (blk_cell BK367.out 2).trans rfl; have hfz7_0 := blk_frozen BK367.out 0; have hfz7_1 := blk_frozen BK367.out 1; have hfz7_2 := blk_frozen BK367.out 2) | ((with_reducible refine gate_callee (f := 42) rfl ?_); refine goesL_ (some 10) rfl rfl Tryz.func42 (by kernel_rfl) rfl #[.agg #[.string a0_0, .int .i64 a0_1, .bool a0_2]] rfl ap3 ?_; (with_reducible refine (attr_known.calls a0_0 a0_1 a0_2 true _ A3.out).mono ?_); rintro e w8 ⟨rfl, hb⟩; refine ⟨_, rfl, ?_⟩; have n0_ := Aside0.mk (blk_below (g := gb367) (o := .cells #[.string a0_0, .int .i64 a0_1, .bool a0_2] 23 (0, 0)) (apB BK367.out) hb); have n1_ := Aside0.mk (below_step (apG GE367.out) hb); clear BK367; clear HB; have BK367 := n0_; have HB := n1_; clear n0_ n1_; (try clear hb); (try clear hb2); (try clear hk); (try clear hi)))
   go_ret2
   exact ⟨by first | rfl | (simp [errW_none, errW_some, bne_nil8, beq_nil8]; done) | (simp [errW_none, errW_some] <;> rfl) | (simp [*, errW_none, errW_some] <;> rfl), by repeat (first | (with_reducible first | exact HB.out | apply below_alloc | apply pw_below_drewN | apply below_drew1 | refine below_set ?_ GE367.out) | exact HB.out)⟩
  ·
   rw [if_neg c5] at H
   have c5b0 := decide_eq_false c5
   have c5b1 : decide (1000 < a1.size) = false := decide_eq_false (by omega)
   clear c5
   by_cases c9 : a1.toList = ([] : List UInt8)
   ·
    rw [if_pos c9] at H
    have c9b0 : (a1.toList == ([] : List UInt8)) = true := beq_iff_eq.mpr c9
    have c9b1 : (a1.toList != ([] : List UInt8)) = false := bne_eq_false_iff_eq.mpr c9
    clear c9
    simp only [Option.some.injEq, Prod.mk.injEq] at H
    obtain ⟨rfl, rfl⟩ := H
    go_enter Tryz.func19, Tryz.ntmps19
    go_wp2_with (first | ((with_reducible refine gate_dst (N := 2) rfl ?_); refine box_event ?hg (N := 2) ?hd (cs := #[.string a0_0, .int .i64 a0_1, .bool a0_2]) (t := 23) ?hr ?_; (case hd => rfl); (case hg => rfl); (case hr => first | (go_simp; done) | (go_simp; rfl)); intro gb367 hg w10 hbox hb; have n0_ := Aside0.mk (below_step ap1 hb); have n1_ := Aside0.mk (hbox); have n2_ := Aside0.mk ((by rw [hg]; exact (below_size ap1) : w.heap.size ≤ gb367)); have n3_ := Aside0.mk ((by rw [hg]; exact (below_size ap1) : w.heap.size ≤ gb367)); clear HB; have HB := n0_; have BK367 := n1_; have GW367 := n2_; have GE367 := n3_; clear n0_ n1_ n2_ n3_; clear hb hbox hg; have hcz11_0 : w10.cell? ⟨gb367, 0, none⟩ = some (.string a0_0) := (blk_cell BK367.out 0).trans rfl; have hcz11_1 : w10.cell? ⟨gb367, 1, none⟩ = some (.int .i64 a0_1) := (blk_cell BK367.out 1).trans rfl; have hcz11_2 : w10.cell? ⟨gb367, 2, none⟩ = some (.bool a0_2) := (blk_cell BK367.out 2).trans rfl; have hfz11_0 := blk_frozen BK367.out 0; have hfz11_1 := blk_frozen BK367.out 1; have hfz11_2 := blk_frozen BK367.out 2) | ((with_reducible refine gate_callee (f := 42) rfl ?_); refine goesL_ (some 10) rfl rfl Tryz.func42 (by kernel_rfl) rfl #[.agg #[.string a0_0, .int .i64 a0_1, .bool a0_2]] rfl ap3 ?_; (with_reducible refine (attr_known.calls a0_0 a0_1 a0_2 true _ A3.out).mono ?_); rintro e w12 ⟨rfl, hb⟩; refine ⟨_, rfl, ?_⟩; have n0_ := Aside0.mk (blk_below (g := gb367) (o := .cells #[.string a0_0, .int .i64 a0_1, .bool a0_2] 23 (0, 0)) (apB BK367.out) hb); have n1_ := Aside0.mk (below_step (apG GE367.out) hb); clear BK367; clear HB; have BK367 := n0_; have HB := n1_; clear n0_ n1_; (try clear hb); (try clear hb2); (try clear hk); (try clear hi)))
    go_ret2
    exact ⟨by first | rfl | (simp [errW_none, errW_some, bne_nil8, beq_nil8]; done) | (simp [errW_none, errW_some] <;> rfl) | (simp [*, errW_none, errW_some] <;> rfl), by repeat (first | (with_reducible first | exact HB.out | apply below_alloc | apply pw_below_drewN | apply below_drew1 | refine below_set ?_ GE367.out) | exact HB.out)⟩
   ·
    rw [if_neg c9] at H
    have c9b0 : (a1.toList == ([] : List UInt8)) = false := beq_eq_false_iff_ne.mpr c9
    have c9b1 : (a1.toList != ([] : List UInt8)) = true := bne_iff_ne.mpr c9
    replace H := Option.bind_eq_some_iff.mp H
    obtain ⟨⟨t369, t370⟩, A130, H⟩ := H
    replace H : (if t370 = true then (some (t369, 0)) else (some ((⟨#[]⟩ : ByteArray), 4))) = some (r1, r2) := H
    have A13 := Aside0.mk A130
    clear A130
    by_cases c14 : t370 = true
    ·
     subst c14
     rw [if_pos rfl] at H
     simp only [Option.some.injEq, Prod.mk.injEq] at H
     obtain ⟨rfl, rfl⟩ := H
     go_enter Tryz.func19, Tryz.ntmps19
     go_wp2_with (first | ((with_reducible refine gate_dst (N := 2) rfl ?_); refine box_event ?hg (N := 2) ?hd (cs := #[.string a0_0, .int .i64 a0_1, .bool a0_2]) (t := 23) ?hr ?_; (case hd => rfl); (case hg => rfl); (case hr => first | (go_simp; done) | (go_simp; rfl)); intro gb367 hg w15 hbox hb; have n0_ := Aside0.mk (below_step ap1 hb); have n1_ := Aside0.mk (hbox); have n2_ := Aside0.mk ((by rw [hg]; exact (below_size ap1) : w.heap.size ≤ gb367)); have n3_ := Aside0.mk ((by rw [hg]; exact (below_size ap1) : w.heap.size ≤ gb367)); clear HB; have HB := n0_; have BK367 := n1_; have GW367 := n2_; have GE367 := n3_; clear n0_ n1_ n2_ n3_; clear hb hbox hg; have hcz16_0 : w15.cell? ⟨gb367, 0, none⟩ = some (.string a0_0) := (blk_cell BK367.out 0).trans rfl; have hcz16_1 : w15.cell? ⟨gb367, 1, none⟩ = some (.int .i64 a0_1) := (blk_cell BK367.out 1).trans rfl; have hcz16_2 : w15.cell? ⟨gb367, 2, none⟩ = some (.bool a0_2) := (blk_cell BK367.out 2).trans rfl; have hfz16_0 := blk_frozen BK367.out 0; have hfz16_1 := blk_frozen BK367.out 1; have hfz16_2 := blk_frozen BK367.out 2) | ((with_reducible refine gate_callee (f := 42) rfl ?_); refine goesL_ (some 10) rfl rfl Tryz.func42 (by kernel_rfl) rfl #[.agg #[.string a0_0, .int .i64 a0_1, .bool a0_2]] rfl ap3 ?_; (with_reducible refine (attr_known.calls a0_0 a0_1 a0_2 true _ A3.out).mono ?_); rintro e w17 ⟨rfl, hb⟩; refine ⟨_, rfl, ?_⟩; have n0_ := Aside0.mk (blk_below (g := gb367) (o := .cells #[.string a0_0, .int .i64 a0_1, .bool a0_2] 23 (0, 0)) (apB BK367.out) hb); have n1_ := Aside0.mk (below_step (apG GE367.out) hb); clear BK367; clear HB; have BK367 := n0_; have HB := n1_; clear n0_ n1_; (try clear hb); (try clear hb2); (try clear hk); (try clear hi); have hcz18_0 : w17.cell? ⟨gb367, 0, none⟩ = some (.string a0_0) := (blk_cell BK367.out 0).trans rfl; have hcz18_1 : w17.cell? ⟨gb367, 1, none⟩ = some (.int .i64 a0_1) := (blk_cell BK367.out 1).trans rfl; have hcz18_2 : w17.cell? ⟨gb367, 2, none⟩ = some (.bool a0_2) := (blk_cell BK367.out 2).trans rfl; have hfz18_0 := blk_frozen BK367.out 0; have hfz18_1 := blk_frozen BK367.out 1; have hfz18_2 := blk_frozen BK367.out 2) | ((with_reducible refine gate_callee (f := 43) rfl ?_); refine goesL_ (some 22) rfl rfl Tryz.func43 (by kernel_rfl) rfl #[.agg #[.string a0_0, .int .i64 a0_1, .bool a0_2], .string a1] rfl ap3 ?_; (with_reducible refine (attr_form.calls k a0_0 a0_1 a0_2 a1 t369 true _ ?side1 A13.out).mono ?_); (case side1 => first | exact HG.out | (refine Gw.below HG.out ?_; repeat (first | (with_reducible first | exact HB.out | apply below_alloc | apply pw_below_drewN | apply below_drew1 | refine below_set ?_ GE367.out) | exact HB.out))); rintro e w19 ⟨rfl, hb⟩; refine ⟨_, rfl, ?_⟩; have n0_ := Aside0.mk (blk_below (g := gb367) (o := .cells #[.string a0_0, .int .i64 a0_1, .bool a0_2] 23 (0, 0)) (apB BK367.out) hb); have n1_ := Aside0.mk (below_step (apG GE367.out) hb); clear BK367; clear HB; have BK367 := n0_; have HB := n1_; clear n0_ n1_; (try clear hb); (try clear hb2); (try clear hk); (try clear hi)))
     go_ret2
     exact ⟨by first | rfl | (simp [errW_none, errW_some, bne_nil8, beq_nil8]; done) | (simp [errW_none, errW_some] <;> rfl) | (simp [*, errW_none, errW_some] <;> rfl), by repeat (first | (with_reducible first | exact HB.out | apply below_alloc | apply pw_below_drewN | apply below_drew1 | refine below_set ?_ GE367.out) | exact HB.out)⟩
    ·
     replace c14 := Bool.eq_false_iff.mpr c14
     subst c14
     rw [if_neg (show ¬ (false = true) by decide)] at H
     simp only [Option.some.injEq, Prod.mk.injEq] at H
     obtain ⟨rfl, rfl⟩ := H
     go_enter Tryz.func19, Tryz.ntmps19
     go_wp2_with (first | ((with_reducible refine gate_dst (N := 2) rfl ?_); refine box_event ?hg (N := 2) ?hd (cs := #[.string a0_0, .int .i64 a0_1, .bool a0_2]) (t := 23) ?hr ?_; (case hd => rfl); (case hg => rfl); (case hr => first | (go_simp; done) | (go_simp; rfl)); intro gb367 hg w20 hbox hb; have n0_ := Aside0.mk (below_step ap1 hb); have n1_ := Aside0.mk (hbox); have n2_ := Aside0.mk ((by rw [hg]; exact (below_size ap1) : w.heap.size ≤ gb367)); have n3_ := Aside0.mk ((by rw [hg]; exact (below_size ap1) : w.heap.size ≤ gb367)); clear HB; have HB := n0_; have BK367 := n1_; have GW367 := n2_; have GE367 := n3_; clear n0_ n1_ n2_ n3_; clear hb hbox hg; have hcz21_0 : w20.cell? ⟨gb367, 0, none⟩ = some (.string a0_0) := (blk_cell BK367.out 0).trans rfl; have hcz21_1 : w20.cell? ⟨gb367, 1, none⟩ = some (.int .i64 a0_1) := (blk_cell BK367.out 1).trans rfl; have hcz21_2 : w20.cell? ⟨gb367, 2, none⟩ = some (.bool a0_2) := (blk_cell BK367.out 2).trans rfl; have hfz21_0 := blk_frozen BK367.out 0; have hfz21_1 := blk_frozen BK367.out 1; have hfz21_2 := blk_frozen BK367.out 2) | ((with_reducible refine gate_callee (f := 42) rfl ?_); refine goesL_ (some 10) rfl rfl Tryz.func42 (by kernel_rfl) rfl #[.agg #[.string a0_0, .int .i64 a0_1, .bool a0_2]] rfl ap3 ?_; (with_reducible refine (attr_known.calls a0_0 a0_1 a0_2 true _ A3.out).mono ?_); rintro e w22 ⟨rfl, hb⟩; refine ⟨_, rfl, ?_⟩; have n0_ := Aside0.mk (blk_below (g := gb367) (o := .cells #[.string a0_0, .int .i64 a0_1, .bool a0_2] 23 (0, 0)) (apB BK367.out) hb); have n1_ := Aside0.mk (below_step (apG GE367.out) hb); clear BK367; clear HB; have BK367 := n0_; have HB := n1_; clear n0_ n1_; (try clear hb); (try clear hb2); (try clear hk); (try clear hi); have hcz23_0 : w22.cell? ⟨gb367, 0, none⟩ = some (.string a0_0) := (blk_cell BK367.out 0).trans rfl; have hcz23_1 : w22.cell? ⟨gb367, 1, none⟩ = some (.int .i64 a0_1) := (blk_cell BK367.out 1).trans rfl; have hcz23_2 : w22.cell? ⟨gb367, 2, none⟩ = some (.bool a0_2) := (blk_cell BK367.out 2).trans rfl; have hfz23_0 := blk_frozen BK367.out 0; have hfz23_1 := blk_frozen BK367.out 1; have hfz23_2 := blk_frozen BK367.out 2) | ((with_reducible refine gate_callee (f := 43) rfl ?_); refine goesL_ (some 22) rfl rfl Tryz.func43 (by kernel_rfl) rfl #[.agg #[.string a0_0, .int .i64 a0_1, .bool a0_2], .string a1] rfl ap3 ?_; (with_reducible refine (attr_form.calls k a0_0 a0_1 a0_2 a1 t369 false _ ?side1 A13.out).mono ?_); (case side1 => first | exact HG.out | (refine Gw.below HG.out ?_; repeat (first | (with_reducible first | exact HB.out | apply below_alloc | apply pw_below_drewN | apply below_drew1 | refine below_set ?_ GE367.out) | exact HB.out))); rintro e w24 ⟨rfl, hb⟩; refine ⟨_, rfl, ?_⟩; have n0_ := Aside0.mk (blk_below (g := gb367) (o := .cells #[.string a0_0, .int .i64 a0_1, .bool a0_2] 23 (0, 0)) (apB BK367.out) hb); have n1_ := Aside0.mk (below_step (apG GE367.out) hb); clear BK367; clear HB; have BK367 := n0_; have HB := n1_; clear n0_ n1_; (try clear hb); (try clear hb2); (try clear hk); (try clear hi)))
     go_ret2
     exact ⟨by first | rfl | (simp [errW_none, errW_some, bne_nil8, beq_nil8]; done) | (simp [errW_none, errW_some] <;> rfl) | (simp [*, errW_none, errW_some] <;> rfl), by repeat (first | (with_reducible first | exact HB.out | apply below_alloc | apply pw_below_drewN | apply below_drew1 | refine below_set ?_ GE367.out) | exact HB.out)⟩
 ·
  replace c4 := Bool.eq_false_iff.mpr c4
  subst c4
  rw [if_neg (show ¬ (false = true) by decide)] at H
  simp only [Option.some.injEq, Prod.mk.injEq] at H
  obtain ⟨rfl, rfl⟩ := H
  go_enter Tryz.func19, Tryz.ntmps19
  go_wp2_with (first | ((with_reducible refine gate_dst (N := 2) rfl ?_); refine box_event ?hg (N := 2) ?hd (cs := #[.string a0_0, .int .i64 a0_1, .bool a0_2]) (t := 23) ?hr ?_; (case hd => rfl); (case hg => rfl); (case hr => first | (go_simp; done) | (go_simp; rfl)); intro gb367 hg w25 hbox hb; have n0_ := Aside0.mk (below_step ap1 hb); have n1_ := Aside0.mk (hbox); have n2_ := Aside0.mk ((by rw [hg]; exact (below_size ap1) : w.heap.size ≤ gb367)); have n3_ := Aside0.mk ((by rw [hg]; exact (below_size ap1) : w.heap.size ≤ gb367)); clear HB; have HB := n0_; have BK367 := n1_; have GW367 := n2_; have GE367 := n3_; clear n0_ n1_ n2_ n3_; clear hb hbox hg; have hcz26_0 : w25.cell? ⟨gb367, 0, none⟩ = some (.string a0_0) := (blk_cell BK367.out 0).trans rfl; have hcz26_1 : w25.cell? ⟨gb367, 1, none⟩ = some (.int .i64 a0_1) := (blk_cell BK367.out 1).trans rfl; have hcz26_2 : w25.cell? ⟨gb367, 2, none⟩ = some (.bool a0_2) := (blk_cell BK367.out 2).trans rfl; have hfz26_0 := blk_frozen BK367.out 0; have hfz26_1 := blk_frozen BK367.out 1; have hfz26_2 := blk_frozen BK367.out 2) | ((with_reducible refine gate_callee (f := 42) rfl ?_); refine goesL_ (some 10) rfl rfl Tryz.func42 (by kernel_rfl) rfl #[.agg #[.string a0_0, .int .i64 a0_1, .bool a0_2]] rfl ap3 ?_; (with_reducible refine (attr_known.calls a0_0 a0_1 a0_2 false _ A3.out).mono ?_); rintro e w27 ⟨rfl, hb⟩; refine ⟨_, rfl, ?_⟩; have n0_ := Aside0.mk (blk_below (g := gb367) (o := .cells #[.string a0_0, .int .i64 a0_1, .bool a0_2] 23 (0, 0)) (apB BK367.out) hb); have n1_ := Aside0.mk (below_step (apG GE367.out) hb); clear BK367; clear HB; have BK367 := n0_; have HB := n1_; clear n0_ n1_; (try clear hb); (try clear hb2); (try clear hk); (try clear hi)))
  go_ret2
  exact ⟨by first | rfl | (simp [errW_none, errW_some, bne_nil8, beq_nil8]; done) | (simp [errW_none, errW_some] <;> rfl) | (simp [*, errW_none, errW_some] <;> rfl), by repeat (first | (with_reducible first | exact HB.out | apply below_alloc | apply pw_below_drewN | apply below_drew1 | refine below_set ?_ GE367.out) | exact HB.out)⟩
mutual
def R01Less.l0 : Nat → ByteArray → ByteArray → Int → Option (Int)
 | 0, _, _, _ => none
 | k + 1, x0, x1, x5 => if x5 < (x0.size : Int) then (R01Less.j1 k x0 x1 x5 (decide (x5 < (x1.size : Int)))) else (R01Less.j1 k x0 x1 x5 false)
def R01Less.j1 : Nat → ByteArray → ByteArray → Int → Bool → Option (Int)
 | 0, _, _, _, _ => none
 | k + 1, x0, x1, x5, x15 => if x15 = true then (if 0 ≤ x5 then (if x5 < (x0.size : Int) then (if x5 < (x1.size : Int) then (if (bt x0 x5) < (bt x1 x5) then (some (-1)) else (if (bt x0 x5) > (bt x1 x5) then (some 1) else (R01Less.l0 k x0 x1 (wrap64 (x5 + 1))))) else (none)) else (none)) else (none)) else (if (x0.size : Int) < (x1.size : Int) then (some (-1)) else (if (x0.size : Int) > (x1.size : Int) then (some 1) else (some 0)))
end
def R01Less.f (k : Nat) (a0 : ByteArray) (a1 : ByteArray) : Option (Int) := R01Less.l0 k a0 a1 0
theorem R01Less.mono_l : ∀ k, (∀ y0 y1 y2, LeO (R01Less.l0 k y0 y1 y2) (R01Less.l0 (k + 1) y0 y1 y2)) ∧ (∀ y0 y1 y2 y3, LeO (R01Less.j1 k y0 y1 y2 y3) (R01Less.j1 (k + 1) y0 y1 y2 y3))
 | 0 => ⟨fun _ _ _ r h => by simp [R01Less.l0] at h, fun _ _ _ _ r h => by simp [R01Less.j1] at h⟩
 | k + 1 => by
  obtain ⟨ih0, ih1⟩ := R01Less.mono_l k
  refine ⟨?_, ?_⟩
  ·
   intro y0 y1 y2
   unfold R01Less.l0
   repeat' first
   | (with_reducible exact ih0 _ _ _)
   | (with_reducible exact ih1 _ _ _ _)
   | (with_reducible exact LeO.refl _)
   | (with_reducible exact LeO.none _)
   | (with_reducible refine LeO.ite ?_ ?_)
   | (with_reducible refine LeO.bind ?_ (fun _ => ?_))
  ·
   intro y0 y1 y2 y3
   unfold R01Less.j1
   repeat' first
   | (with_reducible exact ih0 _ _ _)
   | (with_reducible exact ih1 _ _ _ _)
   | (with_reducible exact LeO.refl _)
   | (with_reducible exact LeO.none _)
   | (with_reducible refine LeO.ite ?_ ?_)
   | (with_reducible refine LeO.bind ?_ (fun _ => ?_))
theorem R01Less.mono : ∀ a0 a1 k, LeO (R01Less.f k a0 a1) (R01Less.f (k + 1) a0 a1) := by
 intro a0 a1 k
 obtain ⟨ih0, ih1⟩ := R01Less.mono_l k
 unfold R01Less.f
 repeat' first
   | (with_reducible exact ih0 _ _ _)
   | (with_reducible exact ih1 _ _ _ _)
   | (with_reducible exact LeO.refl _)
   | (with_reducible exact LeO.none _)
   | (with_reducible refine LeO.ite ?_ ?_)
   | (with_reducible refine LeO.bind ?_ (fun _ => ?_))
set_option maxHeartbeats 8000000 in
set_option maxRecDepth 100000 in
theorem R01Less.calls (k : Nat) (a0 : ByteArray) (a1 : ByteArray) (r : Int) (w : World) (h : R01Less.f k a0 a1 = some r) :
  Calls Tryz.prog 24 #[.string a0, .string a1] w fun e w' => e = .returned (.int .i64 r) ∧ Drawn0 w w' := by
 have H : (R01Less.l0 k a0 a1 0) = some r := h
 clear h
 have H' := Aside0.mk H
 clear H
 go_enter Tryz.func24, Tryz.ntmps24
 go_wp2
 repeat (go_quiet (fail); try go_wp2)
 go_loopg [5] k (fun kq v5 w' => ∃ (x5_1 : Int), v5 = .int .i64 x5_1 ∧ Aside0 (R01Less.l0 kq a0 a1 x5_1 = some r) ∧ Aside0 (kq ≤ k) ∧ Drawn0 w w')
 case atStart => exact ⟨(0), ap2, H', ⟨Nat.le_refl _⟩, by repeat (first | exact Drawn0.refl _ | apply Drawn0.step)⟩
 case round =>
  clear H'
  try clear c2
  try clear p2
  obtain ⟨x5_1, rfl, HA, HK1, ⟨m1, rfl⟩⟩ := hrel
  cases gk with
  | zero => exact absurd HA.out (by simp [R01Less.l0])
  | succ k1 =>
   have H := HA.out
   clear HA
   simp only [R01Less.l0] at H
   have HC3 := Aside0.mk H
   clear H
   go_upto_region 2 with (fail)
   repeat (go_quiet (fail); go_upto_region 2 with (fail))
   go_cut [15] (fun v15 wc => ∃ (kq : Nat) (x15_2 : Bool), v15 = .bool x15_2 ∧ Aside0 (R01Less.j1 kq a0 a1 x5_1 x15_2 = some r) ∧ Aside0 (kq ≤ k1) ∧ Drawn0 w wc)
   case first =>
    have H := HC3.out
    clear HC3
    by_cases c4 : x5_1 < (a0.size : Int)
    ·
     rw [if_pos c4] at H
     have c4b0 := decide_eq_true c4
     clear c4
     (first | rw [c4b0] | (simp only [i64_w, i32_w]; rw [c4b0]) | skip)
     have H' := Aside0.mk H
     clear H
     go_wp2
     repeat (go_quiet (fail); try go_wp2)
     go_meet
     case rel => exact ⟨_, (decide (x5_1 < (a1.size : Int))), ap2, H', ⟨by have := HK1.out; first | omega | exact Nat.le_refl _⟩, by repeat (first | exact Drawn0.refl _ | apply Drawn0.step)⟩
    ·
     rw [if_neg c4] at H
     have c4b0 := decide_eq_false c4
     clear c4
     (first | rw [c4b0] | (simp only [i64_w, i32_w]; rw [c4b0]) | skip)
     have H' := Aside0.mk H
     clear H
     go_wp2
     repeat (go_quiet (fail); try go_wp2)
     go_meet
     case rel => exact ⟨_, (false), ap2, H', ⟨by have := HK1.out; first | omega | exact Nat.le_refl _⟩, by repeat (first | exact Drawn0.refl _ | apply Drawn0.step)⟩
   case rest =>
    clear HC3
    try clear c2
    try clear p2
    try clear c4
    try clear c4b0
    try clear p2
    obtain ⟨kq, x15_2, rfl, HA, HJ2, ⟨mc2, rfl⟩⟩ := hcut
    cases kq with
    | zero => exact absurd HA.out (by simp [R01Less.j1])
    | succ kj2 =>
     have H := HA.out
     clear HA
     simp only [R01Less.j1] at H
     by_cases c5 : x15_2 = true
     ·
      subst c5
      rw [if_pos rfl] at H
      by_cases c6 : 0 ≤ x5_1
      ·
       rw [if_pos c6] at H
       have c6b0 := decide_eq_true c6
       clear c6
       by_cases c7 : x5_1 < (a0.size : Int)
       ·
        rw [if_pos c7] at H
        have c7b0 := decide_eq_true c7
        clear c7
        by_cases c9 : x5_1 < (a1.size : Int)
        ·
         rw [if_pos c9] at H
         have c9b0 := decide_eq_true c9
         clear c9
         by_cases c11 : (bt a0 x5_1) < (bt a1 x5_1)
         ·
          rw [if_pos c11] at H
          have c11b0 := decide_eq_true c11
          clear c11
          obtain rfl := Option.some.inj H
          have p8 : 0 ≤ (x5_1 : Int) := of_decide_eq_true ap0
          have q8 : x5_1 < (a0.size : Int) := of_decide_eq_true ap0
          have hx8 := bt_at a0 x5_1
          replace p8 := eq_true p8
          replace q8 := eq_true q8
          have p10 : 0 ≤ (x5_1 : Int) := of_decide_eq_true ap0
          have q10 : x5_1 < (a1.size : Int) := of_decide_eq_true ap0
          have hx10 := bt_at a1 x5_1
          replace p10 := eq_true p10
          replace q10 := eq_true q10
          go_wp2
          repeat (go_quiet (fail); try go_wp2)
          go_ret
          exact ⟨ap2, ap7⟩
         ·
          rw [if_neg c11] at H
          have c11b0 := decide_eq_false c11
          clear c11
          by_cases c14 : (bt a0 x5_1) > (bt a1 x5_1)
          ·
           rw [if_pos c14] at H
           have c14b0 := decide_eq_true c14
           clear c14
           obtain rfl := Option.some.inj H
           have p8 : 0 ≤ (x5_1 : Int) := of_decide_eq_true ap0
           have q8 : x5_1 < (a0.size : Int) := of_decide_eq_true ap0
           have hx8 := bt_at a0 x5_1
           replace p8 := eq_true p8
           replace q8 := eq_true q8
           have p10 : 0 ≤ (x5_1 : Int) := of_decide_eq_true ap0
           have q10 : x5_1 < (a1.size : Int) := of_decide_eq_true ap0
           have hx10 := bt_at a1 x5_1
           replace p10 := eq_true p10
           replace q10 := eq_true q10
           have p12 : 0 ≤ (x5_1 : Int) := of_decide_eq_true ap0
           have q12 : x5_1 < (a0.size : Int) := of_decide_eq_true ap0
           have hx12 := bt_at a0 x5_1
           replace p12 := eq_true p12
           replace q12 := eq_true q12
           have p13 : 0 ≤ (x5_1 : Int) := of_decide_eq_true ap0
           have q13 : x5_1 < (a1.size : Int) := of_decide_eq_true ap0
           have hx13 := bt_at a1 x5_1
           replace p13 := eq_true p13
           replace q13 := eq_true q13
           go_wp2
           repeat (go_quiet (fail); try go_wp2)
           go_ret
           exact ⟨ap2, ap7⟩
          ·
           rw [if_neg c14] at H
           have c14b0 := decide_eq_false c14
           clear c14
           have H' := Aside0.mk H
           clear H
           have p8 : 0 ≤ (x5_1 : Int) := of_decide_eq_true ap0
           have q8 : x5_1 < (a0.size : Int) := of_decide_eq_true ap0
           have hx8 := bt_at a0 x5_1
           replace p8 := eq_true p8
           replace q8 := eq_true q8
           have p10 : 0 ≤ (x5_1 : Int) := of_decide_eq_true ap0
           have q10 : x5_1 < (a1.size : Int) := of_decide_eq_true ap0
           have hx10 := bt_at a1 x5_1
           replace p10 := eq_true p10
           replace q10 := eq_true q10
           have p12 : 0 ≤ (x5_1 : Int) := of_decide_eq_true ap0
           have q12 : x5_1 < (a0.size : Int) := of_decide_eq_true ap0
           have hx12 := bt_at a0 x5_1
           replace p12 := eq_true p12
           replace q12 := eq_true q12
           have p13 : 0 ≤ (x5_1 : Int) := of_decide_eq_true ap0
           have q13 : x5_1 < (a1.size : Int) := of_decide_eq_true ap0
           have hx13 := bt_at a1 x5_1
           replace p13 := eq_true p13
           replace q13 := eq_true q13
           go_wp2
           repeat (go_quiet (fail); try go_wp2)
           go_roundg kj2
           case measure => have := HK1.out; have := HJ2.out; omega
           case rel => exact ⟨(wrap64 (x5_1 + 1)), ap2, H', ⟨by have := HK1.out; have := HJ2.out; omega⟩, by repeat (first | exact Drawn0.refl _ | apply Drawn0.step)⟩
        ·
         rw [if_neg c9] at H
         exact absurd H (by simp)
       ·
        rw [if_neg c7] at H
        exact absurd H (by simp)
      ·
       rw [if_neg c6] at H
       exact absurd H (by simp)
     ·
      replace c5 := Bool.eq_false_iff.mpr c5
      subst c5
      rw [if_neg (show ¬ (false = true) by decide)] at H
      by_cases c15 : (a0.size : Int) < (a1.size : Int)
      ·
       rw [if_pos c15] at H
       have c15b0 := decide_eq_true c15
       have c15b1 : decide (a0.size < a1.size) = true := decide_eq_true (Int.ofNat_lt.mp c15)
       clear c15
       obtain rfl := Option.some.inj H
       go_wp2
       repeat (go_quiet (fail); try go_wp2)
       go_ret
       exact ⟨ap2, ap7⟩
      ·
       rw [if_neg c15] at H
       have c15b0 := decide_eq_false c15
       have c15b1 : decide (a0.size < a1.size) = false := decide_eq_false (fun h => c15 (Int.ofNat_lt.mpr h))
       clear c15
       by_cases c16 : (a0.size : Int) > (a1.size : Int)
       ·
        rw [if_pos c16] at H
        have c16b0 := decide_eq_true c16
        have c16b1 : decide (a1.size < a0.size) = true := decide_eq_true (Int.ofNat_lt.mp c16)
        clear c16
        obtain rfl := Option.some.inj H
        go_wp2
        repeat (go_quiet (fail); try go_wp2)
        go_ret
        exact ⟨ap2, ap7⟩
       ·
        rw [if_neg c16] at H
        have c16b0 := decide_eq_false c16
        have c16b1 : decide (a1.size < a0.size) = false := decide_eq_false (fun h => c16 (Int.ofNat_lt.mpr h))
        clear c16
        obtain rfl := Option.some.inj H
        go_wp2
        repeat (go_quiet (fail); try go_wp2)
        go_ret
        exact ⟨ap2, ap7⟩
end Go.Proofs.YtpklcnpmppaaoaaGreatDoor.Print
namespace Go.Proofs.YtpklcnpmppaaoaaGreatDoor.Print
open Go.RowKit Go.Proofs.YtpklcnpmppaaoaaGreatDoorW.PrintWords Go.Proofs.YtpklcnpmppaaoaaGreatDoorW.PrintLast Go.Proofs.YtpklcnpmppaaoaaGreatDoorW.PrintMore Go.Proofs.YtpklcnpmppaaoaaGreatDoor.Pure
set_option linter.unusedVariables false
set_option linter.unusedSimpArgs false
theorem ba_ext {a b : ByteArray} (h : bl a = bl b) : a = b := ByteArray.ext (Array.toList_inj.1 h)
theorem tl_bl (s : ByteArray) : s.toList = bl s := Lib.toList_data s
end Go.Proofs.YtpklcnpmppaaoaaGreatDoor.Print
namespace Go.Proofs.YtpklcnpmppaaoaaGreatDoor.Print
open Go.RowKit Go.Proofs.YtpklcnpmppaaoaaGreatDoorW.PrintWords Go.Proofs.YtpklcnpmppaaoaaGreatDoorW.PrintLast Go.Proofs.YtpklcnpmppaaoaaGreatDoorW.PrintMore
attribute [local go_sem] max2_int min2_int max_two min_two max_three min_three max_four min_four
set_option linter.unusedVariables false
set_option linter.unusedSimpArgs false
def attr_piece.f (k : Nat) (a0_0 : ByteArray) (a0_1 : Int) (a0_2 : Bool) (a1 : ByteArray) : Option (ByteArray × Int) := if a0_1 = 7 then ((prep_Phone.f k a1).bind fun bt427 => (some (bt427.1, bt427.2))) else ((prep_Map.f a1 (a0_1 == 1)).bind fun bt429 => (some (bt429.1, bt429.2)))
theorem attr_piece.mono : ∀ a0 a1 a2 a3 k, LeO (attr_piece.f k a0 a1 a2 a3) (attr_piece.f (k + 1) a0 a1 a2 a3) := by
 intro a0 a1 a2 a3 k
 unfold attr_piece.f
 repeat' first
   | (with_reducible exact prep_Phone.mono _ _)
   | (with_reducible exact LeO.refl _)
   | (with_reducible exact LeO.none _)
   | (with_reducible refine LeO.ite ?_ ?_)
   | (with_reducible refine LeO.bind ?_ (fun _ => ?_))
set_option maxHeartbeats 8000000 in
set_option maxRecDepth 100000 in
theorem attr_piece.calls (k : Nat) (a0_0 : ByteArray) (a0_1 : Int) (a0_2 : Bool) (a1 : ByteArray) (r1 : ByteArray) (r2 : Int) (w : World) (hG : Gw w) (h : attr_piece.f k a0_0 a0_1 a0_2 a1 = some (r1, r2)) :
  Calls Tryz.prog 33 #[.agg #[.string a0_0, .int .i64 a0_1, .bool a0_2], .string a1] w fun e w' => e = .returned (.tuple #[.string r1, .int .i64 r2]) ∧ Below w.heap.size w w' := by
 have hu23 := Tryz.underlying23
 have HB := Aside0.mk (Below.refl w.heap.size w)
 have HG := Aside0.mk hG
 clear hG
 have H : (if a0_1 = 7 then ((prep_Phone.f k a1).bind fun bt427 => (some (bt427.1, bt427.2))) else ((prep_Map.f a1 (a0_1 == 1)).bind fun bt429 => (some (bt429.1, bt429.2)))) = some (r1, r2) := h
 clear h
 by_cases c3 : a0_1 = 7
 ·
  rw [if_pos c3] at H
  have c3b0 : (a0_1 == 7) = true := beq_iff_eq.mpr c3
  have c3b1 : (a0_1 != 7) = false := bne_eq_false_iff_eq.mpr c3
  clear c3
  replace H := Option.bind_eq_some_iff.mp H
  obtain ⟨⟨t427, t428⟩, A40, H⟩ := H
  replace H : (some (t427, t428)) = some (r1, r2) := H
  have A4 := Aside0.mk A40
  clear A40
  simp only [Option.some.injEq, Prod.mk.injEq] at H
  obtain ⟨rfl, rfl⟩ := H
  go_enter Tryz.func33, Tryz.ntmps33
  go_wp2_with (first | ((with_reducible refine gate_dst (N := 2) rfl ?_); refine box_event ?hg (N := 2) ?hd (cs := #[.string a0_0, .int .i64 a0_1, .bool a0_2]) (t := 23) ?hr ?_; (case hd => rfl); (case hg => rfl); (case hr => first | (go_simp; done) | (go_simp; rfl)); intro gb426 hg w5 hbox hb; have n0_ := Aside0.mk (below_step ap1 hb); have n1_ := Aside0.mk (hbox); have n2_ := Aside0.mk ((by rw [hg]; exact (below_size ap1) : w.heap.size ≤ gb426)); have n3_ := Aside0.mk ((by rw [hg]; exact (below_size ap1) : w.heap.size ≤ gb426)); clear HB; have HB := n0_; have BK426 := n1_; have GW426 := n2_; have GE426 := n3_; clear n0_ n1_ n2_ n3_; clear hb hbox hg; have hcz6_0 : w5.cell? ⟨gb426, 0, none⟩ = some (.string a0_0) := (blk_cell BK426.out 0).trans rfl; have hcz6_1 : w5.cell? ⟨gb426, 1, none⟩ = some (.int .i64 a0_1) := (blk_cell BK426.out 1).trans rfl; have hcz6_2 : w5.cell? ⟨gb426, 2, none⟩ = some (.bool a0_2) := (blk_cell BK426.out 2).trans rfl; have hfz6_0 := blk_frozen BK426.out 0; have hfz6_1 := blk_frozen BK426.out 1; have hfz6_2 := blk_frozen BK426.out 2) | ((with_reducible refine gate_callee (f := 56) rfl ?_); refine goesL_ (some 10) rfl rfl Tryz.func56 (by kernel_rfl) rfl #[.string a1] rfl ap3 ?_; (with_reducible refine (prep_Phone.calls k a1 t427 t428 _ ?side1 A4.out).mono ?_); (case side1 => first | exact HG.out | (refine Gw.below HG.out ?_; repeat (first | (with_reducible first | exact HB.out | apply below_alloc | apply pw_below_drewN | apply below_drew1 | refine below_set ?_ GE426.out) | exact HB.out))); rintro e w7 ⟨rfl, hb⟩; refine ⟨_, rfl, ?_⟩; have n0_ := Aside0.mk (blk_below (g := gb426) (o := .cells #[.string a0_0, .int .i64 a0_1, .bool a0_2] 23 (0, 0)) (apB BK426.out) hb); have n1_ := Aside0.mk (below_step (apG GE426.out) hb); clear BK426; clear HB; have BK426 := n0_; have HB := n1_; clear n0_ n1_; (try clear hb); (try clear hb2); (try clear hk); (try clear hi)))
  go_ret2
  exact ⟨by first | rfl | (simp [errW_none, errW_some, bne_nil8, beq_nil8]; done) | (simp [errW_none, errW_some] <;> rfl) | (simp [*, errW_none, errW_some] <;> rfl), by repeat (first | (with_reducible first | exact HB.out | apply below_alloc | apply pw_below_drewN | apply below_drew1 | refine below_set ?_ GE426.out) | exact HB.out)⟩
 ·
  rw [if_neg c3] at H
  have c3b0 : (a0_1 == 7) = false := beq_eq_false_iff_ne.mpr c3
  have c3b1 : (a0_1 != 7) = true := bne_iff_ne.mpr c3
  replace H := Option.bind_eq_some_iff.mp H
  obtain ⟨⟨t429, t430⟩, A80, H⟩ := H
  replace H : (some (t429, t430)) = some (r1, r2) := H
  have A8 := Aside0.mk A80
  clear A80
  simp only [Option.some.injEq, Prod.mk.injEq] at H
  obtain ⟨rfl, rfl⟩ := H
  go_enter Tryz.func33, Tryz.ntmps33
  go_wp2_with (first | ((with_reducible refine gate_dst (N := 2) rfl ?_); refine box_event ?hg (N := 2) ?hd (cs := #[.string a0_0, .int .i64 a0_1, .bool a0_2]) (t := 23) ?hr ?_; (case hd => rfl); (case hg => rfl); (case hr => first | (go_simp; done) | (go_simp; rfl)); intro gb426 hg w9 hbox hb; have n0_ := Aside0.mk (below_step ap1 hb); have n1_ := Aside0.mk (hbox); have n2_ := Aside0.mk ((by rw [hg]; exact (below_size ap1) : w.heap.size ≤ gb426)); have n3_ := Aside0.mk ((by rw [hg]; exact (below_size ap1) : w.heap.size ≤ gb426)); clear HB; have HB := n0_; have BK426 := n1_; have GW426 := n2_; have GE426 := n3_; clear n0_ n1_ n2_ n3_; clear hb hbox hg; have hcz10_0 : w9.cell? ⟨gb426, 0, none⟩ = some (.string a0_0) := (blk_cell BK426.out 0).trans rfl; have hcz10_1 : w9.cell? ⟨gb426, 1, none⟩ = some (.int .i64 a0_1) := (blk_cell BK426.out 1).trans rfl; have hcz10_2 : w9.cell? ⟨gb426, 2, none⟩ = some (.bool a0_2) := (blk_cell BK426.out 2).trans rfl; have hfz10_0 := blk_frozen BK426.out 0; have hfz10_1 := blk_frozen BK426.out 1; have hfz10_2 := blk_frozen BK426.out 2) | ((with_reducible refine gate_callee (f := 57) rfl ?_); refine goesL_ (some 17) rfl rfl Tryz.func57 (by kernel_rfl) rfl #[.string a1, .bool (a0_1 == 1)] rfl ap3 ?_; (with_reducible refine (prep_Map.calls a1 (a0_1 == 1) t429 t430 _ A8.out).mono ?_); rintro e w11 ⟨rfl, hb⟩; refine ⟨_, rfl, ?_⟩; have n0_ := Aside0.mk (blk_below (g := gb426) (o := .cells #[.string a0_0, .int .i64 a0_1, .bool a0_2] 23 (0, 0)) (apB BK426.out) hb); have n1_ := Aside0.mk (below_step (apG GE426.out) hb); clear BK426; clear HB; have BK426 := n0_; have HB := n1_; clear n0_ n1_; (try clear hb); (try clear hb2); (try clear hk); (try clear hi)))
  go_ret2
  exact ⟨by first | rfl | (simp [errW_none, errW_some, bne_nil8, beq_nil8]; done) | (simp [errW_none, errW_some] <;> rfl) | (simp [*, errW_none, errW_some] <;> rfl), by repeat (first | (with_reducible first | exact HB.out | apply below_alloc | apply pw_below_drewN | apply below_drew1 | refine below_set ?_ GE426.out) | exact HB.out)⟩
def attr_both.f (k : Nat) (a0_0 : ByteArray) (a0_1 : Int) (a0_2 : Bool) (a1 : ByteArray) (a2 : ByteArray) : Option (ByteArray × ByteArray × Int) := (attr_Normal.f k a0_0 a0_1 a0_2 a1).bind fun bt372 => (if bt372.2 = 0 then ((attr_Normal.f k a0_0 a0_1 a0_2 a2).bind fun bt374 => (if bt374.2 = 0 then (some (bt372.1, bt374.1, 0)) else (some ((⟨#[]⟩ : ByteArray), (⟨#[]⟩ : ByteArray), bt374.2)))) else (some ((⟨#[]⟩ : ByteArray), (⟨#[]⟩ : ByteArray), bt372.2)))
theorem attr_both.mono : ∀ a0 a1 a2 a3 a4 k, LeO (attr_both.f k a0 a1 a2 a3 a4) (attr_both.f (k + 1) a0 a1 a2 a3 a4) := by
 intro a0 a1 a2 a3 a4 k
 unfold attr_both.f
 repeat' first
   | (with_reducible exact attr_Normal.mono _ _ _ _ _)
   | (with_reducible exact LeO.refl _)
   | (with_reducible exact LeO.none _)
   | (with_reducible refine LeO.ite ?_ ?_)
   | (with_reducible refine LeO.bind ?_ (fun _ => ?_))
set_option maxHeartbeats 8000000 in
set_option maxRecDepth 100000 in
theorem attr_both.calls (k : Nat) (a0_0 : ByteArray) (a0_1 : Int) (a0_2 : Bool) (a1 : ByteArray) (a2 : ByteArray) (r1 : ByteArray) (r2 : ByteArray) (r3 : Int) (w : World) (hG : Gw w) (h : attr_both.f k a0_0 a0_1 a0_2 a1 a2 = some (r1, r2, r3)) :
  Calls Tryz.prog 25 #[.agg #[.string a0_0, .int .i64 a0_1, .bool a0_2], .string a1, .string a2] w fun e w' => e = .returned (.tuple #[.string r1, .string r2, .int .i64 r3]) ∧ Below w.heap.size w w' := by
 have hu23 := Tryz.underlying23
 have HB := Aside0.mk (Below.refl w.heap.size w)
 have HG := Aside0.mk hG
 clear hG
 have H : ((attr_Normal.f k a0_0 a0_1 a0_2 a1).bind fun bt372 => (if bt372.2 = 0 then ((attr_Normal.f k a0_0 a0_1 a0_2 a2).bind fun bt374 => (if bt374.2 = 0 then (some (bt372.1, bt374.1, 0)) else (some ((⟨#[]⟩ : ByteArray), (⟨#[]⟩ : ByteArray), bt374.2)))) else (some ((⟨#[]⟩ : ByteArray), (⟨#[]⟩ : ByteArray), bt372.2)))) = some (r1, r2, r3) := h
 clear h
 replace H := Option.bind_eq_some_iff.mp H
 obtain ⟨⟨t372, t373⟩, A40, H⟩ := H
 replace H : (if t373 = 0 then ((attr_Normal.f k a0_0 a0_1 a0_2 a2).bind fun bt374 => (if bt374.2 = 0 then (some (t372, bt374.1, 0)) else (some ((⟨#[]⟩ : ByteArray), (⟨#[]⟩ : ByteArray), bt374.2)))) else (some ((⟨#[]⟩ : ByteArray), (⟨#[]⟩ : ByteArray), t373))) = some (r1, r2, r3) := H
 have A4 := Aside0.mk A40
 clear A40
 by_cases c5 : t373 = 0
 ·
  rw [if_pos c5] at H
  have c5b0 : (t373 == 0) = true := beq_iff_eq.mpr c5
  have c5b1 : (t373 != 0) = false := bne_eq_false_iff_eq.mpr c5
  clear c5
  replace H := Option.bind_eq_some_iff.mp H
  obtain ⟨⟨t374, t375⟩, A60, H⟩ := H
  replace H : (if t375 = 0 then (some (t372, t374, 0)) else (some ((⟨#[]⟩ : ByteArray), (⟨#[]⟩ : ByteArray), t375))) = some (r1, r2, r3) := H
  have A6 := Aside0.mk A60
  clear A60
  by_cases c7 : t375 = 0
  ·
   rw [if_pos c7] at H
   have c7b0 : (t375 == 0) = true := beq_iff_eq.mpr c7
   have c7b1 : (t375 != 0) = false := bne_eq_false_iff_eq.mpr c7
   clear c7
   simp only [Option.some.injEq, Prod.mk.injEq] at H
   obtain ⟨rfl, rfl, rfl⟩ := H
   go_enter Tryz.func25, Tryz.ntmps25
   go_wp2_with (first | ((with_reducible refine gate_dst (N := 3) rfl ?_); refine box_event ?hg (N := 3) ?hd (cs := #[.string a0_0, .int .i64 a0_1, .bool a0_2]) (t := 23) ?hr ?_; (case hd => rfl); (case hg => rfl); (case hr => first | (go_simp; done) | (go_simp; rfl)); intro gb371 hg w8 hbox hb; have n0_ := Aside0.mk (below_step ap1 hb); have n1_ := Aside0.mk (hbox); have n2_ := Aside0.mk ((by rw [hg]; exact (below_size ap1) : w.heap.size ≤ gb371)); have n3_ := Aside0.mk ((by rw [hg]; exact (below_size ap1) : w.heap.size ≤ gb371)); clear HB; have HB := n0_; have BK371 := n1_; have GW371 := n2_; have GE371 := n3_; clear n0_ n1_ n2_ n3_; clear hb hbox hg; have hcz9_0 : w8.cell? ⟨gb371, 0, none⟩ = some (.string a0_0) := (blk_cell BK371.out 0).trans rfl; have hcz9_1 : w8.cell? ⟨gb371, 1, none⟩ = some (.int .i64 a0_1) := (blk_cell BK371.out 1).trans rfl; have hcz9_2 : w8.cell? ⟨gb371, 2, none⟩ = some (.bool a0_2) := (blk_cell BK371.out 2).trans rfl; have hfz9_0 := blk_frozen BK371.out 0; have hfz9_1 := blk_frozen BK371.out 1; have hfz9_2 := blk_frozen BK371.out 2) | ((with_reducible refine gate_callee (f := 19) rfl ?_); refine goesL_ (some 15) rfl rfl Tryz.func19 (by kernel_rfl) rfl #[.agg #[.string a0_0, .int .i64 a0_1, .bool a0_2], .string a1] rfl ap3 ?_; (with_reducible refine (attr_Normal.calls k a0_0 a0_1 a0_2 a1 t372 t373 _ ?side1 A4.out).mono ?_); (case side1 => first | exact HG.out | (refine Gw.below HG.out ?_; repeat (first | (with_reducible first | exact HB.out | apply below_alloc | apply pw_below_drewN | apply below_drew1 | refine below_set ?_ GE371.out) | exact HB.out))); rintro e w10 ⟨rfl, hb⟩; refine ⟨_, rfl, ?_⟩; have n0_ := Aside0.mk (blk_below (g := gb371) (o := .cells #[.string a0_0, .int .i64 a0_1, .bool a0_2] 23 (0, 0)) (apB BK371.out) hb); have n1_ := Aside0.mk (below_step (apG GE371.out) hb); clear BK371; clear HB; have BK371 := n0_; have HB := n1_; clear n0_ n1_; (try clear hb); (try clear hb2); (try clear hk); (try clear hi); have hcz11_0 : w10.cell? ⟨gb371, 0, none⟩ = some (.string a0_0) := (blk_cell BK371.out 0).trans rfl; have hcz11_1 : w10.cell? ⟨gb371, 1, none⟩ = some (.int .i64 a0_1) := (blk_cell BK371.out 1).trans rfl; have hcz11_2 : w10.cell? ⟨gb371, 2, none⟩ = some (.bool a0_2) := (blk_cell BK371.out 2).trans rfl; have hfz11_0 := blk_frozen BK371.out 0; have hfz11_1 := blk_frozen BK371.out 1; have hfz11_2 := blk_frozen BK371.out 2) | ((with_reducible refine gate_callee (f := 19) rfl ?_); refine goesL_ (some 24) rfl rfl Tryz.func19 (by kernel_rfl) rfl #[.agg #[.string a0_0, .int .i64 a0_1, .bool a0_2], .string a2] rfl ap3 ?_; (with_reducible refine (attr_Normal.calls k a0_0 a0_1 a0_2 a2 t374 t375 _ ?side1 A6.out).mono ?_); (case side1 => first | exact HG.out | (refine Gw.below HG.out ?_; repeat (first | (with_reducible first | exact HB.out | apply below_alloc | apply pw_below_drewN | apply below_drew1 | refine below_set ?_ GE371.out) | exact HB.out))); rintro e w12 ⟨rfl, hb⟩; refine ⟨_, rfl, ?_⟩; have n0_ := Aside0.mk (blk_below (g := gb371) (o := .cells #[.string a0_0, .int .i64 a0_1, .bool a0_2] 23 (0, 0)) (apB BK371.out) hb); have n1_ := Aside0.mk (below_step (apG GE371.out) hb); clear BK371; clear HB; have BK371 := n0_; have HB := n1_; clear n0_ n1_; (try clear hb); (try clear hb2); (try clear hk); (try clear hi)))
   go_ret3
   exact ⟨by first | rfl | (simp [errW_none, errW_some, bne_nil8, beq_nil8]; done) | (simp [errW_none, errW_some] <;> rfl) | (simp [*, errW_none, errW_some] <;> rfl), by repeat (first | (with_reducible first | exact HB.out | apply below_alloc | apply pw_below_drewN | apply below_drew1 | refine below_set ?_ GE371.out) | exact HB.out)⟩
  ·
   rw [if_neg c7] at H
   have c7b0 : (t375 == 0) = false := beq_eq_false_iff_ne.mpr c7
   have c7b1 : (t375 != 0) = true := bne_iff_ne.mpr c7
   simp only [Option.some.injEq, Prod.mk.injEq] at H
   obtain ⟨rfl, rfl, rfl⟩ := H
   go_enter Tryz.func25, Tryz.ntmps25
   go_wp2_with (first | ((with_reducible refine gate_dst (N := 3) rfl ?_); refine box_event ?hg (N := 3) ?hd (cs := #[.string a0_0, .int .i64 a0_1, .bool a0_2]) (t := 23) ?hr ?_; (case hd => rfl); (case hg => rfl); (case hr => first | (go_simp; done) | (go_simp; rfl)); intro gb371 hg w13 hbox hb; have n0_ := Aside0.mk (below_step ap1 hb); have n1_ := Aside0.mk (hbox); have n2_ := Aside0.mk ((by rw [hg]; exact (below_size ap1) : w.heap.size ≤ gb371)); have n3_ := Aside0.mk ((by rw [hg]; exact (below_size ap1) : w.heap.size ≤ gb371)); clear HB; have HB := n0_; have BK371 := n1_; have GW371 := n2_; have GE371 := n3_; clear n0_ n1_ n2_ n3_; clear hb hbox hg; have hcz14_0 : w13.cell? ⟨gb371, 0, none⟩ = some (.string a0_0) := (blk_cell BK371.out 0).trans rfl; have hcz14_1 : w13.cell? ⟨gb371, 1, none⟩ = some (.int .i64 a0_1) := (blk_cell BK371.out 1).trans rfl; have hcz14_2 : w13.cell? ⟨gb371, 2, none⟩ = some (.bool a0_2) := (blk_cell BK371.out 2).trans rfl; have hfz14_0 := blk_frozen BK371.out 0; have hfz14_1 := blk_frozen BK371.out 1; have hfz14_2 := blk_frozen BK371.out 2) | ((with_reducible refine gate_callee (f := 19) rfl ?_); refine goesL_ (some 15) rfl rfl Tryz.func19 (by kernel_rfl) rfl #[.agg #[.string a0_0, .int .i64 a0_1, .bool a0_2], .string a1] rfl ap3 ?_; (with_reducible refine (attr_Normal.calls k a0_0 a0_1 a0_2 a1 t372 t373 _ ?side1 A4.out).mono ?_); (case side1 => first | exact HG.out | (refine Gw.below HG.out ?_; repeat (first | (with_reducible first | exact HB.out | apply below_alloc | apply pw_below_drewN | apply below_drew1 | refine below_set ?_ GE371.out) | exact HB.out))); rintro e w15 ⟨rfl, hb⟩; refine ⟨_, rfl, ?_⟩; have n0_ := Aside0.mk (blk_below (g := gb371) (o := .cells #[.string a0_0, .int .i64 a0_1, .bool a0_2] 23 (0, 0)) (apB BK371.out) hb); have n1_ := Aside0.mk (below_step (apG GE371.out) hb); clear BK371; clear HB; have BK371 := n0_; have HB := n1_; clear n0_ n1_; (try clear hb); (try clear hb2); (try clear hk); (try clear hi); have hcz16_0 : w15.cell? ⟨gb371, 0, none⟩ = some (.string a0_0) := (blk_cell BK371.out 0).trans rfl; have hcz16_1 : w15.cell? ⟨gb371, 1, none⟩ = some (.int .i64 a0_1) := (blk_cell BK371.out 1).trans rfl; have hcz16_2 : w15.cell? ⟨gb371, 2, none⟩ = some (.bool a0_2) := (blk_cell BK371.out 2).trans rfl; have hfz16_0 := blk_frozen BK371.out 0; have hfz16_1 := blk_frozen BK371.out 1; have hfz16_2 := blk_frozen BK371.out 2) | ((with_reducible refine gate_callee (f := 19) rfl ?_); refine goesL_ (some 24) rfl rfl Tryz.func19 (by kernel_rfl) rfl #[.agg #[.string a0_0, .int .i64 a0_1, .bool a0_2], .string a2] rfl ap3 ?_; (with_reducible refine (attr_Normal.calls k a0_0 a0_1 a0_2 a2 t374 t375 _ ?side1 A6.out).mono ?_); (case side1 => first | exact HG.out | (refine Gw.below HG.out ?_; repeat (first | (with_reducible first | exact HB.out | apply below_alloc | apply pw_below_drewN | apply below_drew1 | refine below_set ?_ GE371.out) | exact HB.out))); rintro e w17 ⟨rfl, hb⟩; refine ⟨_, rfl, ?_⟩; have n0_ := Aside0.mk (blk_below (g := gb371) (o := .cells #[.string a0_0, .int .i64 a0_1, .bool a0_2] 23 (0, 0)) (apB BK371.out) hb); have n1_ := Aside0.mk (below_step (apG GE371.out) hb); clear BK371; clear HB; have BK371 := n0_; have HB := n1_; clear n0_ n1_; (try clear hb); (try clear hb2); (try clear hk); (try clear hi)))
   go_ret3
   exact ⟨by first | rfl | (simp [errW_none, errW_some, bne_nil8, beq_nil8]; done) | (simp [errW_none, errW_some] <;> rfl) | (simp [*, errW_none, errW_some] <;> rfl), by repeat (first | (with_reducible first | exact HB.out | apply below_alloc | apply pw_below_drewN | apply below_drew1 | refine below_set ?_ GE371.out) | exact HB.out)⟩
 ·
  rw [if_neg c5] at H
  have c5b0 : (t373 == 0) = false := beq_eq_false_iff_ne.mpr c5
  have c5b1 : (t373 != 0) = true := bne_iff_ne.mpr c5
  simp only [Option.some.injEq, Prod.mk.injEq] at H
  obtain ⟨rfl, rfl, rfl⟩ := H
  go_enter Tryz.func25, Tryz.ntmps25
  go_wp2_with (first | ((with_reducible refine gate_dst (N := 3) rfl ?_); refine box_event ?hg (N := 3) ?hd (cs := #[.string a0_0, .int .i64 a0_1, .bool a0_2]) (t := 23) ?hr ?_; (case hd => rfl); (case hg => rfl); (case hr => first | (go_simp; done) | (go_simp; rfl)); intro gb371 hg w18 hbox hb; have n0_ := Aside0.mk (below_step ap1 hb); have n1_ := Aside0.mk (hbox); have n2_ := Aside0.mk ((by rw [hg]; exact (below_size ap1) : w.heap.size ≤ gb371)); have n3_ := Aside0.mk ((by rw [hg]; exact (below_size ap1) : w.heap.size ≤ gb371)); clear HB; have HB := n0_; have BK371 := n1_; have GW371 := n2_; have GE371 := n3_; clear n0_ n1_ n2_ n3_; clear hb hbox hg; have hcz19_0 : w18.cell? ⟨gb371, 0, none⟩ = some (.string a0_0) := (blk_cell BK371.out 0).trans rfl; have hcz19_1 : w18.cell? ⟨gb371, 1, none⟩ = some (.int .i64 a0_1) := (blk_cell BK371.out 1).trans rfl; have hcz19_2 : w18.cell? ⟨gb371, 2, none⟩ = some (.bool a0_2) := (blk_cell BK371.out 2).trans rfl; have hfz19_0 := blk_frozen BK371.out 0; have hfz19_1 := blk_frozen BK371.out 1; have hfz19_2 := blk_frozen BK371.out 2) | ((with_reducible refine gate_callee (f := 19) rfl ?_); refine goesL_ (some 15) rfl rfl Tryz.func19 (by kernel_rfl) rfl #[.agg #[.string a0_0, .int .i64 a0_1, .bool a0_2], .string a1] rfl ap3 ?_; (with_reducible refine (attr_Normal.calls k a0_0 a0_1 a0_2 a1 t372 t373 _ ?side1 A4.out).mono ?_); (case side1 => first | exact HG.out | (refine Gw.below HG.out ?_; repeat (first | (with_reducible first | exact HB.out | apply below_alloc | apply pw_below_drewN | apply below_drew1 | refine below_set ?_ GE371.out) | exact HB.out))); rintro e w20 ⟨rfl, hb⟩; refine ⟨_, rfl, ?_⟩; have n0_ := Aside0.mk (blk_below (g := gb371) (o := .cells #[.string a0_0, .int .i64 a0_1, .bool a0_2] 23 (0, 0)) (apB BK371.out) hb); have n1_ := Aside0.mk (below_step (apG GE371.out) hb); clear BK371; clear HB; have BK371 := n0_; have HB := n1_; clear n0_ n1_; (try clear hb); (try clear hb2); (try clear hk); (try clear hi)))
  go_ret3
  exact ⟨by first | rfl | (simp [errW_none, errW_some, bne_nil8, beq_nil8]; done) | (simp [errW_none, errW_some] <;> rfl) | (simp [*, errW_none, errW_some] <;> rfl), by repeat (first | (with_reducible first | exact HB.out | apply below_alloc | apply pw_below_drewN | apply below_drew1 | refine below_set ?_ GE371.out) | exact HB.out)⟩
def attr_Equal.f (k : Nat) (a0_0 : ByteArray) (a0_1 : Int) (a0_2 : Bool) (a1 : ByteArray) (a2 : ByteArray) : Option (Bool × Int) := (attr_both.f k a0_0 a0_1 a0_2 a1 a2).bind fun bt377 => (if bt377.2.2 = 0 then (some ((bt377.1.toList == bt377.2.1.toList), bt377.2.2)) else (some (false, bt377.2.2)))
theorem attr_Equal.mono : ∀ a0 a1 a2 a3 a4 k, LeO (attr_Equal.f k a0 a1 a2 a3 a4) (attr_Equal.f (k + 1) a0 a1 a2 a3 a4) := by
 intro a0 a1 a2 a3 a4 k
 unfold attr_Equal.f
 repeat' first
   | (with_reducible exact attr_both.mono _ _ _ _ _ _)
   | (with_reducible exact LeO.refl _)
   | (with_reducible exact LeO.none _)
   | (with_reducible refine LeO.ite ?_ ?_)
   | (with_reducible refine LeO.bind ?_ (fun _ => ?_))
set_option maxHeartbeats 8000000 in
set_option maxRecDepth 100000 in
theorem attr_Equal.calls (k : Nat) (a0_0 : ByteArray) (a0_1 : Int) (a0_2 : Bool) (a1 : ByteArray) (a2 : ByteArray) (r1 : Bool) (r2 : Int) (w : World) (hG : Gw w) (h : attr_Equal.f k a0_0 a0_1 a0_2 a1 a2 = some (r1, r2)) :
  Calls Tryz.prog 10 #[.agg #[.string a0_0, .int .i64 a0_1, .bool a0_2], .string a1, .string a2] w fun e w' => e = .returned (.tuple #[.bool r1, .int .i64 r2]) ∧ Below w.heap.size w w' := by
 have hu23 := Tryz.underlying23
 have HB := Aside0.mk (Below.refl w.heap.size w)
 have HG := Aside0.mk hG
 clear hG
 have H : ((attr_both.f k a0_0 a0_1 a0_2 a1 a2).bind fun bt377 => (if bt377.2.2 = 0 then (some ((bt377.1.toList == bt377.2.1.toList), bt377.2.2)) else (some (false, bt377.2.2)))) = some (r1, r2) := h
 clear h
 replace H := Option.bind_eq_some_iff.mp H
 obtain ⟨⟨t377, t378, t379⟩, A40, H⟩ := H
 replace H : (if t379 = 0 then (some ((t377.toList == t378.toList), t379)) else (some (false, t379))) = some (r1, r2) := H
 have A4 := Aside0.mk A40
 clear A40
 by_cases c5 : t379 = 0
 ·
  rw [if_pos c5] at H
  have c5b0 : (t379 == 0) = true := beq_iff_eq.mpr c5
  have c5b1 : (t379 != 0) = false := bne_eq_false_iff_eq.mpr c5
  clear c5
  simp only [Option.some.injEq, Prod.mk.injEq] at H
  obtain ⟨rfl, rfl⟩ := H
  go_enter Tryz.func10, Tryz.ntmps10
  go_wp2_with (first | ((with_reducible refine gate_dst (N := 3) rfl ?_); refine box_event ?hg (N := 3) ?hd (cs := #[.string a0_0, .int .i64 a0_1, .bool a0_2]) (t := 23) ?hr ?_; (case hd => rfl); (case hg => rfl); (case hr => first | (go_simp; done) | (go_simp; rfl)); intro gb376 hg w6 hbox hb; have n0_ := Aside0.mk (below_step ap1 hb); have n1_ := Aside0.mk (hbox); have n2_ := Aside0.mk ((by rw [hg]; exact (below_size ap1) : w.heap.size ≤ gb376)); have n3_ := Aside0.mk ((by rw [hg]; exact (below_size ap1) : w.heap.size ≤ gb376)); clear HB; have HB := n0_; have BK376 := n1_; have GW376 := n2_; have GE376 := n3_; clear n0_ n1_ n2_ n3_; clear hb hbox hg; have hcz7_0 : w6.cell? ⟨gb376, 0, none⟩ = some (.string a0_0) := (blk_cell BK376.out 0).trans rfl; have hcz7_1 : w6.cell? ⟨gb376, 1, none⟩ = some (.int .i64 a0_1) := (blk_cell BK376.out 1).trans rfl; have hcz7_2 : w6.cell? ⟨gb376, 2, none⟩ = some (.bool a0_2) := (blk_cell BK376.out 2).trans rfl; have hfz7_0 := blk_frozen BK376.out 0; have hfz7_1 := blk_frozen BK376.out 1; have hfz7_2 := blk_frozen BK376.out 2) | ((with_reducible refine gate_callee (f := 25) rfl ?_); refine goesL_ (some 15) rfl rfl Tryz.func25 (by kernel_rfl) rfl #[.agg #[.string a0_0, .int .i64 a0_1, .bool a0_2], .string a1, .string a2] rfl ap3 ?_; (with_reducible refine (attr_both.calls k a0_0 a0_1 a0_2 a1 a2 t377 t378 t379 _ ?side1 A4.out).mono ?_); (case side1 => first | exact HG.out | (refine Gw.below HG.out ?_; repeat (first | (with_reducible first | exact HB.out | apply below_alloc | apply pw_below_drewN | apply below_drew1 | refine below_set ?_ GE376.out) | exact HB.out))); rintro e w8 ⟨rfl, hb⟩; refine ⟨_, rfl, ?_⟩; have n0_ := Aside0.mk (blk_below (g := gb376) (o := .cells #[.string a0_0, .int .i64 a0_1, .bool a0_2] 23 (0, 0)) (apB BK376.out) hb); have n1_ := Aside0.mk (below_step (apG GE376.out) hb); clear BK376; clear HB; have BK376 := n0_; have HB := n1_; clear n0_ n1_; (try clear hb); (try clear hb2); (try clear hk); (try clear hi)))
  go_ret2
  exact ⟨by first | rfl | (simp [errW_none, errW_some, bne_nil8, beq_nil8]; done) | (simp [errW_none, errW_some] <;> rfl) | (simp [*, errW_none, errW_some] <;> rfl), by repeat (first | (with_reducible first | exact HB.out | apply below_alloc | apply pw_below_drewN | apply below_drew1 | refine below_set ?_ GE376.out) | exact HB.out)⟩
 ·
  rw [if_neg c5] at H
  have c5b0 : (t379 == 0) = false := beq_eq_false_iff_ne.mpr c5
  have c5b1 : (t379 != 0) = true := bne_iff_ne.mpr c5
  simp only [Option.some.injEq, Prod.mk.injEq] at H
  obtain ⟨rfl, rfl⟩ := H
  go_enter Tryz.func10, Tryz.ntmps10
  go_wp2_with (first | ((with_reducible refine gate_dst (N := 3) rfl ?_); refine box_event ?hg (N := 3) ?hd (cs := #[.string a0_0, .int .i64 a0_1, .bool a0_2]) (t := 23) ?hr ?_; (case hd => rfl); (case hg => rfl); (case hr => first | (go_simp; done) | (go_simp; rfl)); intro gb376 hg w9 hbox hb; have n0_ := Aside0.mk (below_step ap1 hb); have n1_ := Aside0.mk (hbox); have n2_ := Aside0.mk ((by rw [hg]; exact (below_size ap1) : w.heap.size ≤ gb376)); have n3_ := Aside0.mk ((by rw [hg]; exact (below_size ap1) : w.heap.size ≤ gb376)); clear HB; have HB := n0_; have BK376 := n1_; have GW376 := n2_; have GE376 := n3_; clear n0_ n1_ n2_ n3_; clear hb hbox hg; have hcz10_0 : w9.cell? ⟨gb376, 0, none⟩ = some (.string a0_0) := (blk_cell BK376.out 0).trans rfl; have hcz10_1 : w9.cell? ⟨gb376, 1, none⟩ = some (.int .i64 a0_1) := (blk_cell BK376.out 1).trans rfl; have hcz10_2 : w9.cell? ⟨gb376, 2, none⟩ = some (.bool a0_2) := (blk_cell BK376.out 2).trans rfl; have hfz10_0 := blk_frozen BK376.out 0; have hfz10_1 := blk_frozen BK376.out 1; have hfz10_2 := blk_frozen BK376.out 2) | ((with_reducible refine gate_callee (f := 25) rfl ?_); refine goesL_ (some 15) rfl rfl Tryz.func25 (by kernel_rfl) rfl #[.agg #[.string a0_0, .int .i64 a0_1, .bool a0_2], .string a1, .string a2] rfl ap3 ?_; (with_reducible refine (attr_both.calls k a0_0 a0_1 a0_2 a1 a2 t377 t378 t379 _ ?side1 A4.out).mono ?_); (case side1 => first | exact HG.out | (refine Gw.below HG.out ?_; repeat (first | (with_reducible first | exact HB.out | apply below_alloc | apply pw_below_drewN | apply below_drew1 | refine below_set ?_ GE376.out) | exact HB.out))); rintro e w11 ⟨rfl, hb⟩; refine ⟨_, rfl, ?_⟩; have n0_ := Aside0.mk (blk_below (g := gb376) (o := .cells #[.string a0_0, .int .i64 a0_1, .bool a0_2] 23 (0, 0)) (apB BK376.out) hb); have n1_ := Aside0.mk (below_step (apG GE376.out) hb); clear BK376; clear HB; have BK376 := n0_; have HB := n1_; clear n0_ n1_; (try clear hb); (try clear hb2); (try clear hk); (try clear hi)))
  go_ret2
  exact ⟨by first | rfl | (simp [errW_none, errW_some, bne_nil8, beq_nil8]; done) | (simp [errW_none, errW_some] <;> rfl) | (simp [*, errW_none, errW_some] <;> rfl), by repeat (first | (with_reducible first | exact HB.out | apply below_alloc | apply pw_below_drewN | apply below_drew1 | refine below_set ?_ GE376.out) | exact HB.out)⟩
end Go.Proofs.YtpklcnpmppaaoaaGreatDoor.Print
namespace Go.Proofs
open Go.Shelf
def Tryz.laysC172_ren : Go.Shelf.Ren := ⟨fun | 172 => 26 | 244 => 50 | 245 => 51 | 247 => 77 | 279 => 78 | 280 => 79 | 281 => 80 | 282 => 81 | 287 => 108 | 316 => 109 | 171 => 111 | 205 => 110 | 321 => 130 | 322 => 131 | 243 => 132 | 246 => 152 | 283 => 172 | 284 => 173 | 285 => 174 | 286 => 175 | 129 => 171 | 317 => 182 | 318 => 183 | 319 => 184 | 320 => 185 | 337 => 187 | 338 => 188 | n => n, fun | 9 => 9 | 3 => 3 | 75 => 50 | 76 => 51 | 4 => 4 | 5 => 5 | 167 => 101 | 37 => 82 | 0 => 0 | 85 => 102 | 2 => 2 | 168 => 104 | 53 => 128 | 175 => 129 | 46 => 68 | 210 => 132 | 127 => 137 | 145 => 147 | 143 => 145 | 21 => 21 | 171 => 177 | 173 => 179 | 212 => 192 | 51 => 152 | 20 => 20 | 213 => 193 | 232 => 196 | 233 => 197 | 80 => 112 | n => n, fun | 15 => 2 | 16 => 3 | 17 => 6 | 18 => 7 | 19 => 8 | n => n⟩
theorem Tryz.laysC172 : Go.Proofs.LaysC.n172 Tryz.prog Tryz.laysC172_ren := {
  mixed := by kernel_rfl
  f129 := Tryz.func171.trans (congrArg some (by kernel_rfl))
  f171 := Tryz.func111.trans (congrArg some (by kernel_rfl))
  f172 := Tryz.func26.trans (congrArg some (by kernel_rfl))
  f205 := Tryz.func110.trans (congrArg some (by kernel_rfl))
  f243 := Tryz.func132.trans (congrArg some (by kernel_rfl))
  f244 := Tryz.func50.trans (congrArg some (by kernel_rfl))
  f245 := Tryz.func51.trans (congrArg some (by kernel_rfl))
  f246 := Tryz.func152.trans (congrArg some (by kernel_rfl))
  f247 := Tryz.func77.trans (congrArg some (by kernel_rfl))
  f279 := Tryz.func78.trans (congrArg some (by kernel_rfl))
  f280 := Tryz.func79.trans (congrArg some (by kernel_rfl))
  f281 := Tryz.func80.trans (congrArg some (by kernel_rfl))
  f282 := Tryz.func81.trans (congrArg some (by kernel_rfl))
  f283 := Tryz.func172.trans (congrArg some (by kernel_rfl))
  f284 := Tryz.func173.trans (congrArg some (by kernel_rfl))
  f285 := Tryz.func174.trans (congrArg some (by kernel_rfl))
  f286 := Tryz.func175.trans (congrArg some (by kernel_rfl))
  f287 := Tryz.func108.trans (congrArg some (by kernel_rfl))
  f316 := Tryz.func109.trans (congrArg some (by kernel_rfl))
  f317 := Tryz.func182.trans (congrArg some (by kernel_rfl))
  f318 := Tryz.func183.trans (congrArg some (by kernel_rfl))
  f319 := Tryz.func184.trans (congrArg some (by kernel_rfl))
  f320 := Tryz.func185.trans (congrArg some (by kernel_rfl))
  f321 := Tryz.func130.trans (congrArg some (by kernel_rfl))
  f322 := Tryz.func131.trans (congrArg some (by kernel_rfl))
  f337 := Tryz.func187.trans (congrArg some (by kernel_rfl))
  f338 := Tryz.func188.trans (congrArg some (by kernel_rfl))
  t0 := Tryz.underlying0
  a0 := Tryz.isAgg0
  z0 := Tryz.sizeOf0
  v0 := Tryz.zeroValue0
  t2 := Tryz.underlying2
  a2 := Tryz.isAgg2
  z2 := Tryz.sizeOf2
  v2 := Tryz.zeroValue2
  t3 := Tryz.underlying3
  a3 := Tryz.isAgg3
  z3 := Tryz.sizeOf3
  v3 := Tryz.zeroValue3
  t4 := Tryz.underlying4
  a4 := Tryz.isAgg4
  z4 := Tryz.sizeOf4
  v4 := Tryz.zeroValue4
  t5 := Tryz.underlying5
  a5 := Tryz.isAgg5
  z5 := Tryz.sizeOf5
  v5 := Tryz.zeroValue5
  t9 := Tryz.underlying9
  a9 := Tryz.isAgg9
  z9 := Tryz.sizeOf9
  v9 := Tryz.zeroValue9
  t20 := Tryz.underlying20
  a20 := Tryz.isAgg20
  z20 := Tryz.sizeOf20
  v20 := Tryz.zeroValue20
  t21 := Tryz.underlying21
  a21 := Tryz.isAgg21
  z21 := Tryz.sizeOf21
  v21 := Tryz.zeroValue21
  t37 := Tryz.underlying82
  a37 := Tryz.isAgg82
  z37 := Tryz.sizeOf82
  v37 := Tryz.zeroValue82
  t46 := Tryz.underlying68
  a46 := Tryz.isAgg68
  z46 := Tryz.sizeOf68
  v46 := Tryz.zeroValue68
  t51 := Tryz.underlying152
  a51 := Tryz.isAgg152
  z51 := Tryz.sizeOf152
  v51 := Tryz.zeroValue152
  t53 := Tryz.underlying128
  a53 := Tryz.isAgg128
  z53 := Tryz.sizeOf128
  v53 := Tryz.zeroValue128
  t75 := Tryz.underlying50
  a75 := Tryz.isAgg50
  z75 := Tryz.sizeOf50
  v75 := Tryz.zeroValue50
  t76 := Tryz.underlying51
  a76 := Tryz.isAgg51
  z76 := Tryz.sizeOf51
  v76 := Tryz.zeroValue51
  t85 := Tryz.underlying102
  a85 := Tryz.isAgg102
  z85 := Tryz.sizeOf102
  v85 := Tryz.zeroValue102
  t127 := Tryz.underlying137
  a127 := Tryz.isAgg137
  z127 := Tryz.sizeOf137
  v127 := Tryz.zeroValue137
  t143 := Tryz.underlying145
  a143 := Tryz.isAgg145
  z143 := Tryz.sizeOf145
  v143 := Tryz.zeroValue145
  t145 := Tryz.underlying147
  a145 := Tryz.isAgg147
  z145 := Tryz.sizeOf147
  v145 := Tryz.zeroValue147
  t167 := Tryz.underlying101
  a167 := Tryz.isAgg101
  z167 := Tryz.sizeOf101
  v167 := Tryz.zeroValue101
  t168 := Tryz.underlying104
  a168 := Tryz.isAgg104
  z168 := Tryz.sizeOf104
  v168 := Tryz.zeroValue104
  t171 := Tryz.underlying177
  a171 := Tryz.isAgg177
  z171 := Tryz.sizeOf177
  v171 := Tryz.zeroValue177
  t173 := Tryz.underlying179
  a173 := Tryz.isAgg179
  z173 := Tryz.sizeOf179
  v173 := Tryz.zeroValue179
  t175 := Tryz.underlying129
  a175 := Tryz.isAgg129
  z175 := Tryz.sizeOf129
  v175 := Tryz.zeroValue129
  t210 := Tryz.underlying132
  a210 := Tryz.isAgg132
  z210 := Tryz.sizeOf132
  v210 := Tryz.zeroValue132
  t212 := Tryz.underlying192
  a212 := Tryz.isAgg192
  z212 := Tryz.sizeOf192
  v212 := Tryz.zeroValue192
  t213 := Tryz.underlying193
  a213 := Tryz.isAgg193
  z213 := Tryz.sizeOf193
  t232 := Tryz.underlying196
  a232 := Tryz.isAgg196
  z232 := Tryz.sizeOf196
  v232 := Tryz.zeroValue196
  t233 := Tryz.underlying197
  a233 := Tryz.isAgg197
  z233 := Tryz.sizeOf197
  v233 := Tryz.zeroValue197
  g15 := by kernel_rfl
  g16 := by kernel_rfl
  g17 := by kernel_rfl
  g18 := by kernel_rfl
  g19 := by kernel_rfl
  t80 := Tryz.underlying112
  a80 := Tryz.isAgg112
  z80 := Tryz.sizeOf112
  v80 := Tryz.zeroValue112
  i0 := by kernel_rfl
  i2 := by kernel_rfl
  i3 := by kernel_rfl
  i4 := by kernel_rfl
  i5 := by kernel_rfl
  i9 := by kernel_rfl
  i20 := by kernel_rfl
  i21 := by kernel_rfl
  i37 := by kernel_rfl
  i46 := by kernel_rfl
  i51 := by kernel_rfl
  i53 := by kernel_rfl
  i75 := by kernel_rfl
  i76 := by kernel_rfl
  i80 := by kernel_rfl
  i85 := by kernel_rfl
  i127 := by kernel_rfl
  i143 := by kernel_rfl
  i145 := by kernel_rfl
  i167 := by kernel_rfl
  i168 := by kernel_rfl
  i171 := by kernel_rfl
  i173 := by kernel_rfl
  i175 := by kernel_rfl
  i210 := by kernel_rfl
  i212 := by kernel_rfl
  i232 := by kernel_rfl
  i233 := by kernel_rfl
  m15 := by kernel_rfl
  m16 := by kernel_rfl
  m17 := by kernel_rfl
  m18 := by kernel_rfl
  m19 := by kernel_rfl
  c0 := by kernel_rfl
  c2 := by kernel_rfl
  c3 := by kernel_rfl
  c4 := by kernel_rfl
  c5 := by kernel_rfl
  c9 := by kernel_rfl
  c20 := by kernel_rfl
  c21 := by kernel_rfl
  c37 := by kernel_rfl
  c46 := by kernel_rfl
  c51 := by kernel_rfl
  c53 := by kernel_rfl
  c75 := by kernel_rfl
  c76 := by kernel_rfl
  c80 := by kernel_rfl
  c85 := by kernel_rfl
  c127 := by kernel_rfl
  c143 := by kernel_rfl
  c145 := by kernel_rfl
  c167 := by kernel_rfl
  c168 := by kernel_rfl
  c171 := by kernel_rfl
  c173 := by kernel_rfl
  c175 := by kernel_rfl
  c210 := by kernel_rfl
  c212 := by kernel_rfl
  c213 := by kernel_rfl
  c232 := by kernel_rfl
  c233 := by kernel_rfl }
open Go.RowKit in
theorem Tryz.strconv_Atoi_ok (s : ByteArray) (hmax : s.size ≤ 9223372036854775806) (v : Int) (h : Lib.atoiAll s.data.toList = .ok v) (w : World) :
    Calls Tryz.prog 26 #[.string s] w fun e w' => e = .returned (.tuple #[.int .i64 v, .nilIface]) ∧ (w' = w ∨ ∃ t, w' = Lib.bytesWorld w 5 t) := Any.strconv_Atoi_ok Tryz.laysC172 s hmax v h w
end Go.Proofs
namespace Go.Proofs.YtpklcnpmppaaoaaGreatDoor.Print
open Go.RowKit Go.Proofs.YtpklcnpmppaaoaaGreatDoorW.PrintWords Go.Proofs.YtpklcnpmppaaoaaGreatDoorW.PrintLast Go.Proofs.YtpklcnpmppaaoaaGreatDoorW.PrintMore
def atoiOf : Lib.NumEnd Int → Option Int
  | .ok v => some v
  | _ => none
def strconv_Atoi_26.f (a0 : ByteArray) : Option (Int × Option Int) := if a0.size ≤ 1000000 then (atoiOf (Lib.atoiAll a0.data.toList)).map fun v => (v, none) else none
theorem strconv_Atoi_26.calls (a0 : ByteArray) (r1 : Int) (r2 : Option Int) (w : World) (h : strconv_Atoi_26.f a0 = some (r1, r2)) :
    Calls Tryz.prog 26 #[.string a0] w fun e w' => e = .returned (.tuple #[.int .i64 r1, errW r2]) ∧ Below w.heap.size w w' := by
  unfold strconv_Atoi_26.f at h
  by_cases c : a0.size ≤ 1000000
  · rw [if_pos c] at h
    obtain ⟨v, hv, h⟩ := Option.map_eq_some_iff.1 h
    simp only [Prod.mk.injEq] at h
    obtain ⟨rfl, rfl⟩ := h
    have h2 : Lib.atoiAll a0.data.toList = .ok v := by
      cases hq : Lib.atoiAll a0.data.toList <;> simp_all [atoiOf]
    refine (Tryz.strconv_Atoi_ok a0 (by omega) v h2 w).mono ?_
    rintro e w' ⟨he, hw⟩
    refine ⟨he, ?_⟩
    rcases hw with rfl | ⟨t, rfl⟩
    · exact Below.refl _ _
    · exact bytes_below (Below.refl _ _) (Nat.le_refl _) _ _
  · rw [if_neg c] at h; cases h
end Go.Proofs.YtpklcnpmppaaoaaGreatDoor.Print
namespace Go.Proofs.YtpklcnpmppaaoaaGreatDoor.Print
open Go.RowKit Go.Proofs.YtpklcnpmppaaoaaGreatDoorW.PrintWords
def strings_Compare.f (a0 a1 : ByteArray) : Option Int := some (Lib.compareBytes a0.data.toList a1.data.toList)
theorem strings_Compare.calls (a0 a1 : ByteArray) (r : Int) (w : World) (h : strings_Compare.f a0 a1 = some r) :
    Calls Tryz.prog 28 #[.string a0, .string a1] w fun e w' => e = .returned (.int .i64 r) ∧ Drawn0 w w' := by
  obtain rfl := Option.some.inj h
  refine (Tryz.strings_Compare a0 a1 w).mono ?_
  rintro e w' ⟨he, rfl⟩
  exact ⟨he, Drawn0.refl _⟩
end Go.Proofs.YtpklcnpmppaaoaaGreatDoor.Print
namespace Go.Proofs.YtpklcnpmppaaoaaGreatDoor.Print
open Go.RowKit Go.Proofs.YtpklcnpmppaaoaaGreatDoorW.PrintWords Go.Proofs.YtpklcnpmppaaoaaGreatDoorW.PrintLast Go.Proofs.YtpklcnpmppaaoaaGreatDoorW.PrintMore
attribute [local go_sem] max2_int min2_int max_two min_two max_three min_three max_four min_four
set_option linter.unusedVariables false
set_option linter.unusedSimpArgs false
def cmp_isNaN_int.f (a0 : Int) : Option (Bool) := some (a0 != a0)
set_option maxHeartbeats 8000000 in
set_option maxRecDepth 100000 in
theorem cmp_isNaN_int.calls (a0 : Int) (r : Bool) (w : World) (h : cmp_isNaN_int.f a0 = some r) :
  Calls Tryz.prog 52 #[.int .i64 a0] w fun e w' => e = .returned (.bool r) ∧ Drawn0 w w' := by
 have H : (some (a0 != a0)) = some r := h
 clear h
 obtain rfl := Option.some.inj H
 go_enter Tryz.func52, Tryz.ntmps52
 go_wp2
 go_ret
 exact ⟨ap2, ap7⟩
def cmp_Compare_int.f (a0 : Int) (a1 : Int) : Option (Int) := (cmp_isNaN_int.f a0).bind fun t414 => ((cmp_isNaN_int.f a1).bind fun t415 => (if t414 = true then (if t415 = true then (some 0) else (some (-1))) else (if t415 = true then (some 1) else (if a0 < a1 then (some (-1)) else (if a0 > a1 then (some 1) else (some 0))))))
end Go.Proofs.YtpklcnpmppaaoaaGreatDoor.Print
