-- laid together by pack.py (a program of this session)
import Derived.Test.YtpklcnpmppaaoaaGreatDoorAAttrNormals1
namespace Go.Proofs.YtpklcnpmppaaoaaGreatDoor.Print
open Go.RowKit Go.Proofs.YtpklcnpmppaaoaaGreatDoorW.PrintWords Go.Proofs.YtpklcnpmppaaoaaGreatDoorW.PrintLast Go.Proofs.YtpklcnpmppaaoaaGreatDoorW.PrintMore
attribute [local go_sem] max2_int min2_int max_two min_two max_three min_three max_four min_four
set_option linter.unusedVariables false
set_option linter.unusedSimpArgs false
theorem dn_Parse.mono_l : ∀ k, (∀ y0 y1 y2 y3 y4, LeO (dn_Parse.l0 k y0 y1 y2 y3 y4) (dn_Parse.l0 (k + 1) y0 y1 y2 y3 y4)) ∧ (∀ y0 y1 y2 y3 y4 y5 y6, LeO (dn_Parse.j1 k y0 y1 y2 y3 y4 y5 y6) (dn_Parse.j1 (k + 1) y0 y1 y2 y3 y4 y5 y6))
 | 0 => ⟨fun _ _ _ _ _ r h => by simp [dn_Parse.l0] at h, fun _ _ _ _ _ _ _ r h => by simp [dn_Parse.j1] at h⟩
 | k + 1 => by
  obtain ⟨ih0, ih1⟩ := dn_Parse.mono_l k
  refine ⟨?_, ?_⟩
  ·
   intro y0 y1 y2 y3 y4
   unfold dn_Parse.l0
   repeat' first
   | (with_reducible exact ih0 _ _ _ _ _)
   | (with_reducible exact ih1 _ _ _ _ _ _ _)
   | (with_reducible exact dn_Right.mono _ _)
   | (with_reducible exact Dxblanks.mono _ _ _)
   | (with_reducible exact Dxkind.mono _ _ _)
   | (with_reducible exact Dxvalue.mono _ _ _)
   | (with_reducible exact LeO.refl _)
   | (with_reducible exact LeO.none _)
   | (with_reducible refine LeO.ite ?_ ?_)
   | (with_reducible refine LeO.bind ?_ (fun _ => ?_))
  ·
   intro y0 y1 y2 y3 y4 y5 y6
   unfold dn_Parse.j1
   repeat' first
   | (with_reducible exact ih0 _ _ _ _ _)
   | (with_reducible exact ih1 _ _ _ _ _ _ _)
   | (with_reducible exact dn_Right.mono _ _)
   | (with_reducible exact Dxblanks.mono _ _ _)
   | (with_reducible exact Dxkind.mono _ _ _)
   | (with_reducible exact Dxvalue.mono _ _ _)
   | (with_reducible exact LeO.refl _)
   | (with_reducible exact LeO.none _)
   | (with_reducible refine LeO.ite ?_ ?_)
   | (with_reducible refine LeO.bind ?_ (fun _ => ?_))
theorem dn_Parse.mono : ∀ a0 k, LeO (dn_Parse.f k a0) (dn_Parse.f (k + 1) a0) := by
 intro a0 k; obtain ⟨ih0, ih1⟩ := dn_Parse.mono_l k; unfold dn_Parse.f; repeat' first
   | (with_reducible exact ih0 _ _ _ _ _)
   | (with_reducible exact ih1 _ _ _ _ _ _ _)
   | (with_reducible exact dn_Right.mono _ _)
   | (with_reducible exact Dxblanks.mono _ _ _)
   | (with_reducible exact Dxkind.mono _ _ _)
   | (with_reducible exact Dxvalue.mono _ _ _)
   | (with_reducible exact LeO.refl _)
   | (with_reducible exact LeO.none _)
   | (with_reducible refine LeO.ite ?_ ?_)
   | (with_reducible refine LeO.bind ?_ (fun _ => ?_))
set_option maxHeartbeats 8000000 in
set_option maxRecDepth 100000 in
theorem dn_Parse.calls (k : Nat) (a0 : ByteArray) (r1 : List (List (S96))) (r2 : Int) (w : World) (hG : Gw w) (h : dn_Parse.f k a0 = some (r1, r2)) :
  Calls Tryz.prog 69 #[.string a0] w fun e w' => ∃ v0_ : Value, e = .returned (.tuple #[v0_, .int .i64 r2]) ∧ Kd.S (Kd.slice 96 k96) 92 w' w.heap.size (fun _ => True) v0_ r1 ∧ Below w.heap.size w w' := by
 have hu120 := Tryz.underlying120
 have hu96 := Tryz.underlying96
 have HB := am (Below.refl w.heap.size w)
 have HG := am hG
 clear hG
 have H : (if (a0.size : Int) > 1000 then (some (([] : List (List (S96))), 5)) else ((Dxblanks.f k a0 0).bind fun bt195 => (if bt195.2 = (a0.size : Int) then (some (([] : List (List (S96))), 0)) else (dn_Parse.l0 k a0 ([] : List (List (S96))) ([] : List (S96)) bt195.1 bt195.2)))) = some (r1, r2) := h
 clear h
 revert H
 refine spd11 ?_ ?_
 ·intro c2 c2b0 H; have c2b1 : decide (1000 < a0.size) = true := decide_eq_true (by omega); clear c2; simp only [Option.some.injEq, Prod.mk.injEq] at H; obtain ⟨rfl, rfl⟩ := H; go_enter Tryz.func69, Tryz.ntmps69; go_wp2; go_ret2; exact ⟨_, ap9, by first | exact Kd.S_nil _ _ _ _ _ | exact Kd.N_nil _ _ _ _ _ | exact Kd.V_nil _ _ _ _ _ | exact Kd.Q_nil _ _ _ _ _ | exact Kd.R_nil _ _ _ _ _, ap1⟩
 ·intro c2 c2b0 H; have c2b1 : decide (1000 < a0.size) = false := decide_eq_false (by omega); clear c2; replace H := Option.bind_eq_some_iff.mp H; obtain ⟨⟨t195, t196⟩, A30, H⟩ := H; replace H : (if t196 = (a0.size : Int) then (some (([] : List (List (S96))), 0)) else (dn_Parse.l0 k a0 ([] : List (List (S96))) ([] : List (S96)) t195 t196)) = some (r1, r2) := H; have A3 := am A30; clear A30; revert H; refine spe01 ?_ ?_
  ·intro c4b0 c4b1 H; simp only [Option.some.injEq, Prod.mk.injEq] at H; obtain ⟨rfl, rfl⟩ := H; go_enter Tryz.func69, Tryz.ntmps69; go_wp2_with (first | ((with_reducible refine gate_dst (N := 16) rfl ?_); refine box_event ?hg (N := 16) ?hd (cs := #[.string a0, .int .i64 0]) (t := 120) ?hr ?_; (case hd => rfl); (case hg => rfl); (case hr => first | (go_simp; done) | (go_simp; rfl)); intro gb194 hg w5 hbox hb; have HI194 := am ((show IsS120 w w5 gb194 a0 0 from ⟨hbox, (by rw [hg]; exact (below_size ap1) : w.heap.size ≤ gb194)⟩)); have GW194 := am ((by rw [hg]; exact (below_size ap1) : w.heap.size ≤ gb194)); have GE194 := am ((by rw [hg]; exact (below_size ap1) : w.heap.size ≤ gb194)); replace HB := am (below_step ap1 hb); clear hb hbox hg) | ((with_reducible refine gate_callee (f := 96) rfl ?_); refine goesL_ (some 18) rfl rfl Tryz.func96 (by kernel_rfl) rfl #[.pointer (some ⟨gb194, 0, none⟩)] rfl ap3 ?_; (with_reducible refine (Dxblanks.calls k gb194 a0 0 t195 t196 w _ ?side1 ?side2 A3.out).mono ?_); (case side1 => exact apI120 HI194.out); (case side2 => exact apS120 HI194.out); rintro e w6 ⟨rfl, hi, hb, hk⟩; refine ⟨_, rfl, ?_⟩; replace HI194 := am (hi); replace HB := am (hb); obtain ⟨HGz7, hgz7⟩ := HI194.out; have hcz7_0 := cellS120_0 HGz7; have hcz7_1 := cellS120_1 HGz7; have hfz7_0 := blk_frozen HGz7 0; have hfz7_1 := blk_frozen HGz7 1; clear HGz7 hgz7)); go_ret2; exact ⟨_, ap9, by first | exact Kd.S_nil _ _ _ _ _ | exact Kd.N_nil _ _ _ _ _ | exact Kd.V_nil _ _ _ _ _ | exact Kd.Q_nil _ _ _ _ _ | exact Kd.R_nil _ _ _ _ _, apG1 (IsS120.ge HI194.out)⟩
  ·intro c4 c4b0 c4b1 H; have H' := am H; clear H; go_enter Tryz.func69, Tryz.ntmps69; go_wp2_with (first | ((with_reducible refine gate_dst (N := 16) rfl ?_); refine box_event ?hg (N := 16) ?hd (cs := #[.string a0, .int .i64 0]) (t := 120) ?hr ?_; (case hd => rfl); (case hg => rfl); (case hr => first | (go_simp; done) | (go_simp; rfl)); intro gb194 hg w8 hbox hb; have HI194 := am ((show IsS120 w w8 gb194 a0 0 from ⟨hbox, (by rw [hg]; exact (below_size ap1) : w.heap.size ≤ gb194)⟩)); have GW194 := am ((by rw [hg]; exact (below_size ap1) : w.heap.size ≤ gb194)); have GE194 := am ((by rw [hg]; exact (below_size ap1) : w.heap.size ≤ gb194)); replace HB := am (below_step ap1 hb); clear hb hbox hg) | ((with_reducible refine gate_callee (f := 96) rfl ?_); refine goesL_ (some 18) rfl rfl Tryz.func96 (by kernel_rfl) rfl #[.pointer (some ⟨gb194, 0, none⟩)] rfl ap3 ?_; (with_reducible refine (Dxblanks.calls k gb194 a0 0 t195 t196 w _ ?side1 ?side2 A3.out).mono ?_); (case side1 => exact apI120 HI194.out); (case side2 => exact apS120 HI194.out); rintro e w9 ⟨rfl, hi, hb, hk⟩; refine ⟨_, rfl, ?_⟩; replace HI194 := am (hi); replace HB := am (hb); obtain ⟨HGz10, hgz10⟩ := HI194.out; have hcz10_0 := cellS120_0 HGz10; have hcz10_1 := cellS120_1 HGz10; have hfz10_0 := blk_frozen HGz10 0; have hfz10_1 := blk_frozen HGz10 1; clear HGz10 hgz10)); go_loopg [5, 6] k (fun kq v5 v6 w' => ∃ (x5_1 : List (List (S96))) (x6_1 : List (S96)) (x195000_1 : ByteArray) (x195001_1 : Int), Aside0 (dn_Parse.l0 kq a0 x5_1 x6_1 x195000_1 x195001_1 = some (r1, r2)) ∧ Aside0 (kq ≤ k) ∧ Aside0 (Kd.S (Kd.slice 96 k96) 92 w' w.heap.size (fun k_ => some k_ ≠ (v6 : Value).ownBlock) v5 x5_1) ∧ Aside0 (Kd.R k96 96 w' w.heap.size (fun _ => True) v6 x6_1) ∧ Aside0 (IsS120 w w' gb194 x195000_1 x195001_1) ∧ Aside0 (Below w.heap.size w w')); (case atStart => exact ⟨(([] : List (List (S96)))), (([] : List (S96))), (t195), (t196), H', ⟨Nat.le_refl _⟩, ⟨by first | exact Kd.S_nil _ _ _ _ _ | exact Kd.N_nil _ _ _ _ _ | exact Kd.V_nil _ _ _ _ _ | exact Kd.Q_nil _ _ _ _ _ | exact Kd.R_nil _ _ _ _ _⟩, ⟨by first | exact Kd.R_nil _ _ _ _ _ | exact Kd.N_nil _ _ _ _ _ | exact Kd.V_nil _ _ _ _ _ | exact Kd.Q_nil _ _ _ _ _ | exact Kd.S_nil _ _ _ _ _⟩, ⟨apI120 HI194.out⟩, ⟨apG1 (IsS120.ge HI194.out)⟩⟩); case round =>
    clear H'; (try clear c2); (try clear c2b0); (try clear c2b1); (try clear c4); (try clear c4b0); (try clear c4b1); (try clear hcz10_0); (try clear hcz10_1); (try clear hfz10_0); (try clear hfz10_1); obtain ⟨x5_1, x6_1, x195000_1, x195001_1, HA, HK1, HO_5, HO_6, HI194, HB⟩ := hrel; cases gk with
    | zero => exact absurd HA.out (by simp [dn_Parse.l0])
    | succ k1 =>
     have H := HA.out; clear HA; simp only [dn_Parse.l0] at H; replace H := Option.bind_eq_some_iff.mp H; obtain ⟨⟨t197, t198, t199, t200⟩, A110, H⟩ := H; replace H : (if t198 = true then ((Dxvalue.f k1 t199 t200).bind fun bt201 => (if bt201.2.1 = true then (if x6_1.length < 4398046511104 then ((some (x6_1 ++ [(⟨t197, bt201.1⟩ : S96)] : List (S96))).bind fun y205 => (if bt201.2.2.2 = (a0.size : Int) then (dn_Parse.j1 k1 a0 x5_1 y205 (bt201.2.2.2 == (a0.size : Int)) true bt201.2.2.1 bt201.2.2.2) else (if 0 ≤ bt201.2.2.2 then (if bt201.2.2.2 < (a0.size : Int) then (dn_Parse.j1 k1 a0 x5_1 y205 (bt201.2.2.2 == (a0.size : Int)) ((bt a0 bt201.2.2.2) != 43) bt201.2.2.1 bt201.2.2.2) else (none)) else (none)))) else (none)) else (some (([] : List (List (S96))), 4)))) else (some (([] : List (List (S96))), 4))) = some (r1, r2) := H; have A11 := am A110; clear A110; revert H; refine spb ?_ ?_
     ·rintro rfl H; replace H := Option.bind_eq_some_iff.mp H; obtain ⟨⟨t201, t202, t203, t204⟩, A130, H⟩ := H; replace H : (if t202 = true then (if x6_1.length < 4398046511104 then ((some (x6_1 ++ [(⟨t197, t201⟩ : S96)] : List (S96))).bind fun y205 => (if t204 = (a0.size : Int) then (dn_Parse.j1 k1 a0 x5_1 y205 (t204 == (a0.size : Int)) true t203 t204) else (if 0 ≤ t204 then (if t204 < (a0.size : Int) then (dn_Parse.j1 k1 a0 x5_1 y205 (t204 == (a0.size : Int)) ((bt a0 t204) != 43) t203 t204) else (none)) else (none)))) else (none)) else (some (([] : List (List (S96))), 4))) = some (r1, r2) := H; have A13 := am A130; clear A130; revert H; refine spb ?_ ?_
      ·rintro rfl H; by_cases c15 : x6_1.length < 4398046511104
       ·rw [if_pos c15] at H; have LMc15 := am c15; clear c15; obtain ⟨y205, hy205⟩ : ∃ y_ : List (S96), y_ = (x6_1 ++ [(⟨t197, t201⟩ : S96)]) := ⟨_, rfl⟩; replace H : (if t204 = (a0.size : Int) then (dn_Parse.j1 k1 a0 x5_1 y205 (t204 == (a0.size : Int)) true t203 t204) else (if 0 ≤ t204 then (if t204 < (a0.size : Int) then (dn_Parse.j1 k1 a0 x5_1 y205 (t204 == (a0.size : Int)) ((bt a0 t204) != 43) t203 t204) else (none)) else (none))) = some (r1, r2) := apY hy205 H; have Ny205 := am hy205; clear hy205; have HC16 := am H; clear H; go_upto_region 17 with (first | ((with_reducible refine gate_callee (f := 97) rfl ?_); refine goesL_ (some 28) rfl rfl Tryz.func97 (by kernel_rfl) rfl #[.pointer (some ⟨gb194, 0, none⟩)] rfl ap3 ?_; (with_reducible refine (Dxkind.calls k1 gb194 x195000_1 x195001_1 t197 true t199 t200 w _ ?side1 ?side2 ?side3 A11.out).mono ?_); (case side1 => exact apI120 HI194.out); (case side2 => exact apS120 HI194.out); (case side3 => exact apH1 (IsS120.ge HI194.out)); rintro e w17 ⟨rfl, hi, hb, hk⟩; refine ⟨_, rfl, ?_⟩; replace HO_5 := am (Kd.S_mono (Kd.S_keep (IsS120.apartS (show IsS120 w _ gb194 x195000_1 x195001_1 from by repeat (first | (with_reducible first | exact HI194.out | apply IsS120.alloc | apply IsS120.drewN | apply IsS120.drew | apply IsS120.set_0 | apply IsS120.set_1) | exact HI194.out)) (apAS HO_5.out) (by decide)) hk (fun _ h => h.2)) (fun _ h => h.1)); replace HO_6 := am (Kd.R_mono (Kd.R_keep (IsS120.apart (show IsS120 w _ gb194 x195000_1 x195001_1 from by repeat (first | (with_reducible first | exact HI194.out | apply IsS120.alloc | apply IsS120.drewN | apply IsS120.drew | apply IsS120.set_0 | apply IsS120.set_1) | exact HI194.out)) (apAR HO_6.out) (by decide)) hk (fun _ h => h.2)) (fun _ h => h.1)); replace HI194 := am (hi); replace HB := am (hb)) | ((with_reducible refine gate_callee (f := 98) rfl ?_); refine goesL_ (some 35) rfl rfl Tryz.func98 (by kernel_rfl) rfl #[.pointer (some ⟨gb194, 0, none⟩)] rfl ap3 ?_; (with_reducible refine (Dxvalue.calls k1 gb194 t199 t200 t201 true t203 t204 w _ ?side1 ?side2 A13.out).mono ?_); (case side1 => exact apI120 HI194.out); (case side2 => exact apS120 HI194.out); rintro e w18 ⟨rfl, hi, hb, hk⟩; refine ⟨_, rfl, ?_⟩; replace HO_5 := am (Kd.S_mono (Kd.S_keep (IsS120.apartS (show IsS120 w _ gb194 t199 t200 from by repeat (first | (with_reducible first | exact HI194.out | apply IsS120.alloc | apply IsS120.drewN | apply IsS120.drew | apply IsS120.set_0 | apply IsS120.set_1) | exact HI194.out)) (apAS HO_5.out) (by decide)) hk (fun _ h => h.2)) (fun _ h => h.1)); replace HO_6 := am (Kd.R_mono (Kd.R_keep (IsS120.apart (show IsS120 w _ gb194 t199 t200 from by repeat (first | (with_reducible first | exact HI194.out | apply IsS120.alloc | apply IsS120.drewN | apply IsS120.drew | apply IsS120.set_0 | apply IsS120.set_1) | exact HI194.out)) (apAR HO_6.out) (by decide)) hk (fun _ h => h.2)) (fun _ h => h.1)); replace HI194 := am (hi); replace HB := am (hb)) | ((with_reducible refine gate_builtin (b := .append) (xs := #[.tmp 40, .tmp 44]) rfl ?_); at_builtin; refine Kd.R_append k96 (w0 := w) w.heap.size rfl (.tmp 40) (.tmp 44) 92 96 (.agg #[(.string ⟨#[]⟩), (.string ⟨#[]⟩)]) 32 rfl Tryz.underlying92 info96 rfl (by decide) (by omega) u6 x6_1 (⟨t197, t201⟩ : S96) [.string t197, .string t201] (fun _ => True) (fun _ => False) rfl rfl ?aP (fun _ hk => hk.elim) ?aF ?aO ?aB ?aS ?aL ?_; (case aP => exact k96_mkM _ _ _ (⟨t197, t201⟩ : S96)); (case aB => exact (apS120 HI194.out)); (case aF => exact (fun _ _ => trivial)); (case aO => exact (apAR HO_6.out)); (case aS => exact (below_size (apS120 HI194.out))); (case aL => have := LMc15.out; omega); intro v206 w19 ho hb hg hat; rw [← Ny205.out] at ho; replace HO_5 := am (Kd.S_after (ok := (fun _ => True)) (by (with_reducible repeat (first | apply Kd.S_alloc | apply Kd.S_drewN | apply Kd.S_drew)); exact Kd.S_mono HO_5.out (fun _ hk => ⟨trivial, hk⟩)) hg hat); replace HI194 := am (IsS120.grown (apI120 HI194.out) hg (IsS120.own_ne HI194.out HO_6.out (by decide))); have HO207 := am (ho); replace HB := am (hb); clear ho hb hg hat; obtain ⟨HGz20, hgz20⟩ := HI194.out; have hcz20_0 := cellS120_0 HGz20; have hcz20_1 := cellS120_1 HGz20; have hfz20_0 := blk_frozen HGz20 0; have hfz20_1 := blk_frozen HGz20 1; clear HGz20 hgz20)); (try simp only [Act.put, List.setIfInBounds_toArray, List.set_cons_zero, List.set_cons_succ]); go_cut [62] (fun v62 wc => ∃ (kq : Nat) (x62_15 : Bool), v62 = .bool x62_15 ∧ Aside0 (dn_Parse.j1 kq a0 x5_1 y205 (t204 == (a0.size : Int)) x62_15 t203 t204 = some (r1, r2)) ∧ Aside0 (kq ≤ k1) ∧ Aside0 (Kd.S (Kd.slice 96 k96) 92 wc w.heap.size (fun k_ => some k_ ≠ (v206 : Value).ownBlock) u5 x5_1) ∧ Aside0 (Kd.R k96 96 wc w.heap.size (fun _ => True) v206 y205) ∧ Aside0 (IsS120 w wc gb194 t203 t204) ∧ Aside0 (Below w.heap.size w wc)); case first =>
         have H := HC16.out; clear HC16; revert H; refine spe01 ?_ ?_
         ·intro c21b0 c21b1 H; (first | rw [c21b0] | (simp only [i64_w, i32_w]; rw [c21b0]) | skip); have H' := am H; clear H; go_wp2; (first | go_meet | (simp only [c21b0] at *; go_meet) | (simp only [c4b0] at *; go_meet) | (simp only [c4b0] at *; go_meet)); case rel => exact ⟨_, (true), ap2, H', ⟨by have := HK1.out; first | omega | exact Nat.le_refl _⟩, ⟨by (with_reducible repeat (first | apply Kd.S_alloc | apply Kd.S_drewN | apply Kd.S_drew)); exact Kd.S_mono HO_5.out (fun _ hk => hk.2)⟩, ⟨apAR HO207.out⟩, ⟨apI120 HI194.out⟩, ⟨apG1 (IsS120.ge HI194.out)⟩⟩
         ·intro c21 c21b0 c21b1 H; (first | rw [c21b0] | (simp only [i64_w, i32_w]; rw [c21b0]) | skip); revert H; refine spn0 ?_; intro c22b0 H; revert H; refine spn0 ?_; intro c23b0 H; have H' := am H; clear H; obtain ⟨HGz25, hgz25⟩ := HI194.out; have hcz25_0 := cellS120_0 HGz25; have hcz25_1 := cellS120_1 HGz25; have hfz25_0 := blk_frozen HGz25 0; have hfz25_1 := blk_frozen HGz25 1; clear HGz25 hgz25; have p24 : 0 ≤ (t204 : Int) := apD; have q24 : t204 < (a0.size : Int) := apD; have hx24 := bt_at a0 t204; replace p24 := eq_true p24; replace q24 := eq_true q24; go_wp2; (first | go_meet | (simp only [c21b0] at *; go_meet) | (simp only [c21b0] at *; go_meet) | (simp only [c4b0] at *; go_meet)); case rel => exact ⟨_, (((bt a0 t204) != 43)), ap2, H', ⟨by have := HK1.out; first | omega | exact Nat.le_refl _⟩, ⟨by (with_reducible repeat (first | apply Kd.S_alloc | apply Kd.S_drewN | apply Kd.S_drew)); exact Kd.S_mono HO_5.out (fun _ hk => hk.2)⟩, ⟨apAR HO207.out⟩, ⟨apI120 HI194.out⟩, ⟨apG1 (IsS120.ge HI194.out)⟩⟩
        case rest =>
         clear HC16; (try clear c2); (try clear c2b0); (try clear c2b1); (try clear c4); (try clear c4b0); (try clear c4b1); (try clear c12); (try clear c14); (try clear c15); (try clear hcz10_0); (try clear hcz10_1); (try clear hcz20_0); (try clear hcz20_1); (try clear hfz10_0); (try clear hfz10_1); (try clear hfz20_0); (try clear hfz20_1); obtain ⟨kq, x62_15, rfl, HA, HJ15, HO_5, HO_6, HI194, HB⟩ := hcut; cases kq with
         | zero => exact absurd HA.out (by simp [dn_Parse.j1])
         | succ kj15 =>
          have H := HA.out; clear HA; simp only [dn_Parse.j1] at H; revert H; refine spb ?_ ?_
          ·rintro rfl H; by_cases c27 : x5_1.length < 5864062014805
           ·rw [if_pos c27] at H; have LMc27 := am c27; clear c27; obtain ⟨y208, hy208⟩ : ∃ y_ : List (List (S96)), y_ = (x5_1 ++ [y205]) := ⟨_, rfl⟩; replace H : (if (t204 == (a0.size : Int)) = true then ((dn_Right.f kj15 y208).bind fun t211 => (if t211 = true then (some (y208, 0)) else (some (([] : List (List (S96))), 4)))) else (dn_Parse.l0 kj15 a0 y208 ([] : List (S96)) t203 (wrap64 (t204 + 1)))) = some (r1, r2) := apY hy208 H; have Ny208 := am hy208; clear hy208; by_cases c28 : (t204 == (a0.size : Int)) = true
            ·rw [if_pos c28] at H; have c28b0 : (t204 == (a0.size : Int)) = true := c28; (try (have c28b1 : decide (t204 = (a0.size : Int)) = true := by simpa using c28)); (try (have c28b2 : (t204 == (a0.size : Int)) = true := by simpa using c28)); clear c28; replace H := Option.bind_eq_some_iff.mp H; obtain ⟨t211, A290, H⟩ := H; replace H : (if t211 = true then (some (y208, 0)) else (some (([] : List (List (S96))), 4))) = some (r1, r2) := H; have A29 := am A290; clear A290; revert H; refine spb ?_ ?_
             ·rintro rfl H; simp only [Option.some.injEq, Prod.mk.injEq] at H; obtain ⟨rfl, rfl⟩ := H; obtain ⟨Ao32, co32, eo32⟩ := Kd.R_slice HO_6.out; subst eo32; go_wp2_with (first | ((with_reducible refine gate_builtin (b := .append) (xs := #[.tmp 63, .tmp 65]) rfl ?_); at_builtin; refine Kd.S_append (Kd.slice 96 k96) (w0 := w) w.heap.size rfl (.tmp 63) (.tmp 65) 71 92 (.slice none 0 0) 24 rfl Tryz.underlying71 info92 rfl (by decide) (by omega) u5 x5_1 y205 [.slice Ao32 y205.length co32] (fun _ => True) (fun k_ => some k_ = (.slice Ao32 y205.length co32 : Value).ownBlock) rfl rfl ?aP (fun k_ hk_ => ((Kd.R_mono (ok' := fun k_ => ((fun _ => True)) k_ ∧ some k_ ≠ (u5 : Value).ownBlock) (Kd.R_apart' (HO_6.out) (Kd.S_typed HO_5.out) (by decide)) (fun k_ hk => ⟨trivial, hk.2⟩))).1 k_ hk_.symm) ?aF ?aO ?aB ?aS ?aL ?_; (case aP => exact Kd.M_row (Kd.R_mono (Kd.R_tight rfl (Kd.R_mono (ok' := fun k_ => ((fun _ => True)) k_ ∧ some k_ ≠ (u5 : Value).ownBlock) (Kd.R_apart' (HO_6.out) (Kd.S_typed HO_5.out) (by decide)) (fun k_ hk => ⟨trivial, hk.2⟩))) (fun _ h_ => h_))); (case aB => exact (apS120 HI194.out)); (case aF => exact (fun _ _ => trivial)); (case aO => exact (by (with_reducible repeat (first | apply Kd.S_alloc | apply Kd.S_drewN | apply Kd.S_drew)); exact Kd.S_mono HO_5.out (fun k_ hk => ⟨trivial, fun e_ => hk e_⟩))); (case aS => exact (below_size (apS120 HI194.out))); (case aL => have := LMc27.out; omega); intro v209 w31 ho hb hg hat; rw [← Ny208.out] at ho; replace HI194 := am (IsS120.grown (apI120 HI194.out) hg (IsS120.own_neS HI194.out HO_5.out (by decide))); have HO210 := am (ho); replace HB := am (hb); clear ho hb hg hat; obtain ⟨Ao33, co33, eo33⟩ := Kd.S_slice HO210.out; subst eo33) | ((with_reducible refine gate_callee (f := 99) rfl ?_); refine goesL_ (some 76) rfl rfl Tryz.func99 (by kernel_rfl) rfl #[.slice Ao33 y208.length co33] rfl ap3 ?_; (with_reducible refine (dn_Right.calls kj15 _ _ y208 true _ ?side1 ?side2 ?side3 A29.out).mono ?_); (case side1 => repeat (first | exact (Kd.S_reads' HO210.out).2.2 | (with_reducible refine Kd.C_alloc ?_ _) | (with_reducible refine Kd.C_drewN ?_ _) | (with_reducible refine Kd.C_drew ?_))); (case side2 => exact (Kd.S_reads' HO210.out).2.1); (case side3 => exact apH1 (IsS120.ge HI194.out)); rintro e w34 ⟨rfl, hb⟩; refine ⟨_, rfl, ?_⟩; have n0_ := am (Kd.S_below (apAS HO210.out) hb); have n1_ := am (IsS120.below (apI120 HI194.out) hb); have n2_ := am (below_step (apS120 HI194.out) hb); clear HO210; clear HI194; clear HB; have HO210 := n0_; have HI194 := n1_; have HB := n2_; clear n0_ n1_ n2_)); go_ret2; exact ⟨_, ap9, apAS HO210.out, apG1 (IsS120.ge HI194.out)⟩
             ·rintro rfl H; simp only [Option.some.injEq, Prod.mk.injEq] at H; obtain ⟨rfl, rfl⟩ := H; obtain ⟨Ao36, co36, eo36⟩ := Kd.R_slice HO_6.out; subst eo36; go_wp2_with (first | ((with_reducible refine gate_builtin (b := .append) (xs := #[.tmp 63, .tmp 65]) rfl ?_); at_builtin; refine Kd.S_append (Kd.slice 96 k96) (w0 := w) w.heap.size rfl (.tmp 63) (.tmp 65) 71 92 (.slice none 0 0) 24 rfl Tryz.underlying71 info92 rfl (by decide) (by omega) u5 x5_1 y205 [.slice Ao36 y205.length co36] (fun _ => True) (fun k_ => some k_ = (.slice Ao36 y205.length co36 : Value).ownBlock) rfl rfl ?aP (fun k_ hk_ => ((Kd.R_mono (ok' := fun k_ => ((fun _ => True)) k_ ∧ some k_ ≠ (u5 : Value).ownBlock) (Kd.R_apart' (HO_6.out) (Kd.S_typed HO_5.out) (by decide)) (fun k_ hk => ⟨trivial, hk.2⟩))).1 k_ hk_.symm) ?aF ?aO ?aB ?aS ?aL ?_; (case aP => exact Kd.M_row (Kd.R_mono (Kd.R_tight rfl (Kd.R_mono (ok' := fun k_ => ((fun _ => True)) k_ ∧ some k_ ≠ (u5 : Value).ownBlock) (Kd.R_apart' (HO_6.out) (Kd.S_typed HO_5.out) (by decide)) (fun k_ hk => ⟨trivial, hk.2⟩))) (fun _ h_ => h_))); (case aB => exact (apS120 HI194.out)); (case aF => exact (fun _ _ => trivial)); (case aO => exact (by (with_reducible repeat (first | apply Kd.S_alloc | apply Kd.S_drewN | apply Kd.S_drew)); exact Kd.S_mono HO_5.out (fun k_ hk => ⟨trivial, fun e_ => hk e_⟩))); (case aS => exact (below_size (apS120 HI194.out))); (case aL => have := LMc27.out; omega); intro v209 w35 ho hb hg hat; rw [← Ny208.out] at ho; replace HI194 := am (IsS120.grown (apI120 HI194.out) hg (IsS120.own_neS HI194.out HO_5.out (by decide))); have HO210 := am (ho); replace HB := am (hb); clear ho hb hg hat; obtain ⟨Ao37, co37, eo37⟩ := Kd.S_slice HO210.out; subst eo37) | ((with_reducible refine gate_callee (f := 99) rfl ?_); refine goesL_ (some 76) rfl rfl Tryz.func99 (by kernel_rfl) rfl #[.slice Ao37 y208.length co37] rfl ap3 ?_; (with_reducible refine (dn_Right.calls kj15 _ _ y208 false _ ?side1 ?side2 ?side3 A29.out).mono ?_); (case side1 => repeat (first | exact (Kd.S_reads' HO210.out).2.2 | (with_reducible refine Kd.C_alloc ?_ _) | (with_reducible refine Kd.C_drewN ?_ _) | (with_reducible refine Kd.C_drew ?_))); (case side2 => exact (Kd.S_reads' HO210.out).2.1); (case side3 => exact apH1 (IsS120.ge HI194.out)); rintro e w38 ⟨rfl, hb⟩; refine ⟨_, rfl, ?_⟩; have n0_ := am (Kd.S_below (apAS HO210.out) hb); have n1_ := am (IsS120.below (apI120 HI194.out) hb); have n2_ := am (below_step (apS120 HI194.out) hb); clear HO210; clear HI194; clear HB; have HO210 := n0_; have HI194 := n1_; have HB := n2_; clear n0_ n1_ n2_)); go_ret2; exact ⟨_, ap9, by first | exact Kd.S_nil _ _ _ _ _ | exact Kd.N_nil _ _ _ _ _ | exact Kd.V_nil _ _ _ _ _ | exact Kd.Q_nil _ _ _ _ _ | exact Kd.R_nil _ _ _ _ _, apG1 (IsS120.ge HI194.out)⟩
            ·rw [if_neg c28] at H; have c28b0 : (t204 == (a0.size : Int)) = false := by simpa using c28
             (try (have c28b1 : decide (t204 = (a0.size : Int)) = false := by simpa using c28)); (try (have c28b2 : (t204 == (a0.size : Int)) = false := by simpa using c28)); (try (have c28b3 : ¬ (t204 = (a0.size : Int)) := by simpa using c28)); clear c28; have H' := am H; clear H; obtain ⟨Ao40, co40, eo40⟩ := Kd.R_slice HO_6.out; subst eo40; go_wp2_with (first | ((with_reducible refine gate_builtin (b := .append) (xs := #[.tmp 63, .tmp 65]) rfl ?_); at_builtin; refine Kd.S_append (Kd.slice 96 k96) (w0 := w) w.heap.size rfl (.tmp 63) (.tmp 65) 71 92 (.slice none 0 0) 24 rfl Tryz.underlying71 info92 rfl (by decide) (by omega) u5 x5_1 y205 [.slice Ao40 y205.length co40] (fun _ => True) (fun k_ => some k_ = (.slice Ao40 y205.length co40 : Value).ownBlock) rfl rfl ?aP (fun k_ hk_ => ((Kd.R_mono (ok' := fun k_ => ((fun _ => True)) k_ ∧ some k_ ≠ (u5 : Value).ownBlock) (Kd.R_apart' (HO_6.out) (Kd.S_typed HO_5.out) (by decide)) (fun k_ hk => ⟨trivial, hk.2⟩))).1 k_ hk_.symm) ?aF ?aO ?aB ?aS ?aL ?_; (case aP => exact Kd.M_row (Kd.R_mono (Kd.R_tight rfl (Kd.R_mono (ok' := fun k_ => ((fun _ => True)) k_ ∧ some k_ ≠ (u5 : Value).ownBlock) (Kd.R_apart' (HO_6.out) (Kd.S_typed HO_5.out) (by decide)) (fun k_ hk => ⟨trivial, hk.2⟩))) (fun _ h_ => h_))); (case aB => exact (apS120 HI194.out)); (case aF => exact (fun _ _ => trivial)); (case aO => exact (by (with_reducible repeat (first | apply Kd.S_alloc | apply Kd.S_drewN | apply Kd.S_drew)); exact Kd.S_mono HO_5.out (fun k_ hk => ⟨trivial, fun e_ => hk e_⟩))); (case aS => exact (below_size (apS120 HI194.out))); (case aL => have := LMc27.out; omega); intro v209 w39 ho hb hg hat; rw [← Ny208.out] at ho; replace HI194 := am (IsS120.grown (apI120 HI194.out) hg (IsS120.own_neS HI194.out HO_5.out (by decide))); have HO210 := am (ho); replace HB := am (hb); clear ho hb hg hat; obtain ⟨HGz41, hgz41⟩ := HI194.out; have hcz41_0 := cellS120_0 HGz41; have hcz41_1 := cellS120_1 HGz41; have hfz41_0 := blk_frozen HGz41 0; have hfz41_1 := blk_frozen HGz41 1; clear HGz41 hgz41)); go_roundg kj15; (case measure => have := HK1.out; have := HJ15.out; omega); case rel => exact ⟨(y208), (([] : List (S96))), (t203), (wrap64 (t204 + 1)), H', ⟨by have := HK1.out; have := HJ15.out; omega⟩, ⟨by (with_reducible repeat (first | apply Kd.S_alloc | apply Kd.S_drewN | apply Kd.S_drew)); exact Kd.S_mono (Kd.S_far (p := ⟨gb194, 1, none⟩) (IsS120.apartS HI194.out HO210.out (by decide)) (fun _ hk => hk.2) (.int .i64 (wrap64 (t204 + 1)))) (fun _ hk => (by simp [Value.ownBlock]))⟩, ⟨by first | exact Kd.R_nil _ _ _ _ _ | exact Kd.N_nil _ _ _ _ _ | exact Kd.V_nil _ _ _ _ _ | exact Kd.Q_nil _ _ _ _ _ | exact Kd.S_nil _ _ _ _ _⟩, ⟨apI120 HI194.out⟩, ⟨apG1 (IsS120.ge HI194.out)⟩⟩
           ·rw [if_neg c27] at H; exact absurd H (by simp)
          ·rintro rfl H; by_cases c42 : (t204 == (a0.size : Int)) = true
           ·rw [if_pos c42] at H; have c42b0 : (t204 == (a0.size : Int)) = true := c42; (try (have c42b1 : decide (t204 = (a0.size : Int)) = true := by simpa using c42)); (try (have c42b2 : (t204 == (a0.size : Int)) = true := by simpa using c42)); clear c42; replace H := Option.bind_eq_some_iff.mp H; obtain ⟨t212, A430, H⟩ := H; replace H : (if t212 = true then (some (x5_1, 0)) else (some (([] : List (List (S96))), 4))) = some (r1, r2) := H; have A43 := am A430; clear A430; revert H; refine spb ?_ ?_
            ·rintro rfl H; simp only [Option.some.injEq, Prod.mk.injEq] at H; obtain ⟨rfl, rfl⟩ := H; obtain ⟨Ao45, co45, eo45⟩ := Kd.S_slice HO_5.out; subst eo45; go_wp2_with (first | ((with_reducible refine gate_callee (f := 99) rfl ?_); refine goesL_ (some 76) rfl rfl Tryz.func99 (by kernel_rfl) rfl #[.slice Ao45 x5_1.length co45] rfl ap3 ?_; (with_reducible refine (dn_Right.calls kj15 _ _ x5_1 true _ ?side1 ?side2 ?side3 A43.out).mono ?_); (case side1 => repeat (first | exact (Kd.S_reads' HO_5.out).2.2 | (with_reducible refine Kd.C_alloc ?_ _) | (with_reducible refine Kd.C_drewN ?_ _) | (with_reducible refine Kd.C_drew ?_))); (case side2 => exact (Kd.S_reads' HO_5.out).2.1); (case side3 => exact apH1 (IsS120.ge HI194.out)); rintro e w46 ⟨rfl, hb⟩; refine ⟨_, rfl, ?_⟩; have n0_ := am (Kd.S_below (apAS HO_5.out) hb); have n1_ := am (Kd.R_below (apAR HO_6.out) hb); have n2_ := am (IsS120.below (apI120 HI194.out) hb); have n3_ := am (below_step (apS120 HI194.out) hb); clear HO_5; clear HO_6; clear HI194; clear HB; have HO_5 := n0_; have HO_6 := n1_; have HI194 := n2_; have HB := n3_; clear n0_ n1_ n2_ n3_)); go_ret2; exact ⟨_, ap9, by (with_reducible repeat (first | apply Kd.S_alloc | apply Kd.S_drewN | apply Kd.S_drew)); exact Kd.S_mono HO_5.out (fun _ hk => trivial), apG1 (IsS120.ge HI194.out)⟩
            ·rintro rfl H; simp only [Option.some.injEq, Prod.mk.injEq] at H; obtain ⟨rfl, rfl⟩ := H; obtain ⟨Ao47, co47, eo47⟩ := Kd.S_slice HO_5.out; subst eo47; go_wp2_with (first | ((with_reducible refine gate_callee (f := 99) rfl ?_); refine goesL_ (some 76) rfl rfl Tryz.func99 (by kernel_rfl) rfl #[.slice Ao47 x5_1.length co47] rfl ap3 ?_; (with_reducible refine (dn_Right.calls kj15 _ _ x5_1 false _ ?side1 ?side2 ?side3 A43.out).mono ?_); (case side1 => repeat (first | exact (Kd.S_reads' HO_5.out).2.2 | (with_reducible refine Kd.C_alloc ?_ _) | (with_reducible refine Kd.C_drewN ?_ _) | (with_reducible refine Kd.C_drew ?_))); (case side2 => exact (Kd.S_reads' HO_5.out).2.1); (case side3 => exact apH1 (IsS120.ge HI194.out)); rintro e w48 ⟨rfl, hb⟩; refine ⟨_, rfl, ?_⟩; have n0_ := am (Kd.S_below (apAS HO_5.out) hb); have n1_ := am (Kd.R_below (apAR HO_6.out) hb); have n2_ := am (IsS120.below (apI120 HI194.out) hb); have n3_ := am (below_step (apS120 HI194.out) hb); clear HO_5; clear HO_6; clear HI194; clear HB; have HO_5 := n0_; have HO_6 := n1_; have HI194 := n2_; have HB := n3_; clear n0_ n1_ n2_ n3_)); go_ret2; exact ⟨_, ap9, by first | exact Kd.S_nil _ _ _ _ _ | exact Kd.N_nil _ _ _ _ _ | exact Kd.V_nil _ _ _ _ _ | exact Kd.Q_nil _ _ _ _ _ | exact Kd.R_nil _ _ _ _ _, apG1 (IsS120.ge HI194.out)⟩
           ·rw [if_neg c42] at H; have c42b0 : (t204 == (a0.size : Int)) = false := by simpa using c42
            (try (have c42b1 : decide (t204 = (a0.size : Int)) = false := by simpa using c42)); (try (have c42b2 : (t204 == (a0.size : Int)) = false := by simpa using c42)); (try (have c42b3 : ¬ (t204 = (a0.size : Int)) := by simpa using c42)); clear c42; have H' := am H; clear H; obtain ⟨HGz49, hgz49⟩ := HI194.out; have hcz49_0 := cellS120_0 HGz49; have hcz49_1 := cellS120_1 HGz49; have hfz49_0 := blk_frozen HGz49 0; have hfz49_1 := blk_frozen HGz49 1; clear HGz49 hgz49; go_wp2; go_roundg kj15; (case measure => have := HK1.out; have := HJ15.out; omega); case rel => exact ⟨(x5_1), (y205), (t203), (wrap64 (t204 + 1)), H', ⟨by have := HK1.out; have := HJ15.out; omega⟩, ⟨by (with_reducible repeat (first | apply Kd.S_alloc | apply Kd.S_drewN | apply Kd.S_drew)); exact Kd.S_mono (Kd.S_far (p := ⟨gb194, 1, none⟩) (IsS120.apartS HI194.out HO_5.out (by decide)) (fun _ hk => hk.2) (.int .i64 (wrap64 (t204 + 1)))) (fun _ hk => hk.1)⟩, ⟨by (with_reducible repeat (first | apply Kd.R_alloc | apply Kd.R_drewN | apply Kd.R_drew)); exact Kd.R_mono (Kd.R_far (p := ⟨gb194, 1, none⟩) (IsS120.apart HI194.out HO_6.out (by decide)) (fun _ hk => hk.2) (.int .i64 (wrap64 (t204 + 1)))) (fun _ hk => trivial)⟩, ⟨apI120 HI194.out⟩, ⟨apG1 (IsS120.ge HI194.out)⟩⟩
       ·rw [if_neg c15] at H; exact absurd H (by simp)
      ·rintro rfl H; simp only [Option.some.injEq, Prod.mk.injEq] at H; obtain ⟨rfl, rfl⟩ := H; go_wp2_with (first | ((with_reducible refine gate_callee (f := 97) rfl ?_); refine goesL_ (some 28) rfl rfl Tryz.func97 (by kernel_rfl) rfl #[.pointer (some ⟨gb194, 0, none⟩)] rfl ap3 ?_; (with_reducible refine (Dxkind.calls k1 gb194 x195000_1 x195001_1 t197 true t199 t200 w _ ?side1 ?side2 ?side3 A11.out).mono ?_); (case side1 => exact apI120 HI194.out); (case side2 => exact apS120 HI194.out); (case side3 => exact apH1 (IsS120.ge HI194.out)); rintro e w50 ⟨rfl, hi, hb, hk⟩; refine ⟨_, rfl, ?_⟩; replace HO_5 := am (Kd.S_mono (Kd.S_keep (IsS120.apartS (show IsS120 w _ gb194 x195000_1 x195001_1 from by repeat (first | (with_reducible first | exact HI194.out | apply IsS120.alloc | apply IsS120.drewN | apply IsS120.drew | apply IsS120.set_0 | apply IsS120.set_1) | exact HI194.out)) (apAS HO_5.out) (by decide)) hk (fun _ h => h.2)) (fun _ h => h.1)); replace HO_6 := am (Kd.R_mono (Kd.R_keep (IsS120.apart (show IsS120 w _ gb194 x195000_1 x195001_1 from by repeat (first | (with_reducible first | exact HI194.out | apply IsS120.alloc | apply IsS120.drewN | apply IsS120.drew | apply IsS120.set_0 | apply IsS120.set_1) | exact HI194.out)) (apAR HO_6.out) (by decide)) hk (fun _ h => h.2)) (fun _ h => h.1)); replace HI194 := am (hi); replace HB := am (hb)) | ((with_reducible refine gate_callee (f := 98) rfl ?_); refine goesL_ (some 35) rfl rfl Tryz.func98 (by kernel_rfl) rfl #[.pointer (some ⟨gb194, 0, none⟩)] rfl ap3 ?_; (with_reducible refine (Dxvalue.calls k1 gb194 t199 t200 t201 false t203 t204 w _ ?side1 ?side2 A13.out).mono ?_); (case side1 => exact apI120 HI194.out); (case side2 => exact apS120 HI194.out); rintro e w51 ⟨rfl, hi, hb, hk⟩; refine ⟨_, rfl, ?_⟩; replace HO_5 := am (Kd.S_mono (Kd.S_keep (IsS120.apartS (show IsS120 w _ gb194 t199 t200 from by repeat (first | (with_reducible first | exact HI194.out | apply IsS120.alloc | apply IsS120.drewN | apply IsS120.drew | apply IsS120.set_0 | apply IsS120.set_1) | exact HI194.out)) (apAS HO_5.out) (by decide)) hk (fun _ h => h.2)) (fun _ h => h.1)); replace HO_6 := am (Kd.R_mono (Kd.R_keep (IsS120.apart (show IsS120 w _ gb194 t199 t200 from by repeat (first | (with_reducible first | exact HI194.out | apply IsS120.alloc | apply IsS120.drewN | apply IsS120.drew | apply IsS120.set_0 | apply IsS120.set_1) | exact HI194.out)) (apAR HO_6.out) (by decide)) hk (fun _ h => h.2)) (fun _ h => h.1)); replace HI194 := am (hi); replace HB := am (hb))); go_ret2; exact ⟨_, ap9, by first | exact Kd.S_nil _ _ _ _ _ | exact Kd.N_nil _ _ _ _ _ | exact Kd.V_nil _ _ _ _ _ | exact Kd.Q_nil _ _ _ _ _ | exact Kd.R_nil _ _ _ _ _, apG1 (IsS120.ge HI194.out)⟩
     ·rintro rfl H; simp only [Option.some.injEq, Prod.mk.injEq] at H; obtain ⟨rfl, rfl⟩ := H; go_wp2_with (first | ((with_reducible refine gate_callee (f := 97) rfl ?_); refine goesL_ (some 28) rfl rfl Tryz.func97 (by kernel_rfl) rfl #[.pointer (some ⟨gb194, 0, none⟩)] rfl ap3 ?_; (with_reducible refine (Dxkind.calls k1 gb194 x195000_1 x195001_1 t197 false t199 t200 w _ ?side1 ?side2 ?side3 A11.out).mono ?_); (case side1 => exact apI120 HI194.out); (case side2 => exact apS120 HI194.out); (case side3 => exact apH1 (IsS120.ge HI194.out)); rintro e w52 ⟨rfl, hi, hb, hk⟩; refine ⟨_, rfl, ?_⟩; replace HO_5 := am (Kd.S_mono (Kd.S_keep (IsS120.apartS (show IsS120 w _ gb194 x195000_1 x195001_1 from by repeat (first | (with_reducible first | exact HI194.out | apply IsS120.alloc | apply IsS120.drewN | apply IsS120.drew | apply IsS120.set_0 | apply IsS120.set_1) | exact HI194.out)) (apAS HO_5.out) (by decide)) hk (fun _ h => h.2)) (fun _ h => h.1)); replace HO_6 := am (Kd.R_mono (Kd.R_keep (IsS120.apart (show IsS120 w _ gb194 x195000_1 x195001_1 from by repeat (first | (with_reducible first | exact HI194.out | apply IsS120.alloc | apply IsS120.drewN | apply IsS120.drew | apply IsS120.set_0 | apply IsS120.set_1) | exact HI194.out)) (apAR HO_6.out) (by decide)) hk (fun _ h => h.2)) (fun _ h => h.1)); replace HI194 := am (hi); replace HB := am (hb))); go_ret2; exact ⟨_, ap9, by first | exact Kd.S_nil _ _ _ _ _ | exact Kd.N_nil _ _ _ _ _ | exact Kd.V_nil _ _ _ _ _ | exact Kd.Q_nil _ _ _ _ _ | exact Kd.R_nil _ _ _ _ _, apG1 (IsS120.ge HI194.out)⟩
end Go.Proofs.YtpklcnpmppaaoaaGreatDoor.Print
namespace Go.Proofs.YtpklcnpmppaaoaaGreatDoor.Print
open Go.RowKit Go.Proofs.YtpklcnpmppaaoaaGreatDoorW.PrintWords Go.Proofs.YtpklcnpmppaaoaaGreatDoorW.PrintLast Go.Proofs.YtpklcnpmppaaoaaGreatDoorW.PrintMore Go.Proofs.YtpklcnpmppaaoaaGreatDoor.Pure
set_option linter.unusedVariables false
set_option linter.unusedSimpArgs false
abbrev bl (s : ByteArray) : List UInt8 := s.data.toList
theorem bl_length (s : ByteArray) : (bl s).length = s.size := by simp [bl]
theorem bt_get {s : ByteArray} {p : Nat} {c : UInt8} (h : (bl s)[p]? = some c) : p < s.size ∧ bt s (p : Int) = (c.toNat : Int) := by
 obtain ⟨hp, hc⟩ := List.getElem?_eq_some_iff.1 h; rw [bl_length] at hp; refine ⟨hp, ?_⟩; unfold bt; rw [dif_pos (by simpa using hp)]; simp only [Int.toNat_natCast]; rw [← hc]; simp [bl]; rfl
theorem drop_cons {s : ByteArray} {p : Nat} {c : UInt8} {r : List UInt8} (h : (bl s).drop p = c :: r) : p < s.size ∧ bt s (p : Int) = (c.toNat : Int) ∧ (bl s).drop (p + 1) = r := by
 have h0 : (bl s)[p]? = some c := by
  have := congrArg List.head? h; rw [List.head?_drop] at this; simpa using this
 obtain ⟨h1, h2⟩ := bt_get h0; refine ⟨h1, h2, ?_⟩; have := congrArg List.tail h; rw [List.tail_drop] at this; simpa using this
theorem drop_nil {s : ByteArray} {p : Nat} (h : (bl s).drop p = []) : s.size ≤ p := by
 rw [← bl_length]; exact List.drop_eq_nil_iff.1 h
theorem drop_end {s : ByteArray} {p : Nat} (h : s.size ≤ p) : (bl s).drop p = [] := List.drop_eq_nil_iff.2 (by rw [bl_length]; exact h)
theorem wsucc {p : Nat} (h : p ≤ 2000000) : wrap64 ((p : Int) + 1) = ((p + 1 : Nat) : Int) := by unfold wrap64; omega
theorem ieq (c d : UInt8) : ((c.toNat : Int) = (d.toNat : Int)) ↔ c = d := by rw [Int.ofNat_inj]; exact UInt8.toNat_inj
theorem blanks_ev (s : ByteArray) (hs : s.size ≤ 1000000) : ∀ (n p : Nat), s.size - p = n → p ≤ s.size →
  ∃ q : Nat, p ≤ q ∧ q ≤ s.size ∧ (bl s).drop q = ((bl s).drop p).dropWhile (· == 32) ∧ Ev (fun k => Dxblanks.l0 k s (p : Int)) (s, (q : Int)) := by
 intro n
 induction n with
 | zero =>
  intro p hn hp; refine ⟨p, Nat.le_refl _, hp, ?_, ?_⟩
  ·rw [drop_end (by omega)]; rfl
  ·exact Ev.step (fun k => by rw [Dxblanks.l0]) (Ev.neg (by omega) Ev.rfl')
 | succ n ih =>
  intro p hn hp; cases hr : (bl s).drop p with
  | nil => have := drop_nil hr; omega
  | cons c r =>
   obtain ⟨h1, h2, h3⟩ := drop_cons hr; have hc : ((c.toNat : Int) = 32) ↔ c = 32 := ieq c 32; by_cases h32 : c = 32
   ·obtain ⟨q, q1, q2, q3, q4⟩ := ih (p + 1) (by omega) (by omega); refine ⟨q, by omega, q2, ?_, ?_⟩
    ·rw [q3, h3, List.dropWhile_cons_of_pos (by simp [h32])]
    ·refine Ev.step (fun k => by rw [Dxblanks.l0]) (Ev.pos (by omega) (Ev.pos (by omega) (Ev.pos (by rw [h2]; exact hc.2 h32) ?_))); rw [wsucc (by omega)]; exact q4
   ·refine ⟨p, Nat.le_refl _, hp, ?_, ?_⟩
    ·rw [hr, List.dropWhile_cons_of_neg (by simp [h32])]
    ·exact Ev.step (fun k => by rw [Dxblanks.l0]) (Ev.pos (by omega) (Ev.pos (by omega) (Ev.neg (by rw [h2]; exact fun h => h32 (hc.1 h)) Ev.rfl')))
theorem blanks_f (s : ByteArray) (hs : s.size ≤ 1000000) (p : Nat) (hp : p ≤ s.size) :
  ∃ q : Nat, p ≤ q ∧ q ≤ s.size ∧ (bl s).drop q = ((bl s).drop p).dropWhile (· == 32) ∧ Ev (fun k => Dxblanks.f k s (p : Int)) (s, (q : Int)) := blanks_ev s hs _ p rfl hp
theorem kindl_ev (s : ByteArray) (hs : s.size ≤ 1000000) : ∀ (n p : Nat), s.size - p = n → p ≤ s.size →
  ∃ q : Nat, p ≤ q ∧ q ≤ s.size ∧ (bl s).drop q = ((bl s).drop p).dropWhile tyB ∧ ((bl s).drop p).take (q - p) = ((bl s).drop p).takeWhile tyB ∧ Ev (fun k => Dxkind.l0 k s (p : Int)) (q : Int) := by
 intro n
 induction n with
 | zero =>
  intro p hn hp; refine ⟨p, Nat.le_refl _, hp, ?_, ?_, ?_⟩
  ·rw [drop_end (by omega)]; rfl
  ·rw [drop_end (by omega)]; simp
  ·exact Ev.step (fun k => by rw [Dxkind.l0]) (Ev.neg (by omega) Ev.rfl')
 | succ n ih =>
  intro p hn hp; cases hr : (bl s).drop p with
  | nil => have := drop_nil hr; omega
  | cons c r =>
   obtain ⟨h1, h2, h3⟩ := drop_cons hr; have hc : ((c.toNat : Int) = 32) ↔ c = 32 := ieq c 32; have hd : ((c.toNat : Int) = 61) ↔ c = 61 := ieq c 61; by_cases h61 : c = 61
   ·refine ⟨p, Nat.le_refl _, hp, ?_, ?_, ?_⟩
    ·rw [hr, List.dropWhile_cons_of_neg (by simp [tyB, h61])]
    ·rw [List.takeWhile_cons_of_neg (by simp [tyB, h61])]; simp
    ·exact Ev.step (fun k => by rw [Dxkind.l0]) (Ev.pos (by omega) (Ev.pos (by omega) (Ev.pos (by rw [h2]; exact hd.2 h61) Ev.rfl')))
   ·by_cases h32 : c = 32
    ·refine ⟨p, Nat.le_refl _, hp, ?_, ?_, ?_⟩
     ·rw [hr, List.dropWhile_cons_of_neg (by simp [tyB, h32])]
     ·rw [List.takeWhile_cons_of_neg (by simp [tyB, h32])]; simp
     ·exact Ev.step (fun k => by rw [Dxkind.l0]) (Ev.pos (by omega) (Ev.pos (by omega) (Ev.neg (by rw [h2]; exact fun h => h61 (hd.1 h)) (Ev.pos (by rw [h2]; exact hc.2 h32) Ev.rfl'))))
    ·obtain ⟨q, q1, q2, q3, q4, q5⟩ := ih (p + 1) (by omega) (by omega); refine ⟨q, by omega, q2, ?_, ?_, ?_⟩
     ·rw [q3, h3, List.dropWhile_cons_of_pos (by simp [tyB, h32, h61])]
     ·rw [h3] at q4; rw [List.takeWhile_cons_of_pos (by simp [tyB, h32, h61]), ← q4, show q - p = (q - (p + 1)) + 1 from by omega]; rfl
     ·refine Ev.step (fun k => by rw [Dxkind.l0]) (Ev.pos (by omega) (Ev.pos (by omega) (Ev.neg (by rw [h2]; exact fun h => h61 (hd.1 h)) (Ev.neg (by rw [h2]; exact fun h => h32 (hc.1 h)) ?_)))); rw [wsucc (by omega)]; exact q5
theorem enc_high (r : Int) (h : ¬ (0 ≤ r ∧ r ≤ 127)) : ∃ b t, Lib.encodeRune r = b :: t ∧ 128 ≤ b.toNat := by
 unfold Lib.encodeRune; by_cases h2 : 128 ≤ r ∧ r ≤ 2047
 ·rw [Lib.encodeRuneZ_two h2.1 h2.2]; refine ⟨_, _, rfl, ?_⟩; rw [UInt8.toNat_ofNat']; omega
 by_cases h3 : (2048 ≤ r ∧ r < 55296) ∨ (57343 < r ∧ r ≤ 65535)
 ·rw [Lib.encodeRuneZ_three h3]; refine ⟨_, _, rfl, ?_⟩; rw [UInt8.toNat_ofNat']; omega
 by_cases h4 : 65536 ≤ r ∧ r ≤ 1114111
 ·rw [Lib.encodeRuneZ_four h4.1 h4.2]; refine ⟨_, _, rfl, ?_⟩; rw [UInt8.toNat_ofNat']; omega
 ·rw [Lib.encodeRuneZ_bad (by omega)]; exact ⟨_, _, rfl, by decide⟩
theorem dec_ascii {c : UInt8} {r : List UInt8} (h : c.toNat < 128) : Lib.decodeL (c :: r) = (c.toNat, 1) := by
 rw [Lib.decodeL_N]; unfold Lib.decodeN; rw [if_pos (by simpa using h)]; rfl
theorem dec_high {c : UInt8} {r : List UInt8} (h : 128 ≤ c.toNat) : 128 ≤ (Lib.decodeL (c :: r)).1 := by
 rw [Lib.decodeL_N]; have h0 : ((c :: r).getD 0 0).toNat = c.toNat := rfl; rcases Lib.decodeN_shape (c :: r).length ((c :: r).getD 0 0).toNat ((c :: r).getD 1 0).toNat ((c :: r).getD 2 0).toNat ((c :: r).getD 3 0).toNat with ⟨a, e⟩ | ⟨_, _, _, a, e⟩ | ⟨_, _, _, _, a, _, e⟩ | ⟨_, _, _, _, _, a, _, e⟩ | e
 ·omega
 all_goals (rw [e]; dsimp only; omega)
theorem low_ascii {c : UInt8} (h : c.toNat < 128) : Lib.encodeRune (lowR (c.toNat : Int)) = [lowB c] := by
 unfold lowR lowB; by_cases q : 65 ≤ c.toNat ∧ c.toNat ≤ 90
 ·rw [if_pos (by omega), if_pos q]; unfold Lib.encodeRune; rw [Lib.encodeRuneZ_one (by omega) (by omega)]; simp only [List.map_cons, List.map_nil, List.cons.injEq, and_true]; apply UInt8.toNat_inj.1; rw [UInt8.toNat_ofNat', UInt8.toNat_add]; simp; omega
 ·rw [if_neg (by omega), if_neg q]; unfold Lib.encodeRune; rw [Lib.encodeRuneZ_one (by omega) (by omega)]; simp
theorem mapD_low : ∀ (n : Nat) (l : List UInt8), l.length ≤ n → ((∀ c ∈ l, c.toNat < 128) ∧ Lib.mapD lowR l = l.map lowB) ∨ ((∃ c ∈ l, 128 ≤ c.toNat) ∧ ∃ c ∈ Lib.mapD lowR l, 128 ≤ c.toNat)
 | 0, l, h => by
  have : l = [] := List.eq_nil_of_length_eq_zero (by omega)
  subst this
  exact .inl ⟨by simp, rfl⟩
 | n + 1, [], _ => .inl ⟨by simp, rfl⟩
 | n + 1, c :: r, h => by
  simp only [List.length_cons] at h
  by_cases hc : c.toNat < 128
  ·have e : Lib.mapD lowR (c :: r) = lowB c :: Lib.mapD lowR r := by
    rw [Lib.mapD_step _ _ (by simp), dec_ascii hc]; dsimp only; rw [low_ascii hc, if_pos (by unfold lowR; split <;> omega)]; rfl
   rw [e]; rcases mapD_low n r (by omega) with ⟨h1, h2⟩ | ⟨⟨x, hx, hx2⟩, y, hy, hy2⟩
   ·refine .inl ⟨?_, by rw [h2]; rfl⟩; intro d hd; rcases List.mem_cons.1 hd with rfl | hd
    ·exact hc
    ·exact h1 d hd
   ·exact .inr ⟨⟨x, List.mem_cons_of_mem _ hx, hx2⟩, y, List.mem_cons_of_mem _ hy, hy2⟩
  ·have hd := dec_high (r := r) (Nat.le_of_not_lt hc); refine .inr ⟨⟨c, by simp, by omega⟩, ?_⟩; rw [Lib.mapD_step _ _ (by simp)]; have e : lowR ((Lib.decodeL (c :: r)).1 : Int) = ((Lib.decodeL (c :: r)).1 : Int) := by unfold lowR; rw [if_neg (by omega)]
   rw [e, if_pos (by omega)]; obtain ⟨b, t, hb, hb2⟩ := enc_high ((Lib.decodeL (c :: r)).1 : Int) (by omega); rw [hb]; exact ⟨b, by simp, hb2⟩
theorem typeOk_high {l : List UInt8} (h : ∃ c ∈ l, 128 ≤ c.toNat) : typeOk l = false := by
 cases ht : typeOk l with
 | false => rfl
 | true =>
  obtain ⟨c, hc, h2⟩ := h; have := (typeOk_all ht).2 c hc; simp only [typeB, Bool.or_eq_true, Bool.and_eq_true, decide_eq_true_eq, beq_iff_eq] at this; rcases this with (this | this) | rfl
  ·omega
  ·omega
  ·revert h2; decide
theorem mapD_type (l : List UInt8) : typeOk (Lib.mapD lowR l) = typeOk (l.map lowB) ∧ (typeOk (l.map lowB) = true → Lib.mapD lowR l = l.map lowB) := by
 rcases mapD_low _ l (Nat.le_refl _) with ⟨_, h⟩ | ⟨⟨x, hx, hx2⟩, h⟩
 ·rw [h]; exact ⟨rfl, fun _ => rfl⟩
 ·have e : typeOk (l.map lowB) = false := typeOk_high ⟨lowB x, List.mem_map_of_mem hx, by unfold lowB; rw [if_neg (by omega)]; exact hx2⟩; rw [typeOk_high h, e]; exact ⟨rfl, fun h => by cases h⟩
theorem rightType_l (s : ByteArray) (hs : s.size ≤ 1000000) : ∀ (n p : Nat), s.size - p = n → p ≤ s.size → 1 ≤ p →
  Ev (fun k => dn_rightType.l0 k s (s.size : Int) (p : Int)) (((bl s).drop p).all typeB && decide (s.size ≤ 32)) := by
 intro n
 induction n with
 | zero =>
  intro p hn hp h1; rw [drop_end (by omega)]; refine Ev.step (fun k => by rw [dn_rightType.l0]) (Ev.neg (by omega) (Ev.neg ?_ ?_))
  ·rw [Lib.toList_data]; intro h; have := bl_length s; unfold bl at this; rw [h] at this; simp at this; omega
  ·have : decide ((s.size : Int) ≤ 32) = decide (s.size ≤ 32) := decide_eq_decide.2 (by omega); rw [this]; exact Ev.rfl'
 | succ n ih =>
  intro p hn hp h1; cases hr : (bl s).drop p with
  | nil => have := drop_nil hr; omega
  | cons c r =>
   obtain ⟨g1, g2, g3⟩ := drop_cons hr; have hi := ih (p + 1) (by omega) (by omega) (by omega); rw [g3] at hi; have hc := c.toNat_lt; have h45 : ((c.toNat : Int) = 45) ↔ c = 45 := ieq c 45; refine Ev.step (fun k => by rw [dn_rightType.l0]) ?_; rw [g2, wsucc (by omega), List.all_cons]; by_cases q1 : 97 ≤ c.toNat ∧ c.toNat ≤ 122
   ·rw [show typeB c = true by simp [typeB, q1]]; simp (disch := omega) only [if_pos, if_neg]; simpa using hi
   by_cases q2 : c = 45
   ·rw [show typeB c = true by subst q2; rfl]; have := h45.2 q2; simp (disch := omega) only [if_pos, if_neg]; simpa using hi
   have q3 : (c.toNat : Int) ≠ 45 := fun h => q2 (h45.1 h)
   by_cases q4 : 48 ≤ c.toNat ∧ c.toNat ≤ 57
   ·rw [show typeB c = true by simp [typeB, q4]]; simp (disch := omega) only [if_pos, if_neg]; simpa using hi
   ·rw [show typeB c = false by simp [typeB, q2]; omega]; have e : Ev (fun (_ : Nat) => some false) (false && r.all typeB && decide (s.size ≤ 32)) := Ev.rfl'; by_cases a1 : 97 ≤ c.toNat
    ·simp (disch := omega) only [if_pos, if_neg]; exact e
    ·by_cases a2 : c.toNat < 48
     ·simp (disch := omega) only [if_pos, if_neg]; exact e
     ·simp (disch := omega) only [if_pos, if_neg]; exact e
theorem rightType_ev (s : ByteArray) (hs : s.size ≤ 1000000) : Ev (fun k => dn_rightType.f k s) (typeOk (bl s)) := by
 unfold dn_rightType.f; cases hr : bl s with
 | nil =>
  have : s.size = 0 := by rw [← bl_length, hr]; rfl
  show Ev _ false; refine Ev.step (fun k => by rw [dn_rightType.l0]) (Ev.neg (by omega) (Ev.pos ?_ Ev.rfl')); rw [Lib.toList_data]; exact hr
 | cons c r =>
  obtain ⟨g1, g2, g3⟩ := drop_cons (s := s) (p := 0) (by simpa using hr); have hi := rightType_l s hs _ 1 rfl (by omega) (by omega); rw [show (1 : Nat) = 0 + 1 from rfl, g3] at hi; have hc := c.toNat_lt; have hlen : s.size = (c :: r).length := by rw [← bl_length, hr]
  refine Ev.step (fun k => by rw [dn_rightType.l0]) ?_; have g2' : bt s 0 = (c.toNat : Int) := g2; rw [g2', show wrap64 ((0 : Int) + 1) = ((0 + 1 : Nat) : Int) from wsucc (p := 0) (by omega)]; unfold typeOk; dsimp only; rw [← hlen, List.all_cons]; by_cases q1 : 97 ≤ c.toNat ∧ c.toNat ≤ 122
  ·rw [show typeB c = true by simp [typeB, q1], decide_eq_true q1]; simp (disch := omega) only [if_pos, if_neg]; simpa using hi
  ·rw [decide_eq_false q1]; have e : Ev (fun (_ : Nat) => some false) (false && (typeB c && r.all typeB) && decide (s.size ≤ 32)) := Ev.rfl'; by_cases a1 : 97 ≤ c.toNat
   ·simp (disch := omega) only [if_pos, if_neg]; exact e
   ·simp (disch := omega) only [if_pos, if_neg]; exact e
theorem lower_f (s : ByteArray) (hs : s.size ≤ 1000000) (a b : Nat) : dn_lower.f (s.extract a b) = some ⟨(Lib.mapD lowR (((bl s).drop a).take (b - a))).toArray⟩ := by
 unfold dn_lower.f; rw [if_pos (by simp; omega), Lib.extract_data]
theorem mapD_len (f : Int → Int) : ∀ (n : Nat) (l : List UInt8), l.length ≤ n → (Lib.mapD f l).length ≤ 4 * l.length
 | 0, l, h => by
  have : l = [] := List.eq_nil_of_length_eq_zero (by omega)
  subst this
  exact Nat.le_refl _
 | n + 1, l, h => by
  by_cases hne : l = []
  ·subst hne; exact Nat.le_refl _
  ·rw [Lib.mapD_step _ _ hne, List.length_append]
   have hw := Lib.decodeL_width l
   have hl := Lib.decodeL_le l hne
   have ih := mapD_len f n (l.drop (Lib.decodeL l).2) (by rw [List.length_drop]; omega)
   rw [List.length_drop] at ih
   have h4 : (if 0 ≤ f (Lib.decodeL l).1 then Lib.encodeRune (f (Lib.decodeL l).1) else []).length ≤ 4 := by
    split
    ·have := Lib.runeCells_le (f (Lib.decodeL l).1); rw [Lib.runeCells_length] at this; exact this.2
    ·simp
   omega
theorem kind_ev (s : ByteArray) (hs : s.size ≤ 100000) (p : Nat) (hp : p ≤ s.size) :
  (kindB ((bl s).drop p) = none → ∃ t s' q, Ev (fun k => Dxkind.f k s (p : Int)) (t, false, s', q)) ∧
  (∀ t r', kindB ((bl s).drop p) = some (t, r') → ∃ q : Nat, q ≤ s.size ∧ p < q ∧ (bl s).drop q = r' ∧ Ev (fun k => Dxkind.f k s (p : Int)) (⟨t.toArray⟩, true, s, (q : Int))) := by
 obtain ⟨q1, a1, a2, a3, a4⟩ := blanks_f s (by omega) p hp
 obtain ⟨q2, b1, b2, b3, b5, b4⟩ := kindl_ev s (by omega) _ q1 rfl a2
 obtain ⟨q3, c1, c2, c3, c4⟩ := blanks_f s (by omega) q2 b2
 have hl := lower_f s (by omega) q1 q2
 have h2 : (((bl s).drop q1).take (q2 - q1)).length ≤ s.size := by rw [List.length_take, List.length_drop, bl_length]; omega
 obtain ⟨m, hm⟩ : ∃ m, m = ((bl s).drop q1).take (q2 - q1) := ⟨_, rfl⟩
 rw [← hm] at hl h2 b5
 have hty := mapD_type m
 have hsz : (⟨(Lib.mapD lowR m).toArray⟩ : ByteArray).size ≤ 1000000 := by
  have h1 := mapD_len lowR _ m (Nat.le_refl _); have h3 : (⟨(Lib.mapD lowR m).toArray⟩ : ByteArray).size = (Lib.mapD lowR m).length := by rw [← bl_length]
  omega
 have ht := rightType_ev (⟨(Lib.mapD lowR m).toArray⟩) hsz
 rw [show bl (⟨(Lib.mapD lowR m).toArray⟩ : ByteArray) = Lib.mapD lowR m from rfl, hty.1] at ht
 rw [a3] at b3 b5
 rw [b3] at c3
 have hk : ∀ {v : ByteArray × Bool × ByteArray × Int}, Ev (fun k => if (s.size : Int) ≤ (q3 : Int) then some (⟨#[]⟩, false, s, (q3 : Int))
    else (if (0 : Int) ≤ (q3 : Int) then (if bt s (q3 : Int) = 61 then (dn_rightType.f k ⟨(Lib.mapD lowR m).toArray⟩).bind fun ok => if ok = true then some (⟨(Lib.mapD lowR m).toArray⟩, true, s, wrap64 ((q3 : Int) + 1)) else some (⟨#[]⟩, false, s, (q3 : Int))
     else some (⟨#[]⟩, false, s, (q3 : Int))) else none)) v → Ev (fun k => Dxkind.f k s (p : Int)) v := by
  intro v h
  unfold Dxkind.f
  refine Ev.bind a4 (Ev.bind b4 (Ev.pos (by dsimp only; omega) (Ev.pos (by dsimp only; omega) (Ev.pos (by dsimp only; omega) ?_))))
  refine Ev.bindc hl (Ev.bind c4 h)
 have hfail : ∃ t s' q, Ev (fun (_ : Nat) => some ((⟨#[]⟩ : ByteArray), false, s, (q3 : Int))) (t, false, s', q) := ⟨_, _, _, Ev.rfl'⟩
 unfold kindB
 rw [← c3, ← b5]
 cases hr : (bl s).drop q3 with
 | nil =>
  have := drop_nil hr; exact ⟨fun _ => ⟨_, _, _, hk (Ev.pos (by omega) Ev.rfl')⟩, fun t r' h => by simp at h⟩
 | cons c r =>
  obtain ⟨g1, g2, g3⟩ := drop_cons hr; have h61 : ((c.toNat : Int) = 61) ↔ c = 61 := ieq c 61; dsimp only; by_cases hc : c = 61
  ·cases hT : typeOk (m.map lowB) with
   | false =>
    rw [if_neg (by rintro ⟨_, h⟩; cases h)]; rw [hT] at ht; exact ⟨fun _ => ⟨_, _, _, hk (Ev.neg (by omega) (Ev.pos (by omega) (Ev.pos (by rw [g2]; exact h61.2 hc) (Ev.bind ht (Ev.neg (by simp) Ev.rfl')))))⟩, fun t r' h => by simp at h⟩
   | true =>
    rw [if_pos ⟨hc, rfl⟩]; refine ⟨fun h => (by simp at h), fun t r' h => ?_⟩; simp only [Option.some.injEq, Prod.mk.injEq] at h; obtain ⟨rfl, rfl⟩ := h; rw [hT] at ht; refine ⟨q3 + 1, by omega, by omega, g3, hk (Ev.neg (by omega) (Ev.pos (by omega) (Ev.pos (by rw [g2]; exact h61.2 hc) (Ev.bind ht (Ev.pos rfl ?_)))))⟩; rw [wsucc (by omega), hty.2 hT]; exact Ev.rfl'
  ·rw [if_neg (fun h => hc h.1)]; exact ⟨fun _ => ⟨_, _, _, hk (Ev.neg (by omega) (Ev.pos (by omega) (Ev.neg (by rw [g2]; exact fun h => hc (h61.1 h)) Ev.rfl')))⟩, fun t r' h => by simp at h⟩
def ints (l : List UInt8) : List Int := l.map fun c => (c.toNat : Int)
theorem strOfNums_ints (l : List UInt8) : strOfNums (ints l) = ⟨l.toArray⟩ := by
 unfold strOfNums ints; rw [List.map_map]; congr 1; have : (List.map ((fun n => UInt8.ofNat n.toNat) ∘ fun c => ((c : UInt8).toNat : Int)) l) = l := by
  (conv => rhs; rw [← List.map_id l]); exact List.map_congr_left fun c _ => by simp
 rw [this]
theorem ints_length (l : List UInt8) : (ints l).length = l.length := by simp [ints]
theorem ints_take (l : List UInt8) (n : Nat) : (ints l).take n = ints (l.take n) := by simp [ints, List.map_take]
theorem ints_snoc (l : List UInt8) (c : UInt8) : ints l ++ [(c.toNat : Int)] = ints (l ++ [c]) := by simp [ints]
def hexI (c : UInt8) : Int := match hexv c with | some x => (x : Int) | none => -1
theorem ofNat_toNat8 (c : UInt8) : UInt8.ofNat c.toNat = c := by simp
set_option maxRecDepth 100000 in
theorem digit_all : ∀ n : Nat, n < 256 → b64_digit.f (n : Int) = some (hexI (UInt8.ofNat n)) := by decide +kernel
theorem digit_is (c : UInt8) : b64_digit.f (c.toNat : Int) = some (hexI c) := by
 have := digit_all c.toNat c.toNat_lt; rwa [ofNat_toNat8] at this
theorem hexv_lt {c : UInt8} {x : Nat} (h : hexv c = some x) : x < 16 := by
 unfold hexv at h; (repeat' split at h); all_goals first | (cases h; omega) | cases h
set_option maxRecDepth 100000 in
theorem bits_all : ∀ x : Nat, x < 16 → ∀ y : Nat, y < 16 → (Go.bits .or .i64 (wrap64 ((x : Int) * 16)) (y : Int)) % 256 = ((16 * x + y : Nat) : Int) := by decide +kernel
theorem esc_all : ∀ n : Nat, n < 256 → decide (Lib.indexByte [34, 43, 44, 59, 60, 61, 62, 92, 35, 32] (UInt8.ofNat n) ≥ 0) = isEsc (UInt8.ofNat n) := by decide +kernel
theorem esc_is (c : UInt8) : decide (Lib.indexByte [34, 43, 44, 59, 60, 61, 62, 92, 35, 32] c ≥ 0) = isEsc c := by
 have := esc_all c.toNat c.toNat_lt; rwa [ofNat_toNat8] at this
theorem unhex_ev (u : ByteArray) (a b : UInt8) (hu : bl u = [a, b]) :
  (hex2 a b = none → Ev (fun k => b64_Unhex.f k u) (⟨#[]⟩, 4)) ∧ (∀ x, hex2 a b = some x → Ev (fun k => b64_Unhex.f k u) (⟨#[x]⟩, 0)) := by
 have hsz : u.size = 2 := by rw [← bl_length, hu]; rfl
 obtain ⟨_, ha⟩ := bt_get (s := u) (p := 0) (c := a) (by rw [hu]; rfl)
 obtain ⟨_, hb⟩ := bt_get (s := u) (p := 1) (c := b) (by rw [hu]; rfl)
 have hst : ∀ {v : ByteArray × Int}, Ev (fun k => if hexI a < 0 then (some ((⟨#[]⟩ : ByteArray), (4 : Int))) else (if hexI b < 0 then (some ((⟨#[]⟩ : ByteArray), 4)) else (b64_Unhex.l0 k u ([] ++ [(Go.bits .or .i64 (wrap64 (hexI a * 16)) (hexI b)) % 256]) (wrap64 ((0 : Int) + 2))))) v → Ev (fun k => b64_Unhex.f k u) v := by
  intro v h; unfold b64_Unhex.f; refine Ev.pos (by omega) (Ev.step (fun k => by rw [b64_Unhex.l0]) (Ev.pos (by omega) (Ev.pos (by omega) ?_))); have w1 : wrap64 ((0 : Int) + 1) = ((1 : Nat) : Int) := by unfold wrap64; omega
  have ha' : bt u 0 = (a.toNat : Int) := ha; rw [w1, ha', hb]; refine Ev.bindc (digit_is a) (Ev.pos (by omega) (Ev.pos (by omega) (Ev.bindc (digit_is b) ?_))); refine Ev.congr (fun k => ?_) h; rw [if_pos (show ([] : List Int).length < 140737488355328 by decide)]
 unfold hex2
 cases hx : hexv a with
 | none =>
  have e : hexI a = -1 := by unfold hexI; rw [hx]
  rw [e] at hst; exact ⟨fun _ => hst (Ev.pos (by omega) Ev.rfl'), fun x h => by simp at h⟩
 | some x =>
  have ea : hexI a = (x : Int) := by unfold hexI; rw [hx]
  rw [ea] at hst; cases hy : hexv b with
  | none =>
   have e : hexI b = -1 := by unfold hexI; rw [hy]
   rw [e] at hst; exact ⟨fun _ => hst (Ev.neg (by omega) (Ev.pos (by omega) Ev.rfl')), fun x h => by simp at h⟩
  | some y =>
   have eb : hexI b = (y : Int) := by unfold hexI; rw [hy]
   rw [eb, bits_all x (hexv_lt hx) y (hexv_lt hy)] at hst; refine ⟨fun h => by simp at h, fun z h => hst (Ev.neg (by omega) (Ev.neg (by omega) ?_))⟩; simp only [Option.bind_some, Option.map_some, Option.some.injEq] at h; subst h; refine Ev.step (fun k => by rw [b64_Unhex.l0]) (Ev.neg (by rw [hsz]; unfold wrap64; omega) ?_); have : strOfNums ([] ++ [((16 * x + y : Nat) : Int)]) = (⟨#[(16 * x + y).toUInt8]⟩ : ByteArray) := by
    show (⟨#[UInt8.ofNat ((16 * x + y : Nat) : Int).toNat]⟩ : ByteArray) = _; rw [Int.toNat_natCast]
   rw [this]; exact Ev.rfl'
theorem escaped_ev (s : ByteArray) (hs : s.size ≤ 1000000) (p : Nat) (hp : p ≤ s.size) :
  (esc ((bl s).drop p) = none → ∃ n s' q, Ev (fun k => Dxescaped.f k s (p : Int)) (n, false, s', q)) ∧
  (∀ x r', esc ((bl s).drop p) = some (x, r') → ∃ q : Nat, q ≤ s.size ∧ p < q ∧ (bl s).drop q = r' ∧ Ev (fun k => Dxescaped.f k s (p : Int)) ((x.toNat : Int), true, s, (q : Int))) := by
 obtain ⟨u, hu⟩ : ∃ u, u = s.extract p s.size := ⟨_, rfl⟩
 have hbu : bl u = (bl s).drop p := by
  rw [hu]; unfold bl; rw [Lib.extract_data, List.take_of_length_le]; rw [List.length_drop]; have := bl_length s; unfold bl at this; omega
 have hus : u.size = s.size - p := by rw [hu]; simp
 have hst : ∀ {v : Int × Bool × ByteArray × Int}, Ev (fun k => if u.toList = ([] : List UInt8) then (Dxescaped.j0 k u false s (p : Int)) else (if 0 < (u.size : Int) then ((strings_IndexByte.f (⟨#[34, 43, 44, 59, 60, 61, 62, 92, 35, 32]⟩ : ByteArray) (bt u 0)).bind fun t297 => (Dxescaped.j0 k u (decide (t297 ≥ 0)) s (p : Int))) else none)) v → Ev (fun k => Dxescaped.f k s (p : Int)) v := by
  intro v h; unfold Dxescaped.f; refine Ev.pos (by omega) (Ev.pos (by omega) ?_); rw [Int.toNat_natCast, ← hu]; exact h
 rw [Lib.toList_data, show u.data.toList = bl u from rfl, hbu] at hst
 cases hr : (bl s).drop p with
 | nil =>
  have := drop_nil hr; rw [hr] at hst; refine ⟨fun _ => ⟨_, _, _, hst (Ev.pos rfl (Ev.step (fun k => by rw [Dxescaped.j0]) (Ev.neg (by simp) (Ev.pos (by omega) Ev.rfl'))))⟩, fun x r' h => by simp [esc] at h⟩
 | cons a r =>
  obtain ⟨g1, g2, g3⟩ := drop_cons hr; rw [hr] at hst hbu; obtain ⟨_, ga⟩ := bt_get (s := u) (p := 0) (c := a) (by rw [hbu]; rfl); have ga' : bt u 0 = (a.toNat : Int) := ga; rw [ga'] at hst; have hix : strings_IndexByte.f (⟨#[34, 43, 44, 59, 60, 61, 62, 92, 35, 32]⟩ : ByteArray) (a.toNat : Int) = some (Lib.indexByte [34, 43, 44, 59, 60, 61, 62, 92, 35, 32] a) := by
   unfold strings_IndexByte.f; rw [Int.toNat_natCast, show a.toNat.toUInt8 = a by simp]
  have hj : ∀ {v : Int × Bool × ByteArray × Int}, Ev (fun k => Dxescaped.j0 k u (isEsc a) s (p : Int)) v → Ev (fun k => Dxescaped.f k s (p : Int)) v := by
   intro v h; refine hst (Ev.neg (by simp) (Ev.pos (by omega) (Ev.bindc hix ?_))); rw [esc_is]; exact h
  simp only [esc]; cases he : isEsc a with
  | true =>
   rw [he] at hj; rw [if_pos rfl]; refine ⟨fun h => by simp at h, fun x r' h => ?_⟩; simp only [Option.some.injEq, Prod.mk.injEq] at h; obtain ⟨rfl, rfl⟩ := h; refine ⟨p + 1, by omega, by omega, g3, hj (Ev.step (fun k => by rw [Dxescaped.j0]) (Ev.pos rfl (Ev.pos (by omega) ?_)))⟩; rw [ga', wsucc (by omega)]; exact Ev.rfl'
  | false =>
   rw [he] at hj; rw [if_neg (by simp)]; cases r with
   | nil =>
    have := drop_nil (s := s) (p := p + 1) g3; exact ⟨fun _ => ⟨_, _, _, hj (Ev.step (fun k => by rw [Dxescaped.j0]) (Ev.neg (by simp) (Ev.pos (by omega) Ev.rfl')))⟩, fun x r' h => by simp at h⟩
   | cons b r2 =>
    obtain ⟨f1, f2, f3⟩ := drop_cons g3; have h2 : bl (u.extract 0 2) = [a, b] := by
     unfold bl; rw [Lib.extract_data, show u.data.toList = bl u from rfl, hbu]; rfl
    obtain ⟨k1, k2⟩ := unhex_ev _ a b h2; dsimp only; cases hx : hex2 a b with
    | none =>
     exact ⟨fun _ => ⟨_, _, _, hj (Ev.step (fun k => by rw [Dxescaped.j0]) (Ev.neg (by simp) (Ev.neg (by omega) (Ev.pos (by omega) (Ev.pos (by omega) (Ev.bind (k1 hx) (Ev.neg (show ¬ ((4 : Int) = 0) by decide) Ev.rfl')))))))⟩, fun x r' h => by simp at h⟩
    | some x =>
     refine ⟨fun h => by simp at h, fun y r' h => ?_⟩; simp only [Option.map_some, Option.some.injEq, Prod.mk.injEq] at h; obtain ⟨rfl, rfl⟩ := h; refine ⟨p + 2, by omega, by omega, f3, hj (Ev.step (fun k => by rw [Dxescaped.j0]) (Ev.neg (by simp) (Ev.neg (by omega) (Ev.pos (by omega) (Ev.pos (by omega) (Ev.bind (k2 x hx) (Ev.pos rfl (Ev.pos ?_ ?_))))))))⟩
     ·show (0 : Int) < ((1 : Nat) : Int); omega
     ·have e1 : bt (⟨#[x]⟩ : ByteArray) 0 = (x.toNat : Int) := (bt_get (s := ⟨#[x]⟩) (p := 0) (c := x) rfl).2; have e2 : wrap64 ((p : Int) + 2) = ((p + 2 : Nat) : Int) := by unfold wrap64; omega
      dsimp only; rw [e1, e2]; exact Ev.rfl'
abbrev VOut := ByteArray × Bool × ByteArray × Int
theorem kept_out (b : List UInt8) (kept : Nat) (hk : kept ≤ b.length) (s : ByteArray) (q : Int) : Ev (fun (_ : Nat) => if (0 : Int) ≤ (kept : Int) then (if (kept : Int) ≤ ((ints b).length : Int) then (some (strOfNums ((ints b).take (kept : Int).toNat), true, s, q)) else (none)) else (none)) (⟨(b.take kept).toArray⟩, true, s, q) := by
 refine Ev.pos (by omega) (Ev.pos (by rw [ints_length]; omega) ?_); rw [Int.toNat_natCast, ints_take, strOfNums_ints]; exact Ev.rfl'
theorem scan_ev (s : ByteArray) (hs : s.size ≤ 1000000) : ∀ (n p : Nat) (b : List UInt8) (kept : Nat), p ≤ s.size → s.size - p < n → kept ≤ b.length → b.length ≤ p →
  (scanN n ((bl s).drop p) b kept = none → ∃ t s' q, Ev (fun k => Dxvalue.l0 k (ints b) (kept : Int) s (p : Int)) (t, false, s', q)) ∧
  (∀ v r', scanN n ((bl s).drop p) b kept = some (v, r') → ∃ q : Nat, q ≤ s.size ∧ p ≤ q ∧ (bl s).drop q = r' ∧ Ev (fun k => Dxvalue.l0 k (ints b) (kept : Int) s (p : Int)) (⟨v.toArray⟩, true, s, (q : Int))) := by
 intro n
 induction n with
 | zero => intro p b kept hp hn; omega
 | succ n ih =>
  intro p b kept hp hn hk hb; have hil : (ints b).length < 140737488355328 := by rw [ints_length]; omega
  cases hr : (bl s).drop p with
  | nil =>
   have := drop_nil hr; refine ⟨fun h => by simp [scanN] at h, fun v r' h => ?_⟩; simp only [scanN, Option.some.injEq, Prod.mk.injEq] at h; obtain ⟨rfl, rfl⟩ := h; exact ⟨p, hp, Nat.le_refl _, hr, Ev.step (fun k => by rw [Dxvalue.l0]) (Ev.neg (by omega) (kept_out b kept hk s _))⟩
  | cons c r =>
   obtain ⟨g1, g2, g3⟩ := drop_cons hr; have e44 : ((c.toNat : Int) = 44) ↔ c = 44 := ieq c 44; have e59 : ((c.toNat : Int) = 59) ↔ c = 59 := ieq c 59; have e43 : ((c.toNat : Int) = 43) ↔ c = 43 := ieq c 43; have e34 : ((c.toNat : Int) = 34) ↔ c = 34 := ieq c 34; have e60 : ((c.toNat : Int) = 60) ↔ c = 60 := ieq c 60; have e62 : ((c.toNat : Int) = 62) ↔ c = 62 := ieq c 62; have e92 : ((c.toNat : Int) = 92) ↔ c = 92 := ieq c 92; have e32 : ((c.toNat : Int) = 32) ↔ c = 32 := ieq c 32; have hst : ∀ {v : VOut}, Ev (fun k => if (c.toNat : Int) = 44 then (Dxvalue.j1 k (ints b) (kept : Int) (c.toNat : Int) (c.toNat : Int) ((c.toNat : Int) == 44) s (p : Int)) else (if (c.toNat : Int) = 59 then (Dxvalue.j1 k (ints b) (kept : Int) (c.toNat : Int) (c.toNat : Int) ((c.toNat : Int) == 59) s (p : Int)) else (Dxvalue.j1 k (ints b) (kept : Int) (c.toNat : Int) (c.toNat : Int) ((c.toNat : Int) == 43) s (p : Int)))) v → Ev (fun k => Dxvalue.l0 k (ints b) (kept : Int) s (p : Int)) v := by
    intro v h; refine Ev.step (fun k => by rw [Dxvalue.l0]) (Ev.pos (by omega) (Ev.pos (by omega) ?_)); rw [g2]; exact h
   by_cases hsep : c = 44 ∨ c = 59 ∨ c = 43
   ·refine ⟨fun h => by rw [scanN, if_pos hsep] at h; simp at h, fun v r' h => ?_⟩; rw [scanN, if_pos hsep] at h; simp only [Option.some.injEq, Prod.mk.injEq] at h; obtain ⟨rfl, rfl⟩ := h; refine ⟨p, hp, Nat.le_refl _, hr, hst ?_⟩; have hj : Ev (fun k => Dxvalue.j1 k (ints b) (kept : Int) (c.toNat : Int) (c.toNat : Int) true s (p : Int)) (⟨(b.take kept).toArray⟩, true, s, (p : Int)) :=
     Ev.step (fun k => by rw [Dxvalue.j1]) (Ev.pos rfl (kept_out b kept hk s _))
    rcases hsep with h | h | h
    ·refine Ev.pos (e44.2 h) ?_; rw [beq_iff_eq.2 (e44.2 h)]; exact hj
    ·refine Ev.neg (fun h' => by have := e44.1 h'; rw [h] at this; revert this; decide) (Ev.pos (e59.2 h) ?_); rw [beq_iff_eq.2 (e59.2 h)]; exact hj
    ·refine Ev.neg (fun h' => by have := e44.1 h'; rw [h] at this; revert this; decide) (Ev.neg (fun h' => by have := e59.1 h'; rw [h] at this; revert this; decide) ?_); rw [beq_iff_eq.2 (e43.2 h)]; exact hj
   ·have hsep' := hsep; simp only [not_or] at hsep; have hst2 : ∀ {v : VOut}, Ev (fun k => if (c.toNat : Int) = 34 then (some ((⟨#[]⟩ : ByteArray), false, s, (p : Int))) else (if (c.toNat : Int) = 60 then (some ((⟨#[]⟩ : ByteArray), false, s, (p : Int))) else (if (c.toNat : Int) = 62 then (some ((⟨#[]⟩ : ByteArray), false, s, (p : Int))) else (if (c.toNat : Int) = 92 then ((Dxescaped.f k s ((p + 1 : Nat) : Int)).bind fun bt311 => (if bt311.2.1 = true then (if (ints b).length < 140737488355328 then ((some (ints b ++ [bt311.1] : List Int)).bind fun y315 => (Dxvalue.l0 k y315 (y315.length : Int) bt311.2.2.1 bt311.2.2.2)) else (none)) else (some ((⟨#[]⟩ : ByteArray), false, bt311.2.2.1, bt311.2.2.2)))) else ((if (c.toNat : Int) = 32 then (Dxvalue.l0 k (ints (b ++ [c])) (kept : Int) s ((p + 1 : Nat) : Int)) else (Dxvalue.l0 k (ints (b ++ [c])) ((b.length + 1 : Nat) : Int) s ((p + 1 : Nat) : Int)))))))) v → Ev (fun k => Dxvalue.l0 k (ints b) (kept : Int) s (p : Int)) v := by
     intro v h; refine hst (Ev.neg (fun h' => hsep.1 (e44.1 h')) (Ev.neg (fun h' => hsep.2.1 (e59.1 h')) ?_)); rw [beq_eq_false_iff_ne.2 (fun h' => hsep.2.2 (e43.1 h'))]; refine Ev.step (fun k => by rw [Dxvalue.j1]) (Ev.neg (by simp) (Ev.congr (fun k => ?_) h)); rw [if_pos hil, Option.bind_some, ints_snoc, ints_length (b ++ [c]), wsucc (by omega), List.length_append, List.length_singleton]
    by_cases hbad : c = 34 ∨ c = 60 ∨ c = 62
    ·refine ⟨fun _ => ?_, fun v r' h => by rw [scanN, if_neg hsep', if_pos hbad] at h; simp at h⟩; by_cases h34 : c = 34
     ·exact ⟨_, _, _, hst2 (Ev.pos (e34.2 h34) Ev.rfl')⟩
     by_cases h60 : c = 60
     ·exact ⟨_, _, _, hst2 (Ev.neg (fun h => h34 (e34.1 h)) (Ev.pos (e60.2 h60) Ev.rfl'))⟩
     have h62 : c = 62 := by rcases hbad with h | h | h; exact absurd h h34; exact absurd h h60; exact h
     exact ⟨_, _, _, hst2 (Ev.neg (fun h => h34 (e34.1 h)) (Ev.neg (fun h => h60 (e60.1 h)) (Ev.pos (e62.2 h62) Ev.rfl')))⟩
    ·have hbad' := hbad; simp only [not_or] at hbad; rw [scanN, if_neg hsep', if_neg hbad']; have hst3 := fun {v : VOut} (h) => hst2 (v := v) (Ev.neg (fun h => hbad.1 (e34.1 h)) (Ev.neg (fun h => hbad.2.1 (e60.1 h)) (Ev.neg (fun h => hbad.2.2 (e62.1 h)) h)))
     by_cases h92 : c = 92
     ·rw [if_pos h92]; obtain ⟨k1, k2⟩ := escaped_ev s hs (p + 1) (by omega); rw [g3] at k1 k2; cases he : esc r with
      | none =>
       obtain ⟨n', s', q, hq⟩ := k1 he; exact ⟨fun _ => ⟨_, _, _, hst3 (Ev.pos (e92.2 h92) (Ev.bind hq (Ev.neg (by simp) Ev.rfl')))⟩, fun v r' h => by simp at h⟩
      | some x =>
       obtain ⟨q, q1, q2, q3, q4⟩ := k2 x.1 x.2 he; have hi := ih q (b ++ [x.1]) (b.length + 1) q1 (by omega) (by simp) (by simp; omega); rw [q3] at hi; simp only [Option.bind_some]; have hgo : ∀ {v : VOut}, Ev (fun k => Dxvalue.l0 k (ints (b ++ [x.1])) ((b.length + 1 : Nat) : Int) s (q : Int)) v → Ev (fun k => Dxvalue.l0 k (ints b) (kept : Int) s (p : Int)) v := by
        intro v h; refine hst3 (Ev.pos (e92.2 h92) (Ev.bind q4 (Ev.pos rfl (Ev.pos hil ?_)))); refine Ev.congr (fun k => ?_) h; rw [Option.bind_some, ints_snoc, ints_length, List.length_append, List.length_singleton]
       refine ⟨fun h => ?_, fun v r' h => ?_⟩
       ·obtain ⟨t, s', q', h'⟩ := hi.1 h; exact ⟨t, s', q', hgo h'⟩
       ·obtain ⟨q', d1, d2, d3, d4⟩ := hi.2 v r' h; exact ⟨q', d1, by omega, d3, hgo d4⟩
     ·rw [if_neg h92]; have hi := ih (p + 1) (b ++ [c]) (if c = 32 then kept else b.length + 1) (by omega) (by omega) (by split <;> simp; omega) (by simp; omega); rw [g3] at hi; have hgo : ∀ {v : VOut}, Ev (fun k => Dxvalue.l0 k (ints (b ++ [c])) ((if c = 32 then kept else b.length + 1 : Nat) : Int) s ((p + 1 : Nat) : Int)) v → Ev (fun k => Dxvalue.l0 k (ints b) (kept : Int) s (p : Int)) v := by
       intro v h; refine hst3 (Ev.neg (fun h' => h92 (e92.1 h')) ?_); by_cases h32 : c = 32
       ·rw [if_pos h32] at h; exact Ev.pos (e32.2 h32) h
       ·rw [if_neg h32] at h; exact Ev.neg (fun h' => h32 (e32.1 h')) h
      refine ⟨fun h => ?_, fun v r' h => ?_⟩
      ·obtain ⟨t, s', q', h'⟩ := hi.1 h; exact ⟨t, s', q', hgo h'⟩
      ·obtain ⟨q', d1, d2, d3, d4⟩ := hi.2 v r' h; exact ⟨q', d1, by omega, d3, hgo d4⟩
theorem hasPrefix35 (u : ByteArray) : strings_HasPrefix.f u (⟨#[35]⟩ : ByteArray) = some (match bl u with | [] => false | c :: _ => c == 35) := by
 unfold strings_HasPrefix.f stringslite_HasPrefix.f; have h1 : ((⟨#[35]⟩ : ByteArray)).size = 1 := rfl; rw [h1]; cases hu : bl u with
 | nil =>
  have : u.size = 0 := by rw [← bl_length, hu]; rfl
  rw [this]; rfl
 | cons c r =>
  have : u.size = r.length + 1 := by rw [← bl_length, hu]; rfl
  rw [if_pos (by omega), if_pos (by omega), if_pos (by omega)]; simp only [Option.bind_some, Lib.toList_data, Option.some.injEq]; rw [Lib.extract_data, show u.data.toList = bl u from rfl, hu]; simp
theorem value_ev (s : ByteArray) (hs : s.size ≤ 1000000) (p : Nat) (hp : p ≤ s.size) :
  (valueB ((bl s).drop p) = none → ∃ t s' q, Ev (fun k => Dxvalue.f k s (p : Int)) (t, false, s', q)) ∧
  (∀ v r', valueB ((bl s).drop p) = some (v, r') → ∃ q : Nat, q ≤ s.size ∧ p ≤ q ∧ (bl s).drop q = r' ∧ Ev (fun k => Dxvalue.f k s (p : Int)) (⟨v.toArray⟩, true, s, (q : Int))) := by
 obtain ⟨q1, a1, a2, a3, a4⟩ := blanks_f s hs p hp
 have hbu : bl (s.extract q1 s.size) = (bl s).drop q1 := by
  unfold bl; rw [Lib.extract_data, List.take_of_length_le]; rw [List.length_drop]; have := bl_length s; unfold bl at this; omega
 have hpre := hasPrefix35 (s.extract q1 s.size)
 rw [hbu] at hpre
 have hst : ∀ {v : VOut} {b : Bool}, strings_HasPrefix.f (s.extract q1 s.size) (⟨#[35]⟩ : ByteArray) = some b → Ev (fun k => if b = true then (some ((⟨#[]⟩ : ByteArray), false, s, (q1 : Int))) else (Dxvalue.l0 k ([] : List Int) 0 s (q1 : Int))) v → Ev (fun k => Dxvalue.f k s (p : Int)) v := by
  intro v b hb h; unfold Dxvalue.f; refine Ev.bind a4 (Ev.pos (by dsimp only; omega) (Ev.pos (by dsimp only; omega) ?_)); dsimp only; rw [Int.toNat_natCast]; exact Ev.bindc hb h
 unfold valueB
 rw [← a3]
 cases hr : (bl s).drop q1 with
 | nil =>
  rw [hr] at hpre; have h0 := scan_ev s hs 1 q1 [] 0 a2 (by have := drop_nil hr; omega) (Nat.le_refl _) (Nat.zero_le _); rw [hr] at h0; refine ⟨fun h => by simp at h, fun v r' h => ?_⟩; simp only [Option.some.injEq, Prod.mk.injEq] at h; obtain ⟨rfl, rfl⟩ := h; obtain ⟨q, d1, d2, d3, d4⟩ := h0.2 [] [] rfl; exact ⟨q, d1, by omega, d3, hst hpre (Ev.neg (by simp) d4)⟩
 | cons c r =>
  rw [hr] at hpre; have h0 := scan_ev s hs (r.length + 2) q1 [] 0 a2 (by have := congrArg List.length hr; rw [List.length_drop, bl_length] at this; simp at this; omega) (Nat.le_refl _) (Nat.zero_le _); rw [hr] at h0; dsimp only at hpre ⊢; by_cases h35 : c = 35
  ·rw [if_pos h35]; rw [beq_iff_eq.2 h35] at hpre; exact ⟨fun _ => ⟨_, _, _, hst hpre (Ev.pos rfl Ev.rfl')⟩, fun v r' h => by simp at h⟩
  ·rw [if_neg h35]; rw [beq_eq_false_iff_ne.2 h35] at hpre; refine ⟨fun h => ?_, fun v r' h => ?_⟩
   ·obtain ⟨t, s', q', h'⟩ := h0.1 h; exact ⟨t, s', q', hst hpre (Ev.neg (by simp) h')⟩
   ·obtain ⟨q', d1, d2, d3, d4⟩ := h0.2 v r' h; exact ⟨q', d1, by omega, d3, hst hpre (Ev.neg (by simp) d4)⟩
abbrev AvaS := S96
def mkA (x : Pr) : AvaS := ⟨⟨x.1.toArray⟩, ⟨x.2.toArray⟩⟩
def mkR (l : List Pr) : List AvaS := l.map mkA
def mkN (n : List (List Pr)) : List (List AvaS) := n.map mkR
theorem mkR_snoc (l : List Pr) (x : Pr) : mkR l ++ [mkA x] = mkR (l ++ [x]) := by simp [mkR]
theorem mkN_snoc (l : List (List Pr)) (x : List Pr) : mkN l ++ [mkR x] = mkN (l ++ [x]) := by simp [mkN]
theorem mkR_len (l : List Pr) : (mkR l).length = l.length := by simp [mkR]
theorem mkN_len (l : List (List Pr)) : (mkN l).length = l.length := by simp [mkN]
theorem parse_loop (s : ByteArray) (hs : s.size ≤ 100000) : ∀ (n p : Nat) (rdn : List Pr) (l : List (List Pr)), p ≤ s.size → s.size - p < n → rdn.length ≤ p → l.length ≤ p →
  (goB n ((bl s).drop p) rdn l = none → Ev (fun k => dn_Parse.l0 k s (mkN l) (mkR rdn) s (p : Int)) ([], 4)) ∧
  (∀ N b, goB n ((bl s).drop p) rdn l = some N → Ev (fun k => dn_Right.f k (mkN N)) b → Ev (fun k => dn_Parse.l0 k s (mkN l) (mkR rdn) s (p : Int)) (if b = true then (mkN N, 0) else ([], 4))) := by
 intro n
 induction n with
 | zero => intro p rdn l hp hn; omega
 | succ n ih =>
  intro p rdn l hp hn hr1 hl1; obtain ⟨k1, k2⟩ := kind_ev s hs p hp; rw [goB]; cases hk : kindB ((bl s).drop p) with
  | none =>
   obtain ⟨t, s', q, hq⟩ := k1 hk; refine ⟨fun _ => Ev.step (fun k => by rw [dn_Parse.l0]) ?_, fun N b h => by simp at h⟩; exact Ev.bind hq (Ev.neg (by simp) Ev.rfl')
  | some x =>
   obtain ⟨q1, a1, a2, a3, a4⟩ := k2 x.1 x.2 hk; obtain ⟨v1, v2⟩ := value_ev s (by omega) q1 a1; rw [a3] at v1 v2; simp only [Option.bind_some]; cases hv : valueB x.2 with
   | none =>
    obtain ⟨t, s', q, hq⟩ := v1 hv; refine ⟨fun _ => Ev.step (fun k => by rw [dn_Parse.l0]) ?_, fun N b h => by simp at h⟩; exact Ev.bind a4 (Ev.pos rfl (Ev.bind hq (Ev.neg (by simp) Ev.rfl')))
   | some y =>
    obtain ⟨q2, b1, b2, b3, b4⟩ := v2 y.1 y.2 hv; simp only [Option.bind_some]; have hst : ∀ {o : List (List AvaS) × Int}, Ev (fun k => if (q2 : Int) = (s.size : Int) then (dn_Parse.j1 k s (mkN l) (mkR (rdn ++ [(x.1, y.1)])) ((q2 : Int) == (s.size : Int)) true s (q2 : Int)) else (if (0 : Int) ≤ (q2 : Int) then (if (q2 : Int) < (s.size : Int) then (dn_Parse.j1 k s (mkN l) (mkR (rdn ++ [(x.1, y.1)])) ((q2 : Int) == (s.size : Int)) ((bt s (q2 : Int)) != 43) s (q2 : Int)) else (none)) else (none))) o → Ev (fun k => dn_Parse.l0 k s (mkN l) (mkR rdn) s (p : Int)) o := by
     intro o h; refine Ev.step (fun k => by rw [dn_Parse.l0]) ?_; refine Ev.bind a4 (Ev.pos rfl (Ev.bind b4 (Ev.pos rfl (Ev.pos (by rw [mkR_len]; omega) ?_)))); refine Ev.bindc rfl ?_; dsimp only; rw [show mkR rdn ++ [(⟨⟨x.1.toArray⟩, ⟨y.1.toArray⟩⟩ : AvaS)] = mkR (rdn ++ [(x.1, y.1)]) from mkR_snoc rdn (x.1, y.1)]; exact h
    have hlen : (mkN l).length < 5864062014805 := by rw [mkN_len]; omega
    cases hr : y.2 with
    | nil =>
     rw [hr] at b3; have hq : q2 = s.size := by have := drop_nil b3; omega
     refine ⟨fun h => by simp at h, fun N b h hR => ?_⟩; simp only [Option.some.injEq] at h; subst h; refine hst (Ev.pos (by omega) ?_); rw [beq_iff_eq.2 (by omega : (q2 : Int) = (s.size : Int))]; refine Ev.step (fun k => by rw [dn_Parse.j1]) ?_; refine Ev.pos rfl (Ev.pos hlen (Ev.bindc rfl (Ev.pos rfl ?_))); rw [mkN_snoc]; refine Ev.bind hR ?_; cases b with
     | true => exact Ev.pos rfl Ev.rfl'
     | false => exact Ev.neg (by simp) Ev.rfl'
    | cons c r3 =>
     rw [hr] at b3; obtain ⟨g1, g2, g3⟩ := drop_cons b3; have e43 : ((c.toNat : Int) = 43) ↔ c = 43 := ieq c 43; have hst2 : ∀ {o : List (List AvaS) × Int}, Ev (fun k => dn_Parse.j1 k s (mkN l) (mkR (rdn ++ [(x.1, y.1)])) false ((c.toNat : Int) != 43) s (q2 : Int)) o → Ev (fun k => dn_Parse.l0 k s (mkN l) (mkR rdn) s (p : Int)) o := by
      intro o h; refine hst (Ev.neg (by omega) (Ev.pos (by omega) (Ev.pos (by omega) ?_))); rw [beq_eq_false_iff_ne.2 (by omega : (q2 : Int) ≠ (s.size : Int)), g2]; exact h
     dsimp only; by_cases hc : c = 43
     ·rw [if_pos hc]; have hi := ih (q2 + 1) (rdn ++ [(x.1, y.1)]) l (by omega) (by omega) (by simp; omega) (by omega); rw [g3] at hi; have hgo : ∀ {o : List (List AvaS) × Int}, Ev (fun k => dn_Parse.l0 k s (mkN l) (mkR (rdn ++ [(x.1, y.1)])) s ((q2 + 1 : Nat) : Int)) o → Ev (fun k => dn_Parse.l0 k s (mkN l) (mkR rdn) s (p : Int)) o := by
       intro o h; refine hst2 ?_; rw [show ((c.toNat : Int) != 43) = false by rw [bne, beq_iff_eq.2 (e43.2 hc)]; rfl]; refine Ev.step (fun k => by rw [dn_Parse.j1]) (Ev.neg (by simp) (Ev.neg (by simp) ?_)); rw [wsucc (by omega)]; exact h
      exact ⟨fun h => hgo (hi.1 h), fun N b h hR => hgo (hi.2 N b h hR)⟩
     ·rw [if_neg hc]; have hi := ih (q2 + 1) [] (l ++ [rdn ++ [(x.1, y.1)]]) (by omega) (by omega) (by simp) (by simp; omega); rw [g3] at hi; have hgo : ∀ {o : List (List AvaS) × Int}, Ev (fun k => dn_Parse.l0 k s (mkN (l ++ [rdn ++ [(x.1, y.1)]])) (mkR []) s ((q2 + 1 : Nat) : Int)) o → Ev (fun k => dn_Parse.l0 k s (mkN l) (mkR rdn) s (p : Int)) o := by
       intro o h; refine hst2 ?_; rw [show ((c.toNat : Int) != 43) = true by rw [bne, beq_eq_false_iff_ne.2 (fun h => hc (e43.1 h))]; rfl]; refine Ev.step (fun k => by rw [dn_Parse.j1]) ?_; refine Ev.pos rfl (Ev.pos hlen (Ev.bindc rfl (Ev.neg (by simp) ?_))); rw [wsucc (by omega), mkN_snoc]; exact h
      exact ⟨fun h => hgo (hi.1 h), fun N b h hR => hgo (hi.2 N b h hR)⟩
theorem dw_idem {α : Type} (p : α → Bool) (l : List α) : (l.dropWhile p).dropWhile p = l.dropWhile p := by
 cases h : l.dropWhile p with
 | nil => rfl
 | cons c r => exact List.dropWhile_cons_of_neg (by simp [dw_head h])
theorem goB_blank (n : Nat) (r : List UInt8) (rdn : List Pr) (l : List (List Pr)) : goB (n + 1) (r.dropWhile (· == 32)) rdn l = goB (n + 1) r rdn l := by
 rw [goB, goB]; have : kindB (r.dropWhile (· == 32)) = kindB r := by unfold kindB; rw [dw_idem]
 rw [this]
theorem parse_ev (s : ByteArray) (hs : s.size ≤ 100000) :
  (s.size > 1000 → Ev (fun k => dn_Parse.f k s) ([], 5)) ∧
  (s.size ≤ 1000 → (bl s).dropWhile (· == 32) = [] → Ev (fun k => dn_Parse.f k s) ([], 0)) ∧
  (s.size ≤ 1000 → (bl s).dropWhile (· == 32) ≠ [] → ((signs (bl s)).bind fun L => goP L [] [] []) = none → Ev (fun k => dn_Parse.f k s) ([], 4)) ∧
  (s.size ≤ 1000 → (bl s).dropWhile (· == 32) ≠ [] → ∀ N b, ((signs (bl s)).bind fun L => goP L [] [] []) = some N → Ev (fun k => dn_Right.f k (mkN N)) b → Ev (fun k => dn_Parse.f k s) (if b = true then (mkN N, 0) else ([], 4))) := by
 refine ⟨fun h => ?_, ?_⟩
 ·unfold dn_Parse.f; exact Ev.pos (by omega) Ev.rfl'
 obtain ⟨q1, a1, a2, a3, a4⟩ := blanks_f s (by omega) 0 (Nat.zero_le _)
 rw [List.drop_zero] at a3
 have hstart : ∀ (h : s.size ≤ 1000) (hne : (bl s).dropWhile (· == 32) ≠ []) {o : List (List AvaS) × Int}, Ev (fun k => dn_Parse.l0 k s (mkN []) (mkR []) s (q1 : Int)) o → Ev (fun k => dn_Parse.f k s) o := by
  intro h hne o ho; unfold dn_Parse.f; refine Ev.neg (by omega) ?_; refine Ev.bind a4 (Ev.neg ?_ ho); dsimp only; intro h'; exact hne (by rw [← a3]; exact drop_end (by omega))
 have hsig : ((signs (bl s)).bind fun L => goP L [] [] []) = goB (s.size + 1) ((bl s).drop q1) [] [] := by
  rw [a3, goB_blank]; exact (goB_eq (s.size + 1) (bl s) [] [] (by rw [bl_length]; omega)).symm
 refine ⟨fun h he => ?_, fun h hne hn => ?_, fun h hne N b hn hR => ?_⟩
 ·unfold dn_Parse.f; refine Ev.neg (by omega) ?_; refine Ev.bind a4 (Ev.pos ?_ Ev.rfl'); dsimp only; have := drop_nil (a3.trans he); omega
 ·rw [hsig] at hn; exact hstart h hne ((parse_loop s hs (s.size + 1) q1 [] [] a2 (by omega) (Nat.zero_le _) (Nat.zero_le _)).1 hn)
 ·rw [hsig] at hn; exact hstart h hne ((parse_loop s hs (s.size + 1) q1 [] [] a2 (by omega) (Nat.zero_le _) (Nat.zero_le _)).2 N b hn hR)
end Go.Proofs.YtpklcnpmppaaoaaGreatDoor.Print
namespace Go.Proofs.YtpklcnpmppaaoaaGreatDoor.Print
open Go.RowKit Go.Proofs.YtpklcnpmppaaoaaGreatDoorW.PrintWords Go.Proofs.YtpklcnpmppaaoaaGreatDoorW.PrintLast Go.Proofs.YtpklcnpmppaaoaaGreatDoorW.PrintMore
attribute [local go_sem] max2_int min2_int max_two min_two max_three min_three max_four min_four
set_option linter.unusedVariables false
set_option linter.unusedSimpArgs false
def R13Blank.f (a0 : Int) : Option (Bool) := if a0 ≥ 9 then (if a0 ≤ 13 then (some true) else (if a0 = 32 then (some true) else (if a0 = 133 then (some true) else (if a0 = 160 then (some true) else (if a0 = 5760 then (some true) else (if a0 ≥ 8192 then (if a0 ≤ 8202 then (some true) else (if a0 = 8232 then (some true) else (if a0 = 8233 then (some true) else (if a0 = 8239 then (some true) else (if a0 = 8287 then (some true) else (some (a0 == 12288))))))) else (if a0 = 8232 then (some true) else (if a0 = 8233 then (some true) else (if a0 = 8239 then (some true) else (if a0 = 8287 then (some true) else (some (a0 == 12288)))))))))))) else (if a0 = 32 then (some true) else (if a0 = 133 then (some true) else (if a0 = 160 then (some true) else (if a0 = 5760 then (some true) else (if a0 ≥ 8192 then (if a0 ≤ 8202 then (some true) else (if a0 = 8232 then (some true) else (if a0 = 8233 then (some true) else (if a0 = 8239 then (some true) else (if a0 = 8287 then (some true) else (some (a0 == 12288))))))) else (if a0 = 8232 then (some true) else (if a0 = 8233 then (some true) else (if a0 = 8239 then (some true) else (if a0 = 8287 then (some true) else (some (a0 == 12288)))))))))))
set_option maxHeartbeats 8000000 in
set_option maxRecDepth 100000 in
theorem R13Blank.calls (a0 : Int) (r : Bool) (w : World) (h : R13Blank.f a0 = some r) :
  Calls Tryz.prog 64 #[.int .i32 a0] w fun e w' => e = .returned (.bool r) ∧ Drawn0 w w' := by
 have H : (if a0 ≥ 9 then (if a0 ≤ 13 then (some true) else (if a0 = 32 then (some true) else (if a0 = 133 then (some true) else (if a0 = 160 then (some true) else (if a0 = 5760 then (some true) else (if a0 ≥ 8192 then (if a0 ≤ 8202 then (some true) else (if a0 = 8232 then (some true) else (if a0 = 8233 then (some true) else (if a0 = 8239 then (some true) else (if a0 = 8287 then (some true) else (some (a0 == 12288))))))) else (if a0 = 8232 then (some true) else (if a0 = 8233 then (some true) else (if a0 = 8239 then (some true) else (if a0 = 8287 then (some true) else (some (a0 == 12288)))))))))))) else (if a0 = 32 then (some true) else (if a0 = 133 then (some true) else (if a0 = 160 then (some true) else (if a0 = 5760 then (some true) else (if a0 ≥ 8192 then (if a0 ≤ 8202 then (some true) else (if a0 = 8232 then (some true) else (if a0 = 8233 then (some true) else (if a0 = 8239 then (some true) else (if a0 = 8287 then (some true) else (some (a0 == 12288))))))) else (if a0 = 8232 then (some true) else (if a0 = 8233 then (some true) else (if a0 = 8239 then (some true) else (if a0 = 8287 then (some true) else (some (a0 == 12288)))))))))))) = some r := h
 clear h
 revert H
 refine spd00 ?_ ?_
 ·intro c2b0 H; revert H; refine spd00 ?_ ?_
  ·intro c3b0 H; obtain rfl := Option.some.inj H; go_enter Tryz.func64, Tryz.ntmps64; go_wp2; go_ret; exact ⟨ap2, ap7⟩
  ·intro c3b0 H; revert H; refine spe01 ?_ ?_
   ·intro c4b0 c4b1 H; obtain rfl := Option.some.inj H; go_enter Tryz.func64, Tryz.ntmps64; go_wp2; go_ret; exact ⟨ap2, ap7⟩
   ·intro c4 c4b0 c4b1 H; revert H; refine spe01 ?_ ?_
    ·intro c5b0 c5b1 H; obtain rfl := Option.some.inj H; go_enter Tryz.func64, Tryz.ntmps64; go_wp2; go_ret; exact ⟨ap2, ap7⟩
    ·intro c5 c5b0 c5b1 H; revert H; refine spe01 ?_ ?_
     ·intro c6b0 c6b1 H; obtain rfl := Option.some.inj H; go_enter Tryz.func64, Tryz.ntmps64; go_wp2; go_ret; exact ⟨ap2, ap7⟩
     ·intro c6 c6b0 c6b1 H; revert H; refine spe01 ?_ ?_
      ·intro c7b0 c7b1 H; obtain rfl := Option.some.inj H; go_enter Tryz.func64, Tryz.ntmps64; go_wp2; go_ret; exact ⟨ap2, ap7⟩
      ·intro c7 c7b0 c7b1 H; revert H; refine spd00 ?_ ?_
       ·intro c8b0 H; revert H; refine spd00 ?_ ?_
        ·intro c9b0 H; obtain rfl := Option.some.inj H; go_enter Tryz.func64, Tryz.ntmps64; go_wp2; go_ret; exact ⟨ap2, ap7⟩
        ·intro c9b0 H; revert H; refine spe01 ?_ ?_
         ·intro c10b0 c10b1 H; obtain rfl := Option.some.inj H; go_enter Tryz.func64, Tryz.ntmps64; go_wp2; go_ret; exact ⟨ap2, ap7⟩
         ·intro c10 c10b0 c10b1 H; revert H; refine spe01 ?_ ?_
          ·intro c11b0 c11b1 H; obtain rfl := Option.some.inj H; go_enter Tryz.func64, Tryz.ntmps64; go_wp2; go_ret; exact ⟨ap2, ap7⟩
          ·intro c11 c11b0 c11b1 H; revert H; refine spe01 ?_ ?_
           ·intro c12b0 c12b1 H; obtain rfl := Option.some.inj H; go_enter Tryz.func64, Tryz.ntmps64; go_wp2; go_ret; exact ⟨ap2, ap7⟩
           ·intro c12 c12b0 c12b1 H; revert H; refine spe01 ?_ ?_
            ·intro c13b0 c13b1 H; obtain rfl := Option.some.inj H; go_enter Tryz.func64, Tryz.ntmps64; go_wp2; go_ret; exact ⟨ap2, ap7⟩
            ·intro c13 c13b0 c13b1 H; obtain rfl := Option.some.inj H; go_enter Tryz.func64, Tryz.ntmps64; go_wp2; go_ret; exact ⟨ap2, ap7⟩
       ·intro c8b0 H; revert H; refine spe01 ?_ ?_
        ·intro c14b0 c14b1 H; obtain rfl := Option.some.inj H; go_enter Tryz.func64, Tryz.ntmps64; go_wp2; go_ret; exact ⟨ap2, ap7⟩
        ·intro c14 c14b0 c14b1 H; revert H; refine spe01 ?_ ?_
         ·intro c15b0 c15b1 H; obtain rfl := Option.some.inj H; go_enter Tryz.func64, Tryz.ntmps64; go_wp2; go_ret; exact ⟨ap2, ap7⟩
         ·intro c15 c15b0 c15b1 H; revert H; refine spe01 ?_ ?_
          ·intro c16b0 c16b1 H; obtain rfl := Option.some.inj H; go_enter Tryz.func64, Tryz.ntmps64; go_wp2; go_ret; exact ⟨ap2, ap7⟩
          ·intro c16 c16b0 c16b1 H; revert H; refine spe01 ?_ ?_
           ·intro c17b0 c17b1 H; obtain rfl := Option.some.inj H; go_enter Tryz.func64, Tryz.ntmps64; go_wp2; go_ret; exact ⟨ap2, ap7⟩
           ·intro c17 c17b0 c17b1 H; obtain rfl := Option.some.inj H; go_enter Tryz.func64, Tryz.ntmps64; go_wp2; go_ret; exact ⟨ap2, ap7⟩
 ·intro c2b0 H; revert H; refine spe01 ?_ ?_
  ·intro c18b0 c18b1 H; obtain rfl := Option.some.inj H; go_enter Tryz.func64, Tryz.ntmps64; go_wp2; go_ret; exact ⟨ap2, ap7⟩
  ·intro c18 c18b0 c18b1 H; revert H; refine spe01 ?_ ?_
   ·intro c19b0 c19b1 H; obtain rfl := Option.some.inj H; go_enter Tryz.func64, Tryz.ntmps64; go_wp2; go_ret; exact ⟨ap2, ap7⟩
   ·intro c19 c19b0 c19b1 H; revert H; refine spe01 ?_ ?_
    ·intro c20b0 c20b1 H; obtain rfl := Option.some.inj H; go_enter Tryz.func64, Tryz.ntmps64; go_wp2; go_ret; exact ⟨ap2, ap7⟩
    ·intro c20 c20b0 c20b1 H; revert H; refine spe01 ?_ ?_
     ·intro c21b0 c21b1 H; obtain rfl := Option.some.inj H; go_enter Tryz.func64, Tryz.ntmps64; go_wp2; go_ret; exact ⟨ap2, ap7⟩
     ·intro c21 c21b0 c21b1 H; revert H; refine spd00 ?_ ?_
      ·intro c22b0 H; revert H; refine spd00 ?_ ?_
       ·intro c23b0 H; obtain rfl := Option.some.inj H; go_enter Tryz.func64, Tryz.ntmps64; go_wp2; go_ret; exact ⟨ap2, ap7⟩
       ·intro c23b0 H; revert H; refine spe01 ?_ ?_
        ·intro c24b0 c24b1 H; obtain rfl := Option.some.inj H; go_enter Tryz.func64, Tryz.ntmps64; go_wp2; go_ret; exact ⟨ap2, ap7⟩
        ·intro c24 c24b0 c24b1 H; revert H; refine spe01 ?_ ?_
         ·intro c25b0 c25b1 H; obtain rfl := Option.some.inj H; go_enter Tryz.func64, Tryz.ntmps64; go_wp2; go_ret; exact ⟨ap2, ap7⟩
         ·intro c25 c25b0 c25b1 H; revert H; refine spe01 ?_ ?_
          ·intro c26b0 c26b1 H; obtain rfl := Option.some.inj H; go_enter Tryz.func64, Tryz.ntmps64; go_wp2; go_ret; exact ⟨ap2, ap7⟩
          ·intro c26 c26b0 c26b1 H; revert H; refine spe01 ?_ ?_
           ·intro c27b0 c27b1 H; obtain rfl := Option.some.inj H; go_enter Tryz.func64, Tryz.ntmps64; go_wp2; go_ret; exact ⟨ap2, ap7⟩
           ·intro c27 c27b0 c27b1 H; obtain rfl := Option.some.inj H; go_enter Tryz.func64, Tryz.ntmps64; go_wp2; go_ret; exact ⟨ap2, ap7⟩
      ·intro c22b0 H; revert H; refine spe01 ?_ ?_
       ·intro c28b0 c28b1 H; obtain rfl := Option.some.inj H; go_enter Tryz.func64, Tryz.ntmps64; go_wp2; go_ret; exact ⟨ap2, ap7⟩
       ·intro c28 c28b0 c28b1 H; revert H; refine spe01 ?_ ?_
        ·intro c29b0 c29b1 H; obtain rfl := Option.some.inj H; go_enter Tryz.func64, Tryz.ntmps64; go_wp2; go_ret; exact ⟨ap2, ap7⟩
        ·intro c29 c29b0 c29b1 H; revert H; refine spe01 ?_ ?_
         ·intro c30b0 c30b1 H; obtain rfl := Option.some.inj H; go_enter Tryz.func64, Tryz.ntmps64; go_wp2; go_ret; exact ⟨ap2, ap7⟩
         ·intro c30 c30b0 c30b1 H; revert H; refine spe01 ?_ ?_
          ·intro c31b0 c31b1 H; obtain rfl := Option.some.inj H; go_enter Tryz.func64, Tryz.ntmps64; go_wp2; go_ret; exact ⟨ap2, ap7⟩
          ·intro c31 c31b0 c31b1 H; obtain rfl := Option.some.inj H; go_enter Tryz.func64, Tryz.ntmps64; go_wp2; go_ret; exact ⟨ap2, ap7⟩
def R13Dropped.f (a0 : Int) : Option (Bool) := if a0 ≤ 8 then (some true) else (if a0 ≥ 14 then (if a0 ≤ 31 then (some true) else (if a0 ≥ 127 then (if a0 ≤ 132 then (some true) else (if a0 ≥ 134 then (if a0 ≤ 159 then (some true) else (if a0 = 173 then (some true) else (if a0 ≥ 8203 then (if a0 ≤ 8207 then (some true) else (some (a0 == 65279))) else (some (a0 == 65279))))) else (if a0 = 173 then (some true) else (if a0 ≥ 8203 then (if a0 ≤ 8207 then (some true) else (some (a0 == 65279))) else (some (a0 == 65279)))))) else (if a0 ≥ 134 then (if a0 ≤ 159 then (some true) else (if a0 = 173 then (some true) else (if a0 ≥ 8203 then (if a0 ≤ 8207 then (some true) else (some (a0 == 65279))) else (some (a0 == 65279))))) else (if a0 = 173 then (some true) else (if a0 ≥ 8203 then (if a0 ≤ 8207 then (some true) else (some (a0 == 65279))) else (some (a0 == 65279))))))) else (if a0 ≥ 127 then (if a0 ≤ 132 then (some true) else (if a0 ≥ 134 then (if a0 ≤ 159 then (some true) else (if a0 = 173 then (some true) else (if a0 ≥ 8203 then (if a0 ≤ 8207 then (some true) else (some (a0 == 65279))) else (some (a0 == 65279))))) else (if a0 = 173 then (some true) else (if a0 ≥ 8203 then (if a0 ≤ 8207 then (some true) else (some (a0 == 65279))) else (some (a0 == 65279)))))) else (if a0 ≥ 134 then (if a0 ≤ 159 then (some true) else (if a0 = 173 then (some true) else (if a0 ≥ 8203 then (if a0 ≤ 8207 then (some true) else (some (a0 == 65279))) else (some (a0 == 65279))))) else (if a0 = 173 then (some true) else (if a0 ≥ 8203 then (if a0 ≤ 8207 then (some true) else (some (a0 == 65279))) else (some (a0 == 65279)))))))
set_option maxHeartbeats 8000000 in
set_option maxRecDepth 100000 in
theorem R13Dropped.calls (a0 : Int) (r : Bool) (w : World) (h : R13Dropped.f a0 = some r) :
  Calls Tryz.prog 63 #[.int .i32 a0] w fun e w' => e = .returned (.bool r) ∧ Drawn0 w w' := by
 have H : (if a0 ≤ 8 then (some true) else (if a0 ≥ 14 then (if a0 ≤ 31 then (some true) else (if a0 ≥ 127 then (if a0 ≤ 132 then (some true) else (if a0 ≥ 134 then (if a0 ≤ 159 then (some true) else (if a0 = 173 then (some true) else (if a0 ≥ 8203 then (if a0 ≤ 8207 then (some true) else (some (a0 == 65279))) else (some (a0 == 65279))))) else (if a0 = 173 then (some true) else (if a0 ≥ 8203 then (if a0 ≤ 8207 then (some true) else (some (a0 == 65279))) else (some (a0 == 65279)))))) else (if a0 ≥ 134 then (if a0 ≤ 159 then (some true) else (if a0 = 173 then (some true) else (if a0 ≥ 8203 then (if a0 ≤ 8207 then (some true) else (some (a0 == 65279))) else (some (a0 == 65279))))) else (if a0 = 173 then (some true) else (if a0 ≥ 8203 then (if a0 ≤ 8207 then (some true) else (some (a0 == 65279))) else (some (a0 == 65279))))))) else (if a0 ≥ 127 then (if a0 ≤ 132 then (some true) else (if a0 ≥ 134 then (if a0 ≤ 159 then (some true) else (if a0 = 173 then (some true) else (if a0 ≥ 8203 then (if a0 ≤ 8207 then (some true) else (some (a0 == 65279))) else (some (a0 == 65279))))) else (if a0 = 173 then (some true) else (if a0 ≥ 8203 then (if a0 ≤ 8207 then (some true) else (some (a0 == 65279))) else (some (a0 == 65279)))))) else (if a0 ≥ 134 then (if a0 ≤ 159 then (some true) else (if a0 = 173 then (some true) else (if a0 ≥ 8203 then (if a0 ≤ 8207 then (some true) else (some (a0 == 65279))) else (some (a0 == 65279))))) else (if a0 = 173 then (some true) else (if a0 ≥ 8203 then (if a0 ≤ 8207 then (some true) else (some (a0 == 65279))) else (some (a0 == 65279)))))))) = some r := h
 clear h
 revert H
 refine spd00 ?_ ?_
 ·intro c2b0 H; obtain rfl := Option.some.inj H; go_enter Tryz.func63, Tryz.ntmps63; go_wp2; go_ret; exact ⟨ap2, ap7⟩
 ·intro c2b0 H; revert H; refine spd00 ?_ ?_
  ·intro c3b0 H; revert H; refine spd00 ?_ ?_
   ·intro c4b0 H; obtain rfl := Option.some.inj H; go_enter Tryz.func63, Tryz.ntmps63; go_wp2; go_ret; exact ⟨ap2, ap7⟩
   ·intro c4b0 H; revert H; refine spd00 ?_ ?_
    ·intro c5b0 H; revert H; refine spd00 ?_ ?_
     ·intro c6b0 H; obtain rfl := Option.some.inj H; go_enter Tryz.func63, Tryz.ntmps63; go_wp2; go_ret; exact ⟨ap2, ap7⟩
     ·intro c6b0 H; revert H; refine spd00 ?_ ?_
      ·intro c7b0 H; revert H; refine spd00 ?_ ?_
       ·intro c8b0 H; obtain rfl := Option.some.inj H; go_enter Tryz.func63, Tryz.ntmps63; go_wp2; go_ret; exact ⟨ap2, ap7⟩
       ·intro c8b0 H; revert H; refine spe01 ?_ ?_
        ·intro c9b0 c9b1 H; obtain rfl := Option.some.inj H; go_enter Tryz.func63, Tryz.ntmps63; go_wp2; go_ret; exact ⟨ap2, ap7⟩
        ·intro c9 c9b0 c9b1 H; revert H; refine spd00 ?_ ?_
         ·intro c10b0 H; revert H; refine spd00 ?_ ?_
          ·intro c11b0 H; obtain rfl := Option.some.inj H; go_enter Tryz.func63, Tryz.ntmps63; go_wp2; go_ret; exact ⟨ap2, ap7⟩
          ·intro c11b0 H; obtain rfl := Option.some.inj H; go_enter Tryz.func63, Tryz.ntmps63; go_wp2; go_ret; exact ⟨ap2, ap7⟩
         ·intro c10b0 H; obtain rfl := Option.some.inj H; go_enter Tryz.func63, Tryz.ntmps63; go_wp2; go_ret; exact ⟨ap2, ap7⟩
      ·intro c7b0 H; revert H; refine spe01 ?_ ?_
       ·intro c12b0 c12b1 H; obtain rfl := Option.some.inj H; go_enter Tryz.func63, Tryz.ntmps63; go_wp2; go_ret; exact ⟨ap2, ap7⟩
       ·intro c12 c12b0 c12b1 H; revert H; refine spd00 ?_ ?_
        ·intro c13b0 H; revert H; refine spd00 ?_ ?_
         ·intro c14b0 H; obtain rfl := Option.some.inj H; go_enter Tryz.func63, Tryz.ntmps63; go_wp2; go_ret; exact ⟨ap2, ap7⟩
         ·intro c14b0 H; obtain rfl := Option.some.inj H; go_enter Tryz.func63, Tryz.ntmps63; go_wp2; go_ret; exact ⟨ap2, ap7⟩
        ·intro c13b0 H; obtain rfl := Option.some.inj H; go_enter Tryz.func63, Tryz.ntmps63; go_wp2; go_ret; exact ⟨ap2, ap7⟩
    ·intro c5b0 H; revert H; refine spd00 ?_ ?_
     ·intro c15b0 H; revert H; refine spd00 ?_ ?_
      ·intro c16b0 H; obtain rfl := Option.some.inj H; go_enter Tryz.func63, Tryz.ntmps63; go_wp2; go_ret; exact ⟨ap2, ap7⟩
      ·intro c16b0 H; revert H; refine spe01 ?_ ?_
       ·intro c17b0 c17b1 H; obtain rfl := Option.some.inj H; go_enter Tryz.func63, Tryz.ntmps63; go_wp2; go_ret; exact ⟨ap2, ap7⟩
       ·intro c17 c17b0 c17b1 H; revert H; refine spd00 ?_ ?_
        ·intro c18b0 H; revert H; refine spd00 ?_ ?_
         ·intro c19b0 H; obtain rfl := Option.some.inj H; go_enter Tryz.func63, Tryz.ntmps63; go_wp2; go_ret; exact ⟨ap2, ap7⟩
         ·intro c19b0 H; obtain rfl := Option.some.inj H; go_enter Tryz.func63, Tryz.ntmps63; go_wp2; go_ret; exact ⟨ap2, ap7⟩
        ·intro c18b0 H; obtain rfl := Option.some.inj H; go_enter Tryz.func63, Tryz.ntmps63; go_wp2; go_ret; exact ⟨ap2, ap7⟩
     ·intro c15b0 H; revert H; refine spe01 ?_ ?_
      ·intro c20b0 c20b1 H; obtain rfl := Option.some.inj H; go_enter Tryz.func63, Tryz.ntmps63; go_wp2; go_ret; exact ⟨ap2, ap7⟩
      ·intro c20 c20b0 c20b1 H; revert H; refine spd00 ?_ ?_
       ·intro c21b0 H; revert H; refine spd00 ?_ ?_
        ·intro c22b0 H; obtain rfl := Option.some.inj H; go_enter Tryz.func63, Tryz.ntmps63; go_wp2; go_ret; exact ⟨ap2, ap7⟩
        ·intro c22b0 H; obtain rfl := Option.some.inj H; go_enter Tryz.func63, Tryz.ntmps63; go_wp2; go_ret; exact ⟨ap2, ap7⟩
       ·intro c21b0 H; obtain rfl := Option.some.inj H; go_enter Tryz.func63, Tryz.ntmps63; go_wp2; go_ret; exact ⟨ap2, ap7⟩
  ·intro c3b0 H; revert H; refine spd00 ?_ ?_
   ·intro c23b0 H; revert H; refine spd00 ?_ ?_
    ·intro c24b0 H; obtain rfl := Option.some.inj H; go_enter Tryz.func63, Tryz.ntmps63; go_wp2; go_ret; exact ⟨ap2, ap7⟩
    ·intro c24b0 H; revert H; refine spd00 ?_ ?_
     ·intro c25b0 H; revert H; refine spd00 ?_ ?_
      ·intro c26b0 H; obtain rfl := Option.some.inj H; go_enter Tryz.func63, Tryz.ntmps63; go_wp2; go_ret; exact ⟨ap2, ap7⟩
      ·intro c26b0 H; revert H; refine spe01 ?_ ?_
       ·intro c27b0 c27b1 H; obtain rfl := Option.some.inj H; go_enter Tryz.func63, Tryz.ntmps63; go_wp2; go_ret; exact ⟨ap2, ap7⟩
       ·intro c27 c27b0 c27b1 H; revert H; refine spd00 ?_ ?_
        ·intro c28b0 H; revert H; refine spd00 ?_ ?_
         ·intro c29b0 H; obtain rfl := Option.some.inj H; go_enter Tryz.func63, Tryz.ntmps63; go_wp2; go_ret; exact ⟨ap2, ap7⟩
         ·intro c29b0 H; obtain rfl := Option.some.inj H; go_enter Tryz.func63, Tryz.ntmps63; go_wp2; go_ret; exact ⟨ap2, ap7⟩
        ·intro c28b0 H; obtain rfl := Option.some.inj H; go_enter Tryz.func63, Tryz.ntmps63; go_wp2; go_ret; exact ⟨ap2, ap7⟩
     ·intro c25b0 H; revert H; refine spe01 ?_ ?_
      ·intro c30b0 c30b1 H; obtain rfl := Option.some.inj H; go_enter Tryz.func63, Tryz.ntmps63; go_wp2; go_ret; exact ⟨ap2, ap7⟩
      ·intro c30 c30b0 c30b1 H; revert H; refine spd00 ?_ ?_
       ·intro c31b0 H; revert H; refine spd00 ?_ ?_
        ·intro c32b0 H; obtain rfl := Option.some.inj H; go_enter Tryz.func63, Tryz.ntmps63; go_wp2; go_ret; exact ⟨ap2, ap7⟩
        ·intro c32b0 H; obtain rfl := Option.some.inj H; go_enter Tryz.func63, Tryz.ntmps63; go_wp2; go_ret; exact ⟨ap2, ap7⟩
       ·intro c31b0 H; obtain rfl := Option.some.inj H; go_enter Tryz.func63, Tryz.ntmps63; go_wp2; go_ret; exact ⟨ap2, ap7⟩
   ·intro c23b0 H; revert H; refine spd00 ?_ ?_
    ·intro c33b0 H; revert H; refine spd00 ?_ ?_
     ·intro c34b0 H; obtain rfl := Option.some.inj H; go_enter Tryz.func63, Tryz.ntmps63; go_wp2; go_ret; exact ⟨ap2, ap7⟩
     ·intro c34b0 H; revert H; refine spe01 ?_ ?_
      ·intro c35b0 c35b1 H; obtain rfl := Option.some.inj H; go_enter Tryz.func63, Tryz.ntmps63; go_wp2; go_ret; exact ⟨ap2, ap7⟩
      ·intro c35 c35b0 c35b1 H; revert H; refine spd00 ?_ ?_
       ·intro c36b0 H; revert H; refine spd00 ?_ ?_
        ·intro c37b0 H; obtain rfl := Option.some.inj H; go_enter Tryz.func63, Tryz.ntmps63; go_wp2; go_ret; exact ⟨ap2, ap7⟩
        ·intro c37b0 H; obtain rfl := Option.some.inj H; go_enter Tryz.func63, Tryz.ntmps63; go_wp2; go_ret; exact ⟨ap2, ap7⟩
       ·intro c36b0 H; obtain rfl := Option.some.inj H; go_enter Tryz.func63, Tryz.ntmps63; go_wp2; go_ret; exact ⟨ap2, ap7⟩
    ·intro c33b0 H; revert H; refine spe01 ?_ ?_
     ·intro c38b0 c38b1 H; obtain rfl := Option.some.inj H; go_enter Tryz.func63, Tryz.ntmps63; go_wp2; go_ret; exact ⟨ap2, ap7⟩
     ·intro c38 c38b0 c38b1 H; revert H; refine spd00 ?_ ?_
      ·intro c39b0 H; revert H; refine spd00 ?_ ?_
       ·intro c40b0 H; obtain rfl := Option.some.inj H; go_enter Tryz.func63, Tryz.ntmps63; go_wp2; go_ret; exact ⟨ap2, ap7⟩
       ·intro c40b0 H; obtain rfl := Option.some.inj H; go_enter Tryz.func63, Tryz.ntmps63; go_wp2; go_ret; exact ⟨ap2, ap7⟩
      ·intro c39b0 H; obtain rfl := Option.some.inj H; go_enter Tryz.func63, Tryz.ntmps63; go_wp2; go_ret; exact ⟨ap2, ap7⟩
mutual
def R13One.j0 : Nat → ByteArray → Int → Int → Int → Int → Int → Bool → Option (Int × Int)
 | 0, _, _, _, _, _, _, _ => none
 | k + 1, x0, x1, x6, x7, x8, x9, x24 => if x24 = true then (R13One.j1 k x0 x1 x6 2 (wrap64 (x6 - 192)) 128) else (R13One.j1 k x0 x1 x6 x7 x8 x9)
def R13One.j1 : Nat → ByteArray → Int → Int → Int → Int → Int → Option (Int × Int)
 | 0, _, _, _, _, _, _ => none
 | k + 1, x0, x1, x6, x7, x8, x9 => if x6 ≥ 224 then (R13One.j2 k x0 x1 x6 x7 x8 x9 (decide (x6 < 240))) else (R13One.j2 k x0 x1 x6 x7 x8 x9 false)
def R13One.j2 : Nat → ByteArray → Int → Int → Int → Int → Int → Bool → Option (Int × Int)
 | 0, _, _, _, _, _, _, _ => none
 | k + 1, x0, x1, x6, x7, x8, x9, x32 => if x32 = true then (R13One.j3 k x0 x1 x6 3 (wrap64 (x6 - 224)) 2048) else (R13One.j3 k x0 x1 x6 x7 x8 x9)
def R13One.j3 : Nat → ByteArray → Int → Int → Int → Int → Int → Option (Int × Int)
 | 0, _, _, _, _, _, _ => none
 | k + 1, x0, x1, x6, x7, x8, x9 => if x6 ≥ 240 then (R13One.j4 k x0 x1 x6 x7 x8 x9 (decide (x6 < 245))) else (R13One.j4 k x0 x1 x6 x7 x8 x9 false)
def R13One.j4 : Nat → ByteArray → Int → Int → Int → Int → Int → Bool → Option (Int × Int)
 | 0, _, _, _, _, _, _, _ => none
 | k + 1, x0, x1, x6, x7, x8, x9, x40 => if x40 = true then (R13One.j5 k x0 x1 4 (wrap64 (x6 - 240)) 65536) else (R13One.j5 k x0 x1 x7 x8 x9)
def R13One.j5 : Nat → ByteArray → Int → Int → Int → Int → Option (Int × Int)
 | 0, _, _, _, _, _ => none
 | k + 1, x0, x1, x7, x8, x9 => if x7 = 0 then (R13One.j6 k x0 x1 x7 x8 x9 true) else (R13One.j6 k x0 x1 x7 x8 x9 (decide ((wrap64 (x1 + x7)) > (x0.size : Int))))
def R13One.j6 : Nat → ByteArray → Int → Int → Int → Int → Bool → Option (Int × Int)
 | 0, _, _, _, _, _, _ => none
 | k + 1, x0, x1, x7, x8, x9, x52 => if x52 = true then (some (0, 0)) else (R13One.l0 k x0 x1 x7 x8 x9 1)
def R13One.l0 : Nat → ByteArray → Int → Int → Int → Int → Int → Option (Int × Int)
 | 0, _, _, _, _, _, _ => none
 | k + 1, x0, x1, x7, x8, x9, x10 => if x10 < x7 then (if 0 ≤ (wrap64 (x1 + x10)) then (if (wrap64 (x1 + x10)) < (x0.size : Int) then (if (wrap64 (bt x0 (wrap64 (x1 + x10)))) < 128 then (some (0, 0)) else (if (wrap64 (bt x0 (wrap64 (x1 + x10)))) > 191 then (some (0, 0)) else (R13One.l0 k x0 x1 x7 (wrap64 ((wrap64 ((wrap64 (x8 * 64)) + (wrap64 (bt x0 (wrap64 (x1 + x10)))))) - 128)) x9 (wrap64 (x10 + 1))))) else (none)) else (none)) else (if x8 < x9 then (some (0, 0)) else (if x8 > 1114111 then (some (0, 0)) else (if x8 ≥ 55296 then (if x8 ≤ 57343 then (some (0, 0)) else (some (x8, x7))) else (some (x8, x7)))))
end
def R13One.f (k : Nat) (a0 : ByteArray) (a1 : Int) : Option (Int × Int) := if 0 ≤ a1 then (if a1 < (a0.size : Int) then (if (wrap64 (bt a0 a1)) < 128 then (some (wrap64 (bt a0 a1), 1)) else (if (wrap64 (bt a0 a1)) ≥ 194 then (R13One.j0 k a0 a1 (wrap64 (bt a0 a1)) 0 0 0 (decide ((wrap64 (bt a0 a1)) < 224))) else (R13One.j0 k a0 a1 (wrap64 (bt a0 a1)) 0 0 0 false))) else (none)) else (none)
set_option maxHeartbeats 8000000 in
set_option maxRecDepth 100000 in
theorem R13One.calls (k : Nat) (a0 : ByteArray) (a1 : Int) (r1 : Int) (r2 : Int) (w : World) (h : R13One.f k a0 a1 = some (r1, r2)) :
  Calls Tryz.prog 93 #[.string a0, .int .i64 a1] w fun e w' => e = .returned (.tuple #[.int .i64 r1, .int .i64 r2]) ∧ Drawn0 w w' := by
 have H : (if 0 ≤ a1 then (if a1 < (a0.size : Int) then (if (wrap64 (bt a0 a1)) < 128 then (some (wrap64 (bt a0 a1), 1)) else (if (wrap64 (bt a0 a1)) ≥ 194 then (R13One.j0 k a0 a1 (wrap64 (bt a0 a1)) 0 0 0 (decide ((wrap64 (bt a0 a1)) < 224))) else (R13One.j0 k a0 a1 (wrap64 (bt a0 a1)) 0 0 0 false))) else (none)) else (none)) = some (r1, r2) := h
 clear h
 revert H
 refine spn0 ?_
 intro c3b0 H
 revert H
 refine spn0 ?_
 intro c4b0 H
 revert H
 refine spd00 ?_ ?_
 ·intro c6b0 H; simp only [Option.some.injEq, Prod.mk.injEq] at H; obtain ⟨rfl, rfl⟩ := H; have p5 : 0 ≤ (a1 : Int) := apD; have q5 : a1 < (a0.size : Int) := apD; have hx5 := bt_at a0 a1; replace p5 := eq_true p5; replace q5 := eq_true q5; go_enter Tryz.func93, Tryz.ntmps93; go_wp2; go_ret2; exact ⟨ap2, ap7⟩
 ·intro c6b0 H; have HC7 := am H; clear H; have p5 : 0 ≤ (a1 : Int) := apD; have q5 : a1 < (a0.size : Int) := apD; have hx5 := bt_at a0 a1; replace p5 := eq_true p5; replace q5 := eq_true q5; go_enter Tryz.func93, Tryz.ntmps93; go_upto_region 7 with (fail); go_cut [24] (fun v24 wc => ∃ (kq : Nat) (x24_6 : Bool), v24 = .bool x24_6 ∧ Aside0 (R13One.j0 kq a0 a1 (wrap64 (bt a0 a1)) 0 0 0 x24_6 = some (r1, r2)) ∧ Aside0 (kq ≤ k) ∧ Drawn0 w wc); case first =>
   have H := HC7.out; clear HC7; revert H; refine spd00 ?_ ?_
   ·intro c8b0 H; (first | rw [c8b0] | (simp only [i64_w, i32_w]; rw [c8b0]) | skip); have H' := am H; clear H; go_wp2; go_meet; case rel => exact ⟨_, (decide ((wrap64 (bt a0 a1)) < 224)), ap2, H', ⟨apN⟩, ap7⟩
   ·intro c8b0 H; (first | rw [c8b0] | (simp only [i64_w, i32_w]; rw [c8b0]) | skip); have H' := am H; clear H; go_wp2; go_meet; case rel => exact ⟨_, (false), ap2, H', ⟨apN⟩, ap7⟩
  case rest =>
   clear HC7; (try clear c3); (try clear c3b0); (try clear c4); (try clear c4b0); (try clear p5); (try clear q5); (try clear hx5); (try clear c6); (try clear c6b0); (try clear p5); (try clear q5); obtain ⟨kq, x24_6, rfl, HA, HJ6, ⟨mc6, rfl⟩⟩ := hcut; cases kq with
   | zero => exact absurd HA.out (by simp [R13One.j0])
   | succ kj6 =>
    have H := HA.out; clear HA; simp only [R13One.j0] at H; have HC9 := am H; clear H; go_upto_if 24 with (fail); go_cut [7, 8, 9] (fun v7 v8 v9 wc => ∃ (kq : Nat) (x7_8 : Int) (x8_8 : Int) (x9_8 : Int), v7 = .int .i64 x7_8 ∧ v8 = .int .i64 x8_8 ∧ v9 = .int .i64 x9_8 ∧ Aside0 (R13One.j1 kq a0 a1 (wrap64 (bt a0 a1)) x7_8 x8_8 x9_8 = some (r1, r2)) ∧ Aside0 (kq ≤ kj6) ∧ Drawn0 w wc); case first =>
     have H := HC9.out; clear HC9; revert H; refine spb ?_ ?_
     ·rintro rfl H; have H' := am H; clear H; go_wp2; go_meet; case rel => exact ⟨_, (2), (wrap64 ((wrap64 (bt a0 a1)) - 192)), (128), ap2, ap2, ap2, H', ⟨by have := HJ6.out; first | omega | exact Nat.le_refl _⟩, ap7⟩
     ·rintro rfl H; have H' := am H; clear H; go_wp2; go_meet; case rel => exact ⟨_, (0), (0), (0), ap2, ap2, ap2, H', ⟨by have := HJ6.out; first | omega | exact Nat.le_refl _⟩, ap7⟩
    case rest =>
     clear HC9; (try clear c3); (try clear c3b0); (try clear c4); (try clear c4b0); (try clear p5); (try clear q5); (try clear hx5); (try clear c6); (try clear c6b0); (try clear p5); (try clear q5); obtain ⟨kq, x7_8, x8_8, x9_8, rfl, rfl, rfl, HA, HJ8, ⟨mc8, rfl⟩⟩ := hcut; cases kq with
     | zero => exact absurd HA.out (by simp [R13One.j1])
     | succ kj8 =>
      have H := HA.out; clear HA; simp only [R13One.j1] at H; have HC11 := am H; clear H; go_upto_region 11 with (fail); go_cut [32] (fun v32 wc => ∃ (kq : Nat) (x32_10 : Bool), v32 = .bool x32_10 ∧ Aside0 (R13One.j2 kq a0 a1 (wrap64 (bt a0 a1)) x7_8 x8_8 x9_8 x32_10 = some (r1, r2)) ∧ Aside0 (kq ≤ kj8) ∧ Drawn0 w wc); case first =>
       have H := HC11.out; clear HC11; revert H; refine spd00 ?_ ?_
       ·intro c12b0 H; (first | rw [c12b0] | (simp only [i64_w, i32_w]; rw [c12b0]) | skip); have H' := am H; clear H; go_wp2; go_meet; case rel => exact ⟨_, (decide ((wrap64 (bt a0 a1)) < 240)), ap2, H', ⟨by have := HJ6.out; have := HJ8.out; first | omega | exact Nat.le_refl _⟩, ap7⟩
       ·intro c12b0 H; (first | rw [c12b0] | (simp only [i64_w, i32_w]; rw [c12b0]) | skip); have H' := am H; clear H; go_wp2; go_meet; case rel => exact ⟨_, (false), ap2, H', ⟨by have := HJ6.out; have := HJ8.out; first | omega | exact Nat.le_refl _⟩, ap7⟩
      case rest =>
       clear HC11; (try clear c3); (try clear c3b0); (try clear c4); (try clear c4b0); (try clear p5); (try clear q5); (try clear hx5); (try clear c6); (try clear c6b0); (try clear p5); (try clear q5); obtain ⟨kq, x32_10, rfl, HA, HJ10, ⟨mc10, rfl⟩⟩ := hcut; cases kq with
       | zero => exact absurd HA.out (by simp [R13One.j2])
       | succ kj10 =>
        have H := HA.out; clear HA; simp only [R13One.j2] at H; have HC13 := am H; clear H; go_upto_if 32 with (fail); go_cut [7, 8, 9] (fun v7 v8 v9 wc => ∃ (kq : Nat) (x7_12 : Int) (x8_12 : Int) (x9_12 : Int), v7 = .int .i64 x7_12 ∧ v8 = .int .i64 x8_12 ∧ v9 = .int .i64 x9_12 ∧ Aside0 (R13One.j3 kq a0 a1 (wrap64 (bt a0 a1)) x7_12 x8_12 x9_12 = some (r1, r2)) ∧ Aside0 (kq ≤ kj10) ∧ Drawn0 w wc); case first =>
         have H := HC13.out; clear HC13; revert H; refine spb ?_ ?_
         ·rintro rfl H; have H' := am H; clear H; go_wp2; go_meet; case rel => exact ⟨_, (3), (wrap64 ((wrap64 (bt a0 a1)) - 224)), (2048), ap2, ap2, ap2, H', ⟨by have := HJ6.out; have := HJ8.out; have := HJ10.out; first | omega | exact Nat.le_refl _⟩, ap7⟩
         ·rintro rfl H; have H' := am H; clear H; go_wp2; go_meet; case rel => exact ⟨_, (x7_8), (x8_8), (x9_8), ap2, ap2, ap2, H', ⟨by have := HJ6.out; have := HJ8.out; have := HJ10.out; first | omega | exact Nat.le_refl _⟩, ap7⟩
        case rest =>
         clear HC13; (try clear c3); (try clear c3b0); (try clear c4); (try clear c4b0); (try clear p5); (try clear q5); (try clear hx5); (try clear c6); (try clear c6b0); (try clear p5); (try clear q5); obtain ⟨kq, x7_12, x8_12, x9_12, rfl, rfl, rfl, HA, HJ12, ⟨mc12, rfl⟩⟩ := hcut; cases kq with
         | zero => exact absurd HA.out (by simp [R13One.j3])
         | succ kj12 =>
          have H := HA.out; clear HA; simp only [R13One.j3] at H; have HC15 := am H; clear H; go_upto_region 15 with (fail); go_cut [40] (fun v40 wc => ∃ (kq : Nat) (x40_14 : Bool), v40 = .bool x40_14 ∧ Aside0 (R13One.j4 kq a0 a1 (wrap64 (bt a0 a1)) x7_12 x8_12 x9_12 x40_14 = some (r1, r2)) ∧ Aside0 (kq ≤ kj12) ∧ Drawn0 w wc); case first =>
           have H := HC15.out; clear HC15; revert H; refine spd00 ?_ ?_
           ·intro c16b0 H; (first | rw [c16b0] | (simp only [i64_w, i32_w]; rw [c16b0]) | skip); have H' := am H; clear H; go_wp2; go_meet; case rel => exact ⟨_, (decide ((wrap64 (bt a0 a1)) < 245)), ap2, H', ⟨by have := HJ6.out; have := HJ8.out; have := HJ10.out; have := HJ12.out; first | omega | exact Nat.le_refl _⟩, ap7⟩
           ·intro c16b0 H; (first | rw [c16b0] | (simp only [i64_w, i32_w]; rw [c16b0]) | skip); have H' := am H; clear H; go_wp2; go_meet; case rel => exact ⟨_, (false), ap2, H', ⟨by have := HJ6.out; have := HJ8.out; have := HJ10.out; have := HJ12.out; first | omega | exact Nat.le_refl _⟩, ap7⟩
          case rest =>
           clear HC15; (try clear c3); (try clear c3b0); (try clear c4); (try clear c4b0); (try clear p5); (try clear q5); (try clear hx5); (try clear c6); (try clear c6b0); (try clear p5); (try clear q5); obtain ⟨kq, x40_14, rfl, HA, HJ14, ⟨mc14, rfl⟩⟩ := hcut; cases kq with
           | zero => exact absurd HA.out (by simp [R13One.j4])
           | succ kj14 =>
            have H := HA.out; clear HA; simp only [R13One.j4] at H; have HC17 := am H; clear H; go_upto_if 40 with (fail); go_cut [7, 8, 9] (fun v7 v8 v9 wc => ∃ (kq : Nat) (x7_16 : Int) (x8_16 : Int) (x9_16 : Int), v7 = .int .i64 x7_16 ∧ v8 = .int .i64 x8_16 ∧ v9 = .int .i64 x9_16 ∧ Aside0 (R13One.j5 kq a0 a1 x7_16 x8_16 x9_16 = some (r1, r2)) ∧ Aside0 (kq ≤ kj14) ∧ Drawn0 w wc); case first =>
             have H := HC17.out; clear HC17; revert H; refine spb ?_ ?_
             ·rintro rfl H; have H' := am H; clear H; go_wp2; go_meet; case rel => exact ⟨_, (4), (wrap64 ((wrap64 (bt a0 a1)) - 240)), (65536), ap2, ap2, ap2, H', ⟨by have := HJ6.out; have := HJ8.out; have := HJ10.out; have := HJ12.out; have := HJ14.out; first | omega | exact Nat.le_refl _⟩, ap7⟩
             ·rintro rfl H; have H' := am H; clear H; go_wp2; go_meet; case rel => exact ⟨_, (x7_12), (x8_12), (x9_12), ap2, ap2, ap2, H', ⟨by have := HJ6.out; have := HJ8.out; have := HJ10.out; have := HJ12.out; have := HJ14.out; first | omega | exact Nat.le_refl _⟩, ap7⟩
            case rest =>
             clear HC17; (try clear c3); (try clear c3b0); (try clear c4); (try clear c4b0); (try clear p5); (try clear q5); (try clear hx5); (try clear c6); (try clear c6b0); (try clear p5); (try clear q5); obtain ⟨kq, x7_16, x8_16, x9_16, rfl, rfl, rfl, HA, HJ16, ⟨mc16, rfl⟩⟩ := hcut; cases kq with
             | zero => exact absurd HA.out (by simp [R13One.j5])
             | succ kj16 =>
              have H := HA.out; clear HA; simp only [R13One.j5] at H; have HC19 := am H; clear H; go_upto_region 19 with (fail); go_cut [52] (fun v52 wc => ∃ (kq : Nat) (x52_18 : Bool), v52 = .bool x52_18 ∧ Aside0 (R13One.j6 kq a0 a1 x7_16 x8_16 x9_16 x52_18 = some (r1, r2)) ∧ Aside0 (kq ≤ kj16) ∧ Drawn0 w wc); case first =>
               have H := HC19.out; clear HC19; revert H; refine spe01 ?_ ?_
               ·intro c20b0 c20b1 H; (first | rw [c20b0] | (simp only [i64_w, i32_w]; rw [c20b0]) | skip); have H' := am H; clear H; go_wp2; (first | go_meet | (simp only [c20b0] at *; go_meet)); case rel => exact ⟨_, (true), ap2, H', ⟨by have := HJ6.out; have := HJ8.out; have := HJ10.out; have := HJ12.out; have := HJ14.out; have := HJ16.out; first | omega | exact Nat.le_refl _⟩, ap7⟩
               ·intro c20 c20b0 c20b1 H; (first | rw [c20b0] | (simp only [i64_w, i32_w]; rw [c20b0]) | skip); have H' := am H; clear H; go_wp2; (first | go_meet | (simp only [c20b0] at *; go_meet) | (simp only [c20b0] at *; go_meet)); case rel => exact ⟨_, (decide ((wrap64 (a1 + x7_16)) > (a0.size : Int))), ap2, H', ⟨by have := HJ6.out; have := HJ8.out; have := HJ10.out; have := HJ12.out; have := HJ14.out; have := HJ16.out; first | omega | exact Nat.le_refl _⟩, ap7⟩
              case rest =>
               clear HC19; (try clear c3); (try clear c3b0); (try clear c4); (try clear c4b0); (try clear p5); (try clear q5); (try clear hx5); (try clear c6); (try clear c6b0); (try clear p5); (try clear q5); obtain ⟨kq, x52_18, rfl, HA, HJ18, ⟨mc18, rfl⟩⟩ := hcut; cases kq with
               | zero => exact absurd HA.out (by simp [R13One.j6])
               | succ kj18 =>
                have H := HA.out; clear HA; simp only [R13One.j6] at H; revert H; refine spb ?_ ?_
                ·rintro rfl H; simp only [Option.some.injEq, Prod.mk.injEq] at H; obtain ⟨rfl, rfl⟩ := H; go_wp2; go_ret2; exact ⟨ap2, ap7⟩
                ·rintro rfl H; have H' := am H; clear H; go_wp2; go_loopg [8, 10] kj18 (fun kq v8 v10 w' => ∃ (x8_8 : Int) (x10_8 : Int), v8 = .int .i64 x8_8 ∧ v10 = .int .i64 x10_8 ∧ Aside0 (R13One.l0 kq a0 a1 x7_16 x8_8 x9_16 x10_8 = some (r1, r2)) ∧ Aside0 (kq ≤ kj18) ∧ Drawn0 w w'); (case atStart => exact ⟨(x8_16), (1), ap2, ap2, H', ⟨Nat.le_refl _⟩, ap7⟩); case round =>
                  clear H'; (try clear c3); (try clear c3b0); (try clear c4); (try clear c4b0); (try clear p5); (try clear q5); (try clear hx5); (try clear c6); (try clear c6b0); (try clear c21); (try clear p5); (try clear q5); obtain ⟨x8_8, x10_8, rfl, rfl, HA, HK8, ⟨m8, rfl⟩⟩ := hrel; cases gk with
                  | zero => exact absurd HA.out (by simp [R13One.l0])
                  | succ k8 =>
                   have H := HA.out; clear HA; simp only [R13One.l0] at H; revert H; refine spd00 ?_ ?_
                   ·intro c22b0 H; obtain ⟨ji23, hji23⟩ : ∃ j_ : Int, (wrap64 (a1 + x10_8)) = j_ := ⟨_, rfl⟩; replace H : (if 0 ≤ (ji23) then (if (ji23) < (a0.size : Int) then (if (wrap64 (bt a0 (ji23))) < 128 then (some (0, 0)) else (if (wrap64 (bt a0 (ji23))) > 191 then (some (0, 0)) else (R13One.l0 k8 a0 a1 x7_16 (wrap64 ((wrap64 ((wrap64 (x8_8 * 64)) + (wrap64 (bt a0 (ji23))))) - 128)) x9_16 (wrap64 (x10_8 + 1))))) else (none)) else (none)) = some (r1, r2) := by first | (rw [hji23] at H; exact H) | (simp only [hji23] at H ⊢; exact H)
                    have hji23w : (IntKind.i64.wrap (a1 + x10_8)) = ji23 := (i64_w _).trans hji23; revert H; refine spn0 ?_; intro c24b0 H; revert H; refine spn0 ?_; intro c25b0 H; revert H; refine spd00 ?_ ?_
                    ·intro c27b0 H; simp only [Option.some.injEq, Prod.mk.injEq] at H; obtain ⟨rfl, rfl⟩ := H; have p26 : 0 ≤ ((ji23) : Int) := apD; have q26 : (ji23) < (a0.size : Int) := apD; have hx26 := bt_at a0 (ji23); replace p26 := eq_true p26; replace q26 := eq_true q26; go_wp2; go_ret2; exact ⟨by first | rfl | (simp; done) | (simp only [← hji23] <;> (first | rfl | simp)) | (simp [*]; done), ap7⟩
                    ·intro c27b0 H; revert H; refine spd00 ?_ ?_
                     ·intro c28b0 H; simp only [Option.some.injEq, Prod.mk.injEq] at H; obtain ⟨rfl, rfl⟩ := H; have p26 : 0 ≤ ((ji23) : Int) := apD; have q26 : (ji23) < (a0.size : Int) := apD; have hx26 := bt_at a0 (ji23); replace p26 := eq_true p26; replace q26 := eq_true q26; go_wp2; go_ret2; exact ⟨by first | rfl | (simp; done) | (simp only [← hji23] <;> (first | rfl | simp)) | (simp [*]; done), ap7⟩
                     ·intro c28b0 H; have H' := am H; clear H; have p26 : 0 ≤ ((ji23) : Int) := apD; have q26 : (ji23) < (a0.size : Int) := apD; have hx26 := bt_at a0 (ji23); replace p26 := eq_true p26; replace q26 := eq_true q26; go_wp2; go_roundg k8; (case measure => have := HJ6.out; have := HJ8.out; have := HJ10.out; have := HJ12.out; have := HJ14.out; have := HJ16.out; have := HJ18.out; have := HK8.out; omega); case rel => exact ⟨(wrap64 ((wrap64 ((wrap64 (x8_8 * 64)) + (wrap64 (bt a0 (ji23))))) - 128)), (wrap64 (x10_8 + 1)), (by first | rfl | (simp; done) | (simp only [← hji23] <;> (first | rfl | simp)) | (simp [*]; done)), ap2, H', ⟨by have := HJ6.out; have := HJ8.out; have := HJ10.out; have := HJ12.out; have := HJ14.out; have := HJ16.out; have := HJ18.out; have := HK8.out; omega⟩, ap7⟩
                   ·intro c22b0 H; revert H; refine spd00 ?_ ?_
                    ·intro c29b0 H; simp only [Option.some.injEq, Prod.mk.injEq] at H; obtain ⟨rfl, rfl⟩ := H; go_wp2; go_ret2; exact ⟨ap2, ap7⟩
                    ·intro c29b0 H; revert H; refine spd00 ?_ ?_
                     ·intro c30b0 H; simp only [Option.some.injEq, Prod.mk.injEq] at H; obtain ⟨rfl, rfl⟩ := H; go_wp2; go_ret2; exact ⟨ap2, ap7⟩
                     ·intro c30b0 H; revert H; refine spd00 ?_ ?_
                      ·intro c31b0 H; revert H; refine spd00 ?_ ?_
                       ·intro c32b0 H; simp only [Option.some.injEq, Prod.mk.injEq] at H; obtain ⟨rfl, rfl⟩ := H; go_wp2; go_ret2; exact ⟨ap2, ap7⟩
                       ·intro c32b0 H; simp only [Option.some.injEq, Prod.mk.injEq] at H; obtain ⟨rfl, rfl⟩ := H; go_wp2; go_ret2; exact ⟨ap2, ap7⟩
                      ·intro c31b0 H; simp only [Option.some.injEq, Prod.mk.injEq] at H; obtain ⟨rfl, rfl⟩ := H; go_wp2; go_ret2; exact ⟨ap2, ap7⟩
def R13Runes.l0 : Nat → ByteArray → List Int → Int → Option (List Int × Int)
 | 0, _, _, _ => none
 | k + 1, x0, x4, x5 => if x5 < (x0.size : Int) then ((R13One.f k x0 x5).bind fun bt481 => (if bt481.2 = 0 then (some (([] : List Int), 19)) else (if x4.length < 35184372088832 then (R13Runes.l0 k x0 (x4 ++ [wrap32 (bt481.1)]) (wrap64 (x5 + bt481.2))) else (none)))) else (some (x4, 0))
def R13Runes.f (k : Nat) (a0 : ByteArray) : Option (List Int × Int) := R13Runes.l0 k a0 (([] : List Int)) 0
set_option maxHeartbeats 8000000 in
set_option maxRecDepth 100000 in
theorem R13Runes.calls (k : Nat) (a0 : ByteArray) (r1 : List Int) (r2 : Int) (w : World) (h : R13Runes.f k a0 = some (r1, r2)) :
  Calls Tryz.prog 62 #[.string a0] w fun e w' => ∃ v0_ : Value, e = .returned (.tuple #[v0_, .int .i64 r2]) ∧ Kd.R (Kd.int .i32) 21 w' w.heap.size (fun _ => True) v0_ r1 ∧ Below w.heap.size w w' := by
 have HB := am (Below.refl w.heap.size w)
 have H : (R13Runes.l0 k a0 (([] : List Int)) 0) = some (r1, r2) := h
 clear h
 obtain ⟨y478, hy478⟩ : ∃ y_ : List Int, y_ = (([] : List Int)) := ⟨_, rfl⟩
 replace H : (R13Runes.l0 k a0 y478 0) = some (r1, r2) := apY hy478 H
 have Ny478 := am hy478
 clear hy478
 have H' := am H
 clear H
 go_enter Tryz.func62, Tryz.ntmps62
 go_wp2_with (first | ((with_reducible refine gate_dst (N := 8) rfl ?_); refine Kd.R_lit (Kd.int .i32) _ 21 ?hg (N := 8) ?hd (xs := ([] : List Int)) (inner := []) (ok := fun _ => True) (okp := fun _ => True) ?hr ?hp (fun _ hk => hk) trivial (Below.refl _ _) (Nat.le_refl _) (by simp) ?_; (case hd => rfl); (case hg => rfl); (case hr => first | (go_simp; done) | (go_simp; rfl)); (case hp => exact (Reps.none _ _)); intro v479 w2 ho3 hb hg_ hnew_; clear hg_ hnew_; (first | rw [← Ny478.out] at ho3 | (simp only [Int.reduceToNat] at ho3; rw [← Ny478.out] at ho3)); have HO480 := am (Kd.R_lower ho3 (below_size ap1)); replace HB := am (below_step ap1 hb); clear hb ho3))
 go_loopg [4, 5] k (fun kq v4 v5 w' => ∃ (x4_1 : List Int) (x5_1 : Int), v5 = .int .i64 x5_1 ∧ Aside0 (R13Runes.l0 kq a0 x4_1 x5_1 = some (r1, r2)) ∧ Aside0 (kq ≤ k) ∧ Aside0 (Kd.R (Kd.int .i32) 21 w' w.heap.size (fun _ => True) v4 x4_1) ∧ Aside0 (Below w.heap.size w w'))
 case atStart => exact ⟨(y478), (0), ap2, H', ⟨Nat.le_refl _⟩, ⟨apAR HO480.out⟩, ⟨ap1⟩⟩
 case round =>
  clear H'; obtain ⟨x4_1, x5_1, rfl, HA, HK1, HO_4, HB⟩ := hrel; cases gk with
  | zero => exact absurd HA.out (by simp [R13Runes.l0])
  | succ k1 =>
   have H := HA.out; clear HA; simp only [R13Runes.l0] at H; revert H; refine spd00 ?_ ?_
   ·intro c4b0 H; replace H := Option.bind_eq_some_iff.mp H; obtain ⟨⟨t481, t482⟩, A50, H⟩ := H; replace H : (if t482 = 0 then (some (([] : List Int), 19)) else (if x4_1.length < 35184372088832 then (R13Runes.l0 k1 a0 (x4_1 ++ [wrap32 (t481)]) (wrap64 (x5_1 + t482))) else (none))) = some (r1, r2) := H; have A5 := am A50; clear A50; revert H; refine spe01 ?_ ?_
    ·intro c6b0 c6b1 H; simp only [Option.some.injEq, Prod.mk.injEq] at H; obtain ⟨rfl, rfl⟩ := H; go_wp2_with (first | ((with_reducible refine gate_callee (f := 93) rfl ?_); refine goesL_ (some 16) rfl rfl Tryz.func93 (by kernel_rfl) rfl #[.string a0, .int .i64 x5_1] rfl ap3 ?_; (with_reducible refine (R13One.calls k1 a0 x5_1 t481 t482 _ A5.out).mono ?_); rintro e w' ⟨rfl, ⟨nd, rfl⟩⟩; refine ⟨_, rfl, ?_⟩)); go_ret2; exact ⟨_, ap9, by first | exact Kd.R_nil _ _ _ _ _ | exact Kd.N_nil _ _ _ _ _ | exact Kd.V_nil _ _ _ _ _ | exact Kd.Q_nil _ _ _ _ _ | exact Kd.S_nil _ _ _ _ _, ap1⟩
    ·intro c6 c6b0 c6b1 H; by_cases c7 : x4_1.length < 35184372088832
     ·rw [if_pos c7] at H; have LMc7 := am c7; clear c7; obtain ⟨y483, hy483⟩ : ∃ y_ : List Int, y_ = (x4_1 ++ [wrap32 (t481)]) := ⟨_, rfl⟩; replace H : (R13Runes.l0 k1 a0 y483 (wrap64 (x5_1 + t482))) = some (r1, r2) := apY hy483 H; have Ny483 := am hy483; clear hy483; have H' := am H; clear H; go_wp2_with (first | ((with_reducible refine gate_callee (f := 93) rfl ?_); refine goesL_ (some 16) rfl rfl Tryz.func93 (by kernel_rfl) rfl #[.string a0, .int .i64 x5_1] rfl ap3 ?_; (with_reducible refine (R13One.calls k1 a0 x5_1 t481 t482 _ A5.out).mono ?_); rintro e w' ⟨rfl, ⟨nd, rfl⟩⟩; refine ⟨_, rfl, ?_⟩) | ((with_reducible refine gate_builtin (b := .append) (xs := #[.tmp 21, .tmp 24]) rfl ?_); at_builtin; refine Kd.R_append (Kd.int .i32) (w0 := w) w.heap.size rfl (.tmp 21) (.tmp 24) 64 21 (.int .i32 0) 4 rfl Tryz.underlying64 info21 rfl (by decide) (by omega) u4 x4_1 (wrap32 (t481)) [.int .i32 (wrap32 (t481))] (fun _ => True) (fun _ => False) rfl rfl ?aP (fun _ hk => hk.elim) ?aF ?aO ?aB ?aS ?aL ?_; (case aP => exact rfl); (case aB => exact ap1); (case aF => exact (fun _ _ => trivial)); (case aO => exact (apAR HO_4.out)); (case aS => exact (below_size ap1)); (case aL => have := LMc7.out; omega); intro v484 w8 ho hb hg hat; rw [← Ny483.out] at ho; have HO485 := am (ho); replace HB := am (hb); clear ho hb hg hat)); go_roundg k1; (case measure => have := HK1.out; omega); case rel => exact ⟨(y483), (wrap64 (x5_1 + t482)), ap2, H', ⟨by have := HK1.out; omega⟩, ⟨apAR HO485.out⟩, ⟨ap1⟩⟩
     ·rw [if_neg c7] at H; exact absurd H (by simp)
   ·intro c4b0 H; simp only [Option.some.injEq, Prod.mk.injEq] at H; obtain ⟨rfl, rfl⟩ := H; go_wp2; go_ret2; exact ⟨_, ap9, apAR HO_4.out, ap1⟩
def R13Small.j0 : Nat → Int → Bool → Option (Int)
 | 0, _, _ => none
 | k + 1, x0, x40 => if x40 = true then (some (wrap32 (x0 + 32))) else (if x0 ≥ 1024 then (if x0 ≤ 1039 then (some (wrap32 (x0 + 80))) else (some x0)) else (some x0))
def R13Small.f (k : Nat) (a0 : Int) : Option (Int) := if a0 ≥ 65 then (if a0 ≤ 90 then (R13Small.j0 k a0 true) else (if a0 ≥ 192 then (if a0 ≤ 222 then (if a0 = 215 then (if a0 ≥ 913 then (if a0 ≤ 937 then (if a0 = 930 then (if a0 ≥ 1040 then (R13Small.j0 k a0 (decide (a0 ≤ 1071))) else (R13Small.j0 k a0 false)) else (R13Small.j0 k a0 true)) else (if a0 ≥ 1040 then (R13Small.j0 k a0 (decide (a0 ≤ 1071))) else (R13Small.j0 k a0 false))) else (if a0 ≥ 1040 then (R13Small.j0 k a0 (decide (a0 ≤ 1071))) else (R13Small.j0 k a0 false))) else (R13Small.j0 k a0 true)) else (if a0 ≥ 913 then (if a0 ≤ 937 then (if a0 = 930 then (if a0 ≥ 1040 then (R13Small.j0 k a0 (decide (a0 ≤ 1071))) else (R13Small.j0 k a0 false)) else (R13Small.j0 k a0 true)) else (if a0 ≥ 1040 then (R13Small.j0 k a0 (decide (a0 ≤ 1071))) else (R13Small.j0 k a0 false))) else (if a0 ≥ 1040 then (R13Small.j0 k a0 (decide (a0 ≤ 1071))) else (R13Small.j0 k a0 false)))) else (if a0 ≥ 913 then (if a0 ≤ 937 then (if a0 = 930 then (if a0 ≥ 1040 then (R13Small.j0 k a0 (decide (a0 ≤ 1071))) else (R13Small.j0 k a0 false)) else (R13Small.j0 k a0 true)) else (if a0 ≥ 1040 then (R13Small.j0 k a0 (decide (a0 ≤ 1071))) else (R13Small.j0 k a0 false))) else (if a0 ≥ 1040 then (R13Small.j0 k a0 (decide (a0 ≤ 1071))) else (R13Small.j0 k a0 false))))) else (if a0 ≥ 192 then (if a0 ≤ 222 then (if a0 = 215 then (if a0 ≥ 913 then (if a0 ≤ 937 then (if a0 = 930 then (if a0 ≥ 1040 then (R13Small.j0 k a0 (decide (a0 ≤ 1071))) else (R13Small.j0 k a0 false)) else (R13Small.j0 k a0 true)) else (if a0 ≥ 1040 then (R13Small.j0 k a0 (decide (a0 ≤ 1071))) else (R13Small.j0 k a0 false))) else (if a0 ≥ 1040 then (R13Small.j0 k a0 (decide (a0 ≤ 1071))) else (R13Small.j0 k a0 false))) else (R13Small.j0 k a0 true)) else (if a0 ≥ 913 then (if a0 ≤ 937 then (if a0 = 930 then (if a0 ≥ 1040 then (R13Small.j0 k a0 (decide (a0 ≤ 1071))) else (R13Small.j0 k a0 false)) else (R13Small.j0 k a0 true)) else (if a0 ≥ 1040 then (R13Small.j0 k a0 (decide (a0 ≤ 1071))) else (R13Small.j0 k a0 false))) else (if a0 ≥ 1040 then (R13Small.j0 k a0 (decide (a0 ≤ 1071))) else (R13Small.j0 k a0 false)))) else (if a0 ≥ 913 then (if a0 ≤ 937 then (if a0 = 930 then (if a0 ≥ 1040 then (R13Small.j0 k a0 (decide (a0 ≤ 1071))) else (R13Small.j0 k a0 false)) else (R13Small.j0 k a0 true)) else (if a0 ≥ 1040 then (R13Small.j0 k a0 (decide (a0 ≤ 1071))) else (R13Small.j0 k a0 false))) else (if a0 ≥ 1040 then (R13Small.j0 k a0 (decide (a0 ≤ 1071))) else (R13Small.j0 k a0 false))))
set_option maxHeartbeats 8000000 in
set_option maxRecDepth 100000 in
theorem R13Small.calls (k : Nat) (a0 : Int) (r : Int) (w : World) (h : R13Small.f k a0 = some r) :
  Calls Tryz.prog 65 #[.int .i32 a0] w fun e w' => e = .returned (.int .i32 r) ∧ Drawn0 w w' := by
 have H : (if a0 ≥ 65 then (if a0 ≤ 90 then (R13Small.j0 k a0 true) else (if a0 ≥ 192 then (if a0 ≤ 222 then (if a0 = 215 then (if a0 ≥ 913 then (if a0 ≤ 937 then (if a0 = 930 then (if a0 ≥ 1040 then (R13Small.j0 k a0 (decide (a0 ≤ 1071))) else (R13Small.j0 k a0 false)) else (R13Small.j0 k a0 true)) else (if a0 ≥ 1040 then (R13Small.j0 k a0 (decide (a0 ≤ 1071))) else (R13Small.j0 k a0 false))) else (if a0 ≥ 1040 then (R13Small.j0 k a0 (decide (a0 ≤ 1071))) else (R13Small.j0 k a0 false))) else (R13Small.j0 k a0 true)) else (if a0 ≥ 913 then (if a0 ≤ 937 then (if a0 = 930 then (if a0 ≥ 1040 then (R13Small.j0 k a0 (decide (a0 ≤ 1071))) else (R13Small.j0 k a0 false)) else (R13Small.j0 k a0 true)) else (if a0 ≥ 1040 then (R13Small.j0 k a0 (decide (a0 ≤ 1071))) else (R13Small.j0 k a0 false))) else (if a0 ≥ 1040 then (R13Small.j0 k a0 (decide (a0 ≤ 1071))) else (R13Small.j0 k a0 false)))) else (if a0 ≥ 913 then (if a0 ≤ 937 then (if a0 = 930 then (if a0 ≥ 1040 then (R13Small.j0 k a0 (decide (a0 ≤ 1071))) else (R13Small.j0 k a0 false)) else (R13Small.j0 k a0 true)) else (if a0 ≥ 1040 then (R13Small.j0 k a0 (decide (a0 ≤ 1071))) else (R13Small.j0 k a0 false))) else (if a0 ≥ 1040 then (R13Small.j0 k a0 (decide (a0 ≤ 1071))) else (R13Small.j0 k a0 false))))) else (if a0 ≥ 192 then (if a0 ≤ 222 then (if a0 = 215 then (if a0 ≥ 913 then (if a0 ≤ 937 then (if a0 = 930 then (if a0 ≥ 1040 then (R13Small.j0 k a0 (decide (a0 ≤ 1071))) else (R13Small.j0 k a0 false)) else (R13Small.j0 k a0 true)) else (if a0 ≥ 1040 then (R13Small.j0 k a0 (decide (a0 ≤ 1071))) else (R13Small.j0 k a0 false))) else (if a0 ≥ 1040 then (R13Small.j0 k a0 (decide (a0 ≤ 1071))) else (R13Small.j0 k a0 false))) else (R13Small.j0 k a0 true)) else (if a0 ≥ 913 then (if a0 ≤ 937 then (if a0 = 930 then (if a0 ≥ 1040 then (R13Small.j0 k a0 (decide (a0 ≤ 1071))) else (R13Small.j0 k a0 false)) else (R13Small.j0 k a0 true)) else (if a0 ≥ 1040 then (R13Small.j0 k a0 (decide (a0 ≤ 1071))) else (R13Small.j0 k a0 false))) else (if a0 ≥ 1040 then (R13Small.j0 k a0 (decide (a0 ≤ 1071))) else (R13Small.j0 k a0 false)))) else (if a0 ≥ 913 then (if a0 ≤ 937 then (if a0 = 930 then (if a0 ≥ 1040 then (R13Small.j0 k a0 (decide (a0 ≤ 1071))) else (R13Small.j0 k a0 false)) else (R13Small.j0 k a0 true)) else (if a0 ≥ 1040 then (R13Small.j0 k a0 (decide (a0 ≤ 1071))) else (R13Small.j0 k a0 false))) else (if a0 ≥ 1040 then (R13Small.j0 k a0 (decide (a0 ≤ 1071))) else (R13Small.j0 k a0 false))))) = some r := h
 clear h
 have HC2 := am H
 clear H
 go_enter Tryz.func65, Tryz.ntmps65
 go_upto_region 1 with (fail)
 go_cut [40] (fun v40 wc => ∃ (kq : Nat) (x40_1 : Bool), v40 = .bool x40_1 ∧ Aside0 (R13Small.j0 kq a0 x40_1 = some r) ∧ Aside0 (kq ≤ k) ∧ Drawn0 w wc)
 case first =>
  have H := HC2.out; clear HC2; revert H; refine spd00 ?_ ?_
  ·intro c3b0 H; (first | rw [c3b0] | (simp only [i64_w, i32_w]; rw [c3b0]) | skip); revert H; refine spd00 ?_ ?_
   ·intro c4b0 H; have H' := am H; clear H; go_wp2; go_meet; case rel => exact ⟨_, (true), ap2, H', ⟨apN⟩, ap7⟩
   ·intro c4b0 H; revert H; refine spd00 ?_ ?_
    ·intro c5b0 H; revert H; refine spd00 ?_ ?_
     ·intro c6b0 H; revert H; refine spe01 ?_ ?_
      ·intro c7b0 c7b1 H; revert H; refine spd00 ?_ ?_
       ·intro c8b0 H; revert H; refine spd00 ?_ ?_
        ·intro c9b0 H; revert H; refine spe01 ?_ ?_
         ·intro c10b0 c10b1 H; revert H; refine spd00 ?_ ?_
          ·intro c11b0 H; have H' := am H; clear H; go_wp2; (first | go_meet | (simp only [c10b0] at *; go_meet) | (simp only [c7b0] at *; go_meet)); case rel => exact ⟨_, (decide (a0 ≤ 1071)), ap2, H', ⟨apN⟩, ap7⟩
          ·intro c11b0 H; have H' := am H; clear H; go_wp2; (first | go_meet | (simp only [c10b0] at *; go_meet) | (simp only [c7b0] at *; go_meet)); case rel => exact ⟨_, (false), ap2, H', ⟨apN⟩, ap7⟩
         ·intro c10 c10b0 c10b1 H; have H' := am H; clear H; go_wp2; (first | go_meet | (simp only [c10b0] at *; go_meet) | (simp only [c10b0] at *; go_meet) | (simp only [c7b0] at *; go_meet)); case rel => exact ⟨_, (true), ap2, H', ⟨apN⟩, ap7⟩
        ·intro c9b0 H; revert H; refine spd00 ?_ ?_
         ·intro c12b0 H; have H' := am H; clear H; go_wp2; (first | go_meet | (simp only [c10b0] at *; go_meet) | (simp only [c10b0] at *; go_meet) | (simp only [c7b0] at *; go_meet)); case rel => exact ⟨_, (decide (a0 ≤ 1071)), ap2, H', ⟨apN⟩, ap7⟩
         ·intro c12b0 H; have H' := am H; clear H; go_wp2; (first | go_meet | (simp only [c10b0] at *; go_meet) | (simp only [c10b0] at *; go_meet) | (simp only [c7b0] at *; go_meet)); case rel => exact ⟨_, (false), ap2, H', ⟨apN⟩, ap7⟩
       ·intro c8b0 H; revert H; refine spd00 ?_ ?_
        ·intro c13b0 H; have H' := am H; clear H; go_wp2; (first | go_meet | (simp only [c10b0] at *; go_meet) | (simp only [c10b0] at *; go_meet) | (simp only [c7b0] at *; go_meet)); case rel => exact ⟨_, (decide (a0 ≤ 1071)), ap2, H', ⟨apN⟩, ap7⟩
        ·intro c13b0 H; have H' := am H; clear H; go_wp2; (first | go_meet | (simp only [c10b0] at *; go_meet) | (simp only [c10b0] at *; go_meet) | (simp only [c7b0] at *; go_meet)); case rel => exact ⟨_, (false), ap2, H', ⟨apN⟩, ap7⟩
      ·intro c7 c7b0 c7b1 H; have H' := am H; clear H; go_wp2; (first | go_meet | (simp only [c7b0] at *; go_meet) | (simp only [c10b0] at *; go_meet) | (simp only [c10b0] at *; go_meet)); case rel => exact ⟨_, (true), ap2, H', ⟨apN⟩, ap7⟩
     ·intro c6b0 H; revert H; refine spd00 ?_ ?_
      ·intro c14b0 H; revert H; refine spd00 ?_ ?_
       ·intro c15b0 H; revert H; refine spe01 ?_ ?_
        ·intro c16b0 c16b1 H; revert H; refine spd00 ?_ ?_
         ·intro c17b0 H; have H' := am H; clear H; go_wp2; (first | go_meet | (simp only [c16b0] at *; go_meet) | (simp only [c7b0] at *; go_meet) | (simp only [c10b0] at *; go_meet)); case rel => exact ⟨_, (decide (a0 ≤ 1071)), ap2, H', ⟨apN⟩, ap7⟩
         ·intro c17b0 H; have H' := am H; clear H; go_wp2; (first | go_meet | (simp only [c16b0] at *; go_meet) | (simp only [c7b0] at *; go_meet) | (simp only [c10b0] at *; go_meet)); case rel => exact ⟨_, (false), ap2, H', ⟨apN⟩, ap7⟩
        ·intro c16 c16b0 c16b1 H; have H' := am H; clear H; go_wp2; (first | go_meet | (simp only [c16b0] at *; go_meet) | (simp only [c16b0] at *; go_meet) | (simp only [c7b0] at *; go_meet)); case rel => exact ⟨_, (true), ap2, H', ⟨apN⟩, ap7⟩
       ·intro c15b0 H; revert H; refine spd00 ?_ ?_
        ·intro c18b0 H; have H' := am H; clear H; go_wp2; (first | go_meet | (simp only [c16b0] at *; go_meet) | (simp only [c16b0] at *; go_meet) | (simp only [c7b0] at *; go_meet)); case rel => exact ⟨_, (decide (a0 ≤ 1071)), ap2, H', ⟨apN⟩, ap7⟩
        ·intro c18b0 H; have H' := am H; clear H; go_wp2; (first | go_meet | (simp only [c16b0] at *; go_meet) | (simp only [c16b0] at *; go_meet) | (simp only [c7b0] at *; go_meet)); case rel => exact ⟨_, (false), ap2, H', ⟨apN⟩, ap7⟩
      ·intro c14b0 H; revert H; refine spd00 ?_ ?_
       ·intro c19b0 H; have H' := am H; clear H; go_wp2; (first | go_meet | (simp only [c16b0] at *; go_meet) | (simp only [c16b0] at *; go_meet) | (simp only [c7b0] at *; go_meet)); case rel => exact ⟨_, (decide (a0 ≤ 1071)), ap2, H', ⟨apN⟩, ap7⟩
       ·intro c19b0 H; have H' := am H; clear H; go_wp2; (first | go_meet | (simp only [c16b0] at *; go_meet) | (simp only [c16b0] at *; go_meet) | (simp only [c7b0] at *; go_meet)); case rel => exact ⟨_, (false), ap2, H', ⟨apN⟩, ap7⟩
    ·intro c5b0 H; revert H; refine spd00 ?_ ?_
     ·intro c20b0 H; revert H; refine spd00 ?_ ?_
      ·intro c21b0 H; revert H; refine spe01 ?_ ?_
       ·intro c22b0 c22b1 H; revert H; refine spd00 ?_ ?_
        ·intro c23b0 H; have H' := am H; clear H; go_wp2; (first | go_meet | (simp only [c22b0] at *; go_meet) | (simp only [c16b0] at *; go_meet) | (simp only [c16b0] at *; go_meet)); case rel => exact ⟨_, (decide (a0 ≤ 1071)), ap2, H', ⟨apN⟩, ap7⟩
        ·intro c23b0 H; have H' := am H; clear H; go_wp2; (first | go_meet | (simp only [c22b0] at *; go_meet) | (simp only [c16b0] at *; go_meet) | (simp only [c16b0] at *; go_meet)); case rel => exact ⟨_, (false), ap2, H', ⟨apN⟩, ap7⟩
       ·intro c22 c22b0 c22b1 H; have H' := am H; clear H; go_wp2; (first | go_meet | (simp only [c22b0] at *; go_meet) | (simp only [c22b0] at *; go_meet) | (simp only [c16b0] at *; go_meet)); case rel => exact ⟨_, (true), ap2, H', ⟨apN⟩, ap7⟩
      ·intro c21b0 H; revert H; refine spd00 ?_ ?_
       ·intro c24b0 H; have H' := am H; clear H; go_wp2; (first | go_meet | (simp only [c22b0] at *; go_meet) | (simp only [c22b0] at *; go_meet) | (simp only [c16b0] at *; go_meet)); case rel => exact ⟨_, (decide (a0 ≤ 1071)), ap2, H', ⟨apN⟩, ap7⟩
       ·intro c24b0 H; have H' := am H; clear H; go_wp2; (first | go_meet | (simp only [c22b0] at *; go_meet) | (simp only [c22b0] at *; go_meet) | (simp only [c16b0] at *; go_meet)); case rel => exact ⟨_, (false), ap2, H', ⟨apN⟩, ap7⟩
     ·intro c20b0 H; revert H; refine spd00 ?_ ?_
      ·intro c25b0 H; have H' := am H; clear H; go_wp2; (first | go_meet | (simp only [c22b0] at *; go_meet) | (simp only [c22b0] at *; go_meet) | (simp only [c16b0] at *; go_meet)); case rel => exact ⟨_, (decide (a0 ≤ 1071)), ap2, H', ⟨apN⟩, ap7⟩
      ·intro c25b0 H; have H' := am H; clear H; go_wp2; (first | go_meet | (simp only [c22b0] at *; go_meet) | (simp only [c22b0] at *; go_meet) | (simp only [c16b0] at *; go_meet)); case rel => exact ⟨_, (false), ap2, H', ⟨apN⟩, ap7⟩
  ·intro c3b0 H; (first | rw [c3b0] | (simp only [i64_w, i32_w]; rw [c3b0]) | skip); revert H; refine spd00 ?_ ?_
   ·intro c26b0 H; revert H; refine spd00 ?_ ?_
    ·intro c27b0 H; revert H; refine spe01 ?_ ?_
     ·intro c28b0 c28b1 H; revert H; refine spd00 ?_ ?_
      ·intro c29b0 H; revert H; refine spd00 ?_ ?_
       ·intro c30b0 H; revert H; refine spe01 ?_ ?_
        ·intro c31b0 c31b1 H; revert H; refine spd00 ?_ ?_
         ·intro c32b0 H; have H' := am H; clear H; go_wp2; (first | go_meet | (simp only [c31b0] at *; go_meet) | (simp only [c28b0] at *; go_meet) | (simp only [c22b0] at *; go_meet)); case rel => exact ⟨_, (decide (a0 ≤ 1071)), ap2, H', ⟨apN⟩, ap7⟩
         ·intro c32b0 H; have H' := am H; clear H; go_wp2; (first | go_meet | (simp only [c31b0] at *; go_meet) | (simp only [c28b0] at *; go_meet) | (simp only [c22b0] at *; go_meet)); case rel => exact ⟨_, (false), ap2, H', ⟨apN⟩, ap7⟩
        ·intro c31 c31b0 c31b1 H; have H' := am H; clear H; go_wp2; (first | go_meet | (simp only [c31b0] at *; go_meet) | (simp only [c31b0] at *; go_meet) | (simp only [c28b0] at *; go_meet)); case rel => exact ⟨_, (true), ap2, H', ⟨apN⟩, ap7⟩
       ·intro c30b0 H; revert H; refine spd00 ?_ ?_
        ·intro c33b0 H; have H' := am H; clear H; go_wp2; (first | go_meet | (simp only [c31b0] at *; go_meet) | (simp only [c31b0] at *; go_meet) | (simp only [c28b0] at *; go_meet)); case rel => exact ⟨_, (decide (a0 ≤ 1071)), ap2, H', ⟨apN⟩, ap7⟩
        ·intro c33b0 H; have H' := am H; clear H; go_wp2; (first | go_meet | (simp only [c31b0] at *; go_meet) | (simp only [c31b0] at *; go_meet) | (simp only [c28b0] at *; go_meet)); case rel => exact ⟨_, (false), ap2, H', ⟨apN⟩, ap7⟩
      ·intro c29b0 H; revert H; refine spd00 ?_ ?_
       ·intro c34b0 H; have H' := am H; clear H; go_wp2; (first | go_meet | (simp only [c31b0] at *; go_meet) | (simp only [c31b0] at *; go_meet) | (simp only [c28b0] at *; go_meet)); case rel => exact ⟨_, (decide (a0 ≤ 1071)), ap2, H', ⟨apN⟩, ap7⟩
       ·intro c34b0 H; have H' := am H; clear H; go_wp2; (first | go_meet | (simp only [c31b0] at *; go_meet) | (simp only [c31b0] at *; go_meet) | (simp only [c28b0] at *; go_meet)); case rel => exact ⟨_, (false), ap2, H', ⟨apN⟩, ap7⟩
     ·intro c28 c28b0 c28b1 H; have H' := am H; clear H; go_wp2; (first | go_meet | (simp only [c28b0] at *; go_meet) | (simp only [c31b0] at *; go_meet) | (simp only [c31b0] at *; go_meet)); case rel => exact ⟨_, (true), ap2, H', ⟨apN⟩, ap7⟩
    ·intro c27b0 H; revert H; refine spd00 ?_ ?_
     ·intro c35b0 H; revert H; refine spd00 ?_ ?_
      ·intro c36b0 H; revert H; refine spe01 ?_ ?_
       ·intro c37b0 c37b1 H; revert H; refine spd00 ?_ ?_
        ·intro c38b0 H; have H' := am H; clear H; go_wp2; (first | go_meet | (simp only [c37b0] at *; go_meet) | (simp only [c28b0] at *; go_meet) | (simp only [c31b0] at *; go_meet)); case rel => exact ⟨_, (decide (a0 ≤ 1071)), ap2, H', ⟨apN⟩, ap7⟩
        ·intro c38b0 H; have H' := am H; clear H; go_wp2; (first | go_meet | (simp only [c37b0] at *; go_meet) | (simp only [c28b0] at *; go_meet) | (simp only [c31b0] at *; go_meet)); case rel => exact ⟨_, (false), ap2, H', ⟨apN⟩, ap7⟩
       ·intro c37 c37b0 c37b1 H; have H' := am H; clear H; go_wp2; (first | go_meet | (simp only [c37b0] at *; go_meet) | (simp only [c37b0] at *; go_meet) | (simp only [c28b0] at *; go_meet)); case rel => exact ⟨_, (true), ap2, H', ⟨apN⟩, ap7⟩
      ·intro c36b0 H; revert H; refine spd00 ?_ ?_
       ·intro c39b0 H; have H' := am H; clear H; go_wp2; (first | go_meet | (simp only [c37b0] at *; go_meet) | (simp only [c37b0] at *; go_meet) | (simp only [c28b0] at *; go_meet)); case rel => exact ⟨_, (decide (a0 ≤ 1071)), ap2, H', ⟨apN⟩, ap7⟩
       ·intro c39b0 H; have H' := am H; clear H; go_wp2; (first | go_meet | (simp only [c37b0] at *; go_meet) | (simp only [c37b0] at *; go_meet) | (simp only [c28b0] at *; go_meet)); case rel => exact ⟨_, (false), ap2, H', ⟨apN⟩, ap7⟩
     ·intro c35b0 H; revert H; refine spd00 ?_ ?_
      ·intro c40b0 H; have H' := am H; clear H; go_wp2; (first | go_meet | (simp only [c37b0] at *; go_meet) | (simp only [c37b0] at *; go_meet) | (simp only [c28b0] at *; go_meet)); case rel => exact ⟨_, (decide (a0 ≤ 1071)), ap2, H', ⟨apN⟩, ap7⟩
      ·intro c40b0 H; have H' := am H; clear H; go_wp2; (first | go_meet | (simp only [c37b0] at *; go_meet) | (simp only [c37b0] at *; go_meet) | (simp only [c28b0] at *; go_meet)); case rel => exact ⟨_, (false), ap2, H', ⟨apN⟩, ap7⟩
   ·intro c26b0 H; revert H; refine spd00 ?_ ?_
    ·intro c41b0 H; revert H; refine spd00 ?_ ?_
     ·intro c42b0 H; revert H; refine spe01 ?_ ?_
      ·intro c43b0 c43b1 H; revert H; refine spd00 ?_ ?_
       ·intro c44b0 H; have H' := am H; clear H; go_wp2; (first | go_meet | (simp only [c43b0] at *; go_meet) | (simp only [c37b0] at *; go_meet) | (simp only [c37b0] at *; go_meet)); case rel => exact ⟨_, (decide (a0 ≤ 1071)), ap2, H', ⟨apN⟩, ap7⟩
       ·intro c44b0 H; have H' := am H; clear H; go_wp2; (first | go_meet | (simp only [c43b0] at *; go_meet) | (simp only [c37b0] at *; go_meet) | (simp only [c37b0] at *; go_meet)); case rel => exact ⟨_, (false), ap2, H', ⟨apN⟩, ap7⟩
      ·intro c43 c43b0 c43b1 H; have H' := am H; clear H; go_wp2; (first | go_meet | (simp only [c43b0] at *; go_meet) | (simp only [c43b0] at *; go_meet) | (simp only [c37b0] at *; go_meet)); case rel => exact ⟨_, (true), ap2, H', ⟨apN⟩, ap7⟩
     ·intro c42b0 H; revert H; refine spd00 ?_ ?_
      ·intro c45b0 H; have H' := am H; clear H; go_wp2; (first | go_meet | (simp only [c43b0] at *; go_meet) | (simp only [c43b0] at *; go_meet) | (simp only [c37b0] at *; go_meet)); case rel => exact ⟨_, (decide (a0 ≤ 1071)), ap2, H', ⟨apN⟩, ap7⟩
      ·intro c45b0 H; have H' := am H; clear H; go_wp2; (first | go_meet | (simp only [c43b0] at *; go_meet) | (simp only [c43b0] at *; go_meet) | (simp only [c37b0] at *; go_meet)); case rel => exact ⟨_, (false), ap2, H', ⟨apN⟩, ap7⟩
    ·intro c41b0 H; revert H; refine spd00 ?_ ?_
     ·intro c46b0 H; have H' := am H; clear H; go_wp2; (first | go_meet | (simp only [c43b0] at *; go_meet) | (simp only [c43b0] at *; go_meet) | (simp only [c37b0] at *; go_meet)); case rel => exact ⟨_, (decide (a0 ≤ 1071)), ap2, H', ⟨apN⟩, ap7⟩
     ·intro c46b0 H; have H' := am H; clear H; go_wp2; (first | go_meet | (simp only [c43b0] at *; go_meet) | (simp only [c43b0] at *; go_meet) | (simp only [c37b0] at *; go_meet)); case rel => exact ⟨_, (false), ap2, H', ⟨apN⟩, ap7⟩
 case rest =>
  clear HC2; obtain ⟨kq, x40_1, rfl, HA, HJ1, ⟨mc1, rfl⟩⟩ := hcut; cases kq with
  | zero => exact absurd HA.out (by simp [R13Small.j0])
  | succ kj1 =>
   have H := HA.out; clear HA; simp only [R13Small.j0] at H; revert H; refine spb ?_ ?_
   ·rintro rfl H; obtain rfl := Option.some.inj H; go_wp2; go_ret; exact ⟨ap2, ap7⟩
   ·rintro rfl H; revert H; refine spd00 ?_ ?_
    ·intro c48b0 H; revert H; refine spd00 ?_ ?_
     ·intro c49b0 H; obtain rfl := Option.some.inj H; go_wp2; go_ret; exact ⟨ap2, ap7⟩
     ·intro c49b0 H; obtain rfl := Option.some.inj H; go_wp2; go_ret; exact ⟨ap2, ap7⟩
    ·intro c48b0 H; obtain rfl := Option.some.inj H; go_wp2; go_ret; exact ⟨ap2, ap7⟩
def R13Mapped.l0 : Nat → Bool → List Int → Int → List Int → Int → Option (List Int × Int)
 | 0, _, _, _, _, _ => none
 | k + 1, x1, x6, x7, x8, x9 => if x9 < (x6.length : Int) then (if 0 ≤ x9 then ((R13Dropped.f (rd x6 x9)).bind fun t494 => (if t494 = true then (R13Mapped.l0 k x1 x6 x7 x8 (wrap64 (x9 + 1))) else ((R13Blank.f (rd x6 x9)).bind fun t495 => (if t495 = true then (if x8.length < 35184372088832 then (R13Mapped.l0 k x1 x6 x7 (x8 ++ [32]) (wrap64 (x9 + 1))) else (none)) else (if x1 = true then ((R13Small.f k (rd x6 x9)).bind fun t499 => (if x8.length < 35184372088832 then (R13Mapped.l0 k x1 x6 x7 (x8 ++ [t499]) (wrap64 (x9 + 1))) else (none))) else (if x8.length < 35184372088832 then (R13Mapped.l0 k x1 x6 x7 (x8 ++ [rd x6 x9]) (wrap64 (x9 + 1))) else (none))))))) else (none)) else (some (x8, x7))
def R13Mapped.f (k : Nat) (a0 : ByteArray) (a1 : Bool) : Option (List Int × Int) := (R13Runes.f k a0).bind fun bt486 => (R13Mapped.l0 k a1 bt486.1 bt486.2 (([] : List Int)) 0)
set_option maxHeartbeats 8000000 in
set_option maxRecDepth 100000 in
theorem R13Mapped.calls (k : Nat) (a0 : ByteArray) (a1 : Bool) (r1 : List Int) (r2 : Int) (w : World) (h : R13Mapped.f k a0 a1 = some (r1, r2)) :
  Calls Tryz.prog 40 #[.string a0, .bool a1] w fun e w' => ∃ v0_ : Value, e = .returned (.tuple #[v0_, .int .i64 r2]) ∧ Kd.R (Kd.int .i32) 21 w' w.heap.size (fun _ => True) v0_ r1 ∧ Below w.heap.size w w' := by
 have HB := am (Below.refl w.heap.size w)
 have H : ((R13Runes.f k a0).bind fun bt486 => (R13Mapped.l0 k a1 bt486.1 bt486.2 (([] : List Int)) 0)) = some (r1, r2) := h
 clear h
 replace H := Option.bind_eq_some_iff.mp H
 obtain ⟨⟨t486, t487⟩, A30, H⟩ := H
 replace H : (R13Mapped.l0 k a1 t486 t487 (([] : List Int)) 0) = some (r1, r2) := H
 have A3 := am A30
 clear A30
 obtain ⟨y490, hy490⟩ : ∃ y_ : List Int, y_ = (([] : List Int)) := ⟨_, rfl⟩
 replace H : (R13Mapped.l0 k a1 t486 t487 y490 0) = some (r1, r2) := apY hy490 H
 have Ny490 := am hy490
 clear hy490
 have H' := am H
 clear H
 go_enter Tryz.func40, Tryz.ntmps40
 go_wp2_with (first | ((with_reducible refine gate_callee (f := 62) rfl ?_); refine goesL_ (some 13) rfl rfl Tryz.func62 (by kernel_rfl) rfl #[.string a0] rfl ap3 ?_; (with_reducible refine (R13Runes.calls k a0 t486 t487 _ A3.out).mono ?_); rintro e w4 ⟨v488, rfl, ho0, hb⟩; refine ⟨_, rfl, ?_⟩; have HO489 := am (Kd.R_lower ho0 (below_size ap1)); replace HB := am (below_step ap1 hb); (try clear ho0)) | ((with_reducible refine gate_dst (N := 16) rfl ?_); refine Kd.R_lit (Kd.int .i32) _ 21 ?hg (N := 16) ?hd (xs := ([] : List Int)) (inner := []) (ok := fun _ => True) (okp := fun _ => True) ?hr ?hp (fun _ hk => hk) trivial (Below.refl _ _) (Nat.le_refl _) (by simp) ?_; (case hd => rfl); (case hg => rfl); (case hr => first | (go_simp; done) | (go_simp; rfl)); (case hp => exact (Reps.none _ _)); intro v491 w5 ho6 hb hg_ hnew_; clear hg_ hnew_; (first | rw [← Ny490.out] at ho6 | (simp only [Int.reduceToNat] at ho6; rw [← Ny490.out] at ho6)); have n0_ := am (Kd.R_elder' (apAR HO489.out) (Kd.R_base ho6) hb); have n1_ := am (Kd.R_lower (Kd.R_new' ho6 (Kd.R_lt (apAR HO489.out))) (below_size ap1)); have n2_ := am (below_step ap1 hb); clear HO489; clear HB; have HO489 := n0_; have HO492 := n1_; have HB := n2_; clear n0_ n1_ n2_; clear hb ho6))
 go_loopg [8, 9] k (fun kq v8 v9 w' => ∃ (x8_1 : List Int) (x9_1 : Int), v9 = .int .i64 x9_1 ∧ Aside0 (R13Mapped.l0 kq a1 t486 t487 x8_1 x9_1 = some (r1, r2)) ∧ Aside0 (kq ≤ k) ∧ Aside0 (Kd.R (Kd.int .i32) 21 w' w.heap.size (fun k_ => some k_ ≠ (v8 : Value).ownBlock) v488 t486) ∧ Aside0 (Kd.R (Kd.int .i32) 21 w' w.heap.size (fun k_ => some k_ ≠ (v488 : Value).ownBlock) v8 x8_1) ∧ Aside0 (Below w.heap.size w w'))
 case atStart => exact ⟨(y490), (0), ap2, H', ⟨Nat.le_refl _⟩, ⟨by (with_reducible repeat (first | apply Kd.R_alloc | apply Kd.R_drewN | apply Kd.R_drew)); exact Kd.R_mono HO489.out (fun _ hk => hk.2)⟩, ⟨by (with_reducible repeat (first | apply Kd.R_alloc | apply Kd.R_drewN | apply Kd.R_drew)); exact Kd.R_mono HO492.out (fun _ hk => hk.2)⟩, ⟨ap1⟩⟩
 case round =>
  clear H'; obtain ⟨x8_1, x9_1, rfl, HA, HK1, HO_6, HO_8, HB⟩ := hrel; cases gk with
  | zero => exact absurd HA.out (by simp [R13Mapped.l0])
  | succ k1 =>
   have H := HA.out; clear HA; simp only [R13Mapped.l0] at H; revert H; refine spd00 ?_ ?_
   ·intro c7b0 H; revert H; refine spn0 ?_; intro c8b0 H; replace H := Option.bind_eq_some_iff.mp H; obtain ⟨t494, A90, H⟩ := H; replace H : (if t494 = true then (R13Mapped.l0 k1 a1 t486 t487 x8_1 (wrap64 (x9_1 + 1))) else ((R13Blank.f (rd t486 x9_1)).bind fun t495 => (if t495 = true then (if x8_1.length < 35184372088832 then (R13Mapped.l0 k1 a1 t486 t487 (x8_1 ++ [32]) (wrap64 (x9_1 + 1))) else (none)) else (if a1 = true then ((R13Small.f k1 (rd t486 x9_1)).bind fun t499 => (if x8_1.length < 35184372088832 then (R13Mapped.l0 k1 a1 t486 t487 (x8_1 ++ [t499]) (wrap64 (x9_1 + 1))) else (none))) else (if x8_1.length < 35184372088832 then (R13Mapped.l0 k1 a1 t486 t487 (x8_1 ++ [rd t486 x9_1]) (wrap64 (x9_1 + 1))) else (none)))))) = some (r1, r2) := H; have A9 := am A90; clear A90; revert H; refine spb ?_ ?_
    ·rintro rfl H; have H' := am H; clear H; obtain ⟨Ao11, co11, eo11⟩ := Kd.R_slice HO_6.out; subst eo11; have p493 : 0 ≤ (x9_1 : Int) := apD; have q493 : x9_1 < (t486.length : Int) := apD; obtain ⟨ad493, e493, hx493_0⟩ := Kd.at_int (Kd.R_reads' HO_6.out).2.2 x9_1 p493 q493; cases e493; replace p493 := eq_true p493; replace q493 := eq_true q493; go_wp2_with (first | ((with_reducible refine gate_callee (f := 63) rfl ?_); refine goesL_ (some 28) rfl rfl Tryz.func63 (by kernel_rfl) rfl #[.int .i32 (rd t486 x9_1)] rfl ap3 ?_; (with_reducible refine (R13Dropped.calls (rd t486 x9_1) true _ A9.out).mono ?_); rintro e w' ⟨rfl, ⟨nd, rfl⟩⟩; refine ⟨_, rfl, ?_⟩)); go_roundg k1; (case measure => have := HK1.out; omega); case rel => exact ⟨(x8_1), (wrap64 (x9_1 + 1)), ap2, H', ⟨by have := HK1.out; omega⟩, ⟨apAR HO_6.out⟩, ⟨apAR HO_8.out⟩, ⟨ap1⟩⟩
    ·rintro rfl H; replace H := Option.bind_eq_some_iff.mp H; obtain ⟨t495, A120, H⟩ := H; replace H : (if t495 = true then (if x8_1.length < 35184372088832 then (R13Mapped.l0 k1 a1 t486 t487 (x8_1 ++ [32]) (wrap64 (x9_1 + 1))) else (none)) else (if a1 = true then ((R13Small.f k1 (rd t486 x9_1)).bind fun t499 => (if x8_1.length < 35184372088832 then (R13Mapped.l0 k1 a1 t486 t487 (x8_1 ++ [t499]) (wrap64 (x9_1 + 1))) else (none))) else (if x8_1.length < 35184372088832 then (R13Mapped.l0 k1 a1 t486 t487 (x8_1 ++ [rd t486 x9_1]) (wrap64 (x9_1 + 1))) else (none)))) = some (r1, r2) := H; have A12 := am A120; clear A120; revert H; refine spb ?_ ?_
     ·rintro rfl H; by_cases c14 : x8_1.length < 35184372088832
      ·rw [if_pos c14] at H; have LMc14 := am c14; clear c14; obtain ⟨y496, hy496⟩ : ∃ y_ : List Int, y_ = (x8_1 ++ [32]) := ⟨_, rfl⟩; replace H : (R13Mapped.l0 k1 a1 t486 t487 y496 (wrap64 (x9_1 + 1))) = some (r1, r2) := apY hy496 H; have Ny496 := am hy496; clear hy496; have H' := am H; clear H; obtain ⟨Ao15, co15, eo15⟩ := Kd.R_slice HO_6.out; subst eo15; have p493 : 0 ≤ (x9_1 : Int) := apD; have q493 : x9_1 < (t486.length : Int) := apD; obtain ⟨ad493, e493, hx493_0⟩ := Kd.at_int (Kd.R_reads' HO_6.out).2.2 x9_1 p493 q493; cases e493; replace p493 := eq_true p493; replace q493 := eq_true q493; go_wp2_with (first | ((with_reducible refine gate_callee (f := 63) rfl ?_); refine goesL_ (some 28) rfl rfl Tryz.func63 (by kernel_rfl) rfl #[.int .i32 (rd t486 x9_1)] rfl ap3 ?_; (with_reducible refine (R13Dropped.calls (rd t486 x9_1) false _ A9.out).mono ?_); rintro e w' ⟨rfl, ⟨nd, rfl⟩⟩; refine ⟨_, rfl, ?_⟩) | ((with_reducible refine gate_callee (f := 64) rfl ?_); refine goesL_ (some 30) rfl rfl Tryz.func64 (by kernel_rfl) rfl #[.int .i32 (rd t486 x9_1)] rfl ap3 ?_; (with_reducible refine (R13Blank.calls (rd t486 x9_1) true _ A12.out).mono ?_); rintro e w' ⟨rfl, ⟨nd, rfl⟩⟩; refine ⟨_, rfl, ?_⟩) | ((with_reducible refine gate_builtin (b := .append) (xs := #[.tmp 34, .tmp 36]) rfl ?_); at_builtin; refine Kd.R_append (Kd.int .i32) (w0 := w) w.heap.size rfl (.tmp 34) (.tmp 36) 64 21 (.int .i32 0) 4 rfl Tryz.underlying64 info21 rfl (by decide) (by omega) u8 x8_1 32 [.int .i32 32] (fun k_ => some k_ ≠ (.slice (some ad493) t486.length co15 : Value).ownBlock) (fun _ => False) rfl rfl ?aP (fun _ hk => hk.elim) ?aF ?aO ?aB ?aS ?aL ?_; (case aP => exact rfl); (case aB => exact ap1); (case aF => exact (fun k_ hk => Kd.fresh' (Kd.R_lt (apAR HO_6.out)) k_ hk)); (case aO => exact (apAR HO_8.out)); (case aS => exact (below_size ap1)); (case aL => have := LMc14.out; omega); intro v497 w16 ho hb hg hat; rw [← Ny496.out] at ho; replace HO_6 := am (Kd.R_after (ok := (fun _ => True)) (by (with_reducible repeat (first | apply Kd.R_alloc | apply Kd.R_drewN | apply Kd.R_drew)); exact Kd.R_mono HO_6.out (fun _ hk => ⟨trivial, hk⟩)) hg hat); have HO498 := am (ho); replace HB := am (hb); clear ho hb hg hat)); go_roundg k1; (case measure => have := HK1.out; omega); case rel => exact ⟨(y496), (wrap64 (x9_1 + 1)), ap2, H', ⟨by have := HK1.out; omega⟩, ⟨by (with_reducible repeat (first | apply Kd.R_alloc | apply Kd.R_drewN | apply Kd.R_drew)); exact Kd.R_mono HO_6.out (fun _ hk => hk.2)⟩, ⟨apAR HO498.out⟩, ⟨ap1⟩⟩
      ·rw [if_neg c14] at H; exact absurd H (by simp)
     ·rintro rfl H; revert H; refine spb ?_ ?_
      ·rintro rfl H; replace H := Option.bind_eq_some_iff.mp H; obtain ⟨t499, A180, H⟩ := H; replace H : (if x8_1.length < 35184372088832 then (R13Mapped.l0 k1 true t486 t487 (x8_1 ++ [t499]) (wrap64 (x9_1 + 1))) else (none)) = some (r1, r2) := H; have A18 := am A180; clear A180; by_cases c19 : x8_1.length < 35184372088832
       ·rw [if_pos c19] at H; have LMc19 := am c19; clear c19; obtain ⟨y500, hy500⟩ : ∃ y_ : List Int, y_ = (x8_1 ++ [t499]) := ⟨_, rfl⟩; replace H : (R13Mapped.l0 k1 true t486 t487 y500 (wrap64 (x9_1 + 1))) = some (r1, r2) := apY hy500 H; have Ny500 := am hy500; clear hy500; have H' := am H; clear H; obtain ⟨Ao20, co20, eo20⟩ := Kd.R_slice HO_6.out; subst eo20; have p493 : 0 ≤ (x9_1 : Int) := apD; have q493 : x9_1 < (t486.length : Int) := apD; obtain ⟨ad493, e493, hx493_0⟩ := Kd.at_int (Kd.R_reads' HO_6.out).2.2 x9_1 p493 q493; cases e493; replace p493 := eq_true p493; replace q493 := eq_true q493; go_wp2_with (first | ((with_reducible refine gate_callee (f := 63) rfl ?_); refine goesL_ (some 28) rfl rfl Tryz.func63 (by kernel_rfl) rfl #[.int .i32 (rd t486 x9_1)] rfl ap3 ?_; (with_reducible refine (R13Dropped.calls (rd t486 x9_1) false _ A9.out).mono ?_); rintro e w' ⟨rfl, ⟨nd, rfl⟩⟩; refine ⟨_, rfl, ?_⟩) | ((with_reducible refine gate_callee (f := 64) rfl ?_); refine goesL_ (some 30) rfl rfl Tryz.func64 (by kernel_rfl) rfl #[.int .i32 (rd t486 x9_1)] rfl ap3 ?_; (with_reducible refine (R13Blank.calls (rd t486 x9_1) false _ A12.out).mono ?_); rintro e w' ⟨rfl, ⟨nd, rfl⟩⟩; refine ⟨_, rfl, ?_⟩) | ((with_reducible refine gate_callee (f := 65) rfl ?_); refine goesL_ (some 33) rfl rfl Tryz.func65 (by kernel_rfl) rfl #[.int .i32 (rd t486 x9_1)] rfl ap3 ?_; (with_reducible refine (R13Small.calls k1 (rd t486 x9_1) t499 _ A18.out).mono ?_); rintro e w' ⟨rfl, ⟨nd, rfl⟩⟩; refine ⟨_, rfl, ?_⟩) | ((with_reducible refine gate_builtin (b := .append) (xs := #[.tmp 34, .tmp 36]) rfl ?_); at_builtin; refine Kd.R_append (Kd.int .i32) (w0 := w) w.heap.size rfl (.tmp 34) (.tmp 36) 64 21 (.int .i32 0) 4 rfl Tryz.underlying64 info21 rfl (by decide) (by omega) u8 x8_1 t499 [.int .i32 t499] (fun k_ => some k_ ≠ (.slice (some ad493) t486.length co20 : Value).ownBlock) (fun _ => False) rfl rfl ?aP (fun _ hk => hk.elim) ?aF ?aO ?aB ?aS ?aL ?_; (case aP => exact rfl); (case aB => exact ap1); (case aF => exact (fun k_ hk => Kd.fresh' (Kd.R_lt (apAR HO_6.out)) k_ hk)); (case aO => exact (apAR HO_8.out)); (case aS => exact (below_size ap1)); (case aL => have := LMc19.out; omega); intro v501 w21 ho hb hg hat; rw [← Ny500.out] at ho; replace HO_6 := am (Kd.R_after (ok := (fun _ => True)) (by (with_reducible repeat (first | apply Kd.R_alloc | apply Kd.R_drewN | apply Kd.R_drew)); exact Kd.R_mono HO_6.out (fun _ hk => ⟨trivial, hk⟩)) hg hat); have HO502 := am (ho); replace HB := am (hb); clear ho hb hg hat)); go_roundg k1; (case measure => have := HK1.out; omega); case rel => exact ⟨(y500), (wrap64 (x9_1 + 1)), ap2, H', ⟨by have := HK1.out; omega⟩, ⟨by (with_reducible repeat (first | apply Kd.R_alloc | apply Kd.R_drewN | apply Kd.R_drew)); exact Kd.R_mono HO_6.out (fun _ hk => hk.2)⟩, ⟨apAR HO502.out⟩, ⟨ap1⟩⟩
       ·rw [if_neg c19] at H; exact absurd H (by simp)
      ·rintro rfl H; by_cases c22 : x8_1.length < 35184372088832
       ·rw [if_pos c22] at H; have LMc22 := am c22; clear c22; obtain ⟨y503, hy503⟩ : ∃ y_ : List Int, y_ = (x8_1 ++ [rd t486 x9_1]) := ⟨_, rfl⟩; replace H : (R13Mapped.l0 k1 false t486 t487 y503 (wrap64 (x9_1 + 1))) = some (r1, r2) := apY hy503 H; have Ny503 := am hy503; clear hy503; have H' := am H; clear H; obtain ⟨Ao23, co23, eo23⟩ := Kd.R_slice HO_6.out; subst eo23; have p493 : 0 ≤ (x9_1 : Int) := apD; have q493 : x9_1 < (t486.length : Int) := apD; obtain ⟨ad493, e493, hx493_0⟩ := Kd.at_int (Kd.R_reads' HO_6.out).2.2 x9_1 p493 q493; cases e493; replace p493 := eq_true p493; replace q493 := eq_true q493; go_wp2_with (first | ((with_reducible refine gate_callee (f := 63) rfl ?_); refine goesL_ (some 28) rfl rfl Tryz.func63 (by kernel_rfl) rfl #[.int .i32 (rd t486 x9_1)] rfl ap3 ?_; (with_reducible refine (R13Dropped.calls (rd t486 x9_1) false _ A9.out).mono ?_); rintro e w' ⟨rfl, ⟨nd, rfl⟩⟩; refine ⟨_, rfl, ?_⟩) | ((with_reducible refine gate_callee (f := 64) rfl ?_); refine goesL_ (some 30) rfl rfl Tryz.func64 (by kernel_rfl) rfl #[.int .i32 (rd t486 x9_1)] rfl ap3 ?_; (with_reducible refine (R13Blank.calls (rd t486 x9_1) false _ A12.out).mono ?_); rintro e w' ⟨rfl, ⟨nd, rfl⟩⟩; refine ⟨_, rfl, ?_⟩) | ((with_reducible refine gate_builtin (b := .append) (xs := #[.tmp 34, .tmp 36]) rfl ?_); at_builtin; refine Kd.R_append (Kd.int .i32) (w0 := w) w.heap.size rfl (.tmp 34) (.tmp 36) 64 21 (.int .i32 0) 4 rfl Tryz.underlying64 info21 rfl (by decide) (by omega) u8 x8_1 (rd t486 x9_1) [.int .i32 (rd t486 x9_1)] (fun k_ => some k_ ≠ (.slice (some ad493) t486.length co23 : Value).ownBlock) (fun _ => False) rfl rfl ?aP (fun _ hk => hk.elim) ?aF ?aO ?aB ?aS ?aL ?_; (case aP => exact rfl); (case aB => exact ap1); (case aF => exact (fun k_ hk => Kd.fresh' (Kd.R_lt (apAR HO_6.out)) k_ hk)); (case aO => exact (apAR HO_8.out)); (case aS => exact (below_size ap1)); (case aL => have := LMc22.out; omega); intro v504 w24 ho hb hg hat; rw [← Ny503.out] at ho; replace HO_6 := am (Kd.R_after (ok := (fun _ => True)) (by (with_reducible repeat (first | apply Kd.R_alloc | apply Kd.R_drewN | apply Kd.R_drew)); exact Kd.R_mono HO_6.out (fun _ hk => ⟨trivial, hk⟩)) hg hat); have HO505 := am (ho); replace HB := am (hb); clear ho hb hg hat)); go_roundg k1; (case measure => have := HK1.out; omega); case rel => exact ⟨(y503), (wrap64 (x9_1 + 1)), ap2, H', ⟨by have := HK1.out; omega⟩, ⟨by (with_reducible repeat (first | apply Kd.R_alloc | apply Kd.R_drewN | apply Kd.R_drew)); exact Kd.R_mono HO_6.out (fun _ hk => hk.2)⟩, ⟨apAR HO505.out⟩, ⟨ap1⟩⟩
       ·rw [if_neg c22] at H; exact absurd H (by simp)
   ·intro c7b0 H; simp only [Option.some.injEq, Prod.mk.injEq] at H; obtain ⟨rfl, rfl⟩ := H; obtain ⟨Ao25, co25, eo25⟩ := Kd.R_slice HO_6.out; subst eo25; go_wp2; go_ret2; exact ⟨_, ap9, by (with_reducible repeat (first | apply Kd.R_alloc | apply Kd.R_drewN | apply Kd.R_drew)); exact Kd.R_mono HO_8.out (fun _ hk => trivial), ap1⟩
def R13Bytes.f (a0 : Int) : Option (List Int) := if (wrap64 (a0)) < 128 then (some (([(wrap64 (a0)) % 256] : List Int))) else (if (wrap64 (a0)) < 2048 then (some (([(wrap64 (192 + (wrap64 (Int.tdiv (wrap64 (a0)) 64)))) % 256, (wrap64 (128 + (Int.tmod (wrap64 (a0)) 64))) % 256] : List Int))) else (if (wrap64 (a0)) < 65536 then (some (([(wrap64 (224 + (wrap64 (Int.tdiv (wrap64 (a0)) 4096)))) % 256, (wrap64 (128 + (Int.tmod (wrap64 (Int.tdiv (wrap64 (a0)) 64)) 64))) % 256, (wrap64 (128 + (Int.tmod (wrap64 (a0)) 64))) % 256] : List Int))) else (some (([(wrap64 (240 + (wrap64 (Int.tdiv (wrap64 (a0)) 262144)))) % 256, (wrap64 (128 + (Int.tmod (wrap64 (Int.tdiv (wrap64 (a0)) 4096)) 64))) % 256, (wrap64 (128 + (Int.tmod (wrap64 (Int.tdiv (wrap64 (a0)) 64)) 64))) % 256, (wrap64 (128 + (Int.tmod (wrap64 (a0)) 64))) % 256] : List Int)))))
set_option maxHeartbeats 8000000 in
set_option maxRecDepth 100000 in
theorem R13Bytes.calls (a0 : Int) (r : List Int) (w : World) (h : R13Bytes.f a0 = some r) :
  Calls Tryz.prog 66 #[.int .i32 a0] w fun e w' => ∃ v0_ : Value, e = .returned (v0_) ∧ Kd.R (Kd.int .u8) 5 w' w.heap.size (fun _ => True) v0_ r ∧ Below w.heap.size w w' := by
 have HB := am (Below.refl w.heap.size w)
 have H : (if (wrap64 (a0)) < 128 then (some (([(wrap64 (a0)) % 256] : List Int))) else (if (wrap64 (a0)) < 2048 then (some (([(wrap64 (192 + (wrap64 (Int.tdiv (wrap64 (a0)) 64)))) % 256, (wrap64 (128 + (Int.tmod (wrap64 (a0)) 64))) % 256] : List Int))) else (if (wrap64 (a0)) < 65536 then (some (([(wrap64 (224 + (wrap64 (Int.tdiv (wrap64 (a0)) 4096)))) % 256, (wrap64 (128 + (Int.tmod (wrap64 (Int.tdiv (wrap64 (a0)) 64)) 64))) % 256, (wrap64 (128 + (Int.tmod (wrap64 (a0)) 64))) % 256] : List Int))) else (some (([(wrap64 (240 + (wrap64 (Int.tdiv (wrap64 (a0)) 262144)))) % 256, (wrap64 (128 + (Int.tmod (wrap64 (Int.tdiv (wrap64 (a0)) 4096)) 64))) % 256, (wrap64 (128 + (Int.tmod (wrap64 (Int.tdiv (wrap64 (a0)) 64)) 64))) % 256, (wrap64 (128 + (Int.tmod (wrap64 (a0)) 64))) % 256] : List Int)))))) = some r := h
 clear h
 revert H
 refine spd00 ?_ ?_
 ·intro c2b0 H; obtain ⟨y506, hy506⟩ : ∃ y_ : List Int, y_ = (([(wrap64 (a0)) % 256] : List Int)) := ⟨_, rfl⟩; replace H : (some y506) = some r := apY hy506 H; have Ny506 := am hy506; clear hy506; obtain rfl := Option.some.inj H; go_enter Tryz.func66, Tryz.ntmps66; go_wp2_with (first | ((with_reducible refine gate_dst (N := 10) rfl ?_); refine Kd.R_lit (Kd.int .u8) _ 5 ?hg (N := 10) ?hd (xs := ([(wrap64 (a0)) % 256] : List Int)) (inner := [.int .u8 ((wrap64 (a0)) % 256)]) (ok := fun _ => True) (okp := fun _ => True) ?hr ?hp (fun _ hk => hk) trivial (Below.refl _ _) (Nat.le_refl _) (by simp) ?_; (case hd => rfl); (case hg => rfl); (case hr => first | (go_simp; done) | (go_simp; rfl)); (case hp => exact (Reps.one (show Kd.M (Kd.int .u8) _ _ _ ((wrap64 (a0)) % 256) [.int .u8 ((wrap64 (a0)) % 256)] from rfl) (Reps.none _ _))); intro v507 w3 ho4 hb hg_ hnew_; clear hg_ hnew_; (first | rw [← Ny506.out] at ho4 | (simp only [Int.reduceToNat] at ho4; rw [← Ny506.out] at ho4)); have HO508 := am (Kd.R_lower ho4 (below_size ap1)); replace HB := am (below_step ap1 hb); clear hb ho4)); go_ret; exact ⟨_, ap9, apAR HO508.out, ap1⟩
 ·intro c2b0 H; revert H; refine spd00 ?_ ?_
  ·intro c5b0 H; obtain ⟨y509, hy509⟩ : ∃ y_ : List Int, y_ = (([(wrap64 (192 + (wrap64 (Int.tdiv (wrap64 (a0)) 64)))) % 256, (wrap64 (128 + (Int.tmod (wrap64 (a0)) 64))) % 256] : List Int)) := ⟨_, rfl⟩; replace H : (some y509) = some r := apY hy509 H; have Ny509 := am hy509; clear hy509; obtain rfl := Option.some.inj H; go_enter Tryz.func66, Tryz.ntmps66; go_wp2_with (first | ((with_reducible refine gate_dst (N := 21) rfl ?_); refine Kd.R_lit (Kd.int .u8) _ 5 ?hg (N := 21) ?hd (xs := ([(wrap64 (192 + (wrap64 (Int.tdiv (wrap64 (a0)) 64)))) % 256, (wrap64 (128 + (Int.tmod (wrap64 (a0)) 64))) % 256] : List Int)) (inner := [.int .u8 ((wrap64 (192 + (wrap64 (Int.tdiv (wrap64 (a0)) 64)))) % 256), .int .u8 ((wrap64 (128 + (Int.tmod (wrap64 (a0)) 64))) % 256)]) (ok := fun _ => True) (okp := fun _ => True) ?hr ?hp (fun _ hk => hk) trivial (Below.refl _ _) (Nat.le_refl _) (by simp) ?_; (case hd => rfl); (case hg => rfl); (case hr => first | (go_simp; done) | (go_simp; rfl)); (case hp => exact (Reps.one (show Kd.M (Kd.int .u8) _ _ _ ((wrap64 (192 + (wrap64 (Int.tdiv (wrap64 (a0)) 64)))) % 256) [.int .u8 ((wrap64 (192 + (wrap64 (Int.tdiv (wrap64 (a0)) 64)))) % 256)] from rfl) (Reps.one (show Kd.M (Kd.int .u8) _ _ _ ((wrap64 (128 + (Int.tmod (wrap64 (a0)) 64))) % 256) [.int .u8 ((wrap64 (128 + (Int.tmod (wrap64 (a0)) 64))) % 256)] from rfl) (Reps.none _ _)))); intro v510 w6 ho7 hb hg_ hnew_; clear hg_ hnew_; (first | rw [← Ny509.out] at ho7 | (simp only [Int.reduceToNat] at ho7; rw [← Ny509.out] at ho7)); have HO511 := am (Kd.R_lower ho7 (below_size ap1)); replace HB := am (below_step ap1 hb); clear hb ho7)); go_ret; exact ⟨_, ap9, apAR HO511.out, ap1⟩
  ·intro c5b0 H; revert H; refine spd00 ?_ ?_
   ·intro c8b0 H; obtain ⟨y512, hy512⟩ : ∃ y_ : List Int, y_ = (([(wrap64 (224 + (wrap64 (Int.tdiv (wrap64 (a0)) 4096)))) % 256, (wrap64 (128 + (Int.tmod (wrap64 (Int.tdiv (wrap64 (a0)) 64)) 64))) % 256, (wrap64 (128 + (Int.tmod (wrap64 (a0)) 64))) % 256] : List Int)) := ⟨_, rfl⟩; replace H : (some y512) = some r := apY hy512 H; have Ny512 := am hy512; clear hy512; obtain rfl := Option.some.inj H; go_enter Tryz.func66, Tryz.ntmps66; go_wp2_with (first | ((with_reducible refine gate_dst (N := 37) rfl ?_); refine Kd.R_lit (Kd.int .u8) _ 5 ?hg (N := 37) ?hd (xs := ([(wrap64 (224 + (wrap64 (Int.tdiv (wrap64 (a0)) 4096)))) % 256, (wrap64 (128 + (Int.tmod (wrap64 (Int.tdiv (wrap64 (a0)) 64)) 64))) % 256, (wrap64 (128 + (Int.tmod (wrap64 (a0)) 64))) % 256] : List Int)) (inner := [.int .u8 ((wrap64 (224 + (wrap64 (Int.tdiv (wrap64 (a0)) 4096)))) % 256), .int .u8 ((wrap64 (128 + (Int.tmod (wrap64 (Int.tdiv (wrap64 (a0)) 64)) 64))) % 256), .int .u8 ((wrap64 (128 + (Int.tmod (wrap64 (a0)) 64))) % 256)]) (ok := fun _ => True) (okp := fun _ => True) ?hr ?hp (fun _ hk => hk) trivial (Below.refl _ _) (Nat.le_refl _) (by simp) ?_; (case hd => rfl); (case hg => rfl); (case hr => first | (go_simp; done) | (go_simp; rfl)); (case hp => exact (Reps.one (show Kd.M (Kd.int .u8) _ _ _ ((wrap64 (224 + (wrap64 (Int.tdiv (wrap64 (a0)) 4096)))) % 256) [.int .u8 ((wrap64 (224 + (wrap64 (Int.tdiv (wrap64 (a0)) 4096)))) % 256)] from rfl) (Reps.one (show Kd.M (Kd.int .u8) _ _ _ ((wrap64 (128 + (Int.tmod (wrap64 (Int.tdiv (wrap64 (a0)) 64)) 64))) % 256) [.int .u8 ((wrap64 (128 + (Int.tmod (wrap64 (Int.tdiv (wrap64 (a0)) 64)) 64))) % 256)] from rfl) (Reps.one (show Kd.M (Kd.int .u8) _ _ _ ((wrap64 (128 + (Int.tmod (wrap64 (a0)) 64))) % 256) [.int .u8 ((wrap64 (128 + (Int.tmod (wrap64 (a0)) 64))) % 256)] from rfl) (Reps.none _ _))))); intro v513 w9 ho10 hb hg_ hnew_; clear hg_ hnew_; (first | rw [← Ny512.out] at ho10 | (simp only [Int.reduceToNat] at ho10; rw [← Ny512.out] at ho10)); have HO514 := am (Kd.R_lower ho10 (below_size ap1)); replace HB := am (below_step ap1 hb); clear hb ho10)); go_ret; exact ⟨_, ap9, apAR HO514.out, ap1⟩
   ·intro c8b0 H; obtain ⟨y515, hy515⟩ : ∃ y_ : List Int, y_ = (([(wrap64 (240 + (wrap64 (Int.tdiv (wrap64 (a0)) 262144)))) % 256, (wrap64 (128 + (Int.tmod (wrap64 (Int.tdiv (wrap64 (a0)) 4096)) 64))) % 256, (wrap64 (128 + (Int.tmod (wrap64 (Int.tdiv (wrap64 (a0)) 64)) 64))) % 256, (wrap64 (128 + (Int.tmod (wrap64 (a0)) 64))) % 256] : List Int)) := ⟨_, rfl⟩; replace H : (some y515) = some r := apY hy515 H; have Ny515 := am hy515; clear hy515; obtain rfl := Option.some.inj H; go_enter Tryz.func66, Tryz.ntmps66; go_wp2_with (first | ((with_reducible refine gate_dst (N := 56) rfl ?_); refine Kd.R_lit (Kd.int .u8) _ 5 ?hg (N := 56) ?hd (xs := ([(wrap64 (240 + (wrap64 (Int.tdiv (wrap64 (a0)) 262144)))) % 256, (wrap64 (128 + (Int.tmod (wrap64 (Int.tdiv (wrap64 (a0)) 4096)) 64))) % 256, (wrap64 (128 + (Int.tmod (wrap64 (Int.tdiv (wrap64 (a0)) 64)) 64))) % 256, (wrap64 (128 + (Int.tmod (wrap64 (a0)) 64))) % 256] : List Int)) (inner := [.int .u8 ((wrap64 (240 + (wrap64 (Int.tdiv (wrap64 (a0)) 262144)))) % 256), .int .u8 ((wrap64 (128 + (Int.tmod (wrap64 (Int.tdiv (wrap64 (a0)) 4096)) 64))) % 256), .int .u8 ((wrap64 (128 + (Int.tmod (wrap64 (Int.tdiv (wrap64 (a0)) 64)) 64))) % 256), .int .u8 ((wrap64 (128 + (Int.tmod (wrap64 (a0)) 64))) % 256)]) (ok := fun _ => True) (okp := fun _ => True) ?hr ?hp (fun _ hk => hk) trivial (Below.refl _ _) (Nat.le_refl _) (by simp) ?_; (case hd => rfl); (case hg => rfl); (case hr => first | (go_simp; done) | (go_simp; rfl)); (case hp => exact (Reps.one (show Kd.M (Kd.int .u8) _ _ _ ((wrap64 (240 + (wrap64 (Int.tdiv (wrap64 (a0)) 262144)))) % 256) [.int .u8 ((wrap64 (240 + (wrap64 (Int.tdiv (wrap64 (a0)) 262144)))) % 256)] from rfl) (Reps.one (show Kd.M (Kd.int .u8) _ _ _ ((wrap64 (128 + (Int.tmod (wrap64 (Int.tdiv (wrap64 (a0)) 4096)) 64))) % 256) [.int .u8 ((wrap64 (128 + (Int.tmod (wrap64 (Int.tdiv (wrap64 (a0)) 4096)) 64))) % 256)] from rfl) (Reps.one (show Kd.M (Kd.int .u8) _ _ _ ((wrap64 (128 + (Int.tmod (wrap64 (Int.tdiv (wrap64 (a0)) 64)) 64))) % 256) [.int .u8 ((wrap64 (128 + (Int.tmod (wrap64 (Int.tdiv (wrap64 (a0)) 64)) 64))) % 256)] from rfl) (Reps.one (show Kd.M (Kd.int .u8) _ _ _ ((wrap64 (128 + (Int.tmod (wrap64 (a0)) 64))) % 256) [.int .u8 ((wrap64 (128 + (Int.tmod (wrap64 (a0)) 64))) % 256)] from rfl) (Reps.none _ _)))))); intro v516 w11 ho12 hb hg_ hnew_; clear hg_ hnew_; (first | rw [← Ny515.out] at ho12 | (simp only [Int.reduceToNat] at ho12; rw [← Ny515.out] at ho12)); have HO517 := am (Kd.R_lower ho12 (below_size ap1)); replace HB := am (below_step ap1 hb); clear hb ho12)); go_ret; exact ⟨_, ap9, apAR HO517.out, ap1⟩
def R13Text.l0 : Nat → List Int → List Int → Int → Option (ByteArray)
 | 0, _, _, _ => none
 | k + 1, x0, x3, x4 => if x4 < (x0.length : Int) then (if 0 ≤ x4 then ((R13Bytes.f (rd x0 x4)).bind fun t522 => (if x3.length + t522.length < 140737488355328 then (R13Text.l0 k x0 (x3 ++ t522) (wrap64 (x4 + 1))) else (none))) else (none)) else (some (strOfNums x3))
def R13Text.f (k : Nat) (l0 : List Int) : Option (ByteArray) := R13Text.l0 k l0 (([] : List Int)) 0
set_option maxHeartbeats 8000000 in
set_option maxRecDepth 100000 in
theorem R13Text.calls (k : Nat) (A0 : Option Addr) (c0 : Nat) (l0 : List Int) (r : ByteArray) (w : World) (hr0 : Kd.C (Kd.int .i32) w A0 l0.length l0) (hc0 : l0.length ≤ c0) (h : R13Text.f k l0 = some r) :
  Calls Tryz.prog 41 #[.slice A0 l0.length c0] w fun e w' => e = .returned (.string r) ∧ Below w.heap.size w w' := by
 have HR0 := am hr0
 have HC0 := am hc0
 clear hr0 hc0
 have HB := am (Below.refl w.heap.size w)
 have H : (R13Text.l0 k l0 (([] : List Int)) 0) = some r := h
 clear h
 obtain ⟨y518, hy518⟩ : ∃ y_ : List Int, y_ = (([] : List Int)) := ⟨_, rfl⟩
 replace H : (R13Text.l0 k l0 y518 0) = some r := apY hy518 H
 have Ny518 := am hy518
 clear hy518
 have H' := am H
 clear H
 go_enter Tryz.func41, Tryz.ntmps41
 go_wp2_with (first | ((with_reducible refine gate_dst (N := 5) rfl ?_); refine Kd.R_lit (Kd.int .u8) _ 5 ?hg (N := 5) ?hd (xs := ([] : List Int)) (inner := []) (ok := fun _ => True) (okp := fun _ => True) ?hr ?hp (fun _ hk => hk) trivial (Below.refl _ _) (Nat.le_refl _) (by simp) ?_; (case hd => rfl); (case hg => rfl); (case hr => first | (go_simp; done) | (go_simp; rfl)); (case hp => exact (Reps.none _ _)); intro v519 w2 ho3 hb hg_ hnew_; clear hg_ hnew_; (first | rw [← Ny518.out] at ho3 | (simp only [Int.reduceToNat] at ho3; rw [← Ny518.out] at ho3)); have HO520 := am (Kd.R_lower ho3 (below_size ap1)); replace HB := am (below_step ap1 hb); clear hb ho3))
 go_loopg [3, 4] k (fun kq v3 v4 w' => ∃ (x3_1 : List Int) (x4_1 : Int), v4 = .int .i64 x4_1 ∧ Aside0 (R13Text.l0 kq l0 x3_1 x4_1 = some r) ∧ Aside0 (kq ≤ k) ∧ Aside0 (Kd.R (Kd.int .u8) 5 w' w.heap.size (fun _ => True) v3 x3_1) ∧ Aside0 (Below w.heap.size w w'))
 case atStart => exact ⟨(y518), (0), ap2, H', ⟨Nat.le_refl _⟩, ⟨apAR HO520.out⟩, ⟨ap1⟩⟩
 case round =>
  clear H'; obtain ⟨x3_1, x4_1, rfl, HA, HK1, HO_3, HB⟩ := hrel; cases gk with
  | zero => exact absurd HA.out (by simp [R13Text.l0])
  | succ k1 =>
   have H := HA.out; clear HA; simp only [R13Text.l0] at H; revert H; refine spd00 ?_ ?_
   ·intro c4b0 H; revert H; refine spn0 ?_; intro c5b0 H; replace H := Option.bind_eq_some_iff.mp H; obtain ⟨t522, A60, H⟩ := H; replace H : (if x3_1.length + t522.length < 140737488355328 then (R13Text.l0 k1 l0 (x3_1 ++ t522) (wrap64 (x4_1 + 1))) else (none)) = some r := H; have A6 := am A60; clear A60; by_cases c7 : x3_1.length + t522.length < 140737488355328
    ·rw [if_pos c7] at H; have LMc7 := am c7; clear c7; obtain ⟨y525, hy525⟩ : ∃ y_ : List Int, y_ = (x3_1 ++ t522) := ⟨_, rfl⟩; replace H : (R13Text.l0 k1 l0 y525 (wrap64 (x4_1 + 1))) = some r := apY hy525 H; have Ny525 := am hy525; clear hy525; have H' := am H; clear H; have p521 : 0 ≤ (x4_1 : Int) := apD; have q521 : x4_1 < (l0.length : Int) := apD; obtain ⟨ad521, e521, hx521_0⟩ := Kd.at_int HR0.out x4_1 p521 q521; cases e521; replace hx521_0 := (HB.out.cell (World.block_lt_of_cell? w _ hx521_0)).trans hx521_0; replace p521 := eq_true p521; replace q521 := eq_true q521; go_wp2_with (first | ((with_reducible refine gate_callee (f := 66) rfl ?_); refine goesL_ (some 17) rfl rfl Tryz.func66 (by kernel_rfl) rfl #[.int .i32 (rd l0 x4_1)] rfl ap3 ?_; (with_reducible refine (R13Bytes.calls (rd l0 x4_1) t522 _ A6.out).mono ?_); rintro e w8 ⟨v523, rfl, ho0, hb⟩; refine ⟨_, rfl, ?_⟩; have n0_ := am (Kd.R_elder' (apAR HO_3.out) (Kd.R_base ho0) hb); have n1_ := am (Kd.R_lower (Kd.R_new' ho0 (Kd.R_lt (apAR HO_3.out))) (below_size ap1)); have n2_ := am (below_step ap1 hb); clear HO_3; clear HB; have HO_3 := n0_; have HO524 := n1_; have HB := n2_; clear n0_ n1_ n2_; (try clear ho0); obtain ⟨Ao10, co10, eo10⟩ := Kd.R_slice HO524.out; subst eo10) | ((with_reducible refine gate_builtin (b := .append) (xs := #[.tmp 12, .tmp 17]) rfl ?_); at_builtin; refine Kd.R_append_rows (Kd.int .u8) (w0 := w) w.heap.size rfl (.tmp 12) (.tmp 17) 82 5 (.int .u8 0) 1 rfl Tryz.underlying82 info5 rfl (by decide) (by omega) u3 x3_1 t522 _ _ _ (fun k_ => some k_ ≠ (.slice Ao10 t522.length co10 : Value).ownBlock) (fun _ => False) rfl rfl ?aO ?aR (fun _ _ h => h) (fun _ h => h.elim) ?aF ?aB ?aS ?aL ?_; (case aR => repeat (first | exact (Kd.R_reads' HO524.out).2.2 | (with_reducible refine Kd.C_alloc ?_ _) | (with_reducible refine Kd.C_drewN ?_ _) | (with_reducible refine Kd.C_drew ?_))); (case aB => exact ap1); (case aF => exact (fun k_ hk => Kd.fresh' (Kd.R_lt (apAR HO524.out)) k_ hk)); (case aO => exact (by (with_reducible repeat (first | apply Kd.R_alloc | apply Kd.R_drewN | apply Kd.R_drew)); exact Kd.R_mono HO_3.out (fun _ hk => hk.2))); (case aS => exact (below_size ap1)); (case aL => have := LMc7.out; omega); intro v526 w9 ho hb hg hat; rw [← Ny525.out] at ho; replace HO524 := am (Kd.R_after (ok := (fun _ => True)) (apAR HO524.out) hg hat); have HO527 := am (ho); replace HB := am (hb); clear ho hb hg hat)); go_roundg k1; (case measure => have := HK1.out; omega); case rel => exact ⟨(y525), (wrap64 (x4_1 + 1)), ap2, H', ⟨by have := HK1.out; omega⟩, ⟨by (with_reducible repeat (first | apply Kd.R_alloc | apply Kd.R_drewN | apply Kd.R_drew)); exact Kd.R_mono HO527.out (fun _ hk => trivial)⟩, ⟨ap1⟩⟩
    ·rw [if_neg c7] at H; exact absurd H (by simp)
   ·intro c4b0 H; obtain rfl := Option.some.inj H; have hcv11 := own_string (P := Tryz.prog) Tryz.underlying82 Tryz.underlying5 Tryz.underlying9 (Kd.own_of_R HO_3.out); go_wp2; go_ret; exact ⟨ap9, ap1⟩
def R13Ready.l0 : Nat → List Int → List Int → Int → Option (ByteArray × Int)
 | 0, _, _, _ => none
 | k + 1, x6, x8, x9 => if x9 < (x6.length : Int) then (if 0 ≤ x9 then (if (rd x6 x9) = 32 then (if (x8.length : Int) > 0 then (if (wrap64 (x9 + 1)) < (x6.length : Int) then (if 0 ≤ (wrap64 (x9 + 1)) then (if (rd x6 (wrap64 (x9 + 1))) = 32 then (R13Ready.l0 k x6 x8 (wrap64 (x9 + 1))) else (if x8.length < 35184372088832 then (R13Ready.l0 k x6 (x8 ++ [rd x6 x9]) (wrap64 (x9 + 1))) else (none))) else (none)) else (R13Ready.l0 k x6 x8 (wrap64 (x9 + 1)))) else (R13Ready.l0 k x6 x8 (wrap64 (x9 + 1)))) else (if x8.length < 35184372088832 then (R13Ready.l0 k x6 (x8 ++ [rd x6 x9]) (wrap64 (x9 + 1))) else (none))) else (none)) else ((R13Text.f k x8).bind fun t545 => (some (t545, 0)))
def R13Ready.f (k : Nat) (a0 : ByteArray) (a1 : Bool) : Option (ByteArray × Int) := (R13Mapped.f k a0 a1).bind fun bt528 => (if bt528.2 = 0 then (R13Ready.l0 k bt528.1 (([] : List Int)) 0) else (some ((⟨#[]⟩ : ByteArray), bt528.2)))
set_option maxHeartbeats 8000000 in
set_option maxRecDepth 100000 in
theorem R13Ready.calls (k : Nat) (a0 : ByteArray) (a1 : Bool) (r1 : ByteArray) (r2 : Int) (w : World) (h : R13Ready.f k a0 a1 = some (r1, r2)) :
  Calls Tryz.prog 17 #[.string a0, .bool a1] w fun e w' => e = .returned (.tuple #[.string r1, .int .i64 r2]) ∧ Below w.heap.size w w' := by
 have HB := am (Below.refl w.heap.size w)
 have H : ((R13Mapped.f k a0 a1).bind fun bt528 => (if bt528.2 = 0 then (R13Ready.l0 k bt528.1 (([] : List Int)) 0) else (some ((⟨#[]⟩ : ByteArray), bt528.2)))) = some (r1, r2) := h
 clear h
 replace H := Option.bind_eq_some_iff.mp H
 obtain ⟨⟨t528, t529⟩, A30, H⟩ := H
 replace H : (if t529 = 0 then (R13Ready.l0 k t528 (([] : List Int)) 0) else (some ((⟨#[]⟩ : ByteArray), t529))) = some (r1, r2) := H
 have A3 := am A30
 clear A30
 revert H
 refine spe01 ?_ ?_
 ·intro c4b0 c4b1 H; obtain ⟨y532, hy532⟩ : ∃ y_ : List Int, y_ = (([] : List Int)) := ⟨_, rfl⟩; replace H : (R13Ready.l0 k t528 y532 0) = some (r1, r2) := apY hy532 H; have Ny532 := am hy532; clear hy532; have H' := am H; clear H; go_enter Tryz.func17, Tryz.ntmps17; go_wp2_with (first | ((with_reducible refine gate_callee (f := 40) rfl ?_); refine goesL_ (some 13) rfl rfl Tryz.func40 (by kernel_rfl) rfl #[.string a0, .bool a1] rfl ap3 ?_; (with_reducible refine (R13Mapped.calls k a0 a1 t528 t529 _ A3.out).mono ?_); rintro e w5 ⟨v530, rfl, ho0, hb⟩; refine ⟨_, rfl, ?_⟩; have HO531 := am (Kd.R_lower ho0 (below_size ap1)); replace HB := am (below_step ap1 hb); (try clear ho0)) | ((with_reducible refine gate_dst (N := 19) rfl ?_); (try (refine gate_guard (by rfl) ?_; dsimp only)); refine Kd.R_lit (Kd.int .i32) _ 21 ?hg (N := 19) ?hd (xs := ([] : List Int)) (inner := []) (ok := fun _ => True) (okp := fun _ => True) ?hr ?hp (fun _ hk => hk) trivial (Below.refl _ _) (Nat.le_refl _) (by simp) ?_; (case hd => rfl); (case hg => rfl); (case hr => first | (go_simp; done) | (go_simp; rfl)); (case hp => exact (Reps.none _ _)); intro v533 w6 ho7 hb hg_ hnew_; clear hg_ hnew_; (first | rw [← Ny532.out] at ho7 | (simp only [Int.reduceToNat] at ho7; rw [← Ny532.out] at ho7)); have n0_ := am (Kd.R_elder' (apAR HO531.out) (Kd.R_base ho7) hb); have n1_ := am (Kd.R_lower (Kd.R_new' ho7 (Kd.R_lt (apAR HO531.out))) (below_size ap1)); have n2_ := am (below_step ap1 hb); clear HO531; clear HB; have HO531 := n0_; have HO534 := n1_; have HB := n2_; clear n0_ n1_ n2_; clear hb ho7)); go_loopg [8, 9] k (fun kq v8 v9 w' => ∃ (x8_1 : List Int) (x9_1 : Int), v9 = .int .i64 x9_1 ∧ Aside0 (R13Ready.l0 kq t528 x8_1 x9_1 = some (r1, r2)) ∧ Aside0 (kq ≤ k) ∧ Aside0 (Kd.R (Kd.int .i32) 21 w' w.heap.size (fun k_ => some k_ ≠ (v8 : Value).ownBlock) v530 t528) ∧ Aside0 (Kd.R (Kd.int .i32) 21 w' w.heap.size (fun k_ => some k_ ≠ (v530 : Value).ownBlock) v8 x8_1) ∧ Aside0 (Below w.heap.size w w')); (case atStart => exact ⟨(y532), (0), ap2, H', ⟨Nat.le_refl _⟩, ⟨by (with_reducible repeat (first | apply Kd.R_alloc | apply Kd.R_drewN | apply Kd.R_drew)); exact Kd.R_mono HO531.out (fun _ hk => hk.2)⟩, ⟨by (with_reducible repeat (first | apply Kd.R_alloc | apply Kd.R_drewN | apply Kd.R_drew)); exact Kd.R_mono HO534.out (fun _ hk => hk.2)⟩, ⟨ap1⟩⟩); case round =>
   clear H'; (try clear c4); (try clear c4b0); (try clear c4b1); obtain ⟨x8_1, x9_1, rfl, HA, HK1, HO_6, HO_8, HB⟩ := hrel; cases gk with
   | zero => exact absurd HA.out (by simp [R13Ready.l0])
   | succ k1 =>
    have H := HA.out; clear HA; simp only [R13Ready.l0] at H; revert H; refine spd00 ?_ ?_
    ·intro c8b0 H; revert H; refine spn0 ?_; intro c9b0 H; revert H; refine spe01 ?_ ?_
     ·intro c10b0 c10b1 H; revert H; refine spd11 ?_ ?_
      ·intro c11 c11b0 H; have c11b1 : decide (0 < x8_1.length) = true := decide_eq_true (by omega); clear c11; revert H; refine spd00 ?_ ?_
       ·intro c12b0 H; obtain ⟨ji13, hji13⟩ : ∃ j_ : Int, (wrap64 (x9_1 + 1)) = j_ := ⟨_, rfl⟩; replace H : (if 0 ≤ (ji13) then (if (rd t528 (ji13)) = 32 then (R13Ready.l0 k1 t528 x8_1 ji13) else (if x8_1.length < 35184372088832 then (R13Ready.l0 k1 t528 (x8_1 ++ [rd t528 x9_1]) ji13) else (none))) else (none)) = some (r1, r2) := by first | (rw [hji13] at H; exact H) | (simp only [hji13] at H ⊢; exact H)
        (try rw [hji13] at c12b0); have hji13w : (IntKind.i64.wrap (x9_1 + 1)) = ji13 := (i64_w _).trans hji13; revert H; refine spn0 ?_; intro c14b0 H; revert H; refine spe01 ?_ ?_
        ·intro c15b0 c15b1 H; have H' := am H; clear H; obtain ⟨Ao16, co16, eo16⟩ := Kd.R_slice HO_6.out; subst eo16; have p535 : 0 ≤ (x9_1 : Int) := apD; have q535 : x9_1 < (t528.length : Int) := apD; obtain ⟨ad535, e535, hx535_0⟩ := Kd.at_int (Kd.R_reads' HO_6.out).2.2 x9_1 p535 q535; cases e535; replace p535 := eq_true p535; replace q535 := eq_true q535; obtain ⟨Ao17, co17, eo17⟩ := Kd.R_slice HO_8.out; subst eo17; have p536 : 0 ≤ ((ji13) : Int) := apD; have q536 : (ji13) < (t528.length : Int) := apD; obtain ⟨ad536, e536, hx536_0⟩ := Kd.at_int (Kd.R_reads' HO_6.out).2.2 (ji13) p536 q536; obtain rfl : ad535 = ad536 := (by injection e536); replace p536 := eq_true p536; replace q536 := eq_true q536; go_wp2; go_roundg k1; (case measure => have := HK1.out; omega); case rel => exact ⟨(x8_1), (ji13), (by first | rfl | (simp; done) | (simp only [← hji13] <;> (first | rfl | simp)) | (simp [*]; done)), H', ⟨by have := HK1.out; omega⟩, ⟨apAR HO_6.out⟩, ⟨apAR HO_8.out⟩, ⟨ap1⟩⟩
        ·intro c15 c15b0 c15b1 H; by_cases c18 : x8_1.length < 35184372088832
         ·rw [if_pos c18] at H; have LMc18 := am c18; clear c18; obtain ⟨y538, hy538⟩ : ∃ y_ : List Int, y_ = (x8_1 ++ [rd t528 x9_1]) := ⟨_, rfl⟩; replace H : (R13Ready.l0 k1 t528 y538 ji13) = some (r1, r2) := apY hy538 H; have Ny538 := am hy538; clear hy538; have H' := am H; clear H; obtain ⟨Ao19, co19, eo19⟩ := Kd.R_slice HO_6.out; subst eo19; have p535 : 0 ≤ (x9_1 : Int) := apD; have q535 : x9_1 < (t528.length : Int) := apD; obtain ⟨ad535, e535, hx535_0⟩ := Kd.at_int (Kd.R_reads' HO_6.out).2.2 x9_1 p535 q535; cases e535; replace p535 := eq_true p535; replace q535 := eq_true q535; obtain ⟨Ao20, co20, eo20⟩ := Kd.R_slice HO_8.out; subst eo20; have p536 : 0 ≤ ((ji13) : Int) := apD; have q536 : (ji13) < (t528.length : Int) := apD; obtain ⟨ad536, e536, hx536_0⟩ := Kd.at_int (Kd.R_reads' HO_6.out).2.2 (ji13) p536 q536; obtain rfl : ad535 = ad536 := (by injection e536); replace p536 := eq_true p536; replace q536 := eq_true q536; have p537 : 0 ≤ (x9_1 : Int) := apD; have q537 : x9_1 < (t528.length : Int) := apD; obtain ⟨ad537, e537, hx537_0⟩ := Kd.at_int (Kd.R_reads' HO_6.out).2.2 x9_1 p537 q537; obtain rfl : ad535 = ad537 := (by injection e537); replace p537 := eq_true p537; replace q537 := eq_true q537; go_wp2_with (first | ((with_reducible refine gate_builtin (b := .append) (xs := #[.tmp 51, .tmp 56]) rfl ?_); (try (refine gate_guard (by rfl) ?_; dsimp only)); at_builtin; refine Kd.R_append (Kd.int .i32) (w0 := w) w.heap.size rfl (.tmp 51) (.tmp 56) 64 21 (.int .i32 0) 4 rfl Tryz.underlying64 info21 rfl (by decide) (by omega) (.slice Ao20 x8_1.length co20) x8_1 (rd t528 x9_1) [.int .i32 (rd t528 x9_1)] (fun k_ => some k_ ≠ (.slice (some ad535) t528.length co19 : Value).ownBlock) (fun _ => False) rfl rfl ?aP (fun _ hk => hk.elim) ?aF ?aO ?aB ?aS ?aL ?_; (case aP => exact rfl); (case aB => exact ap1); (case aF => exact (fun k_ hk => Kd.fresh' (Kd.R_lt (apAR HO_6.out)) k_ hk)); (case aO => exact (apAR HO_8.out)); (case aS => exact (below_size ap1)); (case aL => have := LMc18.out; omega); intro v539 w21 ho hb hg hat; rw [← Ny538.out] at ho; replace HO_6 := am (Kd.R_after (ok := (fun _ => True)) (by (with_reducible repeat (first | apply Kd.R_alloc | apply Kd.R_drewN | apply Kd.R_drew)); exact Kd.R_mono HO_6.out (fun _ hk => ⟨trivial, hk⟩)) hg hat); have HO540 := am (ho); replace HB := am (hb); clear ho hb hg hat)); go_roundg k1; (case measure => have := HK1.out; omega); case rel => exact ⟨(y538), (ji13), (by first | rfl | (simp; done) | (simp only [← hji13] <;> (first | rfl | simp)) | (simp [*]; done)), H', ⟨by have := HK1.out; omega⟩, ⟨by (with_reducible repeat (first | apply Kd.R_alloc | apply Kd.R_drewN | apply Kd.R_drew)); exact Kd.R_mono HO_6.out (fun _ hk => hk.2)⟩, ⟨apAR HO540.out⟩, ⟨ap1⟩⟩
         ·rw [if_neg c18] at H; exact absurd H (by simp)
       ·intro c12b0 H; have H' := am H; clear H; obtain ⟨Ao22, co22, eo22⟩ := Kd.R_slice HO_6.out; subst eo22; have p535 : 0 ≤ (x9_1 : Int) := apD; have q535 : x9_1 < (t528.length : Int) := apD; obtain ⟨ad535, e535, hx535_0⟩ := Kd.at_int (Kd.R_reads' HO_6.out).2.2 x9_1 p535 q535; cases e535; replace p535 := eq_true p535; replace q535 := eq_true q535; obtain ⟨Ao23, co23, eo23⟩ := Kd.R_slice HO_8.out; subst eo23; go_wp2; go_roundg k1; (case measure => have := HK1.out; omega); case rel => exact ⟨(x8_1), (wrap64 (x9_1 + 1)), ap2, H', ⟨by have := HK1.out; omega⟩, ⟨apAR HO_6.out⟩, ⟨apAR HO_8.out⟩, ⟨ap1⟩⟩
      ·intro c11 c11b0 H; have c11b1 : decide (0 < x8_1.length) = false := decide_eq_false (by omega); clear c11; have H' := am H; clear H; obtain ⟨Ao24, co24, eo24⟩ := Kd.R_slice HO_6.out; subst eo24; have p535 : 0 ≤ (x9_1 : Int) := apD; have q535 : x9_1 < (t528.length : Int) := apD; obtain ⟨ad535, e535, hx535_0⟩ := Kd.at_int (Kd.R_reads' HO_6.out).2.2 x9_1 p535 q535; cases e535; replace p535 := eq_true p535; replace q535 := eq_true q535; obtain ⟨Ao25, co25, eo25⟩ := Kd.R_slice HO_8.out; subst eo25; go_wp2; go_roundg k1; (case measure => have := HK1.out; omega); case rel => exact ⟨(x8_1), (wrap64 (x9_1 + 1)), ap2, H', ⟨by have := HK1.out; omega⟩, ⟨apAR HO_6.out⟩, ⟨apAR HO_8.out⟩, ⟨ap1⟩⟩
     ·intro c10 c10b0 c10b1 H; by_cases c26 : x8_1.length < 35184372088832
      ·rw [if_pos c26] at H; have LMc26 := am c26; clear c26; obtain ⟨y542, hy542⟩ : ∃ y_ : List Int, y_ = (x8_1 ++ [rd t528 x9_1]) := ⟨_, rfl⟩; replace H : (R13Ready.l0 k1 t528 y542 (wrap64 (x9_1 + 1))) = some (r1, r2) := apY hy542 H; have Ny542 := am hy542; clear hy542; have H' := am H; clear H; obtain ⟨Ao27, co27, eo27⟩ := Kd.R_slice HO_6.out; subst eo27; have p535 : 0 ≤ (x9_1 : Int) := apD; have q535 : x9_1 < (t528.length : Int) := apD; obtain ⟨ad535, e535, hx535_0⟩ := Kd.at_int (Kd.R_reads' HO_6.out).2.2 x9_1 p535 q535; cases e535; replace p535 := eq_true p535; replace q535 := eq_true q535; have p541 : 0 ≤ (x9_1 : Int) := apD; have q541 : x9_1 < (t528.length : Int) := apD; obtain ⟨ad541, e541, hx541_0⟩ := Kd.at_int (Kd.R_reads' HO_6.out).2.2 x9_1 p541 q541; obtain rfl : ad535 = ad541 := (by injection e541); replace p541 := eq_true p541; replace q541 := eq_true q541; go_wp2_with (first | ((with_reducible refine gate_builtin (b := .append) (xs := #[.tmp 51, .tmp 56]) rfl ?_); (try (refine gate_guard (by rfl) ?_; dsimp only)); at_builtin; refine Kd.R_append (Kd.int .i32) (w0 := w) w.heap.size rfl (.tmp 51) (.tmp 56) 64 21 (.int .i32 0) 4 rfl Tryz.underlying64 info21 rfl (by decide) (by omega) u8 x8_1 (rd t528 x9_1) [.int .i32 (rd t528 x9_1)] (fun k_ => some k_ ≠ (.slice (some ad535) t528.length co27 : Value).ownBlock) (fun _ => False) rfl rfl ?aP (fun _ hk => hk.elim) ?aF ?aO ?aB ?aS ?aL ?_; (case aP => exact rfl); (case aB => exact ap1); (case aF => exact (fun k_ hk => Kd.fresh' (Kd.R_lt (apAR HO_6.out)) k_ hk)); (case aO => exact (apAR HO_8.out)); (case aS => exact (below_size ap1)); (case aL => have := LMc26.out; omega); intro v543 w28 ho hb hg hat; rw [← Ny542.out] at ho; replace HO_6 := am (Kd.R_after (ok := (fun _ => True)) (by (with_reducible repeat (first | apply Kd.R_alloc | apply Kd.R_drewN | apply Kd.R_drew)); exact Kd.R_mono HO_6.out (fun _ hk => ⟨trivial, hk⟩)) hg hat); have HO544 := am (ho); replace HB := am (hb); clear ho hb hg hat)); go_roundg k1; (case measure => have := HK1.out; omega); case rel => exact ⟨(y542), (wrap64 (x9_1 + 1)), ap2, H', ⟨by have := HK1.out; omega⟩, ⟨by (with_reducible repeat (first | apply Kd.R_alloc | apply Kd.R_drewN | apply Kd.R_drew)); exact Kd.R_mono HO_6.out (fun _ hk => hk.2)⟩, ⟨apAR HO544.out⟩, ⟨ap1⟩⟩
      ·rw [if_neg c26] at H; exact absurd H (by simp)
    ·intro c8b0 H; replace H := Option.bind_eq_some_iff.mp H; obtain ⟨t545, A290, H⟩ := H; replace H : (some (t545, 0)) = some (r1, r2) := H; have A29 := am A290; clear A290; simp only [Option.some.injEq, Prod.mk.injEq] at H; obtain ⟨rfl, rfl⟩ := H; obtain ⟨Ao30, co30, eo30⟩ := Kd.R_slice HO_6.out; subst eo30; obtain ⟨Ao31, co31, eo31⟩ := Kd.R_slice HO_8.out; subst eo31; go_wp2_with (first | ((with_reducible refine gate_callee (f := 41) rfl ?_); refine goesL_ (some 59) rfl rfl Tryz.func41 (by kernel_rfl) rfl #[.slice Ao31 x8_1.length co31] rfl ap3 ?_; (with_reducible refine (R13Text.calls k1 _ _ x8_1 t545 _ ?side1 ?side2 A29.out).mono ?_); (case side1 => repeat (first | exact (Kd.R_reads' HO_8.out).2.2 | (with_reducible refine Kd.C_alloc ?_ _) | (with_reducible refine Kd.C_drewN ?_ _) | (with_reducible refine Kd.C_drew ?_))); (case side2 => exact (Kd.R_reads' HO_8.out).2.1); rintro e w32 ⟨rfl, hb⟩; refine ⟨_, rfl, ?_⟩; replace HO_6 := am (Kd.R_below (apAR HO_6.out) hb); replace HO_8 := am (Kd.R_below (apAR HO_8.out) hb); replace HB := am (below_step ap1 hb))); go_ret2; exact ⟨ap9, ap1⟩
 ·intro c4 c4b0 c4b1 H; simp only [Option.some.injEq, Prod.mk.injEq] at H; obtain ⟨rfl, rfl⟩ := H; go_enter Tryz.func17, Tryz.ntmps17; go_wp2_with (first | ((with_reducible refine gate_callee (f := 40) rfl ?_); refine goesL_ (some 13) rfl rfl Tryz.func40 (by kernel_rfl) rfl #[.string a0, .bool a1] rfl ap3 ?_; (with_reducible refine (R13Mapped.calls k a0 a1 t528 t529 _ A3.out).mono ?_); rintro e w33 ⟨v530, rfl, ho0, hb⟩; refine ⟨_, rfl, ?_⟩; have HO531 := am (Kd.R_lower ho0 (below_size ap1)); replace HB := am (below_step ap1 hb); (try clear ho0))); go_ret2; exact ⟨ap9, ap1⟩
end Go.Proofs.YtpklcnpmppaaoaaGreatDoor.Print
namespace Go.Proofs.YtpklcnpmppaaoaaGreatDoor.Print
open Go.RowKit Go.Proofs.YtpklcnpmppaaoaaGreatDoorW.PrintWords Go.Proofs.YtpklcnpmppaaoaaGreatDoorW.PrintLast Go.Proofs.YtpklcnpmppaaoaaGreatDoorW.PrintMore Go.Proofs.YtpklcnpmppaaoaaGreatDoor.Pure
set_option linter.unusedVariables false
set_option linter.unusedSimpArgs false
theorem sdT {p : Prop} [Decidable p] (h : p) : some true = some (decide p) := congrArg some (decide_eq_true h).symm
theorem sdF {p : Prop} [Decidable p] (h : ¬ p) : some false = some (decide p) := congrArg some (decide_eq_false h).symm
theorem sdB {p : Prop} [Decidable p] {a b : Int} (h : a = b ↔ p) : some (a == b) = some (decide p) := by
 congr 1; rw [Bool.eq_iff_iff, beq_iff_eq, decide_eq_true_iff]; exact h
theorem u8s (n : Nat) (h : n < 256) : n.toUInt8.toNat = n := by
 have e : n.toUInt8.toNat = n % 2 ^ 8 := UInt8.toNat_ofNat'; rw [e]; exact Nat.mod_eq_of_lt h
set_option maxHeartbeats 4000000 in
theorem rdropped_is (r : Int) : R13Dropped.f r = some (dropB r) := by
 unfold R13Dropped.f dropB; by_cases h9 : r < 9
 ·simp (disch := omega) only [if_pos, if_neg]; first | exact sdT (by omega) | exact sdF (by omega) | exact sdB (by omega)
 by_cases h14 : r < 14
 ·simp (disch := omega) only [if_pos, if_neg]; first | exact sdT (by omega) | exact sdF (by omega) | exact sdB (by omega)
 by_cases h32 : r < 32
 ·simp (disch := omega) only [if_pos, if_neg]; first | exact sdT (by omega) | exact sdF (by omega) | exact sdB (by omega)
 by_cases h127 : r < 127
 ·simp (disch := omega) only [if_pos, if_neg]; first | exact sdT (by omega) | exact sdF (by omega) | exact sdB (by omega)
 by_cases h133 : r < 133
 ·simp (disch := omega) only [if_pos, if_neg]; first | exact sdT (by omega) | exact sdF (by omega) | exact sdB (by omega)
 by_cases h134 : r < 134
 ·simp (disch := omega) only [if_pos, if_neg]; first | exact sdT (by omega) | exact sdF (by omega) | exact sdB (by omega)
 by_cases h160 : r < 160
 ·simp (disch := omega) only [if_pos, if_neg]; first | exact sdT (by omega) | exact sdF (by omega) | exact sdB (by omega)
 by_cases h173 : r < 173
 ·simp (disch := omega) only [if_pos, if_neg]; first | exact sdT (by omega) | exact sdF (by omega) | exact sdB (by omega)
 by_cases h174 : r < 174
 ·simp (disch := omega) only [if_pos, if_neg]; first | exact sdT (by omega) | exact sdF (by omega) | exact sdB (by omega)
 by_cases h8203 : r < 8203
 ·simp (disch := omega) only [if_pos, if_neg]; first | exact sdT (by omega) | exact sdF (by omega) | exact sdB (by omega)
 by_cases h8208 : r < 8208
 ·simp (disch := omega) only [if_pos, if_neg]; first | exact sdT (by omega) | exact sdF (by omega) | exact sdB (by omega)
 by_cases h65279 : r < 65279
 ·simp (disch := omega) only [if_pos, if_neg]; first | exact sdT (by omega) | exact sdF (by omega) | exact sdB (by omega)
 by_cases h65280 : r < 65280
 ·simp (disch := omega) only [if_pos, if_neg]; first | exact sdT (by omega) | exact sdF (by omega) | exact sdB (by omega)
 simp (disch := omega) only [if_pos, if_neg]; first | exact sdT (by omega) | exact sdF (by omega) | exact sdB (by omega)
set_option maxHeartbeats 4000000 in
theorem rblank_is (r : Int) : R13Blank.f r = some (blankB r) := by
 unfold R13Blank.f blankB; by_cases h9 : r < 9
 ·simp (disch := omega) only [if_pos, if_neg]; first | exact sdT (by omega) | exact sdF (by omega) | exact sdB (by omega)
 by_cases h14 : r < 14
 ·simp (disch := omega) only [if_pos, if_neg]; first | exact sdT (by omega) | exact sdF (by omega) | exact sdB (by omega)
 by_cases h32 : r < 32
 ·simp (disch := omega) only [if_pos, if_neg]; first | exact sdT (by omega) | exact sdF (by omega) | exact sdB (by omega)
 by_cases h33 : r < 33
 ·simp (disch := omega) only [if_pos, if_neg]; first | exact sdT (by omega) | exact sdF (by omega) | exact sdB (by omega)
 by_cases h133 : r < 133
 ·simp (disch := omega) only [if_pos, if_neg]; first | exact sdT (by omega) | exact sdF (by omega) | exact sdB (by omega)
 by_cases h134 : r < 134
 ·simp (disch := omega) only [if_pos, if_neg]; first | exact sdT (by omega) | exact sdF (by omega) | exact sdB (by omega)
 by_cases h160 : r < 160
 ·simp (disch := omega) only [if_pos, if_neg]; first | exact sdT (by omega) | exact sdF (by omega) | exact sdB (by omega)
 by_cases h161 : r < 161
 ·simp (disch := omega) only [if_pos, if_neg]; first | exact sdT (by omega) | exact sdF (by omega) | exact sdB (by omega)
 by_cases h5760 : r < 5760
 ·simp (disch := omega) only [if_pos, if_neg]; first | exact sdT (by omega) | exact sdF (by omega) | exact sdB (by omega)
 by_cases h5761 : r < 5761
 ·simp (disch := omega) only [if_pos, if_neg]; first | exact sdT (by omega) | exact sdF (by omega) | exact sdB (by omega)
 by_cases h8192 : r < 8192
 ·simp (disch := omega) only [if_pos, if_neg]; first | exact sdT (by omega) | exact sdF (by omega) | exact sdB (by omega)
 by_cases h8203 : r < 8203
 ·simp (disch := omega) only [if_pos, if_neg]; first | exact sdT (by omega) | exact sdF (by omega) | exact sdB (by omega)
 by_cases h8232 : r < 8232
 ·simp (disch := omega) only [if_pos, if_neg]; first | exact sdT (by omega) | exact sdF (by omega) | exact sdB (by omega)
 by_cases h8233 : r < 8233
 ·simp (disch := omega) only [if_pos, if_neg]; first | exact sdT (by omega) | exact sdF (by omega) | exact sdB (by omega)
 by_cases h8234 : r < 8234
 ·simp (disch := omega) only [if_pos, if_neg]; first | exact sdT (by omega) | exact sdF (by omega) | exact sdB (by omega)
 by_cases h8239 : r < 8239
 ·simp (disch := omega) only [if_pos, if_neg]; first | exact sdT (by omega) | exact sdF (by omega) | exact sdB (by omega)
 by_cases h8240 : r < 8240
 ·simp (disch := omega) only [if_pos, if_neg]; first | exact sdT (by omega) | exact sdF (by omega) | exact sdB (by omega)
 by_cases h8287 : r < 8287
 ·simp (disch := omega) only [if_pos, if_neg]; first | exact sdT (by omega) | exact sdF (by omega) | exact sdB (by omega)
 by_cases h8288 : r < 8288
 ·simp (disch := omega) only [if_pos, if_neg]; first | exact sdT (by omega) | exact sdF (by omega) | exact sdB (by omega)
 by_cases h12288 : r < 12288
 ·simp (disch := omega) only [if_pos, if_neg]; first | exact sdT (by omega) | exact sdF (by omega) | exact sdB (by omega)
 by_cases h12289 : r < 12289
 ·simp (disch := omega) only [if_pos, if_neg]; first | exact sdT (by omega) | exact sdF (by omega) | exact sdB (by omega)
 simp (disch := omega) only [if_pos, if_neg]; first | exact sdT (by omega) | exact sdF (by omega) | exact sdB (by omega)
set_option maxHeartbeats 4000000 in
theorem rsmall_is (k : Nat) (r : Int) (h0 : 0 ≤ r) (h1 : r ≤ 1114111) : R13Small.f (k + 1) r = some (smallI r) := by
 have w1 : wrap32 (r + 32) = r + 32 := by unfold wrap32; omega
 have w2 : wrap32 (r + 80) = r + 80 := by unfold wrap32; omega
 unfold R13Small.f smallI; simp only [R13Small.j0, w1, w2, decide_eq_true_eq, if_true, Bool.false_eq_true, if_false]; by_cases h65 : r < 65
 ·simp (disch := omega) only [if_pos, if_neg]
 by_cases h91 : r < 91
 ·simp (disch := omega) only [if_pos, if_neg]
 by_cases h192 : r < 192
 ·simp (disch := omega) only [if_pos, if_neg]
 by_cases h215 : r < 215
 ·simp (disch := omega) only [if_pos, if_neg]
 by_cases h216 : r < 216
 ·simp (disch := omega) only [if_pos, if_neg]
 by_cases h223 : r < 223
 ·simp (disch := omega) only [if_pos, if_neg]
 by_cases h913 : r < 913
 ·simp (disch := omega) only [if_pos, if_neg]
 by_cases h930 : r < 930
 ·simp (disch := omega) only [if_pos, if_neg]
 by_cases h931 : r < 931
 ·simp (disch := omega) only [if_pos, if_neg]
 by_cases h938 : r < 938
 ·simp (disch := omega) only [if_pos, if_neg]
 by_cases h1024 : r < 1024
 ·simp (disch := omega) only [if_pos, if_neg]
 by_cases h1040 : r < 1040
 ·simp (disch := omega) only [if_pos, if_neg]
 by_cases h1072 : r < 1072
 ·simp (disch := omega) only [if_pos, if_neg]
 simp (disch := omega) only [if_pos, if_neg]
theorem rsmall_ev (r : Int) (h0 : 0 ≤ r) (h1 : r ≤ 1114111) : Ev (fun k => R13Small.f k r) (smallI r) := Ev.step (fun k => by rw [rsmall_is k r h0 h1]) Ev.rfl'
def okRune (r : Int) : Prop := 0 ≤ r ∧ r ≤ 1114111 ∧ ¬ (55296 ≤ r ∧ r ≤ 57343)
theorem bytes_is (r : Int) (h : okRune r) : R13Bytes.f r = some (ints (Lib.encodeRune r)) := by
 obtain ⟨h0, h1, h2⟩ := h; have w0 : wrap64 r = r := by unfold wrap64; omega
 have d1 : Int.tdiv r 64 = r / 64 := Int.tdiv_eq_ediv_of_nonneg h0; have d2 : Int.tdiv r 4096 = r / 4096 := Int.tdiv_eq_ediv_of_nonneg h0; have d3 : Int.tdiv r 262144 = r / 262144 := Int.tdiv_eq_ediv_of_nonneg h0; have w1 : wrap64 (r / 64) = r / 64 := by unfold wrap64; omega
 have w2 : wrap64 (r / 4096) = r / 4096 := by unfold wrap64; omega
 have w3 : wrap64 (r / 262144) = r / 262144 := by unfold wrap64; omega
 have m1 : Int.tmod r 64 = r % 64 := Int.tmod_eq_emod_of_nonneg h0; have m2 : Int.tmod (r / 64) 64 = r / 64 % 64 := Int.tmod_eq_emod_of_nonneg (by omega); have m3 : Int.tmod (r / 4096) 64 = r / 4096 % 64 := Int.tmod_eq_emod_of_nonneg (by omega); have e : ∀ z : List Int, (∀ x ∈ z, 0 ≤ x ∧ x < 256) → ints (z.map fun x => x.toNat.toUInt8) = z := by
  intro z hz; unfold ints; rw [List.map_map]; (conv => rhs; rw [← List.map_id z]); refine List.map_congr_left fun x hx => ?_
  have := hz x hx; show ((x.toNat.toUInt8.toNat : Nat) : Int) = x; rw [u8s _ (by omega)]; omega
 unfold R13Bytes.f Lib.encodeRune; rw [w0, d1, d2, d3, w1, w2, w3, m1, m2, m3]; by_cases a1 : r < 128
 ·rw [if_pos a1, Lib.encodeRuneZ_one h0 (by omega), e _ (by simp; omega)]; rw [show r % 256 = r by omega]
 by_cases a2 : r < 2048
 ·rw [if_neg a1, if_pos a2, Lib.encodeRuneZ_two (by omega) (by omega), e _ (by simp; omega)]; rw [show wrap64 (192 + r / 64) % 256 = 192 + r / 64 by unfold wrap64; omega, show wrap64 (128 + r % 64) % 256 = 128 + r % 64 by unfold wrap64; omega]
 by_cases a3 : r < 65536
 ·rw [if_neg a1, if_neg a2, if_pos a3, Lib.encodeRuneZ_three (by omega), e _ (by simp; omega)]; rw [show wrap64 (224 + r / 4096) % 256 = 224 + r / 4096 by unfold wrap64; omega, show wrap64 (128 + r / 64 % 64) % 256 = 128 + r / 64 % 64 by unfold wrap64; omega, show wrap64 (128 + r % 64) % 256 = 128 + r % 64 by unfold wrap64; omega]
 ·rw [if_neg a1, if_neg a2, if_neg a3, Lib.encodeRuneZ_four (by omega) (by omega), e _ (by simp; omega)]; rw [show wrap64 (240 + r / 262144) % 256 = 240 + r / 262144 by unfold wrap64; omega, show wrap64 (128 + r / 4096 % 64) % 256 = 128 + r / 4096 % 64 by unfold wrap64; omega, show wrap64 (128 + r / 64 % 64) % 256 = 128 + r / 64 % 64 by unfold wrap64; omega, show wrap64 (128 + r % 64) % 256 = 128 + r % 64 by unfold wrap64; omega]
theorem bt_get! (s : ByteArray) (p : Nat) (h : p < s.size) : bt s (p : Int) = ((s.get! p).toNat : Int) := by
 have e : s.get! p = s[p] := by simp [ByteArray.get!, h]; rfl
 unfold bt; rw [dif_pos (by simpa using h), e]; rfl
def oneR (x : Nat × Nat) : Int × Int := if x.1 = 65533 ∧ x.2 = 1 then (0, 0) else ((x.1 : Int), (x.2 : Int))
theorem one_end (s : ByteArray) (p n : Nat) (v low : Int) : Ev (fun k => R13One.l0 k s (p : Int) (n : Int) v low (n : Int)) (if v < low then (0, 0) else (if v > 1114111 then (0, 0) else (if v ≥ 55296 then (if v ≤ 57343 then (0, 0) else (v, (n : Int))) else (v, (n : Int))))) := by
 refine Ev.step (fun k => by rw [R13One.l0]) (Ev.neg (by omega) ?_); by_cases h1 : v < low
 ·simp only [if_pos h1]; exact Ev.rfl'
 by_cases h2 : v > 1114111
 ·simp only [if_neg h1, if_pos h2]; exact Ev.rfl'
 by_cases h3 : v ≥ 55296
 ·by_cases h4 : v ≤ 57343
  ·simp only [if_neg h1, if_neg h2, if_pos h3, if_pos h4]; exact Ev.rfl'
  ·simp only [if_neg h1, if_neg h2, if_pos h3, if_neg h4]; exact Ev.rfl'
 ·simp only [if_neg h1, if_neg h2, if_neg h3]; exact Ev.rfl'
theorem dec2 (n b0 b1 b2 b3 : Nat) (h0 : 194 ≤ b0 ∧ b0 < 224) (hn : 1 < n) (h1 : 128 ≤ b1 ∧ b1 ≤ 191) : Lib.decodeN n b0 b1 b2 b3 = ((b0 - 192) * 64 + b1 - 128, 2) := by
 unfold Lib.decodeN; (repeat' split); all_goals first | (exfalso; omega) | with_reducible rfl | (apply Prod.ext <;> simp only <;> omega)
theorem dec2b (n b0 b1 b2 b3 : Nat) (h0 : 194 ≤ b0 ∧ b0 < 224) (h1 : n ≤ 1 ∨ b1 < 128 ∨ 191 < b1) (hb1 : b1 < 256) : Lib.decodeN n b0 b1 b2 b3 = (65533, 1) := by
 unfold Lib.decodeN; (repeat' split); all_goals first | (exfalso; omega) | with_reducible rfl
theorem dec3 (n b0 b1 b2 b3 : Nat) (h0 : 224 ≤ b0 ∧ b0 < 240) (hn : 2 < n) (h1 : 128 ≤ b1 ∧ b1 ≤ 191) (h2 : 128 ≤ b2 ∧ b2 ≤ 191) :
  Lib.decodeN n b0 b1 b2 b3 = if ((b0 - 224) * 64 + b1 - 128) * 64 + b2 - 128 < 2048 ∨ (55296 ≤ ((b0 - 224) * 64 + b1 - 128) * 64 + b2 - 128 ∧ ((b0 - 224) * 64 + b1 - 128) * 64 + b2 - 128 ≤ 57343) then (65533, 1) else (((b0 - 224) * 64 + b1 - 128) * 64 + b2 - 128, 3) := by
 unfold Lib.decodeN
 repeat' split
 all_goals first | (exfalso; omega) | with_reducible rfl | (apply Prod.ext <;> simp only <;> omega)
theorem dec3b (n b0 b1 b2 b3 : Nat) (h0 : 224 ≤ b0 ∧ b0 < 240) (h1 : n ≤ 2 ∨ b1 < 128 ∨ 191 < b1 ∨ b2 < 128 ∨ 191 < b2) (hb1 : b1 < 256) (hb2 : b2 < 256) : Lib.decodeN n b0 b1 b2 b3 = (65533, 1) := by
 unfold Lib.decodeN; (repeat' split); all_goals first | (exfalso; omega) | with_reducible rfl
theorem dec4 (n b0 b1 b2 b3 : Nat) (h0 : 240 ≤ b0 ∧ b0 < 245) (hn : 3 < n) (h1 : 128 ≤ b1 ∧ b1 ≤ 191) (h2 : 128 ≤ b2 ∧ b2 ≤ 191) (h3 : 128 ≤ b3 ∧ b3 ≤ 191) :
  Lib.decodeN n b0 b1 b2 b3 = if (((b0 - 240) * 64 + b1 - 128) * 64 + b2 - 128) * 64 + b3 - 128 < 65536 ∨ 1114111 < (((b0 - 240) * 64 + b1 - 128) * 64 + b2 - 128) * 64 + b3 - 128 then (65533, 1) else ((((b0 - 240) * 64 + b1 - 128) * 64 + b2 - 128) * 64 + b3 - 128, 4) := by
 unfold Lib.decodeN
 repeat' split
 all_goals first | (exfalso; omega) | with_reducible rfl | (apply Prod.ext <;> simp only <;> omega)
theorem dec4b (n b0 b1 b2 b3 : Nat) (h0 : 240 ≤ b0 ∧ b0 < 245) (h1 : n ≤ 3 ∨ b1 < 128 ∨ 191 < b1 ∨ b2 < 128 ∨ 191 < b2 ∨ b3 < 128 ∨ 191 < b3) (hb1 : b1 < 256) (hb2 : b2 < 256) (hb3 : b3 < 256) : Lib.decodeN n b0 b1 b2 b3 = (65533, 1) := by
 unfold Lib.decodeN; (repeat' split); all_goals first | (exfalso; omega) | with_reducible rfl
theorem dec0 (n b0 b1 b2 b3 : Nat) (hb0 : b0 < 256) (hb1 : b1 < 256) (h0 : 128 ≤ b0 ∧ b0 < 194 ∨ 245 ≤ b0) : Lib.decodeN n b0 b1 b2 b3 = (65533, 1) := by
 unfold Lib.decodeN; (repeat' split); all_goals first | (exfalso; omega) | with_reducible rfl
theorem one_step (s : ByteArray) (hs : s.size ≤ 2000000) (p n j : Nat) (v low : Int) (hj : j < n) (hn : n ≤ 4) (hp : p + n ≤ s.size) (hv : 0 ≤ v) (hv2 : v ≤ 100000000) {o : Int × Int}
  (hbad : ((s.get! (p + j)).toNat < 128 ∨ 191 < (s.get! (p + j)).toNat) → o = (0, 0))
  (h : (128 ≤ (s.get! (p + j)).toNat ∧ (s.get! (p + j)).toNat ≤ 191) → Ev (fun k => R13One.l0 k s (p : Int) (n : Int) (v * 64 + (s.get! (p + j)).toNat - 128) low ((j + 1 : Nat) : Int)) o) :
  Ev (fun k => R13One.l0 k s (p : Int) (n : Int) v low (j : Int)) o := by
 have hlt := (s.get! (p + j)).toNat_lt
 refine Ev.step (fun k => by rw [R13One.l0]) ?_
 rw [show wrap64 ((p : Int) + (j : Int)) = ((p + j : Nat) : Int) by unfold wrap64; omega, bt_get! s (p + j) (by omega)]
 rw [show wrap64 ((s.get! (p + j)).toNat : Int) = ((s.get! (p + j)).toNat : Int) by unfold wrap64; omega]
 rw [show wrap64 (v * 64) = v * 64 by unfold wrap64; omega]
 rw [show wrap64 (v * 64 + ((s.get! (p + j)).toNat : Int)) = v * 64 + ((s.get! (p + j)).toNat : Int) by unfold wrap64; omega]
 rw [show wrap64 (v * 64 + ((s.get! (p + j)).toNat : Int) - 128) = v * 64 + ((s.get! (p + j)).toNat : Int) - 128 by unfold wrap64; omega]
 rw [show wrap64 ((j : Int) + 1) = ((j + 1 : Nat) : Int) by unfold wrap64; omega]
 refine Ev.pos (by omega) (Ev.pos (by omega) (Ev.pos (by omega) ?_))
 by_cases h1 : (s.get! (p + j)).toNat < 128
 ·rw [hbad (.inl h1)]; exact Ev.pos (by omega) Ev.rfl'
 by_cases h2 : 191 < (s.get! (p + j)).toNat
 ·rw [hbad (.inr h2)]; exact Ev.neg (by omega) (Ev.pos (by omega) Ev.rfl')
 ·exact Ev.neg (by omega) (Ev.neg (by omega) (h ⟨by omega, by omega⟩))
theorem one_j5 (s : ByteArray) (hs : s.size ≤ 2000000) (p n : Nat) (v low : Int) (hp : p < s.size) (hn : n ≤ 4) {o : Int × Int}
  (hz : (n = 0 ∨ s.size < p + n) → o = (0, 0)) (h : n ≠ 0 → p + n ≤ s.size → Ev (fun k => R13One.l0 k s (p : Int) (n : Int) v low ((1 : Nat) : Int)) o) :
  Ev (fun k => R13One.j5 k s (p : Int) (n : Int) v low) o := by
 refine Ev.step (fun k => by rw [R13One.j5]) ?_
 have ht : Ev (fun k => R13One.j6 k s (p : Int) (n : Int) v low true) (0, 0) := Ev.step (fun k => by rw [R13One.j6]) (Ev.pos rfl Ev.rfl')
 by_cases h0 : n = 0
 ·rw [hz (.inl h0)]; exact Ev.pos (by omega) ht
 ·refine Ev.neg (by omega) ?_; rw [show wrap64 ((p : Int) + (n : Int)) = ((p + n : Nat) : Int) by unfold wrap64; omega]; by_cases h1 : s.size < p + n
  ·rw [hz (.inr h1), decide_eq_true (by omega)]; exact ht
  ·rw [decide_eq_false (by omega)]; refine Ev.step (fun k => by rw [R13One.j6]) ?_; refine Ev.neg (by simp) ?_; exact h h0 (by omega)
theorem one_ev (s : ByteArray) (hs : s.size ≤ 2000000) (p : Nat) (hp : p < s.size) : Ev (fun k => R13One.f k s (p : Int)) (oneR (Utf8.decode s p)) := by
 rw [Lib.decode_at]; have l0 := (s.get! p).toNat_lt; have l1 := (s.get! (p + 1)).toNat_lt; have l2 := (s.get! (p + 2)).toNat_lt; have l3 := (s.get! (p + 3)).toNat_lt; have hb0 := bt_get! s p hp; have w0 : wrap64 ((s.get! p).toNat : Int) = ((s.get! p).toNat : Int) := by unfold wrap64; omega
 unfold R13One.f; rw [hb0, w0]; refine Ev.pos (by omega) (Ev.pos (by omega) ?_); have hend : ∀ {v low : Int} {n : Nat} {o : Int × Int}, o = (if v < low then (0, 0) else (if v > 1114111 then (0, 0) else (if v ≥ 55296 then (if v ≤ 57343 then (0, 0) else (v, (n : Int))) else (v, (n : Int))))) → Ev (fun k => R13One.l0 k s (p : Int) (n : Int) v low (n : Int)) o := by
  intro v low n o h; rw [h]; exact one_end s p n v low
 generalize (s.get! p).toNat = b0 at *; by_cases c1 : b0 < 128
 ·refine Ev.pos (by omega) ?_; have e : oneR (Lib.decodeN (s.size - p) b0 (s.get! (p + 1)).toNat (s.get! (p + 2)).toNat (s.get! (p + 3)).toNat) = ((b0 : Int), 1) := by
   unfold Lib.decodeN oneR; rw [if_pos c1, if_neg (by dsimp only; omega)]; rfl
  rw [e]; exact Ev.rfl'
 refine Ev.neg (by omega) ?_; have hto : ∀ (n : Nat) (v low : Int) {o : Int × Int}, (194 ≤ b0 ∧ b0 < 224 ∧ n = 2 ∧ v = (b0 : Int) - 192 ∧ low = 128) ∨ (224 ≤ b0 ∧ b0 < 240 ∧ n = 3 ∧ v = (b0 : Int) - 224 ∧ low = 2048) ∨ (240 ≤ b0 ∧ b0 < 245 ∧ n = 4 ∧ v = (b0 : Int) - 240 ∧ low = 65536) ∨ ((b0 < 194 ∨ 245 ≤ b0) ∧ n = 0 ∧ v = 0 ∧ low = 0) →
   Ev (fun k => R13One.j5 k s (p : Int) (n : Int) v low) o →
   Ev (fun k => if (b0 : Int) ≥ 194 then (R13One.j0 k s (p : Int) (b0 : Int) 0 0 0 (decide ((b0 : Int) < 224))) else (R13One.j0 k s (p : Int) (b0 : Int) 0 0 0 false)) o := by
  intro n v low o hc h
  have h4 : ∀ {x7 x8 x9 : Int}, (b0 < 245 ∧ 240 ≤ b0 → x7 = x7) → Ev (fun k => R13One.j5 k s (p : Int) (if 240 ≤ b0 ∧ b0 < 245 then 4 else x7) (if 240 ≤ b0 ∧ b0 < 245 then (b0 : Int) - 240 else x8) (if 240 ≤ b0 ∧ b0 < 245 then 65536 else x9)) o → Ev (fun k => R13One.j3 k s (p : Int) (b0 : Int) x7 x8 x9) o := by
   intro x7 x8 x9 _ h; refine Ev.step (fun k => by rw [R13One.j3]) ?_; by_cases q : 240 ≤ b0 ∧ b0 < 245
   ·simp only [if_pos q] at h; refine Ev.pos (by omega) ?_; rw [decide_eq_true (by omega)]; refine Ev.step (fun k => by rw [R13One.j4]) (Ev.pos rfl ?_); rw [show wrap64 ((b0 : Int) - 240) = (b0 : Int) - 240 by unfold wrap64; omega]; exact h
   ·simp only [if_neg q] at h; by_cases q2 : 240 ≤ b0
    ·refine Ev.pos (by omega) ?_; rw [decide_eq_false (by omega)]; exact Ev.step (fun k => by rw [R13One.j4]) (Ev.neg (by simp) h)
    ·refine Ev.neg (by omega) ?_; exact Ev.step (fun k => by rw [R13One.j4]) (Ev.neg (by simp) h)
  have h3 : ∀ {x7 x8 x9 : Int}, Ev (fun k => R13One.j3 k s (p : Int) (b0 : Int) (if 224 ≤ b0 ∧ b0 < 240 then 3 else x7) (if 224 ≤ b0 ∧ b0 < 240 then (b0 : Int) - 224 else x8) (if 224 ≤ b0 ∧ b0 < 240 then 2048 else x9)) o → Ev (fun k => R13One.j1 k s (p : Int) (b0 : Int) x7 x8 x9) o := by
   intro x7 x8 x9 h; refine Ev.step (fun k => by rw [R13One.j1]) ?_; by_cases q : 224 ≤ b0 ∧ b0 < 240
   ·simp only [if_pos q] at h; refine Ev.pos (by omega) ?_; rw [decide_eq_true (by omega)]; refine Ev.step (fun k => by rw [R13One.j2]) (Ev.pos rfl ?_); rw [show wrap64 ((b0 : Int) - 224) = (b0 : Int) - 224 by unfold wrap64; omega]; exact h
   ·simp only [if_neg q] at h; by_cases q2 : 224 ≤ b0
    ·refine Ev.pos (by omega) ?_; rw [decide_eq_false (by omega)]; exact Ev.step (fun k => by rw [R13One.j2]) (Ev.neg (by simp) h)
    ·refine Ev.neg (by omega) ?_; exact Ev.step (fun k => by rw [R13One.j2]) (Ev.neg (by simp) h)
  by_cases q : 194 ≤ b0 ∧ b0 < 224
  ·refine Ev.pos (by omega) ?_; rw [decide_eq_true (by omega)]; refine Ev.step (fun k => by rw [R13One.j0]) (Ev.pos rfl ?_); rw [show wrap64 ((b0 : Int) - 192) = (b0 : Int) - 192 by unfold wrap64; omega]; refine h3 (h4 (fun _ => rfl) ?_); simp (disch := omega) only [if_neg]; obtain ⟨rfl, rfl, rfl⟩ : n = 2 ∧ v = (b0 : Int) - 192 ∧ low = 128 := by omega
   exact h
  ·have hj : Ev (fun k => R13One.j1 k s (p : Int) (b0 : Int) 0 0 0) o → Ev (fun k => if (b0 : Int) ≥ 194 then (R13One.j0 k s (p : Int) (b0 : Int) 0 0 0 (decide ((b0 : Int) < 224))) else (R13One.j0 k s (p : Int) (b0 : Int) 0 0 0 false)) o := by
    intro h; by_cases q2 : 194 ≤ b0
    ·refine Ev.pos (by omega) ?_; rw [decide_eq_false (by omega)]; exact Ev.step (fun k => by rw [R13One.j0]) (Ev.neg (by simp) h)
    ·exact Ev.neg (by omega) (Ev.step (fun k => by rw [R13One.j0]) (Ev.neg (by simp) h))
   refine hj (h3 (h4 (fun _ => rfl) ?_)); by_cases q3 : 224 ≤ b0 ∧ b0 < 240
   ·simp (disch := omega) only [if_pos, if_neg]; obtain ⟨rfl, rfl, rfl⟩ : n = 3 ∧ v = (b0 : Int) - 224 ∧ low = 2048 := by omega
    exact h
   ·by_cases q4 : 240 ≤ b0 ∧ b0 < 245
    ·simp (disch := omega) only [if_pos, if_neg]; obtain ⟨rfl, rfl, rfl⟩ : n = 4 ∧ v = (b0 : Int) - 240 ∧ low = 65536 := by omega
     exact h
    ·simp (disch := omega) only [if_pos, if_neg]; obtain ⟨rfl, rfl, rfl⟩ : n = 0 ∧ v = 0 ∧ low = 0 := by omega
     exact h
 by_cases c2 : 194 ≤ b0 ∧ b0 < 224
 ·refine hto 2 _ 128 (.inl ⟨by omega, by omega, rfl, rfl, rfl⟩) (one_j5 s hs p 2 _ _ hp (by omega) ?_ fun _ hsz => ?_)
  ·intro h; rw [dec2b _ _ _ _ _ c2 (.inl (by omega)) l1]; rfl
  ·refine one_step s hs p 2 1 _ _ (by omega) (by omega) hsz (by omega) (by omega) ?_ fun hd => hend ?_
   ·intro h; rw [dec2b _ _ _ _ _ c2 (.inr h) l1]; rfl
   ·rw [dec2 _ _ _ _ _ c2 (by omega) hd]; unfold oneR; dsimp only; rw [if_neg (by omega), if_neg (by omega), if_neg (by omega), if_neg (by omega)]; apply Prod.ext <;> dsimp only <;> omega
 by_cases c3 : 224 ≤ b0 ∧ b0 < 240
 ·refine hto 3 _ 2048 (.inr (.inl ⟨by omega, by omega, rfl, rfl, rfl⟩)) (one_j5 s hs p 3 _ _ hp (by omega) ?_ fun _ hsz => ?_)
  ·intro h; rw [dec3b _ _ _ _ _ c3 (.inl (by omega)) l1 l2]; rfl
  ·refine one_step s hs p 3 1 _ _ (by omega) (by omega) hsz (by omega) (by omega) ?_ fun hd => ?_
   ·intro h; rw [dec3b _ _ _ _ _ c3 (by omega) l1 l2]; rfl
   refine one_step s hs p 3 2 _ _ (by omega) (by omega) hsz (by omega) (by omega) ?_ fun hd2 => hend ?_
   ·intro h; rw [dec3b _ _ _ _ _ c3 (by omega) l1 l2]; rfl
   ·rw [dec3 _ _ _ _ _ c3 (by omega) hd hd2]; unfold oneR; split
    ·simp only [and_self, if_true]; (repeat' split); all_goals first | (exfalso; omega) | with_reducible rfl
    ·dsimp only; (repeat' split); all_goals first | (exfalso; omega) | with_reducible rfl | (apply Prod.ext <;> dsimp only <;> omega)
 by_cases c4 : 240 ≤ b0 ∧ b0 < 245
 ·refine hto 4 _ 65536 (.inr (.inr (.inl ⟨by omega, by omega, rfl, rfl, rfl⟩))) (one_j5 s hs p 4 _ _ hp (by omega) ?_ fun _ hsz => ?_)
  ·intro h; rw [dec4b _ _ _ _ _ c4 (.inl (by omega)) l1 l2 l3]; rfl
  ·refine one_step s hs p 4 1 _ _ (by omega) (by omega) hsz (by omega) (by omega) ?_ fun hd => ?_
   ·intro h; rw [dec4b _ _ _ _ _ c4 (by omega) l1 l2 l3]; rfl
   refine one_step s hs p 4 2 _ _ (by omega) (by omega) hsz (by omega) (by omega) ?_ fun hd2 => ?_
   ·intro h; rw [dec4b _ _ _ _ _ c4 (by omega) l1 l2 l3]; rfl
   refine one_step s hs p 4 3 _ _ (by omega) (by omega) hsz (by omega) (by omega) ?_ fun hd3 => hend ?_
   ·intro h; rw [dec4b _ _ _ _ _ c4 (by omega) l1 l2 l3]; rfl
   ·rw [dec4 _ _ _ _ _ c4 (by omega) hd hd2 hd3]; unfold oneR; split
    ·simp only [and_self, if_true]; (repeat' split); all_goals first | (exfalso; omega) | with_reducible rfl
    ·dsimp only; (repeat' split); all_goals first | (exfalso; omega) | with_reducible rfl | (apply Prod.ext <;> dsimp only <;> omega)
 ·refine hto 0 0 0 (.inr (.inr (.inr ⟨by omega, rfl, rfl, rfl⟩))) (one_j5 s hs p 0 _ _ hp (by omega) ?_ fun h _ => absurd rfl h); intro _; rw [dec0 _ _ _ _ _ l0 l1 (by omega)]; rfl
def cutAt {α : Type} [DecidableEq α] (b : α) : List α → List (List α)
 | [] => [[]]
 | c :: r => if c = b then [] :: cutAt b r else match cutAt b r with
  | [] => [[c]]
  | w :: ws => (c :: w) :: ws
theorem cutAt_ne {α : Type} [DecidableEq α] (b : α) (l : List α) : cutAt b l ≠ [] := by
 cases l with
 | nil => simp [cutAt]
 | cons c r =>
  unfold cutAt; split
  ·simp
  ·split <;> simp
theorem cutAt_cons {α : Type} [DecidableEq α] {b c : α} {l : List α} {w : List α} {ws : List (List α)} (hc : c ≠ b) (h : cutAt b l = w :: ws) : cutAt b (c :: l) = (c :: w) :: ws := by
 unfold cutAt; rw [if_neg hc, h]
theorem cutAt_blank {α : Type} [DecidableEq α] (b : α) (l : List α) : cutAt b (b :: l) = [] :: cutAt b l := by rw [cutAt, if_pos rfl]
theorem cutAt_app {α : Type} [DecidableEq α] {b : α} : ∀ (a l : List α), (∀ x ∈ a, x ≠ b) → ∀ {w : List α} {ws : List (List α)}, cutAt b l = w :: ws → cutAt b (a ++ l) = (a ++ w) :: ws
 | [], l, _, w, ws, h => h
 | x :: a, l, ha, w, ws, h => cutAt_cons (ha x (by simp)) (cutAt_app a l (fun y hy => ha y (by simp [hy])) h)
theorem cutAt_none {α : Type} [DecidableEq α] {b : α} (a : List α) (h : ∀ x ∈ a, x ≠ b) : cutAt b a = [a] := by
 have := cutAt_app a [] h (w := []) (ws := []) rfl; simpa using this
def words {α : Type} [DecidableEq α] (b : α) (l : List α) : List (List α) := (cutAt b l).filter (fun w => !w.isEmpty)
def nb (r : List Int) : Bool := match r with
 | [] => false
 | y :: _ => y != 32
def sq : List Int → Bool → List Int
 | [], _ => []
 | x :: r, ne => if x ≠ 32 ∨ (ne = true ∧ nb r = true) then x :: sq r true else sq r ne
theorem inter_cons {α : Type} (s w : List α) : ∀ (ws : List (List α)), s.intercalate (w :: ws) = w ++ ws.flatMap (s ++ ·)
 | [] => by simp [List.intercalate]
 | v :: ws => by
  have ih := inter_cons s v ws
  have : s.intercalate (w :: v :: ws) = w ++ (s ++ s.intercalate (v :: ws)) := by simp [List.intercalate, List.intersperse]
  rw [this, ih]; simp
theorem sq_true : ∀ (l w : List Int) (ws : List (List Int)), cutAt 32 l = w :: ws → sq l true = w ++ (ws.filter (fun w => !w.isEmpty)).flatMap ([32] ++ ·)
 | [], w, ws, h => by
  simp only [cutAt, List.cons.injEq] at h
  obtain ⟨rfl, rfl⟩ := h; rfl
 | x :: r, w, ws, h => by
  by_cases hx : x = 32
  ·subst hx
   have h' : cutAt (32 : Int) (32 :: r) = [] :: cutAt 32 r := cutAt_blank 32 r
   rw [h'] at h
   simp only [List.cons.injEq] at h
   obtain ⟨rfl, rfl⟩ := h
   cases r with
   | nil => rfl
   | cons y r2 =>
    obtain ⟨w2, ws2, h2⟩ := List.exists_cons_of_ne_nil (cutAt_ne (32 : Int) (y :: r2))
    have ih := sq_true (y :: r2) w2 ws2 h2
    rw [h2]
    by_cases hy : y = 32
    ·subst hy
     have e : sq (32 :: 32 :: r2) true = sq (32 :: r2) true := by
      (conv => lhs; rw [sq]); rw [if_neg (by simp [nb])]
     have hw : w2 = [] := by
      have h'' : cutAt (32 : Int) (32 :: r2) = [] :: cutAt 32 r2 := cutAt_blank 32 r2; rw [h''] at h2; simp at h2; exact h2.1
     subst hw; rw [e, ih]; simp
    ·have e : sq (32 :: y :: r2) true = 32 :: sq (y :: r2) true := by
      (conv => lhs; rw [sq]); rw [if_pos (by simp [hy, nb])]
     have hw : w2 ≠ [] := by
      obtain ⟨w3, ws3, h3⟩ := List.exists_cons_of_ne_nil (cutAt_ne (32 : Int) r2); rw [cutAt_cons hy h3] at h2; simp at h2; rw [← h2.1]; simp
     rw [e, ih]; rw [List.filter_cons_of_pos (by simp [hw])]; simp
  ·obtain ⟨w2, ws2, h2⟩ := List.exists_cons_of_ne_nil (cutAt_ne (32 : Int) r); rw [cutAt_cons hx h2] at h; simp only [List.cons.injEq] at h; obtain ⟨rfl, rfl⟩ := h; have ih := sq_true r w2 ws2 h2; have e : sq (x :: r) true = x :: sq r true := by
    (conv => lhs; rw [sq]); rw [if_pos (Or.inl hx)]
   rw [e, ih]; rfl
theorem sq_words : ∀ (l : List Int), sq l false = [32].intercalate (words 32 l)
 | [] => rfl
 | x :: r => by
  by_cases hx : x = 32
  ·subst hx
   have h' : words (32 : Int) (32 :: r) = words 32 r := by unfold words; rw [cutAt_blank, List.filter_cons_of_neg (by simp)]
   have e : sq (32 :: r) false = sq r false := by
    (conv => lhs; rw [sq]); rw [if_neg (by simp)]
   rw [e, h', sq_words r]
  ·obtain ⟨w2, ws2, h2⟩ := List.exists_cons_of_ne_nil (cutAt_ne (32 : Int) r); have e : sq (x :: r) false = x :: sq r true := by
    (conv => lhs; rw [sq]); rw [if_pos (Or.inl hx)]
   rw [e, sq_true r w2 ws2 h2]; unfold words; rw [cutAt_cons hx h2, List.filter_cons_of_pos (by simp), inter_cons]; rfl
theorem enc_blank : Lib.encodeRune 32 = [32] := by decide
theorem enc_other (r : Int) (h : r ≠ 32) : Lib.encodeRune r ≠ [] ∧ ∀ c ∈ Lib.encodeRune r, c ≠ 32 := by
 by_cases h1 : 0 ≤ r ∧ r ≤ 127
 ·unfold Lib.encodeRune; rw [Lib.encodeRuneZ_one h1.1 h1.2]; refine ⟨by simp, ?_⟩; intro c hc; simp only [List.map_cons, List.map_nil, List.mem_singleton] at hc; subst hc; intro h2; have := congrArg UInt8.toNat h2; rw [u8s _ (by omega)] at this; have h32 : (32 : UInt8).toNat = 32 := rfl; omega
 ·have hall : ∀ z : List Int, (∀ x ∈ z, 128 ≤ x ∧ x < 256) → ∀ c ∈ z.map (fun x => x.toNat.toUInt8), c ≠ 32 := by
   intro z hz c hc h2; obtain ⟨x, hx, rfl⟩ := List.mem_map.1 hc; have := hz x hx; have h3 := congrArg UInt8.toNat h2; rw [u8s _ (by omega)] at h3; have h32 : (32 : UInt8).toNat = 32 := rfl; omega
  unfold Lib.encodeRune; by_cases h2 : 128 ≤ r ∧ r ≤ 2047
  ·rw [Lib.encodeRuneZ_two h2.1 h2.2]; exact ⟨by simp, hall _ (by simp; omega)⟩
  by_cases h3 : (2048 ≤ r ∧ r < 55296) ∨ (57343 < r ∧ r ≤ 65535)
  ·rw [Lib.encodeRuneZ_three h3]; exact ⟨by simp, hall _ (by simp; omega)⟩
  by_cases h4 : 65536 ≤ r ∧ r ≤ 1114111
  ·rw [Lib.encodeRuneZ_four h4.1 h4.2]; exact ⟨by simp, hall _ (by simp; omega)⟩
  ·rw [Lib.encodeRuneZ_bad (by omega)]; exact ⟨by simp, hall _ (by simp)⟩
theorem encAll_cons (r : Int) (l : List Int) : encAll (r :: l) = Lib.encodeRune r ++ encAll l := rfl
theorem encAll_app (a b : List Int) : encAll (a ++ b) = encAll a ++ encAll b := by simp [encAll]
theorem encAll_nil' {l : List Int} : encAll l = [] ↔ l = [] := by
 cases l with
 | nil => simp [encAll]
 | cons r l =>
  rw [encAll_cons]; by_cases h : r = 32
  ·subst h; rw [enc_blank]; simp
  ·simp [(enc_other r h).1]
theorem cut_enc : ∀ (l : List Int), cutAt 32 (encAll l) = (cutAt 32 l).map encAll
 | [] => rfl
 | r :: l => by
  have ih := cut_enc l
  rw [encAll_cons]
  by_cases h : r = 32
  ·
   subst h
   rw [enc_blank]
   show cutAt 32 (32 :: encAll l) = _
   have h1 := cutAt_blank (32 : UInt8) (encAll l)
   have h2 := cutAt_blank (32 : Int) l
   rw [h1, h2, ih]; rfl
  ·
   obtain ⟨w2, ws2, h2⟩ := List.exists_cons_of_ne_nil (cutAt_ne (32 : Int) l)
   rw [h2] at ih
   rw [cutAt_app _ _ (enc_other r h).2 ih, cutAt_cons h h2]; rfl
theorem words_enc (l : List Int) : words 32 (encAll l) = (words 32 l).map encAll := by
 unfold words; rw [cut_enc, List.filter_map]; congr 1; refine List.filter_congr fun w _ => ?_
 have := @encAll_nil' w; cases w with
 | nil => rfl
 | cons x w =>
  have : encAll (x :: w) ≠ [] := fun h => by simp [encAll_nil'] at h
  simp [this]
theorem encAll_inter (ws : List (List Int)) : encAll ([32].intercalate ws) = [32].intercalate (ws.map encAll) := by
 cases ws with
 | nil => rfl
 | cons w ws =>
  rw [inter_cons, List.map_cons, inter_cons, encAll_app]; congr 1; induction ws with
  | nil => rfl
  | cons v ws ih => rw [List.flatMap_cons, List.map_cons, List.flatMap_cons, encAll_app, encAll_app, ih, show encAll [32] = [32] from by decide]
def readyOf (fold : Bool) (s : ByteArray) : Option (List UInt8) := (runesN s s.size 0).map fun l => encAll (sq (l.filterMap (mapRune fold)) false)
theorem ready_words (l : List Int) : [32].intercalate (words 32 (encAll l)) = encAll (sq l false) := by rw [words_enc, sq_words, encAll_inter]
theorem index_blank (a b : List UInt8) (h : ∀ c ∈ a, c ≠ 32) : Lib.index (a ++ 32 :: b) [32] = (a.length : Int) := by
 rw [Lib.index_one]; induction a with
 | nil => rfl
 | cons c a ih =>
  have hc := h c (by simp); have ih := ih fun x hx => h x (by simp [hx])
  rw [List.cons_append, Lib.indexByte, if_neg (by simpa using hc), ih, if_neg (by simp <;> omega)]; simp
theorem index_noblank (a : List UInt8) (h : ∀ c ∈ a, c ≠ 32) : Lib.index a [32] = -1 := by
 rw [Lib.index_one]; induction a with
 | nil => rfl
 | cons c a ih =>
  have hc := h c (by simp); have ih := ih fun x hx => h x (by simp [hx])
  rw [Lib.indexByte, if_neg (by simpa using hc), ih]; rfl
theorem first_blank (l : List UInt8) : (∀ c ∈ l, c ≠ 32) ∨ ∃ a b, l = a ++ 32 :: b ∧ ∀ c ∈ a, c ≠ 32 := by
 induction l with
 | nil => exact .inl (by simp)
 | cons c l ih =>
  by_cases hc : c = 32
  ·exact .inr ⟨[], l, by rw [hc]; rfl, by simp⟩
  ·rcases ih with h | ⟨a, b, rfl, h⟩
   ·exact .inl fun x hx => by rcases List.mem_cons.1 hx with rfl | hx; exact hc; exact h x hx
   ·exact .inr ⟨c :: a, b, rfl, fun x hx => by rcases List.mem_cons.1 hx with rfl | hx; exact hc; exact h x hx⟩
theorem splitK_blank : ∀ (k : Nat) (l : List UInt8), l.count 32 ≤ k → Lib.splitK [32] 0 k l = cutAt 32 l
 | 0, l, h => by
  have hn : ∀ c ∈ l, c ≠ 32 := by
   intro c hc h2; subst h2; have := List.count_pos_iff.2 hc; omega
  rw [cutAt_none l hn]; rfl
 | k + 1, l, h => by
  rcases first_blank l with hn | ⟨a, b, rfl, hn⟩
  ·rw [Lib.splitK, index_noblank l hn, if_pos (show ((-1 : Int) == -1) = true from rfl), cutAt_none l hn]
  ·rw [Lib.splitK, index_blank a b hn, if_neg (by simp <;> omega)]; have hc : b.count 32 ≤ k := by
    rw [List.count_append, List.count_cons] at h; simp at h; omega
   obtain ⟨w2, ws2, h2⟩ := List.exists_cons_of_ne_nil (cutAt_ne (32 : UInt8) (32 :: b)); have h3 := cutAt_blank (32 : UInt8) b; rw [cutAt_app a _ hn h3, List.append_nil]; congr 1
   ·simp
   ·have e : (a ++ 32 :: b).drop ((a.length : Int).toNat + ([32] : List UInt8).length) = b := by simp
    rw [e]; exact splitK_blank k b hc
theorem split_f (t : List UInt8) (ht : t.length ≤ 1000000) : ∃ ps : List ByteArray, strings_Split.f ⟨t.toArray⟩ (⟨#[32]⟩ : ByteArray) = some ps ∧ ps.map (·.data.toList) = cutAt 32 t := by
 unfold strings_Split.f; refine ⟨_, by rw [if_pos (by rw [← bl_length]; exact ht), if_pos (show 1 ≤ (⟨#[32]⟩ : ByteArray).size from Nat.le_refl _)], ?_⟩; rw [Lib.splitB_data]; show Lib.splitK [32] 0 (Lib.count t [32]) t = _; exact splitK_blank _ _ (by rw [Lib.count_one]; exact Nat.le_refl _)
theorem rdOf_at {L : List ByteArray} {i : Nat} {x : ByteArray} {r : List ByteArray} (h : L.drop i = x :: r) : i < L.length ∧ rdOf ByteArray.empty L (i : Int) = x ∧ L.drop (i + 1) = r := by
 have h1 : i < L.length := by
  rcases Nat.lt_or_ge i L.length with h' | h'
  ·exact h'
  ·rw [List.drop_eq_nil_of_le h'] at h; cases h
 refine ⟨h1, ?_, ?_⟩
 ·have h0 : L[i]? = some x := by
   have := congrArg List.head? h; rw [List.head?_drop] at this; simpa using this
  unfold rdOf; rw [List.getD_eq_getElem?_getD, Int.toNat_natCast, h0]; rfl
 ·have := congrArg List.tail h; rw [List.tail_drop] at this; simpa using this
theorem ready_loop (ps : List ByteArray) (hps : ps.length ≤ 1000000) {t : ByteArray} : ∀ (n i : Nat) (acc : List ByteArray), ps.length - i = n → i ≤ ps.length → acc.length ≤ i →
  strings_Join.f (acc ++ (ps.drop i).filter (fun w => !w.data.toList.isEmpty)) (⟨#[32]⟩ : ByteArray) = some t →
  Ev (fun k => prep_Ready.l0 k acc ps (ps.length : Int) (i : Int)) (t, 0) := by
 intro n
 induction n with
 | zero =>
  intro i acc hn hi ha hj; rw [List.drop_eq_nil_of_le (by omega)] at hj; simp only [List.filter_nil, List.append_nil] at hj; refine Ev.step (fun k => by rw [prep_Ready.l0]) ?_; exact Ev.neg (by omega) (Ev.bindc hj Ev.rfl')
 | succ n ih =>
  intro i acc hn hi ha hj; cases hr : ps.drop i with
  | nil => have := List.drop_eq_nil_iff.1 hr; omega
  | cons x r =>
   obtain ⟨g1, g2, g3⟩ := rdOf_at hr; rw [hr] at hj; refine Ev.step (fun k => by rw [prep_Ready.l0]) ?_; rw [g2, wsucc (by omega), Lib.toList_data]; refine Ev.pos (by omega) (Ev.pos (by omega) (Ev.pos (by omega) ?_)); by_cases hx : x.data.toList = []
   ·refine Ev.pos hx (ih (i + 1) acc (by omega) (by omega) (by omega) ?_); rw [g3]; rw [List.filter_cons_of_neg (by simp [hx])] at hj; exact hj
   ·refine Ev.neg hx (Ev.pos (by omega) (ih (i + 1) (acc ++ [x]) (by omega) (by omega) (by simp; omega) ?_)); rw [g3]; rw [List.filter_cons_of_pos (by simpa using hx)] at hj; rw [List.append_assoc]; exact hj
theorem cutAt_len {α : Type} [DecidableEq α] (b : α) : ∀ l : List α, (cutAt b l).length ≤ l.length + 1
 | [] => by simp [cutAt]
 | c :: r => by
  have ih := cutAt_len b r
  by_cases hc : c = b
  ·
   subst hc; rw [cutAt_blank]; simp; omega
  ·
   obtain ⟨w2, ws2, h2⟩ := List.exists_cons_of_ne_nil (cutAt_ne b r)
   rw [h2] at ih
   rw [cutAt_cons hc h2]; simp at ih ⊢; omega
theorem sq_len : ∀ (l : List Int) (b : Bool), (sq l b).length ≤ l.length
 | [], _ => Nat.le_refl _
 | x :: r, b => by
  rw [sq]
  split
  ·
   have := sq_len r true; simp; omega
  ·
   have := sq_len r b; simp; omega
theorem ready_ev (s : ByteArray) (hs : s.size ≤ 100000) (fold : Bool) : Ev (fun k => prep_Ready.f k s fold) (match readyOf fold s with | some t => (⟨t.toArray⟩, 0) | none => (⟨#[]⟩, 19)) := by
 unfold prep_Ready.f; have hm : prep_Map.f s fold = some (prep_Map.of fold (runesN s s.size 0)) := by unfold prep_Map.f; rw [if_pos (by omega)]
 refine Ev.bindc hm ?_; unfold readyOf; cases hr : runesN s s.size 0 with
 | none => exact Ev.neg (show ¬ ((19 : Int) = 0) by decide) Ev.rfl'
 | some l =>
  obtain ⟨_, hll⟩ := runesN_le s _ _ l hr; have hfl : (l.filterMap (mapRune fold)).length ≤ s.size := Nat.le_trans (List.length_filterMap_le _ _) hll; have hel := encAll_length (l.filterMap (mapRune fold)); obtain ⟨ps, h1, h2⟩ := split_f (encAll (l.filterMap (mapRune fold))) (by omega); have hpl : ps.length ≤ 1000000 := by
   have := cutAt_len (32 : UInt8) (encAll (l.filterMap (mapRune fold))); rw [← h2, List.length_map] at this; omega
  refine Ev.pos (show (0 : Int) = 0 from rfl) (Ev.bindc h1 ?_); refine ready_loop ps hpl _ 0 [] rfl (Nat.zero_le _) (Nat.le_refl _) ?_; rw [List.drop_zero, List.nil_append]; unfold strings_Join.f; have hj : joinB (ps.filter fun w => !w.data.toList.isEmpty) (⟨#[32]⟩ : ByteArray) = encAll (sq (l.filterMap (mapRune fold)) false) := by
   unfold joinB; rw [← ready_words]; unfold words; rw [← h2, List.filter_map]; rfl
  have hfl2 : (ps.filter fun w => !w.data.toList.isEmpty).length ≤ ps.length := List.length_filter_le _ _; have hsq := sq_len (l.filterMap (mapRune fold)) false; have hel2 := encAll_length (sq (l.filterMap (mapRune fold)) false); rw [if_pos (by omega), hj, if_pos (by omega)]
theorem rd_at {L : List Int} {i : Nat} {x : Int} {r : List Int} (h : L.drop i = x :: r) : i < L.length ∧ rd L (i : Int) = x ∧ L.drop (i + 1) = r := by
 have h1 : i < L.length := by
  rcases Nat.lt_or_ge i L.length with h' | h'
  ·exact h'
  ·rw [List.drop_eq_nil_of_le h'] at h; cases h
 refine ⟨h1, ?_, ?_⟩
 ·have h0 : L[i]? = some x := by
   have := congrArg List.head? h; rw [List.head?_drop] at this; simpa using this
  unfold rd; rw [List.getD_eq_getElem?_getD, Int.toNat_natCast, h0]; rfl
 ·have := congrArg List.tail h; rw [List.tail_drop] at this; simpa using this
theorem decode_len (s : ByteArray) (p : Nat) (hp : p < s.size) : 1 ≤ (Utf8.decode s p).2 ∧ (p + (Utf8.decode s p).2 ≤ s.size) ∧ (Utf8.decode s p).1 ≤ 1114111 ∧ ¬ (55296 ≤ (Utf8.decode s p).1 ∧ (Utf8.decode s p).1 ≤ 57343) := by
 rw [Lib.decode_at]; have l0 := (s.get! p).toNat_lt; rcases Lib.decodeN_shape (s.size - p) (s.get! p).toNat (s.get! (p + 1)).toNat (s.get! (p + 2)).toNat (s.get! (p + 3)).toNat with ⟨a, e⟩ | ⟨b1, b2, b3, a, e⟩ | ⟨b1, b2, b3, b4, a, b5, e⟩ | ⟨b1, b2, b3, b4, b5, a, b6, e⟩ | e; all_goals (rw [e]; dsimp only; omega)
theorem runes_ev (s : ByteArray) (hs : s.size ≤ 2000000) : ∀ (n p : Nat) (acc : List Int), p ≤ s.size → s.size - p ≤ n → acc.length ≤ p →
  (runesN s n p = none → Ev (fun k => R13Runes.l0 k s acc (p : Int)) ([], 19)) ∧
  (∀ l, runesN s n p = some l → Ev (fun k => R13Runes.l0 k s acc (p : Int)) (acc ++ l, 0)) := by
 intro n
 induction n with
 | zero =>
  intro p acc hp hn ha; refine ⟨fun h => by simp [runesN] at h, fun l h => ?_⟩; simp only [runesN, Option.some.injEq] at h; subst h; rw [List.append_nil]; exact Ev.step (fun k => by rw [R13Runes.l0]) (Ev.neg (by omega) Ev.rfl')
 | succ n ih =>
  intro p acc hp hn ha; rw [runesN]; by_cases hlt : p < s.size
  ·rw [if_pos hlt]; have ho := one_ev s hs p hlt; obtain ⟨w1, w2, w3, w4⟩ := decode_len s p hlt; have hst : ∀ {o : List Int × Int}, Ev (fun k => if (oneR (Utf8.decode s p)).2 = 0 then (some (([] : List Int), (19 : Int))) else (if acc.length < 35184372088832 then (R13Runes.l0 k s (acc ++ [wrap32 ((oneR (Utf8.decode s p)).1)]) (wrap64 ((p : Int) + (oneR (Utf8.decode s p)).2))) else (none))) o → Ev (fun k => R13Runes.l0 k s acc (p : Int)) o := by
    intro o h; refine Ev.step (fun k => by rw [R13Runes.l0]) ?_; exact Ev.pos (by omega) (Ev.bind ho h)
   by_cases he : (Utf8.decode s p).1 = 65533 ∧ (Utf8.decode s p).2 = 1
   ·rw [if_pos he]; have e : oneR (Utf8.decode s p) = (0, 0) := by unfold oneR; rw [if_pos he]
    rw [e] at hst; exact ⟨fun _ => hst (Ev.pos rfl Ev.rfl'), fun l h => by simp at h⟩
   ·rw [if_neg he]; have e : oneR (Utf8.decode s p) = (((Utf8.decode s p).1 : Int), ((Utf8.decode s p).2 : Int)) := by unfold oneR; rw [if_neg he]
    rw [e] at hst; dsimp only at hst; generalize (Utf8.decode s p).1 = v at *; generalize (Utf8.decode s p).2 = w at *; have hi := ih (p + w) (acc ++ [(v : Int)]) (by omega) (by omega) (by simp; omega); have hgo : ∀ {o : List Int × Int}, Ev (fun k => R13Runes.l0 k s (acc ++ [(v : Int)]) ((p + w : Nat) : Int)) o → Ev (fun k => R13Runes.l0 k s acc (p : Int)) o := by
     intro o h; refine hst (Ev.neg (by omega) (Ev.pos (by omega) ?_)); rw [show wrap32 (v : Int) = (v : Int) by unfold wrap32; omega, show wrap64 ((p : Int) + (w : Int)) = ((p + w : Nat) : Int) by unfold wrap64; omega]; exact h
    refine ⟨fun h => hgo (hi.1 (by simpa using h)), fun l h => ?_⟩; obtain ⟨l', hl', rfl⟩ := Option.map_eq_some_iff.1 h; have := hgo (hi.2 l' hl'); rwa [List.append_assoc] at this
  ·rw [if_neg hlt]; refine ⟨fun h => by simp at h, fun l h => ?_⟩; simp only [Option.some.injEq] at h; subst h; rw [List.append_nil]; exact Ev.step (fun k => by rw [R13Runes.l0]) (Ev.neg (by omega) Ev.rfl')
theorem runesN_ok (s : ByteArray) : ∀ (n p : Nat) (l : List Int), runesN s n p = some l → ∀ r ∈ l, okRune r
 | 0, p, l, h => by simp [runesN] at h; subst h; simp
 | n + 1, p, l, h => by
  rw [runesN] at h
  split at h
  ·
   rename_i hlt
   split at h
   ·
    cases h
   ·
    obtain ⟨l', hl', rfl⟩ := Option.map_eq_some_iff.1 h
    intro r hr
    rcases List.mem_cons.1 hr with rfl | hr
    ·
     obtain ⟨_, _, w3, w4⟩ := decode_len s p hlt
     exact ⟨by omega, by omega, by omega⟩
    ·
     exact runesN_ok s n _ l' hl' r hr
  ·
   simp at h; subst h; simp
theorem smallI_ok {r : Int} (h : okRune r) : okRune (smallI r) := by
 obtain ⟨h0, h1, h2⟩ := h; unfold okRune smallI; split
 ·omega
 ·split <;> omega
theorem mapRune_ok {fold : Bool} {r x : Int} (h : okRune r) (hx : mapRune fold r = some x) : okRune x := by
 unfold mapRune at hx; split at hx
 ·cases hx
 ·split at hx
  ·simp at hx; subst hx; exact ⟨by omega, by omega, by omega⟩
  ·simp at hx; subst hx; split
   ·exact smallI_ok h
   ·exact h
theorem mapped_loop (fold : Bool) (l : List Int) (hl : l.length ≤ 2000000) (hok : ∀ r ∈ l, okRune r) (e : Int) : ∀ (n i : Nat) (acc : List Int), l.length - i = n → i ≤ l.length → acc.length ≤ i →
  Ev (fun k => R13Mapped.l0 k fold l e acc (i : Int)) (acc ++ (l.drop i).filterMap (mapRune fold), e) := by
 intro n
 induction n with
 | zero =>
  intro i acc hn hi ha; rw [List.drop_eq_nil_of_le (by omega)]; simp only [List.filterMap_nil, List.append_nil]; exact Ev.step (fun k => by rw [R13Mapped.l0]) (Ev.neg (by omega) Ev.rfl')
 | succ n ih =>
  intro i acc hn hi ha; cases hr : l.drop i with
  | nil => have := List.drop_eq_nil_iff.1 hr; omega
  | cons x r =>
   obtain ⟨g1, g2, g3⟩ := rd_at hr; have hx : okRune x := hok x (by
    have : x ∈ l.drop i := by rw [hr]; simp
    exact List.mem_of_mem_drop this)
   refine Ev.step (fun k => by rw [R13Mapped.l0]) ?_; rw [g2, wsucc (by omega)]; refine Ev.pos (by omega) (Ev.pos (by omega) (Ev.bindc (rdropped_is x) ?_)); rw [List.filterMap_cons]; have hlen : acc.length < 35184372088832 := by omega
   have hgo : ∀ y, Ev (fun k => R13Mapped.l0 k fold l e (acc ++ [y]) ((i + 1 : Nat) : Int)) (acc ++ (y :: r.filterMap (mapRune fold)), e) := by
    intro y; have := ih (i + 1) (acc ++ [y]) (by omega) (by omega) (by simp; omega); rw [g3, List.append_assoc] at this; exact this
   rw [show mapRune fold x = (if dropB x = true then none else if blankB x = true then some 32 else some (if fold = true then smallI x else x)) from rfl]; cases hd : dropB x with
   | true =>
    refine Ev.pos rfl ?_; have := ih (i + 1) acc (by omega) (by omega) (by omega); rw [g3] at this; simpa using this
   | false =>
    refine Ev.neg (by simp) (Ev.bindc (rblank_is x) ?_); cases hb : blankB x with
    | true => exact Ev.pos rfl (Ev.pos hlen (by simpa using hgo 32))
    | false =>
     refine Ev.neg (by simp) ?_; cases fold with
     | true => exact Ev.pos rfl (Ev.bind (rsmall_ev x hx.1 hx.2.1) (Ev.pos hlen (by simpa using hgo (smallI x))))
     | false => exact Ev.neg (by simp) (Ev.pos hlen (by simpa using hgo x))
theorem ints_app (a b : List UInt8) : ints a ++ ints b = ints (a ++ b) := by simp [ints]
theorem text_loop (l : List Int) (hl : l.length ≤ 2000000) (hok : ∀ r ∈ l, okRune r) : ∀ (n i : Nat) (acc : List UInt8), l.length - i = n → i ≤ l.length → acc.length ≤ 4 * i →
  Ev (fun k => R13Text.l0 k l (ints acc) (i : Int)) ⟨(acc ++ encAll (l.drop i)).toArray⟩ := by
 intro n
 induction n with
 | zero =>
  intro i acc hn hi ha; rw [List.drop_eq_nil_of_le (by omega), show encAll [] = [] from rfl, List.append_nil]; refine Ev.step (fun k => by rw [R13Text.l0]) (Ev.neg (by omega) ?_); rw [strOfNums_ints]; exact Ev.rfl'
 | succ n ih =>
  intro i acc hn hi ha; cases hr : l.drop i with
  | nil => have := List.drop_eq_nil_iff.1 hr; omega
  | cons x r =>
   obtain ⟨g1, g2, g3⟩ := rd_at hr; have hx : okRune x := hok x (by
    have : x ∈ l.drop i := by rw [hr]; simp
    exact List.mem_of_mem_drop this)
   have h4 : (Lib.encodeRune x).length ≤ 4 := by
    have := Lib.runeCells_le x; rw [Lib.runeCells_length] at this; exact this.2
   refine Ev.step (fun k => by rw [R13Text.l0]) ?_; rw [g2, wsucc (by omega)]; refine Ev.pos (by omega) (Ev.pos (by omega) (Ev.bindc (bytes_is x hx) (Ev.pos (by rw [ints_length, ints_length]; omega) ?_))); rw [ints_app, encAll_cons, ← List.append_assoc, ← g3]; exact ih (i + 1) (acc ++ Lib.encodeRune x) (by omega) (by omega) (by simp; omega)
theorem refready_loop (l : List Int) (hl : l.length ≤ 2000000) {t : ByteArray} : ∀ (n i : Nat) (acc : List Int), l.length - i = n → i ≤ l.length → acc.length ≤ i →
  Ev (fun k => R13Text.f k (acc ++ sq (l.drop i) (decide (0 < acc.length)))) t →
  Ev (fun k => R13Ready.l0 k l acc (i : Int)) (t, 0) := by
 intro n
 induction n with
 | zero =>
  intro i acc hn hi ha ht; rw [List.drop_eq_nil_of_le (by omega), show ∀ b, sq [] b = [] from fun _ => rfl, List.append_nil] at ht; refine Ev.step (fun k => by rw [R13Ready.l0]) ?_; exact Ev.neg (by omega) (Ev.bind ht Ev.rfl')
 | succ n ih =>
  intro i acc hn hi ha ht; cases hr : l.drop i with
  | nil => have := List.drop_eq_nil_iff.1 hr; omega
  | cons x r =>
   obtain ⟨g1, g2, g3⟩ := rd_at hr; rw [hr, sq] at ht; refine Ev.step (fun k => by rw [R13Ready.l0]) ?_; rw [g2, wsucc (by omega)]; have hlen : acc.length < 35184372088832 := by omega
   have hput : (x ≠ 32 ∨ (decide (0 < acc.length) = true ∧ nb r = true)) → Ev (fun k => R13Ready.l0 k l (acc ++ [x]) ((i + 1 : Nat) : Int)) (t, 0) := by
    intro hc; rw [if_pos hc] at ht; refine ih (i + 1) (acc ++ [x]) (by omega) (by omega) (by simp; omega) ?_; rw [g3, List.append_assoc, show decide (0 < (acc ++ [x]).length) = true by simp]; exact ht
   have hskip : ¬ (x ≠ 32 ∨ (decide (0 < acc.length) = true ∧ nb r = true)) → Ev (fun k => R13Ready.l0 k l acc ((i + 1 : Nat) : Int)) (t, 0) := by
    intro hc; rw [if_neg hc] at ht; refine ih (i + 1) acc (by omega) (by omega) (by omega) ?_; rw [g3]; exact ht
   refine Ev.pos (by omega) (Ev.pos (by omega) ?_); by_cases hx : x = 32
   ·refine Ev.pos hx ?_; by_cases h0 : 0 < acc.length
    ·refine Ev.pos (by omega) ?_; cases hr2 : r with
     | nil =>
      rw [hr2] at g3 hskip; have := List.drop_eq_nil_iff.1 g3; exact Ev.neg (by omega) (hskip (by simp [hx, nb]))
     | cons y r2 =>
      rw [hr2] at g3 hskip hput; obtain ⟨f1, f2, f3⟩ := rd_at g3; refine Ev.pos (by omega) (Ev.pos (by omega) ?_); rw [f2]; by_cases hy : y = 32
      ·exact Ev.pos hy (hskip (by simp [hx, hy, nb]))
      ·exact Ev.neg hy (Ev.pos hlen (hput (.inr ⟨by simp [h0], by simp [nb, hy]⟩)))
    ·exact Ev.neg (by omega) (hskip (by simp [hx]; omega))
   ·exact Ev.neg hx (Ev.pos hlen (hput (.inl hx)))
theorem mapped_ev (s : ByteArray) (hs : s.size ≤ 2000000) (fold : Bool) : Ev (fun k => R13Mapped.f k s fold) (match runesN s s.size 0 with | some l => (l.filterMap (mapRune fold), 0) | none => ([], 19)) := by
 unfold R13Mapped.f R13Runes.f; obtain ⟨r1, r2⟩ := runes_ev s (by omega) s.size 0 [] (Nat.zero_le _) (by omega) (Nat.le_refl _); cases hr : runesN s s.size 0 with
 | none =>
  refine Ev.bind (r1 hr) ?_; have := mapped_loop fold [] (by simp) (by simp) 19 0 0 [] rfl (Nat.le_refl _) (Nat.le_refl _); exact this
 | some l =>
  obtain ⟨_, hll⟩ := runesN_le s _ _ l hr; refine Ev.bind (r2 l hr) ?_; have := mapped_loop fold l (by omega) (runesN_ok s _ _ l hr) 0 _ 0 [] rfl (Nat.zero_le _) (Nat.le_refl _); rw [List.drop_zero, List.nil_append] at this; rw [List.nil_append]; exact this
theorem sq_mem : ∀ (l : List Int) (b : Bool), ∀ x ∈ sq l b, x ∈ l
 | [], _, x, h => by simp [sq] at h
 | y :: r, b, x, h => by
  rw [sq] at h
  split at h
  ·
   rcases List.mem_cons.1 h with rfl | h
   ·
    simp
   ·
    exact List.mem_cons_of_mem _ (sq_mem r true x h)
  ·
   exact List.mem_cons_of_mem _ (sq_mem r b x h)
theorem refready_ev (s : ByteArray) (hs : s.size ≤ 2000000) (fold : Bool) : Ev (fun k => R13Ready.f k s fold) (match readyOf fold s with | some t => (⟨t.toArray⟩, 0) | none => (⟨#[]⟩, 19)) := by
 unfold R13Ready.f; have hm := mapped_ev s hs fold; unfold readyOf; cases hr : runesN s s.size 0 with
 | none =>
  rw [hr] at hm; exact Ev.bind hm (Ev.neg (show ¬ ((19 : Int) = 0) by decide) Ev.rfl')
 | some l =>
  rw [hr] at hm; obtain ⟨_, hll⟩ := runesN_le s _ _ l hr; have hfl : (l.filterMap (mapRune fold)).length ≤ s.size := Nat.le_trans (List.length_filterMap_le _ _) hll; have hok : ∀ r ∈ l.filterMap (mapRune fold), okRune r := by
   intro r hr'; obtain ⟨x, hx, hx2⟩ := List.mem_filterMap.1 hr'; exact mapRune_ok (runesN_ok s _ _ l hr x hx) hx2
  refine Ev.bind hm (Ev.pos (show (0 : Int) = 0 from rfl) ?_); refine refready_loop (l.filterMap (mapRune fold)) (by omega) _ 0 [] rfl (Nat.zero_le _) (Nat.le_refl _) ?_; have hsl := sq_len (l.filterMap (mapRune fold)) false; have := text_loop (sq (l.filterMap (mapRune fold)) false) (by omega) (fun r h => hok r (sq_mem _ _ r h)) _ 0 [] rfl (Nat.zero_le _) (Nat.zero_le _); rw [List.drop_zero, List.nil_append] at this; exact this
end Go.Proofs.YtpklcnpmppaaoaaGreatDoor.Print
namespace Go.Proofs.YtpklcnpmppaaoaaGreatDoor.Print
open Go.RowKit Go.Proofs.YtpklcnpmppaaoaaGreatDoorW.PrintWords Go.Proofs.YtpklcnpmppaaoaaGreatDoorW.PrintLast Go.Proofs.YtpklcnpmppaaoaaGreatDoorW.PrintMore
attribute [local go_sem] max2_int min2_int max_two min_two max_three min_three max_four min_four
set_option linter.unusedVariables false
set_option linter.unusedSimpArgs false
mutual
def R14Value.j0 : Nat → Int → Bool → Option (Int)
 | 0, _, _ => none
 | k + 1, x0, x8 => if x8 = true then (some (wrap64 ((wrap64 (x0)) - 48))) else (if x0 ≥ 97 then (R14Value.j1 k x0 (decide (x0 ≤ 102))) else (R14Value.j1 k x0 false))
def R14Value.j1 : Nat → Int → Bool → Option (Int)
 | 0, _, _ => none
 | k + 1, x0, x17 => if x17 = true then (some (wrap64 ((wrap64 (x0)) - 87))) else (if x0 ≥ 65 then (if x0 ≤ 70 then (some (wrap64 ((wrap64 (x0)) - 55))) else (some (-1))) else (some (-1)))
end
def R14Value.f (k : Nat) (a0 : Int) : Option (Int) := if a0 ≥ 48 then (R14Value.j0 k a0 (decide (a0 ≤ 57))) else (R14Value.j0 k a0 false)
set_option maxHeartbeats 8000000 in
set_option maxRecDepth 100000 in
theorem R14Value.calls (k : Nat) (a0 : Int) (r : Int) (w : World) (h : R14Value.f k a0 = some r) :
  Calls Tryz.prog 104 #[.int .u8 a0] w fun e w' => e = .returned (.int .i64 r) ∧ Drawn0 w w' := by
 have H : (if a0 ≥ 48 then (R14Value.j0 k a0 (decide (a0 ≤ 57))) else (R14Value.j0 k a0 false)) = some r := h
 clear h
 have HC2 := am H
 clear H
 go_enter Tryz.func104, Tryz.ntmps104
 go_upto_region 1 with (fail)
 go_cut [8] (fun v8 wc => ∃ (kq : Nat) (x8_1 : Bool), v8 = .bool x8_1 ∧ Aside0 (R14Value.j0 kq a0 x8_1 = some r) ∧ Aside0 (kq ≤ k) ∧ Drawn0 w wc)
 case first =>
  have H := HC2.out; clear HC2; revert H; refine spd00 ?_ ?_
  ·intro c3b0 H; (first | rw [c3b0] | (simp only [i64_w, i32_w]; rw [c3b0]) | skip); have H' := am H; clear H; go_wp2; go_meet; case rel => exact ⟨_, (decide (a0 ≤ 57)), ap2, H', ⟨apN⟩, ap7⟩
  ·intro c3b0 H; (first | rw [c3b0] | (simp only [i64_w, i32_w]; rw [c3b0]) | skip); have H' := am H; clear H; go_wp2; go_meet; case rel => exact ⟨_, (false), ap2, H', ⟨apN⟩, ap7⟩
 case rest =>
  clear HC2; obtain ⟨kq, x8_1, rfl, HA, HJ1, ⟨mc1, rfl⟩⟩ := hcut; cases kq with
  | zero => exact absurd HA.out (by simp [R14Value.j0])
  | succ kj1 =>
   have H := HA.out; clear HA; simp only [R14Value.j0] at H; revert H; refine spb ?_ ?_
   ·rintro rfl H; obtain rfl := Option.some.inj H; go_wp2; go_ret; exact ⟨ap2, ap7⟩
   ·rintro rfl H; have HC5 := am H; clear H; go_upto_region 3 with (fail); go_cut [17] (fun v17 wc => ∃ (kq : Nat) (x17_4 : Bool), v17 = .bool x17_4 ∧ Aside0 (R14Value.j1 kq a0 x17_4 = some r) ∧ Aside0 (kq ≤ kj1) ∧ Drawn0 w wc); case first =>
     have H := HC5.out; clear HC5; revert H; refine spd00 ?_ ?_
     ·intro c6b0 H; (first | rw [c6b0] | (simp only [i64_w, i32_w]; rw [c6b0]) | skip); have H' := am H; clear H; go_wp2; go_meet; case rel => exact ⟨_, (decide (a0 ≤ 102)), ap2, H', ⟨by have := HJ1.out; first | omega | exact Nat.le_refl _⟩, ap7⟩
     ·intro c6b0 H; (first | rw [c6b0] | (simp only [i64_w, i32_w]; rw [c6b0]) | skip); have H' := am H; clear H; go_wp2; go_meet; case rel => exact ⟨_, (false), ap2, H', ⟨by have := HJ1.out; first | omega | exact Nat.le_refl _⟩, ap7⟩
    case rest =>
     clear HC5; (try clear c4); obtain ⟨kq, x17_4, rfl, HA, HJ4, ⟨mc4, rfl⟩⟩ := hcut; cases kq with
     | zero => exact absurd HA.out (by simp [R14Value.j1])
     | succ kj4 =>
      have H := HA.out; clear HA; simp only [R14Value.j1] at H; revert H; refine spb ?_ ?_
      ·rintro rfl H; obtain rfl := Option.some.inj H; go_wp2; go_ret; exact ⟨ap2, ap7⟩
      ·rintro rfl H; revert H; refine spd00 ?_ ?_
       ·intro c8b0 H; revert H; refine spd00 ?_ ?_
        ·intro c9b0 H; obtain rfl := Option.some.inj H; go_wp2; go_ret; exact ⟨ap2, ap7⟩
        ·intro c9b0 H; obtain rfl := Option.some.inj H; go_wp2; go_ret; exact ⟨ap2, ap7⟩
       ·intro c8b0 H; obtain rfl := Option.some.inj H; go_wp2; go_ret; exact ⟨ap2, ap7⟩
def R15Special.f (a0 : Int) : Option (Bool) := if a0 = 34 then (some true) else (if a0 = 43 then (some true) else (if a0 = 44 then (some true) else (if a0 = 59 then (some true) else (if a0 = 60 then (some true) else (if a0 = 61 then (some true) else (if a0 = 62 then (some true) else (some (a0 == 92))))))))
set_option maxHeartbeats 8000000 in
set_option maxRecDepth 100000 in
theorem R15Special.calls (a0 : Int) (r : Bool) (w : World) (h : R15Special.f a0 = some r) :
  Calls Tryz.prog 103 #[.int .u8 a0] w fun e w' => e = .returned (.bool r) ∧ Drawn0 w w' := by
 have H : (if a0 = 34 then (some true) else (if a0 = 43 then (some true) else (if a0 = 44 then (some true) else (if a0 = 59 then (some true) else (if a0 = 60 then (some true) else (if a0 = 61 then (some true) else (if a0 = 62 then (some true) else (some (a0 == 92))))))))) = some r := h
 clear h
 revert H
 refine spe01 ?_ ?_
 ·intro c2b0 c2b1 H; obtain rfl := Option.some.inj H; go_enter Tryz.func103, Tryz.ntmps103; go_wp2; go_ret; exact ⟨ap2, ap7⟩
 ·intro c2 c2b0 c2b1 H; revert H; refine spe01 ?_ ?_
  ·intro c3b0 c3b1 H; obtain rfl := Option.some.inj H; go_enter Tryz.func103, Tryz.ntmps103; go_wp2; go_ret; exact ⟨ap2, ap7⟩
  ·intro c3 c3b0 c3b1 H; revert H; refine spe01 ?_ ?_
   ·intro c4b0 c4b1 H; obtain rfl := Option.some.inj H; go_enter Tryz.func103, Tryz.ntmps103; go_wp2; go_ret; exact ⟨ap2, ap7⟩
   ·intro c4 c4b0 c4b1 H; revert H; refine spe01 ?_ ?_
    ·intro c5b0 c5b1 H; obtain rfl := Option.some.inj H; go_enter Tryz.func103, Tryz.ntmps103; go_wp2; go_ret; exact ⟨ap2, ap7⟩
    ·intro c5 c5b0 c5b1 H; revert H; refine spe01 ?_ ?_
     ·intro c6b0 c6b1 H; obtain rfl := Option.some.inj H; go_enter Tryz.func103, Tryz.ntmps103; go_wp2; go_ret; exact ⟨ap2, ap7⟩
     ·intro c6 c6b0 c6b1 H; revert H; refine spe01 ?_ ?_
      ·intro c7b0 c7b1 H; obtain rfl := Option.some.inj H; go_enter Tryz.func103, Tryz.ntmps103; go_wp2; go_ret; exact ⟨ap2, ap7⟩
      ·intro c7 c7b0 c7b1 H; revert H; refine spe01 ?_ ?_
       ·intro c8b0 c8b1 H; obtain rfl := Option.some.inj H; go_enter Tryz.func103, Tryz.ntmps103; go_wp2; go_ret; exact ⟨ap2, ap7⟩
       ·intro c8 c8b0 c8b1 H; obtain rfl := Option.some.inj H; go_enter Tryz.func103, Tryz.ntmps103; go_wp2; go_ret; exact ⟨ap2, ap7⟩
mutual
def R15Signs.l0 : Nat → ByteArray → List (S94) → Int → Option ((List (S94)) × Bool)
 | 0, _, _, _ => none
 | k + 1, x0, x4, x5 => if x5 < (x0.size : Int) then (if 0 ≤ x5 then (if (bt x0 x5) = 92 then (if (wrap64 (x5 + 1)) < (x0.size : Int) then (if 0 ≤ (wrap64 (x5 + 1)) then ((R15Special.f (bt x0 (wrap64 (x5 + 1)))).bind fun t552 => (if t552 = true then (R15Signs.j1 k x0 x4 x5 true) else (if (bt x0 (wrap64 (x5 + 1))) = 35 then (R15Signs.j1 k x0 x4 x5 true) else (R15Signs.j1 k x0 x4 x5 ((bt x0 (wrap64 (x5 + 1))) == 32))))) else (none)) else (R15Signs.j1 k x0 x4 x5 false)) else (if x4.length < 70368744177664 then (R15Signs.l0 k x0 (x4 ++ [(⟨bt x0 x5, true⟩ : S94)]) (wrap64 (x5 + 1))) else (none))) else (none)) else (some (x4, true))
def R15Signs.j1 : Nat → ByteArray → List (S94) → Int → Bool → Option ((List (S94)) × Bool)
 | 0, _, _, _, _ => none
 | k + 1, x0, x4, x5, x49 => if x49 = true then (if 0 ≤ (wrap64 (x5 + 1)) then (if (wrap64 (x5 + 1)) < (x0.size : Int) then (if x4.length < 70368744177664 then (R15Signs.l0 k x0 (x4 ++ [(⟨bt x0 (wrap64 (x5 + 1)), false⟩ : S94)]) (wrap64 ((wrap64 (x5 + 1)) + 1))) else (none)) else (none)) else (none)) else (if (wrap64 (x5 + 2)) ≥ (x0.size : Int) then (R15Signs.j2 k x0 x4 x5 true) else (if 0 ≤ (wrap64 (x5 + 1)) then (if (wrap64 (x5 + 1)) < (x0.size : Int) then ((R14Value.f k (bt x0 (wrap64 (x5 + 1)))).bind fun t556 => (if t556 < 0 then (R15Signs.j2 k x0 x4 x5 true) else (if 0 ≤ (wrap64 (x5 + 2)) then (if (wrap64 (x5 + 2)) < (x0.size : Int) then ((R14Value.f k (bt x0 (wrap64 (x5 + 2)))).bind fun t557 => (R15Signs.j2 k x0 x4 x5 (decide (t557 < 0)))) else (none)) else (none)))) else (none)) else (none)))
def R15Signs.j2 : Nat → ByteArray → List (S94) → Int → Bool → Option ((List (S94)) × Bool)
 | 0, _, _, _, _ => none
 | k + 1, x0, x4, x5, x80 => if x80 = true then (some (([] : List (S94)), false)) else (if 0 ≤ (wrap64 (x5 + 1)) then (if (wrap64 (x5 + 1)) < (x0.size : Int) then ((R14Value.f k (bt x0 (wrap64 (x5 + 1)))).bind fun t558 => (if 0 ≤ (wrap64 (x5 + 2)) then (if (wrap64 (x5 + 2)) < (x0.size : Int) then ((R14Value.f k (bt x0 (wrap64 (x5 + 2)))).bind fun t559 => (if x4.length < 70368744177664 then (R15Signs.l0 k x0 (x4 ++ [(⟨(wrap64 ((wrap64 (16 * t558)) + t559)) % 256, false⟩ : S94)]) (wrap64 ((wrap64 (x5 + 2)) + 1))) else (none))) else (none)) else (none))) else (none)) else (none))
end
def R15Signs.f (k : Nat) (a0 : ByteArray) : Option ((List (S94)) × Bool) := R15Signs.l0 k a0 (([] : List (S94))) 0
def R15Signs.T12 : Bool × List (List Nat × List Nat) := (true, [([], []), ([], []), ([], []), ([2], [2]), ([1, 3], [1, 3]), ([4], [4]), ([5], [5]), ([], []), ([], []), ([8], [8]), ([7, 9], [7, 9]), ([10, 5], [10]), ([6, 11], [6, 11]), ([12], [12]), ([13], [13]), ([14], [14]), ([0, 15, 11], [0, 15]), ([16, 16, 0, 1, 2, 3, 4, 5, 6, 7, 8, 9, 10, 11, 12, 13, 14, 15, 16], [0, 16])])
def R15Signs.B12 : List Nat := [0, 0, 0, 4, 14, 30, 62, 0, 0, 256, 896, 1982, 4094, 8190, 16382, 32766, 65535, 131071]
theorem R15Signs.tab12 : rtab .any (opsOf Tryz.f72 12) = R15Signs.T12 := by kernel_rfl
theorem R15Signs.bits12 : waitsOk R15Signs.T12.2 R15Signs.B12 = true := by kernel_rfl
set_option maxHeartbeats 8000000 in
set_option maxRecDepth 100000 in
theorem R15Signs.calls (k : Nat) (a0 : ByteArray) (r1 : List (S94)) (r2 : Bool) (w : World) (h : R15Signs.f k a0 = some (r1, r2)) :
  Calls Tryz.prog 72 #[.string a0] w fun e w' => ∃ v0_ : Value, e = .returned (.tuple #[v0_, .bool r2]) ∧ Kd.R k94 94 w' w.heap.size (fun _ => True) v0_ r1 ∧ Below w.heap.size w w' := by
 have hu94 := Tryz.underlying94
 have HB := am (Below.refl w.heap.size w)
 have H : (R15Signs.l0 k a0 (([] : List (S94))) 0) = some (r1, r2) := h
 clear h
 obtain ⟨y546, hy546⟩ : ∃ y_ : List (S94), y_ = (([] : List (S94))) := ⟨_, rfl⟩
 replace H : (R15Signs.l0 k a0 y546 0) = some (r1, r2) := apY hy546 H
 have Ny546 := am hy546
 clear hy546
 have H' := am H
 clear H
 go_enter Tryz.func72, Tryz.ntmps72
 go_wp2_with (first | ((with_reducible refine gate_dst (N := 6) rfl ?_); refine Kd.R_lit k94 _ 94 ?hg (N := 6) ?hd (xs := ([] : List (S94))) (inner := []) (ok := fun _ => True) (okp := fun _ => True) ?hr ?hp (fun _ hk => hk) trivial (Below.refl _ _) (Nat.le_refl _) (by simp) ?_; (case hd => rfl); (case hg => rfl); (case hr => first | (go_simp; done) | (go_simp; rfl)); (case hp => exact (Reps.none _ _)); intro v547 w2 ho3 hb hg_ hnew_; clear hg_ hnew_; (first | rw [← Ny546.out] at ho3 | (simp only [Int.reduceToNat] at ho3; rw [← Ny546.out] at ho3)); have HO548 := am (Kd.R_lower ho3 (below_size ap1)); replace HB := am (below_step ap1 hb); clear hb ho3))
 go_loopg [4, 5] k (fun kq v4 v5 w' => ∃ (x4_1 : List (S94)) (x5_1 : Int), v5 = .int .i64 x5_1 ∧ Aside0 (R15Signs.l0 kq a0 x4_1 x5_1 = some (r1, r2)) ∧ Aside0 (kq ≤ k) ∧ Aside0 (Kd.R k94 94 w' w.heap.size (fun _ => True) v4 x4_1) ∧ Aside0 (Below w.heap.size w w'))
 case atStart => exact ⟨(y546), (0), ap2, H', ⟨Nat.le_refl _⟩, ⟨apAR HO548.out⟩, ⟨ap1⟩⟩
 case round =>
  clear H'; obtain ⟨x4_1, x5_1, rfl, HA, HK1, HO_4, HB⟩ := hrel; cases gk with
  | zero => exact absurd HA.out (by simp [R15Signs.l0])
  | succ k1 =>
   have H := HA.out; clear HA; simp only [R15Signs.l0] at H; revert H; refine spd00 ?_ ?_
   ·intro c4b0 H; revert H; refine spn0 ?_; intro c5b0 H; revert H; refine spe01 ?_ ?_
    ·intro c7b0 c7b1 H; have HC8 := am H; clear H; have p6 : 0 ≤ (x5_1 : Int) := apD; have q6 : x5_1 < (a0.size : Int) := apD; have hx6 := bt_at a0 x5_1; replace p6 := eq_true p6; replace q6 := eq_true q6; go_upto_region 7 with (fail); go_cut [49] (fun v49 wc => ∃ (kq : Nat) (x49_7 : Bool), v49 = .bool x49_7 ∧ Aside0 (R15Signs.j1 kq a0 x4_1 x5_1 x49_7 = some (r1, r2)) ∧ Aside0 (kq ≤ k1) ∧ Aside0 (Kd.R k94 94 wc w.heap.size (fun _ => True) u4 x4_1) ∧ Aside0 (Below w.heap.size w wc)); case first =>
      have H := HC8.out; clear HC8; revert H; refine spd00 ?_ ?_
      ·intro c9b0 H; (first | rw [c9b0] | (simp only [i64_w, i32_w]; rw [c9b0]) | skip); obtain ⟨ji10, hji10⟩ : ∃ j_ : Int, (wrap64 (x5_1 + 1)) = j_ := ⟨_, rfl⟩; replace H : (if 0 ≤ (ji10) then ((R15Special.f (bt a0 (ji10))).bind fun t552 => (if t552 = true then (R15Signs.j1 k1 a0 x4_1 x5_1 true) else (if (bt a0 (ji10)) = 35 then (R15Signs.j1 k1 a0 x4_1 x5_1 true) else (R15Signs.j1 k1 a0 x4_1 x5_1 ((bt a0 (ji10)) == 32))))) else (none)) = some (r1, r2) := by first | (rw [hji10] at H; exact H) | (simp only [hji10] at H ⊢; exact H)
       (try rw [hji10] at c9b0); have hji10w : (IntKind.i64.wrap (x5_1 + 1)) = ji10 := (i64_w _).trans hji10; revert H; refine spn0 ?_; intro c11b0 H; replace H := Option.bind_eq_some_iff.mp H; obtain ⟨t552, A130, H⟩ := H; replace H : (if t552 = true then (R15Signs.j1 k1 a0 x4_1 x5_1 true) else (if (bt a0 (ji10)) = 35 then (R15Signs.j1 k1 a0 x4_1 x5_1 true) else (R15Signs.j1 k1 a0 x4_1 x5_1 ((bt a0 (ji10)) == 32)))) = some (r1, r2) := H; have A13 := am A130; clear A130; revert H; refine spb ?_ ?_
       ·rintro rfl H; have H' := am H; clear H; have p12 : 0 ≤ ((ji10) : Int) := apD; have q12 : (ji10) < (a0.size : Int) := apD; have hx12 := bt_at a0 (ji10); replace p12 := eq_true p12; replace q12 := eq_true q12; go_wp2_with (first | (go_at_call 103; (with_reducible refine (R15Special.calls (bt a0 (ji10)) true _ A13.out).mono ?_); rintro e w' ⟨rfl, ⟨nd, rfl⟩⟩)); (first | go_meet | (simp only [c7b0] at *; go_meet)); case rel => exact ⟨_, (true), ap2, H', ⟨by have := HK1.out; first | omega | exact Nat.le_refl _⟩, ⟨apAR HO_4.out⟩, ⟨ap1⟩⟩
       ·rintro rfl H; revert H; refine spe01 ?_ ?_
        ·intro c16b0 c16b1 H; have H' := am H; clear H; have p12 : 0 ≤ ((ji10) : Int) := apD; have q12 : (ji10) < (a0.size : Int) := apD; have hx12 := bt_at a0 (ji10); replace p12 := eq_true p12; replace q12 := eq_true q12; go_wp2_with (first | (go_at_call 103; (with_reducible refine (R15Special.calls (bt a0 (ji10)) false _ A13.out).mono ?_); rintro e w' ⟨rfl, ⟨nd, rfl⟩⟩; have p15 : 0 ≤ ((ji10) : Int) := apD; have q15 : (ji10) < (a0.size : Int) := apD; have hx15 := bt_at a0 (ji10); replace p15 := eq_true p15; replace q15 := eq_true q15)); (first | go_meet | (simp only [c16b0] at *; go_meet) | (simp only [c7b0] at *; go_meet)); case rel => exact ⟨_, (true), ap2, H', ⟨by have := HK1.out; first | omega | exact Nat.le_refl _⟩, ⟨apAR HO_4.out⟩, ⟨ap1⟩⟩
        ·intro c16 c16b0 c16b1 H; have H' := am H; clear H; have p12 : 0 ≤ ((ji10) : Int) := apD; have q12 : (ji10) < (a0.size : Int) := apD; have hx12 := bt_at a0 (ji10); replace p12 := eq_true p12; replace q12 := eq_true q12; go_wp2_with (first | (go_at_call 103; (with_reducible refine (R15Special.calls (bt a0 (ji10)) false _ A13.out).mono ?_); rintro e w' ⟨rfl, ⟨nd, rfl⟩⟩; have p15 : 0 ≤ ((ji10) : Int) := apD; have q15 : (ji10) < (a0.size : Int) := apD; have hx15 := bt_at a0 (ji10); replace p15 := eq_true p15; replace q15 := eq_true q15; have p17 : 0 ≤ ((ji10) : Int) := apD; have q17 : (ji10) < (a0.size : Int) := apD; have hx17 := bt_at a0 (ji10); replace p17 := eq_true p17; replace q17 := eq_true q17)); (first | go_meet | (simp only [c16b0] at *; go_meet) | (simp only [c16b0] at *; go_meet) | (simp only [c7b0] at *; go_meet)); case rel => exact ⟨_, (((bt a0 (ji10)) == 32)), (by first | rfl | (simp; done) | (simp only [← hji10] <;> (first | rfl | simp)) | (simp [*]; done)), H', ⟨by have := HK1.out; first | omega | exact Nat.le_refl _⟩, ⟨apAR HO_4.out⟩, ⟨ap1⟩⟩
      ·intro c9b0 H; (first | rw [c9b0] | (simp only [i64_w, i32_w]; rw [c9b0]) | skip); have H' := am H; clear H; go_wp2; (first | go_meet | (simp only [c16b0] at *; go_meet) | (simp only [c16b0] at *; go_meet) | (simp only [c7b0] at *; go_meet)); case rel => exact ⟨_, (false), ap2, H', ⟨by have := HK1.out; first | omega | exact Nat.le_refl _⟩, ⟨apAR HO_4.out⟩, ⟨ap1⟩⟩
     case rest =>
      clear HC8; (try clear c4); (try clear c4b0); (try clear c5); (try clear c5b0); (try clear p6); (try clear q6); (try clear hx6); (try clear c7); (try clear c7b0); (try clear c7b1); (try clear p6); (try clear q6); obtain ⟨kq, x49_7, rfl, HA, HJ7, HO_4, HB⟩ := hcut; cases kq with
      | zero => exact absurd HA.out (by simp [R15Signs.j1])
      | succ kj7 =>
       have H := HA.out; clear HA; simp only [R15Signs.j1] at H; revert H; refine spb ?_ ?_
       ·rintro rfl H; obtain ⟨ji19, hji19⟩ : ∃ j_ : Int, (wrap64 (x5_1 + 1)) = j_ := ⟨_, rfl⟩; replace H : (if 0 ≤ (ji19) then (if (ji19) < (a0.size : Int) then (if x4_1.length < 70368744177664 then (R15Signs.l0 kj7 a0 (x4_1 ++ [(⟨bt a0 (ji19), false⟩ : S94)]) (wrap64 ((ji19) + 1))) else (none)) else (none)) else (none)) = some (r1, r2) := by first | (rw [hji19] at H; exact H) | (simp only [hji19] at H ⊢; exact H)
        have hji19w : (IntKind.i64.wrap (x5_1 + 1)) = ji19 := (i64_w _).trans hji19; revert H; refine spn0 ?_; intro c20b0 H; revert H; refine spn0 ?_; intro c21b0 H; by_cases c23 : x4_1.length < 70368744177664
        ·rw [if_pos c23] at H; have LMc23 := am c23; clear c23; obtain ⟨y553, hy553⟩ : ∃ y_ : List (S94), y_ = (x4_1 ++ [(⟨bt a0 (ji19), false⟩ : S94)]) := ⟨_, rfl⟩; replace H : (R15Signs.l0 kj7 a0 y553 (wrap64 ((ji19) + 1))) = some (r1, r2) := apY hy553 H; have Ny553 := am hy553; clear hy553; have H' := am H; clear H; have p22 : 0 ≤ ((ji19) : Int) := apD; have q22 : (ji19) < (a0.size : Int) := apD; have hx22 := bt_at a0 (ji19); replace p22 := eq_true p22; replace q22 := eq_true q22; go_wp2_with (first | ((with_reducible refine gate_builtin (b := .append) (xs := #[.tmp 50, .tmp 56]) rfl ?_); at_builtin; refine Kd.R_append k94 (w0 := w) w.heap.size rfl (.tmp 50) (.tmp 56) 88 94 (.agg #[(.int .u8 0), (.bool false)]) 2 rfl Tryz.underlying88 info94 rfl (by decide) (by omega) u4 x4_1 (⟨bt a0 (ji19), false⟩ : S94) [.int .u8 (bt a0 (ji19)), .bool false] (fun _ => True) (fun _ => False) rfl rfl ?aP (fun _ hk => hk.elim) ?aF ?aO ?aB ?aS ?aL ?_; (case aP => exact k94_mkM _ _ _ (⟨bt a0 (ji19), false⟩ : S94)); (case aB => exact ap1); (case aF => exact (fun _ _ => trivial)); (case aO => exact (apAR HO_4.out)); (case aS => exact (below_size ap1)); (case aL => have := LMc23.out; omega); intro v554 w24 ho hb hg hat; rw [← Ny553.out] at ho; have HO555 := am (ho); replace HB := am (hb); clear ho hb hg hat)); go_roundg kj7; (case measure => have := HK1.out; have := HJ7.out; omega); case rel => exact ⟨(y553), (wrap64 ((ji19) + 1)), (by first | rfl | (simp; done) | (simp only [← hji19] <;> (first | rfl | simp)) | (simp [*]; done)), H', ⟨by have := HK1.out; have := HJ7.out; omega⟩, ⟨apAR HO555.out⟩, ⟨ap1⟩⟩
        ·rw [if_neg c23] at H; exact absurd H (by simp)
       ·rintro rfl H; have HC25 := am H; clear H; go_upto_region 10 with (fail); go_cut [80] (fun v80 wc => ∃ (kq : Nat) (x80_24 : Bool), v80 = .bool x80_24 ∧ Aside0 (R15Signs.j2 kq a0 x4_1 x5_1 x80_24 = some (r1, r2)) ∧ Aside0 (kq ≤ kj7) ∧ Aside0 (Kd.R k94 94 wc w.heap.size (fun _ => True) u4 x4_1) ∧ Aside0 (Below w.heap.size w wc)); case first =>
         have H := HC25.out; clear HC25; revert H; refine spd00 ?_ ?_
         ·intro c26b0 H; (first | rw [c26b0] | (simp only [i64_w, i32_w]; rw [c26b0]) | skip); have H' := am H; clear H; go_wp2; (first | go_meet | (simp only [c16b0] at *; go_meet) | (simp only [c16b0] at *; go_meet) | (simp only [c7b0] at *; go_meet)); case rel => exact ⟨_, (true), ap2, H', ⟨by have := HK1.out; have := HJ7.out; first | omega | exact Nat.le_refl _⟩, ⟨apAR HO_4.out⟩, ⟨ap1⟩⟩
         ·intro c26b0 H; (first | rw [c26b0] | (simp only [i64_w, i32_w]; rw [c26b0]) | skip); obtain ⟨ji27, hji27⟩ : ∃ j_ : Int, (wrap64 (x5_1 + 1)) = j_ := ⟨_, rfl⟩; replace H : (if 0 ≤ (ji27) then (if (ji27) < (a0.size : Int) then ((R14Value.f kj7 (bt a0 (ji27))).bind fun t556 => (if t556 < 0 then (R15Signs.j2 kj7 a0 x4_1 x5_1 true) else (if 0 ≤ (wrap64 (x5_1 + 2)) then (if (wrap64 (x5_1 + 2)) < (a0.size : Int) then ((R14Value.f kj7 (bt a0 (wrap64 (x5_1 + 2)))).bind fun t557 => (R15Signs.j2 kj7 a0 x4_1 x5_1 (decide (t557 < 0)))) else (none)) else (none)))) else (none)) else (none)) = some (r1, r2) := by first | (rw [hji27] at H; exact H) | (simp only [hji27] at H ⊢; exact H)
          have hji27w : (IntKind.i64.wrap (x5_1 + 1)) = ji27 := (i64_w _).trans hji27; revert H; refine spn0 ?_; intro c28b0 H; revert H; refine spn0 ?_; intro c29b0 H; replace H := Option.bind_eq_some_iff.mp H; obtain ⟨t556, A310, H⟩ := H; replace H : (if t556 < 0 then (R15Signs.j2 kj7 a0 x4_1 x5_1 true) else (if 0 ≤ (wrap64 (x5_1 + 2)) then (if (wrap64 (x5_1 + 2)) < (a0.size : Int) then ((R14Value.f kj7 (bt a0 (wrap64 (x5_1 + 2)))).bind fun t557 => (R15Signs.j2 kj7 a0 x4_1 x5_1 (decide (t557 < 0)))) else (none)) else (none))) = some (r1, r2) := H; have A31 := am A310; clear A310; revert H; refine spd00 ?_ ?_
          ·intro c32b0 H; have H' := am H; clear H; have p30 : 0 ≤ ((ji27) : Int) := apD; have q30 : (ji27) < (a0.size : Int) := apD; have hx30 := bt_at a0 (ji27); replace p30 := eq_true p30; replace q30 := eq_true q30; go_wp2_with (first | (go_at_call 104; (with_reducible refine (R14Value.calls kj7 (bt a0 (ji27)) t556 _ A31.out).mono ?_); rintro e w' ⟨rfl, ⟨nd, rfl⟩⟩)); (first | go_meet | (simp only [c16b0] at *; go_meet) | (simp only [c16b0] at *; go_meet) | (simp only [c7b0] at *; go_meet)); case rel => exact ⟨_, (true), ap2, H', ⟨by have := HK1.out; have := HJ7.out; first | omega | exact Nat.le_refl _⟩, ⟨apAR HO_4.out⟩, ⟨ap1⟩⟩
          ·intro c32b0 H; obtain ⟨ji33, hji33⟩ : ∃ j_ : Int, (wrap64 (x5_1 + 2)) = j_ := ⟨_, rfl⟩; replace H : (if 0 ≤ (ji33) then (if (ji33) < (a0.size : Int) then ((R14Value.f kj7 (bt a0 (ji33))).bind fun t557 => (R15Signs.j2 kj7 a0 x4_1 x5_1 (decide (t557 < 0)))) else (none)) else (none)) = some (r1, r2) := by first | (rw [hji33] at H; exact H) | (simp only [hji33] at H ⊢; exact H)
           (try rw [hji33] at c26b0); (try rw [hji33] at A31); have hji33w : (IntKind.i64.wrap (x5_1 + 2)) = ji33 := (i64_w _).trans hji33; revert H; refine spn0 ?_; intro c34b0 H; revert H; refine spn0 ?_; intro c35b0 H; replace H := Option.bind_eq_some_iff.mp H; obtain ⟨t557, A370, H⟩ := H; replace H : (R15Signs.j2 kj7 a0 x4_1 x5_1 (decide (t557 < 0))) = some (r1, r2) := H; have A37 := am A370; clear A370; have H' := am H; clear H; have p30 : 0 ≤ ((ji27) : Int) := apD; have q30 : (ji27) < (a0.size : Int) := apD; have hx30 := bt_at a0 (ji27); replace p30 := eq_true p30; replace q30 := eq_true q30; go_wp2_with (first | (go_at_call 104; (with_reducible refine (R14Value.calls kj7 (bt a0 (ji27)) t556 _ A31.out).mono ?_); rintro e w' ⟨rfl, ⟨nd, rfl⟩⟩; have p36 : 0 ≤ ((ji33) : Int) := apD; have q36 : (ji33) < (a0.size : Int) := apD; have hx36 := bt_at a0 (ji33); replace p36 := eq_true p36; replace q36 := eq_true q36) | (go_at_call 104; (with_reducible refine (R14Value.calls kj7 (bt a0 (ji33)) t557 _ A37.out).mono ?_); rintro e w' ⟨rfl, ⟨nd, rfl⟩⟩)); (first | go_meet | (simp only [c16b0] at *; go_meet) | (simp only [c16b0] at *; go_meet) | (simp only [c7b0] at *; go_meet)); case rel => exact ⟨_, (decide (t557 < 0)), ap2, H', ⟨by have := HK1.out; have := HJ7.out; first | omega | exact Nat.le_refl _⟩, ⟨apAR HO_4.out⟩, ⟨ap1⟩⟩
        case rest =>
         clear HC25; (try clear c4); (try clear c4b0); (try clear c5); (try clear c5b0); (try clear p6); (try clear q6); (try clear hx6); (try clear c7); (try clear c7b0); (try clear c7b1); (try clear c18); (try clear p6); (try clear q6); obtain ⟨kq, x80_24, rfl, HA, HJ24, HO_4, HB⟩ := hcut; cases kq with
         | zero => exact absurd HA.out (by simp [R15Signs.j2])
         | succ kj24 =>
          have H := HA.out; clear HA; simp only [R15Signs.j2] at H; revert H; refine spb ?_ ?_
          ·rintro rfl H; simp only [Option.some.injEq, Prod.mk.injEq] at H; obtain ⟨rfl, rfl⟩ := H; go_wp2; go_ret2; exact ⟨_, ap9, by first | exact Kd.R_nil _ _ _ _ _ | exact Kd.N_nil _ _ _ _ _ | exact Kd.V_nil _ _ _ _ _ | exact Kd.Q_nil _ _ _ _ _ | exact Kd.S_nil _ _ _ _ _, ap1⟩
          ·rintro rfl H; obtain ⟨ji39, hji39⟩ : ∃ j_ : Int, (wrap64 (x5_1 + 1)) = j_ := ⟨_, rfl⟩; replace H : (if 0 ≤ (ji39) then (if (ji39) < (a0.size : Int) then ((R14Value.f kj24 (bt a0 (ji39))).bind fun t558 => (if 0 ≤ (wrap64 (x5_1 + 2)) then (if (wrap64 (x5_1 + 2)) < (a0.size : Int) then ((R14Value.f kj24 (bt a0 (wrap64 (x5_1 + 2)))).bind fun t559 => (if x4_1.length < 70368744177664 then (R15Signs.l0 kj24 a0 (x4_1 ++ [(⟨(wrap64 ((wrap64 (16 * t558)) + t559)) % 256, false⟩ : S94)]) (wrap64 ((wrap64 (x5_1 + 2)) + 1))) else (none))) else (none)) else (none))) else (none)) else (none)) = some (r1, r2) := by first | (rw [hji39] at H; exact H) | (simp only [hji39] at H ⊢; exact H)
           have hji39w : (IntKind.i64.wrap (x5_1 + 1)) = ji39 := (i64_w _).trans hji39; revert H; refine spn0 ?_; intro c40b0 H; revert H; refine spn0 ?_; intro c41b0 H; replace H := Option.bind_eq_some_iff.mp H; obtain ⟨t558, A430, H⟩ := H; replace H : (if 0 ≤ (wrap64 (x5_1 + 2)) then (if (wrap64 (x5_1 + 2)) < (a0.size : Int) then ((R14Value.f kj24 (bt a0 (wrap64 (x5_1 + 2)))).bind fun t559 => (if x4_1.length < 70368744177664 then (R15Signs.l0 kj24 a0 (x4_1 ++ [(⟨(wrap64 ((wrap64 (16 * t558)) + t559)) % 256, false⟩ : S94)]) (wrap64 ((wrap64 (x5_1 + 2)) + 1))) else (none))) else (none)) else (none)) = some (r1, r2) := H; have A43 := am A430; clear A430; obtain ⟨ji44, hji44⟩ : ∃ j_ : Int, (wrap64 (x5_1 + 2)) = j_ := ⟨_, rfl⟩; replace H : (if 0 ≤ (ji44) then (if (ji44) < (a0.size : Int) then ((R14Value.f kj24 (bt a0 (ji44))).bind fun t559 => (if x4_1.length < 70368744177664 then (R15Signs.l0 kj24 a0 (x4_1 ++ [(⟨(wrap64 ((wrap64 (16 * t558)) + t559)) % 256, false⟩ : S94)]) (wrap64 ((ji44) + 1))) else (none))) else (none)) else (none)) = some (r1, r2) := by first | (rw [hji44] at H; exact H) | (simp only [hji44] at H ⊢; exact H)
           (try rw [hji44] at A43); have hji44w : (IntKind.i64.wrap (x5_1 + 2)) = ji44 := (i64_w _).trans hji44; revert H; refine spn0 ?_; intro c45b0 H; revert H; refine spn0 ?_; intro c46b0 H; replace H := Option.bind_eq_some_iff.mp H; obtain ⟨t559, A480, H⟩ := H; replace H : (if x4_1.length < 70368744177664 then (R15Signs.l0 kj24 a0 (x4_1 ++ [(⟨(wrap64 ((wrap64 (16 * t558)) + t559)) % 256, false⟩ : S94)]) (wrap64 ((ji44) + 1))) else (none)) = some (r1, r2) := H; have A48 := am A480; clear A480; by_cases c49 : x4_1.length < 70368744177664
           ·rw [if_pos c49] at H; have LMc49 := am c49; clear c49; obtain ⟨y560, hy560⟩ : ∃ y_ : List (S94), y_ = (x4_1 ++ [(⟨(wrap64 ((wrap64 (16 * t558)) + t559)) % 256, false⟩ : S94)]) := ⟨_, rfl⟩; replace H : (R15Signs.l0 kj24 a0 y560 (wrap64 ((ji44) + 1))) = some (r1, r2) := apY hy560 H; have Ny560 := am hy560; clear hy560; have H' := am H; clear H; (try go_wp2); have n0_ := am (Kd.R_drew HO_4.out); have n1_ := am (below_drew1 HB.out); clear HO_4; clear HB; have HO_4 := n0_; have HB := n1_; clear n0_ n1_; have p42 : 0 ≤ ((ji39) : Int) := apD; have q42 : (ji39) < (a0.size : Int) := apD; have hx42 := bt_at a0 (ji39); replace p42 := eq_true p42; replace q42 := eq_true q42; have p47 : 0 ≤ ((ji44) : Int) := apD; have q47 : (ji44) < (a0.size : Int) := apD; have hx47 := bt_at a0 (ji44); replace p47 := eq_true p47; replace q47 := eq_true q47; refine start_ (n := 18) (S := fun w' => True) (ds := []) #[false, false, false, false, false, false, false, false, false, false, false, false, false, false, false, false, false, false] (by kernel_rfl) rfl rfl trivial (fun hHeld => ?_); refine with_tabW R15Signs.tab12 R15Signs.bits12 (fun HT_ HW_ => ?_); generalize wc.drew = w50 at HO_4 HB hHeld ⊢; refine pure_ (i := 0) (N := some 81) (v := ?_) (a' := ?_) #[true, false, false, false, false, false, false, false, false, false, false, false, false, false, false, false, false, false] rfl rfl (any_of HT_.out (by kernel_rfl)) (fun _ _ _ h => h) (Or.inl ⟨by rfl, ?_⟩) ?_ ?_; rotate_left
            ·intro w'; go_simp; with_reducible rfl
            rotate_left
            ·simp only [Act.put, List.setIfInBounds_toArray, List.set_cons_zero, List.set_cons_succ, i64_w, i32_w]; rfl
            refine pure_ (i := 1) (N := some 82) (v := ?_) (a' := ?_) #[true, true, false, false, false, false, false, false, false, false, false, false, false, false, false, false, false, false] rfl rfl (any_of HT_.out (by kernel_rfl)) (fun _ _ _ h => h) (Or.inl ⟨by rfl, ?_⟩) ?_ ?_; rotate_left
            ·intro w'; go_simp; with_reducible rfl
            rotate_left
            ·simp only [Act.put, List.setIfInBounds_toArray, List.set_cons_zero, List.set_cons_succ, i64_w, i32_w]; rfl
            refine pure_ (i := 2) (N := some 83) (v := ?_) (a' := ?_) #[true, true, true, false, false, false, false, false, false, false, false, false, false, false, false, false, false, false] rfl rfl (any_of HT_.out (by kernel_rfl)) (fun _ _ _ h => h) (Or.inl ⟨by rfl, ?_⟩) ?_ ?_; rotate_left
            ·intro w'; go_simp; with_reducible rfl
            rotate_left
            ·simp only [Act.put, List.setIfInBounds_toArray, List.set_cons_zero, List.set_cons_succ, i64_w, i32_w]; rfl
            refine pure_ (i := 3) (N := some 84) (v := ?_) (a' := ?_) #[true, true, true, true, false, false, false, false, false, false, false, false, false, false, false, false, false, false] rfl rfl (any_of HT_.out (by kernel_rfl)) (fun _ _ _ h => h) (Or.inl ⟨by rfl, ?_⟩) ?_ ?_; rotate_left
            ·intro w'; go_simp; with_reducible rfl
            rotate_left
            ·simp only [Act.put, List.setIfInBounds_toArray, List.set_cons_zero, List.set_cons_succ, i64_w, i32_w]; rfl
            refine pure_ (i := 7) (N := some 88) (v := ?_) (a' := ?_) #[true, true, true, true, false, false, false, true, false, false, false, false, false, false, false, false, false, false] rfl rfl (any_of HT_.out (by kernel_rfl)) (fun _ _ _ h => h) (Or.inl ⟨by rfl, ?_⟩) ?_ ?_; rotate_left
            ·intro w'; go_simp; with_reducible rfl
            rotate_left
            ·simp only [Act.put, List.setIfInBounds_toArray, List.set_cons_zero, List.set_cons_succ, i64_w, i32_w]; rfl
            refine pure_ (i := 8) (N := some 89) (v := ?_) (a' := ?_) #[true, true, true, true, false, false, false, true, true, false, false, false, false, false, false, false, false, false] rfl rfl (any_of HT_.out (by kernel_rfl)) (fun _ _ _ h => h) (Or.inl ⟨by rfl, ?_⟩) ?_ ?_; rotate_left
            ·intro w'; go_simp; with_reducible rfl
            rotate_left
            ·simp only [Act.put, List.setIfInBounds_toArray, List.set_cons_zero, List.set_cons_succ, i64_w, i32_w]; rfl
            refine pure_ (i := 9) (N := some 90) (v := ?_) (a' := ?_) #[true, true, true, true, false, false, false, true, true, true, false, false, false, false, false, false, false, false] rfl rfl (any_of HT_.out (by kernel_rfl)) (fun _ _ _ h => h) (Or.inl ⟨by rfl, ?_⟩) ?_ ?_; rotate_left
            ·intro w'; go_simp; with_reducible rfl
            rotate_left
            ·simp only [Act.put, List.setIfInBounds_toArray, List.set_cons_zero, List.set_cons_succ, i64_w, i32_w]; rfl
            refine take_ (i := 4) (N := some 85) (v := ?_) (a' := ?_) #[true, true, true, true, true, false, false, true, true, true, false, false, false, false, false, false, false, false] rfl rfl (take_ofW HT_.out HW_.out (by kernel_rfl)) (fun _ _ _ h => h) (Or.inl ⟨by rfl, ?_⟩) hHeld ?_ ?_; rotate_left
            ·intro w' _; go_simp; with_reducible rfl
            rotate_left
            ·simp only [Act.put, List.setIfInBounds_toArray, List.set_cons_zero, List.set_cons_succ, i64_w, i32_w]; rfl
            refine take_ (i := 10) (N := some 91) (v := ?_) (a' := ?_) #[true, true, true, true, true, false, false, true, true, true, true, false, false, false, false, false, false, false] rfl rfl (take_ofW HT_.out HW_.out (by kernel_rfl)) (fun _ _ _ h => h) (Or.inl ⟨by rfl, ?_⟩) hHeld ?_ ?_; rotate_left
            ·intro w' _; go_simp; with_reducible rfl
            rotate_left
            ·simp only [Act.put, List.setIfInBounds_toArray, List.set_cons_zero, List.set_cons_succ, i64_w, i32_w]; rfl
            refine one_ (i := 5) (N := some 86) #[true, true, true, true, true, true, false, true, true, true, true, false, false, false, false, false, false, false] rfl rfl (one_of HT_.out (by kernel_rfl)) (by decide) (fun K hK => ?_); refine goes_ Tryz.func104 (by kernel_rfl) rfl #[.int .u8 (bt a0 (ji39))] (by rfl) rfl rfl (by (try simp only [List.map_toArray, List.map_cons, List.map_nil]); first | done | (simp only [hji39]; rfl) | rfl | (simp only [List.length_drop, List.length_take]; rfl)) ?_; (with_reducible refine (R14Value.calls kj24 (bt a0 (ji39)) t558 _ A43.out).mono ?_); rintro e w' ⟨rfl, ⟨nd, rfl⟩⟩; refine ⟨_, rfl, ?_⟩; refine hK.out _ _ trivial (fun hHeld => ?_); clear hK K; refine norm_ (a' := ?_) ?_ ?_; rotate_left
            ·show Act.put _ (some 86) _ = _; simp only [Act.put, List.setIfInBounds_toArray, List.set_cons_zero, List.set_cons_succ, i64_w, i32_w]; rfl
            refine pure_ (i := 6) (N := some 87) (v := ?_) (a' := ?_) #[true, true, true, true, true, true, true, true, true, true, true, false, false, false, false, false, false, false] rfl rfl (any_of HT_.out (by kernel_rfl)) (fun _ _ _ h => h) (Or.inl ⟨by rfl, ?_⟩) ?_ ?_; rotate_left
            ·intro w'; go_simp; with_reducible rfl
            rotate_left
            ·simp only [Act.put, List.setIfInBounds_toArray, List.set_cons_zero, List.set_cons_succ, i64_w, i32_w]; rfl
            refine one_ (i := 11) (N := some 92) #[true, true, true, true, true, true, true, true, true, true, true, true, false, false, false, false, false, false] rfl rfl (one_of HT_.out (by kernel_rfl)) (by decide) (fun K hK => ?_); refine goes_ Tryz.func104 (by kernel_rfl) rfl #[.int .u8 (bt a0 (ji44))] (by rfl) rfl rfl (by (try simp only [List.map_toArray, List.map_cons, List.map_nil]); first | done | (simp only [hji44]; rfl) | rfl | (simp only [List.length_drop, List.length_take]; rfl)) ?_; (with_reducible refine (R14Value.calls kj24 (bt a0 (ji44)) t559 _ A48.out).mono ?_); rintro e w' ⟨rfl, ⟨nd, rfl⟩⟩; refine ⟨_, rfl, ?_⟩; refine hK.out _ _ trivial (fun hHeld => ?_); clear hK K; refine norm_ (a' := ?_) ?_ ?_; rotate_left
            ·show Act.put _ (some 92) _ = _; simp only [Act.put, List.setIfInBounds_toArray, List.set_cons_zero, List.set_cons_succ, i64_w, i32_w]; rfl
            refine pure_ (i := 12) (N := some 93) (v := ?_) (a' := ?_) #[true, true, true, true, true, true, true, true, true, true, true, true, true, false, false, false, false, false] rfl rfl (any_of HT_.out (by kernel_rfl)) (fun _ _ _ h => h) (Or.inl ⟨by rfl, ?_⟩) ?_ ?_; rotate_left
            ·intro w'; go_simp; with_reducible rfl
            rotate_left
            ·simp only [Act.put, List.setIfInBounds_toArray, List.set_cons_zero, List.set_cons_succ, i64_w, i32_w]; rfl
            refine pure_ (i := 13) (N := some 94) (v := ?_) (a' := ?_) #[true, true, true, true, true, true, true, true, true, true, true, true, true, true, false, false, false, false] rfl rfl (any_of HT_.out (by kernel_rfl)) (fun _ _ _ h => h) (Or.inl ⟨by rfl, ?_⟩) ?_ ?_; rotate_left
            ·intro w'; go_simp; with_reducible rfl
            rotate_left
            ·simp only [Act.put, List.setIfInBounds_toArray, List.set_cons_zero, List.set_cons_succ, i64_w, i32_w]; rfl
            refine pure_ (i := 14) (N := some 95) (v := ?_) (a' := ?_) #[true, true, true, true, true, true, true, true, true, true, true, true, true, true, true, false, false, false] rfl rfl (any_of HT_.out (by kernel_rfl)) (fun _ _ _ h => h) (Or.inl ⟨by rfl, ?_⟩) ?_ ?_; rotate_left
            ·intro w'; go_simp; with_reducible rfl
            rotate_left
            ·simp only [Act.put, List.setIfInBounds_toArray, List.set_cons_zero, List.set_cons_succ, i64_w, i32_w]; rfl
            refine one_ (i := 15) (N := some 96) #[true, true, true, true, true, true, true, true, true, true, true, true, true, true, true, true, false, false] rfl rfl (one_of HT_.out (by kernel_rfl)) (by decide) (fun K hK => ?_); refine value_ (w1 := ?_) (v := ?_) (by rfl) rfl ?_ ?_; rotate_left 2
            ·go_simp; constructor
             ·rfl
             ·rfl
            refine hK.out _ _ trivial (fun hHeld => ?_); clear hK K; refine norm_ (a' := ?_) ?_ ?_; rotate_left
            ·show Act.put _ (some 96) _ = _; simp only [Act.put, List.setIfInBounds_toArray, List.set_cons_zero, List.set_cons_succ, i64_w, i32_w]; rfl
            refine one_ (i := 16) (N := some 97) #[true, true, true, true, true, true, true, true, true, true, true, true, true, true, true, true, true, false] rfl rfl (one_of HT_.out (by kernel_rfl)) (by decide) (fun K hK => ?_); refine Kd.R_append_step k94 (w0 := w) w.heap.size (by rfl) (.tmp 81) (.tmp 96) 88 94 (.agg #[(.int .u8 0), (.bool false)]) 2 rfl Tryz.underlying88 info94 rfl (by decide) (by omega) u4 x4_1 (⟨(wrap64 ((wrap64 (16 * t558)) + t559)) % 256, false⟩ : S94) [.int .u8 ((wrap64 ((wrap64 (16 * t558)) + t559)) % 256), .bool false] (fun _ => True) (fun _ => False) rfl rfl ?aP (fun _ hk => hk.elim) ?aF ?aO ?aB ?aS ?aL ?_; (case aP => exact k94_mkM _ _ _ (⟨(wrap64 ((wrap64 (16 * t558)) + t559)) % 256, false⟩ : S94)); (case aB => exact ap1); (case aF => exact (fun _ _ => trivial)); (case aO => exact (apAR HO_4.out)); (case aS => exact (below_size ap1)); (case aL => have := LMc49.out; omega); intro v561 w51 ho hb hg hat; rw [← Ny560.out] at ho; have n0_ := am (hb); have n1_ := am (ho); clear HB; clear HO_4; have HB := n0_; have HO562 := n1_; clear n0_ n1_; clear ho hb hg hat; refine hK.out _ _ trivial (fun hHeld => ?_); clear hK K; refine norm_ (a' := ?_) ?_ ?_; rotate_left
            ·show Act.put _ (some 97) _ = _; simp only [Act.put, List.setIfInBounds_toArray, List.set_cons_zero, List.set_cons_succ, i64_w, i32_w]; rfl
            refine pure_ (i := 17) (N := some 4) (v := ?_) (a' := ?_) #[true, true, true, true, true, true, true, true, true, true, true, true, true, true, true, true, true, true] rfl rfl (any_of HT_.out (by kernel_rfl)) (fun _ _ _ h => h) (Or.inl ⟨by rfl, ?_⟩) ?_ ?_; rotate_left
            ·intro w'; go_simp; with_reducible rfl
            rotate_left
            ·simp only [Act.put, List.setIfInBounds_toArray, List.set_cons_zero, List.set_cons_succ, i64_w, i32_w]; rfl
            refine done_ (done_of HT_.out (by kernel_rfl)) ?_; (try go_wp2); go_roundg kj24; (case measure => have := HK1.out; have := HJ7.out; have := HJ24.out; omega); case rel => exact ⟨(y560), (wrap64 ((ji44) + 1)), (by first | rfl | (simp; done) | (simp only [← hji44] <;> (first | rfl | simp)) | (simp [*]; done)), H', ⟨by have := HK1.out; have := HJ7.out; have := HJ24.out; omega⟩, ⟨apAR HO562.out⟩, ⟨ap1⟩⟩
           ·rw [if_neg c49] at H; exact absurd H (by simp)
    ·intro c7 c7b0 c7b1 H; by_cases c53 : x4_1.length < 70368744177664
     ·rw [if_pos c53] at H; have LMc53 := am c53; clear c53; obtain ⟨y549, hy549⟩ : ∃ y_ : List (S94), y_ = (x4_1 ++ [(⟨bt a0 x5_1, true⟩ : S94)]) := ⟨_, rfl⟩; replace H : (R15Signs.l0 k1 a0 y549 (wrap64 (x5_1 + 1))) = some (r1, r2) := apY hy549 H; have Ny549 := am hy549; clear hy549; have H' := am H; clear H; have p6 : 0 ≤ (x5_1 : Int) := apD; have q6 : x5_1 < (a0.size : Int) := apD; have hx6 := bt_at a0 x5_1; replace p6 := eq_true p6; replace q6 := eq_true q6; have p52 : 0 ≤ (x5_1 : Int) := apD; have q52 : x5_1 < (a0.size : Int) := apD; have hx52 := bt_at a0 x5_1; replace p52 := eq_true p52; replace q52 := eq_true q52; go_wp2_with (first | ((with_reducible refine gate_builtin (b := .append) (xs := #[.tmp 17, .tmp 22]) rfl ?_); at_builtin; refine Kd.R_append k94 (w0 := w) w.heap.size rfl (.tmp 17) (.tmp 22) 88 94 (.agg #[(.int .u8 0), (.bool false)]) 2 rfl Tryz.underlying88 info94 rfl (by decide) (by omega) u4 x4_1 (⟨bt a0 x5_1, true⟩ : S94) [.int .u8 (bt a0 x5_1), .bool true] (fun _ => True) (fun _ => False) rfl rfl ?aP (fun _ hk => hk.elim) ?aF ?aO ?aB ?aS ?aL ?_; (case aP => exact k94_mkM _ _ _ (⟨bt a0 x5_1, true⟩ : S94)); (case aB => exact ap1); (case aF => exact (fun _ _ => trivial)); (case aO => exact (apAR HO_4.out)); (case aS => exact (below_size ap1)); (case aL => have := LMc53.out; omega); intro v550 w54 ho hb hg hat; rw [← Ny549.out] at ho; have HO551 := am (ho); replace HB := am (hb); clear ho hb hg hat)); go_roundg k1; (case measure => have := HK1.out; omega); case rel => exact ⟨(y549), (wrap64 (x5_1 + 1)), ap2, H', ⟨by have := HK1.out; omega⟩, ⟨apAR HO551.out⟩, ⟨ap1⟩⟩
     ·rw [if_neg c53] at H; exact absurd H (by simp)
   ·intro c4b0 H; simp only [Option.some.injEq, Prod.mk.injEq] at H; obtain ⟨rfl, rfl⟩ := H; go_wp2; go_ret2; exact ⟨_, ap9, apAR HO_4.out, ap1⟩
end Go.Proofs.YtpklcnpmppaaoaaGreatDoor.Print
namespace Go.Proofs.YtpklcnpmppaaoaaGreatDoor.Print
open Go.RowKit Go.Proofs.YtpklcnpmppaaoaaGreatDoorW.PrintWords Go.Proofs.YtpklcnpmppaaoaaGreatDoorW.PrintLast Go.Proofs.YtpklcnpmppaaoaaGreatDoorW.PrintMore Go.Proofs.YtpklcnpmppaaoaaGreatDoor.Pure
set_option linter.unusedVariables false
set_option linter.unusedSimpArgs false
abbrev SgS := S94
def mkS (x : Sg) : SgS := ⟨(x.1.toNat : Int), x.2⟩
def mkSs (l : List Sg) : List SgS := l.map mkS
theorem mkSs_snoc (l : List Sg) (x : Sg) : mkSs l ++ [mkS x] = mkSs (l ++ [x]) := by simp [mkSs]
theorem mkSs_len (l : List Sg) : (mkSs l).length = l.length := by simp [mkSs]
set_option maxRecDepth 100000 in
theorem special_all : ∀ n : Nat, n < 256 → R15Special.f (n : Int) = some (special (UInt8.ofNat n)) := by decide +kernel
theorem special_is (c : UInt8) : R15Special.f (c.toNat : Int) = some (special c) := by
 have := special_all c.toNat c.toNat_lt; rwa [ofNat_toNat8] at this
end Go.Proofs.YtpklcnpmppaaoaaGreatDoor.Print
