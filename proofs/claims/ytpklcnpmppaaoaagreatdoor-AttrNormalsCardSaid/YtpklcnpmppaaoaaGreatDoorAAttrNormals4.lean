-- laid together by pack.py (a program of this session)
import Derived.Test.YtpklcnpmppaaoaaGreatDoorAAttrNormals3
namespace Go.Proofs.YtpklcnpmppaaoaaGreatDoor.Print
open Go.RowKit Go.Proofs.YtpklcnpmppaaoaaGreatDoorW.PrintWords Go.Proofs.YtpklcnpmppaaoaaGreatDoorW.PrintLast Go.Proofs.YtpklcnpmppaaoaaGreatDoorW.PrintMore
attribute [local go_sem] max2_int min2_int max_two min_two max_three min_three max_four min_four
set_option linter.unusedVariables false
set_option linter.unusedSimpArgs false
set_option maxHeartbeats 8000000 in
set_option maxRecDepth 100000 in
theorem dn_Keys.calls (k : Nat) (A0 : Option Addr) (c0 : Nat) (l0 : List (List (S96))) (r1 : List ByteArray) (r2 : Int) (w : World) (hr0 : Kd.C (Kd.slice 96 k96) w A0 l0.length l0) (hc0 : l0.length ≤ c0) (hG : Gw w) (h : dn_Keys.f k l0 = some (r1, r2)) :
  Calls Tryz.prog 70 #[.slice A0 l0.length c0] w fun e w' => ∃ v0_ : Value, e = .returned (.tuple #[v0_, .int .i64 r2]) ∧ Kd.R Kd.string 9 w' w.heap.size (fun _ => True) v0_ r1 ∧ Below w.heap.size w w' := by
 have HR0 := am hr0
 have HC0 := am hc0
 clear hr0 hc0
 have HB := am (Below.refl w.heap.size w)
 have HG := am hG
 clear hG
 have H : ((dn_Right.f k l0).bind fun t346 => (if t346 = true then (dn_Keys.l0 k l0 ([] : List ByteArray) (l0.length : Int) 0) else (some (([] : List ByteArray), 4)))) = some (r1, r2) := h
 clear h
 replace H := Option.bind_eq_some_iff.mp H
 obtain ⟨t346, A20, H⟩ := H
 replace H : (if t346 = true then (dn_Keys.l0 k l0 ([] : List ByteArray) (l0.length : Int) 0) else (some (([] : List ByteArray), 4))) = some (r1, r2) := H
 have A2 := am A20
 clear A20
 revert H
 refine spb ?_ ?_
 ·rintro rfl H; have H' := am H; clear H; go_enter Tryz.func70, Tryz.ntmps70; go_wp2_with (first | ((with_reducible refine gate_callee (f := 99) rfl ?_); refine goesL_ (some 7) rfl rfl Tryz.func99 (by kernel_rfl) rfl #[.slice A0 l0.length c0] rfl ap3 ?_; (with_reducible refine (dn_Right.calls k _ _ l0 true _ ?side1 ?side2 ?side3 A2.out).mono ?_); (case side1 => repeat (first | exact HR0.out | (with_reducible refine Kd.C_alloc ?_ _) | (with_reducible refine Kd.C_drewN ?_ _) | (with_reducible refine Kd.C_drew ?_))); (case side2 => exact HC0.out); (case side3 => exact ap6); rintro e w4 ⟨rfl, hb⟩; refine ⟨_, rfl, ?_⟩; replace HB := am (below_step ap1 hb))); go_loopg [4, 11] k (fun kq v4 v11 w' => ∃ (x4_1 : List ByteArray) (x11_1 : Int), v11 = .int .i64 x11_1 ∧ Aside0 (dn_Keys.l0 kq l0 x4_1 (l0.length : Int) x11_1 = some (r1, r2)) ∧ Aside0 (kq ≤ k) ∧ Aside0 (Kd.R Kd.string 9 w' w.heap.size (fun _ => True) v4 x4_1) ∧ Aside0 (Below w.heap.size w w')); (case atStart => exact ⟨(([] : List ByteArray)), (0), ap2, H', ⟨Nat.le_refl _⟩, ⟨by first | exact Kd.R_nil _ _ _ _ _ | exact Kd.N_nil _ _ _ _ _ | exact Kd.V_nil _ _ _ _ _ | exact Kd.Q_nil _ _ _ _ _ | exact Kd.S_nil _ _ _ _ _⟩, ⟨ap1⟩⟩); case round =>
   clear H'; (try clear c3); obtain ⟨x4_1, x11_1, rfl, HA, HK1, HO_4, HB⟩ := hrel; cases gk with
   | zero => exact absurd HA.out (by simp [dn_Keys.l0])
   | succ k1 =>
    have H := HA.out; clear HA; simp only [dn_Keys.l0] at H; revert H; refine spd00 ?_ ?_
    ·intro c5b0 H; obtain ⟨ji6, hji6⟩ : ∃ j_ : Int, (wrap64 ((wrap64 ((l0.length : Int) - 1)) - x11_1)) = j_ := ⟨_, rfl⟩; replace H : (if 0 ≤ (ji6) then (if (ji6) < (l0.length : Int) then ((dn_key.f k1 (rd_L8 l0 (ji6))).bind fun t348 => (if x4_1.length < 8796093022208 then (dn_Keys.l0 k1 l0 (x4_1 ++ [t348]) (l0.length : Int) (wrap64 (x11_1 + 1))) else (none))) else (none)) else (none)) = some (r1, r2) := by first | (rw [hji6] at H; exact H) | (simp only [hji6] at H ⊢; exact H)
     have hji6w : (IntKind.i64.wrap ((wrap64 ((l0.length : Int) - 1)) - x11_1)) = ji6 := (i64_w _).trans hji6; revert H; refine spn0 ?_; intro c7b0 H; revert H; refine spn0 ?_; intro c8b0 H; replace H := Option.bind_eq_some_iff.mp H; obtain ⟨t348, A90, H⟩ := H; replace H : (if x4_1.length < 8796093022208 then (dn_Keys.l0 k1 l0 (x4_1 ++ [t348]) (l0.length : Int) (wrap64 (x11_1 + 1))) else (none)) = some (r1, r2) := H; have A9 := am A90; clear A90; by_cases c10 : x4_1.length < 8796093022208
     ·rw [if_pos c10] at H; have LMc10 := am c10; clear c10; obtain ⟨y349, hy349⟩ : ∃ y_ : List ByteArray, y_ = (x4_1 ++ [t348]) := ⟨_, rfl⟩; replace H : (dn_Keys.l0 k1 l0 y349 (l0.length : Int) (wrap64 (x11_1 + 1))) = some (r1, r2) := apY hy349 H; have Ny349 := am hy349; clear hy349; have H' := am H; clear H; have p347 : 0 ≤ ((ji6) : Int) := apD; have q347 : (ji6) < (l0.length : Int) := apD; obtain ⟨ad347, A347_0, c347_0, e347, hx347_0, hl347_0, hi347_0⟩ := at_L8 HR0.out (ji6) p347 q347; cases e347; replace hx347_0 := (HB.out.cell (World.block_lt_of_cell? w _ hx347_0)).trans hx347_0; have HR347_0 := am hi347_0; have HC347_0 := am hl347_0; clear hi347_0 hl347_0; replace p347 := eq_true p347; replace q347 := eq_true q347; go_wp2_with (first | ((with_reducible refine gate_callee (f := 100) rfl ?_); refine goesL_ (some 23) rfl rfl Tryz.func100 (by kernel_rfl) rfl #[.slice A347_0 (rd_L8 l0 (ji6)).length c347_0] rfl (by (try simp only [List.map_toArray, List.map_cons, List.map_nil]); first | done | (simp only [hji6]; rfl) | rfl | (simp only [List.length_drop, List.length_take]; rfl)) ?_; (with_reducible refine (dn_key.calls k1 _ _ (rd_L8 l0 (ji6)) t348 _ ?side1 ?side2 ?side3 A9.out).mono ?_); (case side1 => repeat (first | exact (Kd.C_below HR347_0.out HB.out) | (with_reducible refine Kd.C_alloc ?_ _) | (with_reducible refine Kd.C_drewN ?_ _) | (with_reducible refine Kd.C_drew ?_))); (case side2 => exact HC347_0.out); (case side3 => exact ap6); rintro e w11 ⟨rfl, hb⟩; refine ⟨_, rfl, ?_⟩; replace HO_4 := am (Kd.R_below (apAR HO_4.out) hb); replace HB := am (below_step ap1 hb)) | ((with_reducible refine gate_builtin (b := .append) (xs := #[.tmp 14, .tmp 24]) rfl ?_); at_builtin; refine Kd.R_append Kd.string (w0 := w) w.heap.size rfl (.tmp 14) (.tmp 24) 31 9 (.string ⟨#[]⟩) 16 rfl Tryz.underlying31 info9 rfl (by decide) (by omega) u4 x4_1 t348 [.string t348] (fun _ => True) (fun _ => False) rfl rfl ?aP (fun _ hk => hk.elim) ?aF ?aO ?aB ?aS ?aL ?_; (case aP => exact rfl); (case aB => exact ap1); (case aF => exact (fun _ _ => trivial)); (case aO => exact (apAR HO_4.out)); (case aS => exact (below_size ap1)); (case aL => have := LMc10.out; omega); intro v350 w12 ho hb hg hat; rw [← Ny349.out] at ho; have HO351 := am (ho); replace HB := am (hb); clear ho hb hg hat)); go_roundg k1; (case measure => have := HK1.out; omega); case rel => exact ⟨(y349), (wrap64 (x11_1 + 1)), ap2, H', ⟨by have := HK1.out; omega⟩, ⟨apAR HO351.out⟩, ⟨ap1⟩⟩
     ·rw [if_neg c10] at H; exact absurd H (by simp)
    ·intro c5b0 H; simp only [Option.some.injEq, Prod.mk.injEq] at H; obtain ⟨rfl, rfl⟩ := H; go_wp2; go_ret2; exact ⟨_, ap9, apAR HO_4.out, ap1⟩
 ·rintro rfl H; simp only [Option.some.injEq, Prod.mk.injEq] at H; obtain ⟨rfl, rfl⟩ := H; go_enter Tryz.func70, Tryz.ntmps70; go_wp2_with (first | ((with_reducible refine gate_callee (f := 99) rfl ?_); refine goesL_ (some 7) rfl rfl Tryz.func99 (by kernel_rfl) rfl #[.slice A0 l0.length c0] rfl ap3 ?_; (with_reducible refine (dn_Right.calls k _ _ l0 false _ ?side1 ?side2 ?side3 A2.out).mono ?_); (case side1 => repeat (first | exact HR0.out | (with_reducible refine Kd.C_alloc ?_ _) | (with_reducible refine Kd.C_drewN ?_ _) | (with_reducible refine Kd.C_drew ?_))); (case side2 => exact HC0.out); (case side3 => exact ap6); rintro e w13 ⟨rfl, hb⟩; refine ⟨_, rfl, ?_⟩; replace HB := am (below_step ap1 hb))); go_ret2; exact ⟨_, ap9, by first | exact Kd.R_nil _ _ _ _ _ | exact Kd.N_nil _ _ _ _ _ | exact Kd.V_nil _ _ _ _ _ | exact Kd.Q_nil _ _ _ _ _ | exact Kd.S_nil _ _ _ _ _, ap1⟩
end Go.Proofs.YtpklcnpmppaaoaaGreatDoor.Print
namespace Go.Proofs.YtpklcnpmppaaoaaGreatDoor.Print
open Go.RowKit Go.Proofs.YtpklcnpmppaaoaaGreatDoorW.PrintWords Go.Proofs.YtpklcnpmppaaoaaGreatDoorW.PrintLast Go.Proofs.YtpklcnpmppaaoaaGreatDoorW.PrintMore Go.Proofs.YtpklcnpmppaaoaaGreatDoor.Pure
set_option linter.unusedVariables false
set_option linter.unusedSimpArgs false
def readyB (s : ByteArray) : ByteArray := match readyOf true s with
 | some t => ⟨t.toArray⟩
 | none => ⟨#[]⟩
def tupB (l : List ByteArray) : ByteArray × Int :=
 if 16 < l.length then (⟨#[]⟩, 1) else if l.any (fun p => decide (4096 < p.size)) = true then (⟨#[]⟩, 5) else if 4096 < (tupOf l).length then (⟨#[]⟩, 5) else (⟨(tupOf l).toArray⟩, 0)
theorem tup_f (l : List ByteArray) : field_Tuple.f l = some (tupB l) := by
 unfold field_Tuple.f tupB; by_cases h1 : 16 < l.length
 ·rw [if_pos h1, if_pos h1]
 rw [if_neg h1, if_neg h1]; by_cases h2 : l.any (fun p => decide (4096 < p.size)) = true
 ·rw [if_pos h2, if_pos h2]
 rw [if_neg h2, if_neg h2]; by_cases h3 : 4096 < (tupOf l).length
 ·rw [if_pos h3, if_pos h3]
 ·rw [if_neg h3, if_neg h3]
theorem tupB_len (l : List ByteArray) : (tupB l).1.size ≤ 4096 := by
 unfold tupB; by_cases h1 : 16 < l.length
 ·rw [if_pos h1]; decide
 rw [if_neg h1]; by_cases h2 : l.any (fun p => decide (4096 < p.size)) = true
 ·rw [if_pos h2]; decide
 rw [if_neg h2]; by_cases h3 : 4096 < (tupOf l).length
 ·rw [if_pos h3]; decide
 ·rw [if_neg h3]; show (mkB (tupOf l)).size ≤ _; rw [mkB_size]; omega
def tupV (a : AvaS) : ByteArray := (tupB [a.f0, readyB a.f1]).1
theorem joinB_none (xs : List ByteArray) : joinB xs (⟨#[]⟩ : ByteArray) = (xs.map bl).flatten := by
 show ([] : List UInt8).intercalate (xs.map bl) = _; cases h : xs.map bl with
 | nil => rfl
 | cons w ws => rw [inter_cons, List.flatten_cons, List.flatMap_def]; simp
theorem flat_len (B : Nat) : ∀ (l : List (List UInt8)), (∀ x ∈ l, x.length ≤ B) → l.flatten.length ≤ l.length * B
 | [], _ => by simp
 | x :: l, h => by
  have ih := flat_len B l fun y hy => h y (by simp [hy])
  have := h x (by simp)
  rw [List.flatten_cons, List.length_append, List.length_cons, Nat.succ_mul]; omega
theorem sortL_mem (l : List (List UInt8)) : ∀ x, x ∈ sortL l ↔ x ∈ l := fun x => (List.mergeSort_perm l _).mem_iff
theorem sortB_size (xs : List ByteArray) (h : ∀ x ∈ xs, x.size ≤ 4096) : ∀ x ∈ (sortB xs).map bl, x.length ≤ 4096 := by
 intro x hx; unfold sortB at hx; rw [List.map_map] at hx; obtain ⟨y, hy, rfl⟩ := List.mem_map.1 hx; obtain ⟨z, hz, rfl⟩ := List.mem_map.1 ((sortL_mem _ _).1 hy); have := h z hz; rw [← bl_length] at this; simpa using this
def keyOf (l : List AvaS) : ByteArray := ⟨((sortB (l.map tupV)).map bl).flatten.toArray⟩
theorem key_join (l : List AvaS) (h : l.length ≤ 1000) : strings_Join.f (sortB (l.map tupV)) (⟨#[]⟩ : ByteArray) = some (keyOf l) := by
 have hlen : (sortB (l.map tupV)).length = l.length := by rw [sortB_len, List.length_map]
 have hB := flat_len 4096 ((sortB (l.map tupV)).map bl) (sortB_size _ fun x hx => by
  obtain ⟨a, _, rfl⟩ := List.mem_map.1 hx; exact tupB_len _)
 rw [List.length_map, hlen] at hB; have h2 : l.length * 4096 ≤ 1000 * 4096 := Nat.mul_le_mul_right _ h; unfold strings_Join.f; rw [if_pos (by omega), joinB_none, if_pos (by omega)]; rfl
theorem ready_ev' (s : ByteArray) (hs : s.size ≤ 100000) : ∃ e, Ev (fun k => prep_Ready.f k s true) (readyB s, e) := by
 have h := ready_ev s hs true; unfold readyB; cases hr : readyOf true s with
 | none => rw [hr] at h; exact ⟨_, h⟩
 | some t => rw [hr] at h; exact ⟨_, h⟩
theorem take_next {α : Type} {l : List α} {i : Nat} {x : α} {r : List α} (h : l.drop i = x :: r) : l.take (i + 1) = l.take i ++ [x] := by
 obtain ⟨g1, g0, _⟩ := getD_at (d := x) h; rw [List.take_succ_eq_append_getElem g1]; congr 2; rw [Int.toNat_natCast, List.getD_eq_getElem?_getD, List.getElem?_eq_getElem g1] at g0; simpa using g0
theorem key_loop (l : List AvaS) (hl : l.length ≤ 1000) (hs : ∀ a ∈ l, szA a) : ∀ (m i : Nat), l.length - i = m → i ≤ l.length → Ev (fun k => dn_key.l0 k ((l.take i).map tupV) l (l.length : Int) (i : Int)) (keyOf l) := by
 intro m; induction m with
 | zero =>
  intro i hm hi; rw [List.take_of_length_le (by omega)]; refine Ev.step (fun k => by rw [dn_key.l0]) ?_; exact Ev.neg (by omega) (Ev.bindc (key_join l hl) Ev.rfl')
 | succ m ih =>
  intro i hm hi; cases hr : l.drop i with
  | nil => have := List.drop_eq_nil_iff.1 hr; omega
  | cons a r =>
   obtain ⟨g1, _, g3⟩ := getD_at (d := a) hr; have g2 := rdA_at hr; have hsz := hs a (by
    have : a ∈ l.drop i := by rw [hr]; simp
    exact List.mem_of_mem_drop this)
   have hi2 := ih (i + 1) (by omega) (by omega); rw [take_next hr, List.map_append] at hi2; obtain ⟨e, he⟩ := ready_ev' a.f1 hsz.2; refine Ev.step (fun k => by rw [dn_key.l0]) ?_; rw [g2, wsucc (by omega)]; refine Ev.pos (by omega) (Ev.pos (by omega) (Ev.pos (by omega) (Ev.bind he ?_))); refine Ev.bindc (tup_f _) ?_; exact Ev.pos (by rw [List.length_map, List.length_take]; omega) hi2
theorem key_ev (l : List AvaS) (hl : l.length ≤ 1000) (hs : ∀ a ∈ l, szA a) : Ev (fun k => dn_key.f k l) (keyOf l) := by
 unfold dn_key.f; exact key_loop l hl hs _ 0 rfl (Nat.zero_le _)
def keysOf (n : List (List AvaS)) : List ByteArray := n.reverse.map keyOf
theorem rdR_get {n : List (List AvaS)} {j : Nat} (h : j < n.length) : rdR n (j : Int) = n[j] := rdR_at (r := n.drop (j + 1)) (List.drop_eq_getElem_cons h)
theorem keys_loop (n : List (List AvaS)) (hn : n.length ≤ 1000) (hs : ∀ l ∈ n, l.length ≤ 1000 ∧ ∀ a ∈ l, szA a) : ∀ (m i : Nat), n.length - i = m → i ≤ n.length → Ev (fun k => dn_Keys.l0 k n ((n.reverse.take i).map keyOf) (n.length : Int) (i : Int)) (keysOf n, 0) := by
 intro m; induction m with
 | zero =>
  intro i hm hi; rw [List.take_of_length_le (by rw [List.length_reverse]; omega)]; refine Ev.step (fun k => by rw [dn_Keys.l0]) ?_; exact Ev.neg (by omega) Ev.rfl'
 | succ m ih =>
  intro i hm hi; have hlt : i < n.length := by omega
  have hi2 := ih (i + 1) (by omega) (by omega); have hj : n.length - 1 - i < n.length := by omega
  have hx : wrap64 ((wrap64 ((n.length : Int) - 1)) - (i : Int)) = ((n.length - 1 - i : Nat) : Int) := by unfold wrap64; omega
  have hr : n.reverse.drop i = n[n.length - 1 - i] :: n.reverse.drop (i + 1) := by
   rw [List.drop_eq_getElem_cons (by rw [List.length_reverse]; exact hlt), List.getElem_reverse]
  rw [take_next hr, List.map_append] at hi2; obtain ⟨z1, z2⟩ := hs n[n.length - 1 - i] (List.getElem_mem _); refine Ev.step (fun k => by rw [dn_Keys.l0]) ?_; have hg : rd_L8 n ((n.length - 1 - i : Nat) : Int) = n[n.length - 1 - i] := rdR_get hj; rw [hx, hg, wsucc (by omega)]; refine Ev.pos (by omega) (Ev.pos (by omega) (Ev.pos (by omega) (Ev.bind (key_ev _ z1 z2) ?_))); exact Ev.pos (by rw [List.length_map, List.length_take]; omega) hi2
theorem nameOk_sz {n : List (List AvaS)} (h : nameOk n = true) : n.length ≤ 12 ∧ ∀ l ∈ n, l.length ≤ 4 := by
 unfold nameOk at h; rw [Bool.and_eq_true] at h; refine ⟨by simpa using h.1, fun l hl => ?_⟩; have := List.all_eq_true.1 h.2 l hl; unfold rdnOk at this; rw [Bool.and_eq_true] at this; have h1 := of_decide_eq_true this.1; exact h1.2
theorem keys_ev (n : List (List AvaS)) (hl : n.length ≤ 1000000) (h : szN n) : Ev (fun k => dn_Keys.f k n) (if nameOk n = true then (keysOf n, 0) else ([], 4)) := by
 unfold dn_Keys.f; refine Ev.bind (right_ev n hl h) ?_; cases hn : nameOk n with
 | false => exact Ev.neg (by simp) (by simpa using Ev.rfl')
 | true =>
  rw [if_pos rfl]; obtain ⟨h1, h2⟩ := nameOk_sz hn; exact Ev.pos rfl (keys_loop n (by omega) (fun l hl => ⟨by have := h2 l hl; omega, (h l hl).2⟩) _ 0 rfl (Nat.zero_le _))
theorem rdB_at {L : List ByteArray} {i : Nat} {x : ByteArray} {r : List ByteArray} (h : L.drop i = x :: r) : rdOf ByteArray.empty L (i : Int) = x := (rdOf_at h).2.1
theorem keysOf_len (n : List (List AvaS)) : (keysOf n).length = n.length := by unfold keysOf; simp
end Go.Proofs.YtpklcnpmppaaoaaGreatDoor.Print
namespace Go.Proofs.YtpklcnpmppaaoaaGreatDoor.Print
open Go.RowKit Go.Proofs.YtpklcnpmppaaoaaGreatDoorW.PrintWords Go.Proofs.YtpklcnpmppaaoaaGreatDoorW.PrintLast Go.Proofs.YtpklcnpmppaaoaaGreatDoorW.PrintMore
attribute [local go_sem] max2_int min2_int max_two min_two max_three min_three max_four min_four
set_option linter.unusedVariables false
set_option linter.unusedSimpArgs false
def stringslite_TrimPrefix.f (a0 : ByteArray) (a1 : ByteArray) : Option (ByteArray) := (stringslite_HasPrefix.f a0 a1).bind fun t155 => (if t155 = true then (if 0 ≤ (a1.size : Int) then (if (a1.size : Int) ≤ (a0.size : Int) then (some (a0.extract ((a1.size : Int) : Int).toNat a0.size)) else (none)) else (none)) else (some a0))
set_option maxHeartbeats 8000000 in
set_option maxRecDepth 100000 in
theorem stringslite_TrimPrefix.calls (a0 : ByteArray) (a1 : ByteArray) (r : ByteArray) (w : World) (h : stringslite_TrimPrefix.f a0 a1 = some r) :
  Calls Tryz.prog 121 #[.string a0, .string a1] w fun e w' => e = .returned (.string r) ∧ Drawn0 w w' := by
 have H : ((stringslite_HasPrefix.f a0 a1).bind fun t155 => (if t155 = true then (if 0 ≤ (a1.size : Int) then (if (a1.size : Int) ≤ (a0.size : Int) then (some (a0.extract ((a1.size : Int) : Int).toNat a0.size)) else (none)) else (none)) else (some a0))) = some r := h
 clear h
 replace H := Option.bind_eq_some_iff.mp H
 obtain ⟨t155, A30, H⟩ := H
 replace H : (if t155 = true then (if 0 ≤ (a1.size : Int) then (if (a1.size : Int) ≤ (a0.size : Int) then (some (a0.extract ((a1.size : Int) : Int).toNat a0.size)) else (none)) else (none)) else (some a0)) = some r := H
 have A3 := am A30
 clear A30
 revert H
 refine spb ?_ ?_
 ·rintro rfl H; by_cases c5 : 0 ≤ (a1.size : Int)
  ·rw [if_pos c5] at H; have c5b0 := eq_true c5; have c5b1 := decide_eq_true c5; clear c5; by_cases c6 : (a1.size : Int) ≤ (a0.size : Int)
   ·rw [if_pos c6] at H; have c6b0 := eq_true c6; have c6b1 := decide_eq_true c6; clear c6; obtain rfl := Option.some.inj H; go_enter Tryz.func121, Tryz.ntmps121; go_wp2_with (first | ((with_reducible refine gate_callee (f := 90) rfl ?_); refine goesL_ (some 7) rfl rfl Tryz.func90 (by kernel_rfl) rfl #[.string a0, .string a1] rfl ap3 ?_; (with_reducible refine (stringslite_HasPrefix.calls a0 a1 true _ A3.out).mono ?_); rintro e w' ⟨rfl, ⟨nd, rfl⟩⟩; refine ⟨_, rfl, ?_⟩)); go_ret; exact ⟨ap2, ap7⟩
   ·rw [if_neg c6] at H; exact absurd H (by simp)
  ·rw [if_neg c5] at H; exact absurd H (by simp)
 ·rintro rfl H; obtain rfl := Option.some.inj H; go_enter Tryz.func121, Tryz.ntmps121; go_wp2_with (first | ((with_reducible refine gate_callee (f := 90) rfl ?_); refine goesL_ (some 7) rfl rfl Tryz.func90 (by kernel_rfl) rfl #[.string a0, .string a1] rfl ap3 ?_; (with_reducible refine (stringslite_HasPrefix.calls a0 a1 false _ A3.out).mono ?_); rintro e w' ⟨rfl, ⟨nd, rfl⟩⟩; refine ⟨_, rfl, ?_⟩)); go_ret; exact ⟨ap2, ap7⟩
def strings_TrimPrefix.f (a0 : ByteArray) (a1 : ByteArray) : Option (ByteArray) := (stringslite_TrimPrefix.f a0 a1).bind fun t156 => (some t156)
set_option maxHeartbeats 8000000 in
set_option maxRecDepth 100000 in
theorem strings_TrimPrefix.calls (a0 : ByteArray) (a1 : ByteArray) (r : ByteArray) (w : World) (h : strings_TrimPrefix.f a0 a1 = some r) :
  Calls Tryz.prog 95 #[.string a0, .string a1] w fun e w' => e = .returned (.string r) ∧ Drawn0 w w' := by
 have H : ((stringslite_TrimPrefix.f a0 a1).bind fun t156 => (some t156)) = some r := h
 clear h
 replace H := Option.bind_eq_some_iff.mp H
 obtain ⟨t156, A30, H⟩ := H
 replace H : (some t156) = some r := H
 have A3 := am A30
 clear A30
 obtain rfl := Option.some.inj H
 go_enter Tryz.func95, Tryz.ntmps95
 go_wp2_with (first | ((with_reducible refine gate_callee (f := 121) rfl ?_); refine goesL_ (some 7) rfl rfl Tryz.func121 (by kernel_rfl) rfl #[.string a0, .string a1] rfl ap3 ?_; (with_reducible refine (stringslite_TrimPrefix.calls a0 a1 t156 _ A3.out).mono ?_); rintro e w' ⟨rfl, ⟨nd, rfl⟩⟩; refine ⟨_, rfl, ?_⟩))
 go_ret
 exact ⟨ap2, ap7⟩
mutual
def attr_number.j0 : Nat → ByteArray → Bool → Option (Bool)
 | 0, _, _ => none
 | k + 1, x3, x22 => if x22 = true then (some false) else (attr_number.l0 k x3 (x3.size : Int) 0)
def attr_number.l0 : Nat → ByteArray → Int → Int → Option (Bool)
 | 0, _, _, _ => none
 | k + 1, x3, x24, x25 => if x25 < x24 then (if 0 ≤ x25 then (if x25 < (x3.size : Int) then (if (bt x3 x25) < 48 then (some false) else (if (bt x3 x25) > 57 then (some false) else (attr_number.l0 k x3 x24 (wrap64 (x25 + 1))))) else (none)) else (none)) else (some true)
end
def attr_number.f (k : Nat) (a0 : ByteArray) : Option (Bool) := (strings_TrimPrefix.f a0 (⟨#[45]⟩ : ByteArray)).bind fun t157 => (if t157.toList = ([] : List UInt8) then (attr_number.j0 k t157 true) else (if (t157.size : Int) > 18 then (attr_number.j0 k t157 true) else (if 0 < (t157.size : Int) then (if (bt t157 0) = 48 then (attr_number.j0 k t157 (a0.toList != ([48] : List UInt8))) else (attr_number.j0 k t157 false)) else (none))))
theorem attr_number.mono_l : ∀ k, (∀ y0 y1, LeO (attr_number.j0 k y0 y1) (attr_number.j0 (k + 1) y0 y1)) ∧ (∀ y0 y1 y2, LeO (attr_number.l0 k y0 y1 y2) (attr_number.l0 (k + 1) y0 y1 y2))
 | 0 => ⟨fun _ _ r h => by simp [attr_number.j0] at h, fun _ _ _ r h => by simp [attr_number.l0] at h⟩
 | k + 1 => by
  obtain ⟨ih0, ih1⟩ := attr_number.mono_l k
  refine ⟨?_, ?_⟩
  ·
   intro y0 y1
   unfold attr_number.j0
   repeat' first
   | (with_reducible exact ih0 _ _)
   | (with_reducible exact ih1 _ _ _)
   | (with_reducible exact LeO.refl _)
   | (with_reducible exact LeO.none _)
   | (with_reducible refine LeO.ite ?_ ?_)
   | (with_reducible refine LeO.bind ?_ (fun _ => ?_))
  ·
   intro y0 y1 y2
   unfold attr_number.l0
   repeat' first
   | (with_reducible exact ih0 _ _)
   | (with_reducible exact ih1 _ _ _)
   | (with_reducible exact LeO.refl _)
   | (with_reducible exact LeO.none _)
   | (with_reducible refine LeO.ite ?_ ?_)
   | (with_reducible refine LeO.bind ?_ (fun _ => ?_))
theorem attr_number.mono : ∀ a0 k, LeO (attr_number.f k a0) (attr_number.f (k + 1) a0) := by
 intro a0 k; obtain ⟨ih0, ih1⟩ := attr_number.mono_l k; unfold attr_number.f; repeat' first
   | (with_reducible exact ih0 _ _)
   | (with_reducible exact ih1 _ _ _)
   | (with_reducible exact LeO.refl _)
   | (with_reducible exact LeO.none _)
   | (with_reducible refine LeO.ite ?_ ?_)
   | (with_reducible refine LeO.bind ?_ (fun _ => ?_))
set_option maxHeartbeats 8000000 in
set_option maxRecDepth 100000 in
theorem attr_number.calls (k : Nat) (a0 : ByteArray) (r : Bool) (w : World) (h : attr_number.f k a0 = some r) :
  Calls Tryz.prog 68 #[.string a0] w fun e w' => e = .returned (.bool r) ∧ Drawn0 w w' := by
 have H : ((strings_TrimPrefix.f a0 (⟨#[45]⟩ : ByteArray)).bind fun t157 => (if t157.toList = ([] : List UInt8) then (attr_number.j0 k t157 true) else (if (t157.size : Int) > 18 then (attr_number.j0 k t157 true) else (if 0 < (t157.size : Int) then (if (bt t157 0) = 48 then (attr_number.j0 k t157 (a0.toList != ([48] : List UInt8))) else (attr_number.j0 k t157 false)) else (none))))) = some r := h
 clear h
 replace H := Option.bind_eq_some_iff.mp H
 obtain ⟨t157, A20, H⟩ := H
 replace H : (if t157.toList = ([] : List UInt8) then (attr_number.j0 k t157 true) else (if (t157.size : Int) > 18 then (attr_number.j0 k t157 true) else (if 0 < (t157.size : Int) then (if (bt t157 0) = 48 then (attr_number.j0 k t157 (a0.toList != ([48] : List UInt8))) else (attr_number.j0 k t157 false)) else (none)))) = some r := H
 have A2 := am A20
 clear A20
 have HC3 := am H
 clear H
 go_enter Tryz.func68, Tryz.ntmps68
 go_upto_region 2 with (first | ((with_reducible refine gate_callee (f := 95) rfl ?_); refine goesL_ (some 6) rfl rfl Tryz.func95 (by kernel_rfl) rfl #[.string a0, .string (⟨#[45]⟩ : ByteArray)] rfl ap3 ?_; (with_reducible refine (strings_TrimPrefix.calls a0 (⟨#[45]⟩ : ByteArray) t157 _ A2.out).mono ?_); rintro e w' ⟨rfl, ⟨nd, rfl⟩⟩; refine ⟨_, rfl, ?_⟩))
 (try simp only [Act.put, List.setIfInBounds_toArray, List.set_cons_zero, List.set_cons_succ])
 go_cut [22] (fun v22 wc => ∃ (kq : Nat) (x22_2 : Bool), v22 = .bool x22_2 ∧ Aside0 (attr_number.j0 kq t157 x22_2 = some r) ∧ Aside0 (kq ≤ k) ∧ Drawn0 w wc)
 case first =>
  have H := HC3.out; clear HC3; revert H; refine spe01 ?_ ?_
  ·intro c4b0 c4b1 H; (first | rw [c4b0] | (simp only [i64_w, i32_w]; rw [c4b0]) | skip); have H' := am H; clear H; go_wp2; (first | go_meet | (simp only [c4b0] at *; go_meet)); case rel => exact ⟨_, (true), ap2, H', ⟨apN⟩, ap7⟩
  ·intro c4 c4b0 c4b1 H; (first | rw [c4b0] | (simp only [i64_w, i32_w]; rw [c4b0]) | skip); revert H; refine spd11 ?_ ?_
   ·intro c5 c5b0 H; have c5b1 : decide (18 < t157.size) = true := decide_eq_true (by omega); clear c5; have H' := am H; clear H; go_wp2; (first | go_meet | (simp only [c4b0] at *; go_meet) | (simp only [c4b0] at *; go_meet)); case rel => exact ⟨_, (true), ap2, H', ⟨apN⟩, ap7⟩
   ·intro c5 c5b0 H; have c5b1 : decide (18 < t157.size) = false := decide_eq_false (by omega); clear c5; revert H; refine spn1 ?_; intro c6 c6b0 H; have c6b1 : decide (0 < t157.size) = true := decide_eq_true (by omega); clear c6; revert H; refine spe01 ?_ ?_
    ·intro c8b0 c8b1 H; have H' := am H; clear H; have p7 : 0 ≤ (0 : Int) := (by omega); have q7 : 0 < t157.size := (by have : (0 : Int) < (t157.size : Int) := apD; omega); have hx7 : ∀ h : 0 < t157.size, ((t157[0]'h).toNat : Int) = bt t157 0 := bt_at t157 0; clear p7; have qi7 : (0 < (t157.size : Int)) = True := eq_true (apD); replace q7 := eq_true q7; go_wp2; (first | go_meet | (simp only [c8b0] at *; go_meet) | (simp only [c4b0] at *; go_meet) | (simp only [c4b0] at *; go_meet)); case rel => exact ⟨_, ((a0.toList != ([48] : List UInt8))), ap2, H', ⟨apN⟩, ap7⟩
    ·intro c8 c8b0 c8b1 H; have H' := am H; clear H; have p7 : 0 ≤ (0 : Int) := (by omega); have q7 : 0 < t157.size := (by have : (0 : Int) < (t157.size : Int) := apD; omega); have hx7 : ∀ h : 0 < t157.size, ((t157[0]'h).toNat : Int) = bt t157 0 := bt_at t157 0; clear p7; have qi7 : (0 < (t157.size : Int)) = True := eq_true (apD); replace q7 := eq_true q7; go_wp2; (first | go_meet | (simp only [c8b0] at *; go_meet) | (simp only [c8b0] at *; go_meet) | (simp only [c4b0] at *; go_meet)); case rel => exact ⟨_, (false), ap2, H', ⟨apN⟩, ap7⟩
 case rest =>
  clear HC3; obtain ⟨kq, x22_2, rfl, HA, HJ2, ⟨mc2, rfl⟩⟩ := hcut; cases kq with
  | zero => exact absurd HA.out (by simp [attr_number.j0])
  | succ kj2 =>
   have H := HA.out; clear HA; simp only [attr_number.j0] at H; revert H; refine spb ?_ ?_
   ·rintro rfl H; obtain rfl := Option.some.inj H; go_wp2; go_ret; exact ⟨ap2, ap7⟩
   ·rintro rfl H; have H' := am H; clear H; go_wp2; go_loopg [25] kj2 (fun kq v25 w' => ∃ (x25_2 : Int), v25 = .int .i64 x25_2 ∧ Aside0 (attr_number.l0 kq t157 (t157.size : Int) x25_2 = some r) ∧ Aside0 (kq ≤ kj2) ∧ Drawn0 w w'); (case atStart => exact ⟨(0), ap2, H', ⟨Nat.le_refl _⟩, ap7⟩); case round =>
     clear H'; (try clear c9); obtain ⟨x25_2, rfl, HA, HK2, ⟨m2, rfl⟩⟩ := hrel; cases gk with
     | zero => exact absurd HA.out (by simp [attr_number.l0])
     | succ k2 =>
      have H := HA.out; clear HA; simp only [attr_number.l0] at H; revert H; refine spd00 ?_ ?_
      ·intro c10b0 H; revert H; refine spn0 ?_; intro c11b0 H; revert H; refine spn0 ?_; intro c12b0 H; revert H; refine spd00 ?_ ?_
       ·intro c14b0 H; obtain rfl := Option.some.inj H; have p13 : 0 ≤ (x25_2 : Int) := apD; have q13 : x25_2 < (t157.size : Int) := apD; have hx13 := bt_at t157 x25_2; replace p13 := eq_true p13; replace q13 := eq_true q13; go_wp2; go_ret; exact ⟨ap2, ap7⟩
       ·intro c14b0 H; revert H; refine spd00 ?_ ?_
        ·intro c16b0 H; obtain rfl := Option.some.inj H; have p13 : 0 ≤ (x25_2 : Int) := apD; have q13 : x25_2 < (t157.size : Int) := apD; have hx13 := bt_at t157 x25_2; replace p13 := eq_true p13; replace q13 := eq_true q13; have p15 : 0 ≤ (x25_2 : Int) := apD; have q15 : x25_2 < (t157.size : Int) := apD; have hx15 := bt_at t157 x25_2; replace p15 := eq_true p15; replace q15 := eq_true q15; go_wp2; go_ret; exact ⟨ap2, ap7⟩
        ·intro c16b0 H; have H' := am H; clear H; have p13 : 0 ≤ (x25_2 : Int) := apD; have q13 : x25_2 < (t157.size : Int) := apD; have hx13 := bt_at t157 x25_2; replace p13 := eq_true p13; replace q13 := eq_true q13; have p15 : 0 ≤ (x25_2 : Int) := apD; have q15 : x25_2 < (t157.size : Int) := apD; have hx15 := bt_at t157 x25_2; replace p15 := eq_true p15; replace q15 := eq_true q15; go_wp2; go_roundg k2; (case measure => have := HJ2.out; have := HK2.out; omega); case rel => exact ⟨(wrap64 (x25_2 + 1)), ap2, H', ⟨by have := HJ2.out; have := HK2.out; omega⟩, ap7⟩
      ·intro c10b0 H; obtain rfl := Option.some.inj H; go_wp2; go_ret; exact ⟨ap2, ap7⟩
def prep_Phone.f (k : Nat) (a0 : ByteArray) : Option (ByteArray × Int) := (prep_Ready.f k a0 true).bind fun bt151 => (if bt151.2 = 0 then ((strings_ReplaceAll.f bt151.1 (⟨#[32]⟩ : ByteArray) (⟨#[]⟩ : ByteArray)).bind fun t153 => ((strings_ReplaceAll.f t153 (⟨#[45]⟩ : ByteArray) (⟨#[]⟩ : ByteArray)).bind fun t154 => (some (t154, 0)))) else (some ((⟨#[]⟩ : ByteArray), bt151.2)))
theorem prep_Phone.mono : ∀ a0 k, LeO (prep_Phone.f k a0) (prep_Phone.f (k + 1) a0) := by
 intro a0 k; unfold prep_Phone.f; repeat' first
   | (with_reducible exact prep_Ready.mono _ _ _)
   | (with_reducible exact LeO.refl _)
   | (with_reducible exact LeO.none _)
   | (with_reducible refine LeO.ite ?_ ?_)
   | (with_reducible refine LeO.bind ?_ (fun _ => ?_))
set_option maxHeartbeats 8000000 in
set_option maxRecDepth 100000 in
theorem prep_Phone.calls (k : Nat) (a0 : ByteArray) (r1 : ByteArray) (r2 : Int) (w : World) (hG : Gw w) (h : prep_Phone.f k a0 = some (r1, r2)) :
  Calls Tryz.prog 56 #[.string a0] w fun e w' => e = .returned (.tuple #[.string r1, .int .i64 r2]) ∧ Below w.heap.size w w' := by
 have HB := am (Below.refl w.heap.size w)
 have HG := am hG
 clear hG
 have H : ((prep_Ready.f k a0 true).bind fun bt151 => (if bt151.2 = 0 then ((strings_ReplaceAll.f bt151.1 (⟨#[32]⟩ : ByteArray) (⟨#[]⟩ : ByteArray)).bind fun t153 => ((strings_ReplaceAll.f t153 (⟨#[45]⟩ : ByteArray) (⟨#[]⟩ : ByteArray)).bind fun t154 => (some (t154, 0)))) else (some ((⟨#[]⟩ : ByteArray), bt151.2)))) = some (r1, r2) := h
 clear h
 replace H := Option.bind_eq_some_iff.mp H
 obtain ⟨⟨t151, t152⟩, A20, H⟩ := H
 replace H : (if t152 = 0 then ((strings_ReplaceAll.f t151 (⟨#[32]⟩ : ByteArray) (⟨#[]⟩ : ByteArray)).bind fun t153 => ((strings_ReplaceAll.f t153 (⟨#[45]⟩ : ByteArray) (⟨#[]⟩ : ByteArray)).bind fun t154 => (some (t154, 0)))) else (some ((⟨#[]⟩ : ByteArray), t152))) = some (r1, r2) := H
 have A2 := am A20
 clear A20
 revert H
 refine spe01 ?_ ?_
 ·intro c3b0 c3b1 H; replace H := Option.bind_eq_some_iff.mp H; obtain ⟨t153, A40, H⟩ := H; replace H : ((strings_ReplaceAll.f t153 (⟨#[45]⟩ : ByteArray) (⟨#[]⟩ : ByteArray)).bind fun t154 => (some (t154, 0))) = some (r1, r2) := H; have A4 := am A40; clear A40; replace H := Option.bind_eq_some_iff.mp H; obtain ⟨t154, A50, H⟩ := H; replace H : (some (t154, 0)) = some (r1, r2) := H; have A5 := am A50; clear A50; simp only [Option.some.injEq, Prod.mk.injEq] at H; obtain ⟨rfl, rfl⟩ := H; go_enter Tryz.func56, Tryz.ntmps56; go_wp2_with (first | ((with_reducible refine gate_callee (f := 67) rfl ?_); refine goesL_ (some 8) rfl rfl Tryz.func67 (by kernel_rfl) rfl #[.string a0, .bool true] rfl ap3 ?_; (with_reducible refine (prep_Ready.calls k a0 true t151 t152 _ ?side1 A2.out).mono ?_); (case side1 => exact ap6); rintro e w6 ⟨rfl, hb⟩; refine ⟨_, rfl, ?_⟩; replace HB := am (below_step ap1 hb)) | ((with_reducible refine gate_callee (f := 83) rfl ?_); refine goesL_ (some 15) rfl rfl Tryz.func83 (by kernel_rfl) rfl #[.string t151, .string (⟨#[32]⟩ : ByteArray), .string (⟨#[]⟩ : ByteArray)] rfl ap3 ?_; (with_reducible refine (strings_ReplaceAll.calls t151 (⟨#[32]⟩ : ByteArray) (⟨#[]⟩ : ByteArray) t153 _ ?side1 A4.out).mono ?_); (case side1 => exact ap6); rintro e w7 ⟨rfl, hb⟩; refine ⟨_, rfl, ?_⟩; replace HB := am (below_step ap1 hb)) | ((with_reducible refine gate_callee (f := 83) rfl ?_); refine goesL_ (some 16) rfl rfl Tryz.func83 (by kernel_rfl) rfl #[.string t153, .string (⟨#[45]⟩ : ByteArray), .string (⟨#[]⟩ : ByteArray)] rfl ap3 ?_; (with_reducible refine (strings_ReplaceAll.calls t153 (⟨#[45]⟩ : ByteArray) (⟨#[]⟩ : ByteArray) t154 _ ?side1 A5.out).mono ?_); (case side1 => exact ap6); rintro e w8 ⟨rfl, hb⟩; refine ⟨_, rfl, ?_⟩; replace HB := am (below_step ap1 hb))); go_ret2; exact ⟨ap9, ap1⟩
 ·intro c3 c3b0 c3b1 H; simp only [Option.some.injEq, Prod.mk.injEq] at H; obtain ⟨rfl, rfl⟩ := H; go_enter Tryz.func56, Tryz.ntmps56; go_wp2_with (first | ((with_reducible refine gate_callee (f := 67) rfl ?_); refine goesL_ (some 8) rfl rfl Tryz.func67 (by kernel_rfl) rfl #[.string a0, .bool true] rfl ap3 ?_; (with_reducible refine (prep_Ready.calls k a0 true t151 t152 _ ?side1 A2.out).mono ?_); (case side1 => exact ap6); rintro e w9 ⟨rfl, hb⟩; refine ⟨_, rfl, ?_⟩; replace HB := am (below_step ap1 hb))); go_ret2; exact ⟨ap9, ap1⟩
def attr_form.j0 : Nat → ByteArray → Int → Bool → ByteArray → Int → Bool → Option (ByteArray × Bool)
 | 0, _, _, _, _, _, _ => none
 | k + 1, x1, x15, x16, x353000, x353001, x353002 => if x16 = true then ((prep_Ready.f k x1 (x353001 == 1)).bind fun bt353 => (if bt353.2 = 0 then (some (bt353.1, (bt353.1.toList != ([] : List UInt8)))) else (some (bt353.1, false)))) else (if x15 = 7 then ((prep_Phone.f k x1).bind fun bt355 => (if bt355.2 = 0 then (some (bt355.1, (bt355.1.toList != ([] : List UInt8)))) else (some (bt355.1, false)))) else (if x15 = 4 then ((attr_number.f k x1).bind fun t357 => (some (x1, t357))) else (if x15 = 5 then (if x1.toList = ([84, 82, 85, 69] : List UInt8) then (some (x1, true)) else (some (x1, (x1.toList == ([70, 65, 76, 83, 69] : List UInt8))))) else (if x15 = 6 then ((dn_Parse.f k x1).bind fun bt358 => ((dn_Keys.f k bt358.1).bind fun bt362 => ((strings_Join.f bt362.1 (⟨#[]⟩ : ByteArray)).bind fun t366 => (if bt358.2 = 0 then (some (t366, (bt362.2 == 0))) else (some (t366, false)))))) else (some (x1, true))))))
def attr_form.f (k : Nat) (a0_0 : ByteArray) (a0_1 : Int) (a0_2 : Bool) (a1 : ByteArray) : Option (ByteArray × Bool) := if a0_1 = 1 then (attr_form.j0 k a1 a0_1 (a0_1 == 1) a0_0 a0_1 a0_2) else (attr_form.j0 k a1 a0_1 (a0_1 == 2) a0_0 a0_1 a0_2)
theorem attr_form.mono_l : ∀ k, (∀ y0 y1 y2 y3 y4 y5, LeO (attr_form.j0 k y0 y1 y2 y3 y4 y5) (attr_form.j0 (k + 1) y0 y1 y2 y3 y4 y5))
 | 0 => fun _ _ _ _ _ _ r h => by simp [attr_form.j0] at h
 | k + 1 => by
  have ih0 := attr_form.mono_l k
  ·
   intro y0 y1 y2 y3 y4 y5
   unfold attr_form.j0
   repeat' first
   | (with_reducible exact ih0 _ _ _ _ _ _)
   | (with_reducible exact attr_number.mono _ _)
   | (with_reducible exact dn_Keys.mono _ _)
   | (with_reducible exact dn_Parse.mono _ _)
   | (with_reducible exact prep_Phone.mono _ _)
   | (with_reducible exact prep_Ready.mono _ _ _)
   | (with_reducible exact LeO.refl _)
   | (with_reducible exact LeO.none _)
   | (with_reducible refine LeO.ite ?_ ?_)
   | (with_reducible refine LeO.bind ?_ (fun _ => ?_))
theorem attr_form.mono : ∀ a0 a1 a2 a3 k, LeO (attr_form.f k a0 a1 a2 a3) (attr_form.f (k + 1) a0 a1 a2 a3) := by
 intro a0 a1 a2 a3 k; have ih0 := attr_form.mono_l k; unfold attr_form.f; repeat' first
   | (with_reducible exact ih0 _ _ _ _ _ _)
   | (with_reducible exact attr_number.mono _ _)
   | (with_reducible exact dn_Keys.mono _ _)
   | (with_reducible exact dn_Parse.mono _ _)
   | (with_reducible exact prep_Phone.mono _ _)
   | (with_reducible exact prep_Ready.mono _ _ _)
   | (with_reducible exact LeO.refl _)
   | (with_reducible exact LeO.none _)
   | (with_reducible refine LeO.ite ?_ ?_)
   | (with_reducible refine LeO.bind ?_ (fun _ => ?_))
set_option maxHeartbeats 8000000 in
set_option maxRecDepth 100000 in
theorem attr_form.calls (k : Nat) (a0_0 : ByteArray) (a0_1 : Int) (a0_2 : Bool) (a1 : ByteArray) (r1 : ByteArray) (r2 : Bool) (w : World) (hG : Gw w) (h : attr_form.f k a0_0 a0_1 a0_2 a1 = some (r1, r2)) :
  Calls Tryz.prog 43 #[.agg #[.string a0_0, .int .i64 a0_1, .bool a0_2], .string a1] w fun e w' => e = .returned (.tuple #[.string r1, .bool r2]) ∧ Below w.heap.size w w' := by
 have hu23 := Tryz.underlying23
 have HB := am (Below.refl w.heap.size w)
 have HG := am hG
 clear hG
 have H : (if a0_1 = 1 then (attr_form.j0 k a1 a0_1 (a0_1 == 1) a0_0 a0_1 a0_2) else (attr_form.j0 k a1 a0_1 (a0_1 == 2) a0_0 a0_1 a0_2)) = some (r1, r2) := h
 clear h
 have HC3 := am H
 clear H
 go_enter Tryz.func43, Tryz.ntmps43
 go_upto_if 16 with (first | ((with_reducible refine gate_dst (N := 2) rfl ?_); refine box_event ?hg (N := 2) ?hd (cs := #[.string a0_0, .int .i64 a0_1, .bool a0_2]) (t := 23) ?hr ?_; (case hd => rfl); (case hg => rfl); (case hr => first | (go_simp; done) | (go_simp; rfl)); intro gb352 hg w4 hbox hb; have BK352 := am (hbox); have GW352 := am ((by rw [hg]; exact (below_size ap1) : w.heap.size ≤ gb352)); have GE352 := am ((by rw [hg]; exact (below_size ap1) : w.heap.size ≤ gb352)); replace HB := am (below_step ap1 hb); clear hb hbox hg; obtain ⟨hcz5_0, hcz5_1, hcz5_2, hfz5_0, hfz5_1, hfz5_2⟩ := bc3 BK352.out))
 (try simp only [Act.put, List.setIfInBounds_toArray, List.set_cons_zero, List.set_cons_succ])
 go_cut [16] (fun v16 wc => ∃ (kq : Nat) (x16_2 : Bool), v16 = .bool x16_2 ∧ Aside0 (attr_form.j0 kq a1 a0_1 x16_2 a0_0 a0_1 a0_2 = some (r1, r2)) ∧ Aside0 (kq ≤ k) ∧ Aside0 (wc.heap[gb352]? = some (.cells #[.string a0_0, .int .i64 a0_1, .bool a0_2] 23 (0, 0))) ∧ Aside0 (Below w.heap.size w wc))
 case first =>
  have H := HC3.out; clear HC3; revert H; refine spe01 ?_ ?_
  ·intro c6b0 c6b1 H; (first | rw [c6b0] | (simp only [i64_w, i32_w]; rw [c6b0]) | skip); have H' := am H; clear H; go_wp2; (first | go_meet | (simp only [c6b0] at *; go_meet)); case rel => exact ⟨_, ((a0_1 == 1)), ap2, H', ⟨apN⟩, ⟨apB BK352.out⟩, ⟨apG1 GE352.out⟩⟩
  ·intro c6 c6b0 c6b1 H; (first | rw [c6b0] | (simp only [i64_w, i32_w]; rw [c6b0]) | skip); have H' := am H; clear H; go_wp2; (first | go_meet | (simp only [c6b0] at *; go_meet) | (simp only [c6b0] at *; go_meet)); case rel => exact ⟨_, ((a0_1 == 2)), ap2, H', ⟨apN⟩, ⟨apB BK352.out⟩, ⟨apG1 GE352.out⟩⟩
 case rest =>
  clear HC3; (try clear hcz5_0); (try clear hcz5_1); (try clear hcz5_2); (try clear hfz5_0); (try clear hfz5_1); (try clear hfz5_2); obtain ⟨kq, x16_2, rfl, HA, HJ2, BK352, HB⟩ := hcut; cases kq with
  | zero => exact absurd HA.out (by simp [attr_form.j0])
  | succ kj2 =>
   have H := HA.out; clear HA; simp only [attr_form.j0] at H; revert H; refine spb ?_ ?_
   ·rintro rfl H; replace H := Option.bind_eq_some_iff.mp H; obtain ⟨⟨t353, t354⟩, A80, H⟩ := H; replace H : (if t354 = 0 then (some (t353, (t353.toList != ([] : List UInt8)))) else (some (t353, false))) = some (r1, r2) := H; have A8 := am A80; clear A80; revert H; refine spe01 ?_ ?_
    ·intro c9b0 c9b1 H; simp only [Option.some.injEq, Prod.mk.injEq] at H; obtain ⟨rfl, rfl⟩ := H; obtain ⟨hcz10_0, hcz10_1, hcz10_2, hfz10_0, hfz10_1, hfz10_2⟩ := bc3 BK352.out; go_wp2_with (first | ((with_reducible refine gate_callee (f := 67) rfl ?_); refine goesL_ (some 24) rfl rfl Tryz.func67 (by kernel_rfl) rfl #[.string a1, .bool (a0_1 == 1)] rfl ap3 ?_; (with_reducible refine (prep_Ready.calls kj2 a1 (a0_1 == 1) t353 t354 _ ?side1 A8.out).mono ?_); (case side1 => exact apH1 GE352.out); rintro e w11 ⟨rfl, hb⟩; refine ⟨_, rfl, ?_⟩; replace BK352 := am (blk_below (g := gb352) (o := .cells #[.string a0_0, .int .i64 a0_1, .bool a0_2] 23 (0, 0)) (apB BK352.out) hb); replace HB := am (below_step (apG GE352.out) hb))); go_ret2; exact ⟨ap9, apG1 GE352.out⟩
    ·intro c9 c9b0 c9b1 H; simp only [Option.some.injEq, Prod.mk.injEq] at H; obtain ⟨rfl, rfl⟩ := H; obtain ⟨hcz12_0, hcz12_1, hcz12_2, hfz12_0, hfz12_1, hfz12_2⟩ := bc3 BK352.out; go_wp2_with (first | ((with_reducible refine gate_callee (f := 67) rfl ?_); refine goesL_ (some 24) rfl rfl Tryz.func67 (by kernel_rfl) rfl #[.string a1, .bool (a0_1 == 1)] rfl ap3 ?_; (with_reducible refine (prep_Ready.calls kj2 a1 (a0_1 == 1) t353 t354 _ ?side1 A8.out).mono ?_); (case side1 => exact apH1 GE352.out); rintro e w13 ⟨rfl, hb⟩; refine ⟨_, rfl, ?_⟩; replace BK352 := am (blk_below (g := gb352) (o := .cells #[.string a0_0, .int .i64 a0_1, .bool a0_2] 23 (0, 0)) (apB BK352.out) hb); replace HB := am (below_step (apG GE352.out) hb))); go_ret2; exact ⟨ap9, apG1 GE352.out⟩
   ·rintro rfl H; revert H; refine spe01 ?_ ?_
    ·intro c14b0 c14b1 H; replace H := Option.bind_eq_some_iff.mp H; obtain ⟨⟨t355, t356⟩, A150, H⟩ := H; replace H : (if t356 = 0 then (some (t355, (t355.toList != ([] : List UInt8)))) else (some (t355, false))) = some (r1, r2) := H; have A15 := am A150; clear A150; revert H; refine spe01 ?_ ?_
     ·intro c16b0 c16b1 H; simp only [Option.some.injEq, Prod.mk.injEq] at H; obtain ⟨rfl, rfl⟩ := H; go_wp2_with (first | ((with_reducible refine gate_callee (f := 56) rfl ?_); refine goesL_ (some 38) rfl rfl Tryz.func56 (by kernel_rfl) rfl #[.string a1] rfl ap3 ?_; (with_reducible refine (prep_Phone.calls kj2 a1 t355 t356 _ ?side1 A15.out).mono ?_); (case side1 => exact apH1 GE352.out); rintro e w17 ⟨rfl, hb⟩; refine ⟨_, rfl, ?_⟩; replace BK352 := am (blk_below (g := gb352) (o := .cells #[.string a0_0, .int .i64 a0_1, .bool a0_2] 23 (0, 0)) (apB BK352.out) hb); replace HB := am (below_step (apG GE352.out) hb))); go_ret2; exact ⟨ap9, apG1 GE352.out⟩
     ·intro c16 c16b0 c16b1 H; simp only [Option.some.injEq, Prod.mk.injEq] at H; obtain ⟨rfl, rfl⟩ := H; go_wp2_with (first | ((with_reducible refine gate_callee (f := 56) rfl ?_); refine goesL_ (some 38) rfl rfl Tryz.func56 (by kernel_rfl) rfl #[.string a1] rfl ap3 ?_; (with_reducible refine (prep_Phone.calls kj2 a1 t355 t356 _ ?side1 A15.out).mono ?_); (case side1 => exact apH1 GE352.out); rintro e w18 ⟨rfl, hb⟩; refine ⟨_, rfl, ?_⟩; replace BK352 := am (blk_below (g := gb352) (o := .cells #[.string a0_0, .int .i64 a0_1, .bool a0_2] 23 (0, 0)) (apB BK352.out) hb); replace HB := am (below_step (apG GE352.out) hb))); go_ret2; exact ⟨ap9, apG1 GE352.out⟩
    ·intro c14 c14b0 c14b1 H; revert H; refine spe01 ?_ ?_
     ·intro c19b0 c19b1 H; replace H := Option.bind_eq_some_iff.mp H; obtain ⟨t357, A200, H⟩ := H; replace H : (some (a1, t357)) = some (r1, r2) := H; have A20 := am A200; clear A200; simp only [Option.some.injEq, Prod.mk.injEq] at H; obtain ⟨rfl, rfl⟩ := H; go_wp2_with (first | ((with_reducible refine gate_callee (f := 68) rfl ?_); refine goesL_ (some 52) rfl rfl Tryz.func68 (by kernel_rfl) rfl #[.string a1] rfl ap3 ?_; (with_reducible refine (attr_number.calls kj2 a1 t357 _ A20.out).mono ?_); rintro e w' ⟨rfl, ⟨nd, rfl⟩⟩; refine ⟨_, rfl, ?_⟩)); go_ret2; exact ⟨ap9, apG1 GE352.out⟩
     ·intro c19 c19b0 c19b1 H; revert H; refine spe01 ?_ ?_
      ·intro c21b0 c21b1 H; revert H; refine spe01 ?_ ?_
       ·intro c22b0 c22b1 H; simp only [Option.some.injEq, Prod.mk.injEq] at H; obtain ⟨rfl, rfl⟩ := H; go_wp2; go_ret2; exact ⟨ap9, apG1 GE352.out⟩
       ·intro c22 c22b0 c22b1 H; simp only [Option.some.injEq, Prod.mk.injEq] at H; obtain ⟨rfl, rfl⟩ := H; go_wp2; go_ret2; exact ⟨ap9, apG1 GE352.out⟩
      ·intro c21 c21b0 c21b1 H; revert H; refine spe01 ?_ ?_
       ·intro c23b0 c23b1 H; replace H := Option.bind_eq_some_iff.mp H; obtain ⟨⟨t358, t359⟩, A240, H⟩ := H; replace H : ((dn_Keys.f kj2 t358).bind fun bt362 => ((strings_Join.f bt362.1 (⟨#[]⟩ : ByteArray)).bind fun t366 => (if t359 = 0 then (some (t366, (bt362.2 == 0))) else (some (t366, false))))) = some (r1, r2) := H; have A24 := am A240; clear A240; replace H := Option.bind_eq_some_iff.mp H; obtain ⟨⟨t362, t363⟩, A250, H⟩ := H; replace H : ((strings_Join.f t362 (⟨#[]⟩ : ByteArray)).bind fun t366 => (if t359 = 0 then (some (t366, (t363 == 0))) else (some (t366, false)))) = some (r1, r2) := H; have A25 := am A250; clear A250; replace H := Option.bind_eq_some_iff.mp H; obtain ⟨t366, A260, H⟩ := H; replace H : (if t359 = 0 then (some (t366, (t363 == 0))) else (some (t366, false))) = some (r1, r2) := H; have A26 := am A260; clear A260; revert H; refine spe01 ?_ ?_
        ·intro c27b0 c27b1 H; simp only [Option.some.injEq, Prod.mk.injEq] at H; obtain ⟨rfl, rfl⟩ := H; go_wp2_with (first | ((with_reducible refine gate_callee (f := 69) rfl ?_); refine goesL_ (some 66) rfl rfl Tryz.func69 (by kernel_rfl) rfl #[.string a1] rfl ap3 ?_; (with_reducible refine (dn_Parse.calls kj2 a1 t358 t359 _ ?side1 A24.out).mono ?_); (case side1 => exact apH1 GE352.out); rintro e w28 ⟨v360, rfl, ho0, hb⟩; refine ⟨_, rfl, ?_⟩; have HO361 := am (Kd.S_lower ho0 (below_size (apG GE352.out))); replace BK352 := am (blk_below (g := gb352) (o := .cells #[.string a0_0, .int .i64 a0_1, .bool a0_2] 23 (0, 0)) (apB BK352.out) hb); replace HB := am (below_step (apG GE352.out) hb); (try clear ho0); obtain ⟨Ao29, co29, eo29⟩ := Kd.S_slice HO361.out; subst eo29) | ((with_reducible refine gate_callee (f := 70) rfl ?_); refine goesL_ (some 71) rfl rfl Tryz.func70 (by kernel_rfl) rfl #[.slice Ao29 t358.length co29] rfl ap3 ?_; (with_reducible refine (dn_Keys.calls kj2 _ _ t358 t362 t363 _ ?side1 ?side2 ?side3 A25.out).mono ?_); (case side1 => repeat (first | exact (Kd.S_reads' HO361.out).2.2 | (with_reducible refine Kd.C_alloc ?_ _) | (with_reducible refine Kd.C_drewN ?_ _) | (with_reducible refine Kd.C_drew ?_))); (case side2 => exact (Kd.S_reads' HO361.out).2.1); (case side3 => exact apH1 GE352.out); rintro e w30 ⟨v364, rfl, ho0, hb⟩; refine ⟨_, rfl, ?_⟩; replace HO361 := am (Kd.S_below (apAS HO361.out) hb); have HO365 := am (Kd.R_lower ho0 (below_size (apG GE352.out))); replace BK352 := am (blk_below (g := gb352) (o := .cells #[.string a0_0, .int .i64 a0_1, .bool a0_2] 23 (0, 0)) (apB BK352.out) hb); replace HB := am (below_step (apG GE352.out) hb); (try clear ho0); obtain ⟨Ao31, co31, eo31⟩ := Kd.R_slice HO365.out; subst eo31) | ((with_reducible refine gate_callee (f := 71) rfl ?_); refine goesL_ (some 75) rfl rfl Tryz.func71 (by kernel_rfl) rfl #[.slice Ao31 t362.length co31, .string (⟨#[]⟩ : ByteArray)] rfl ap3 ?_; (with_reducible refine (strings_Join.calls _ _ t362 (⟨#[]⟩ : ByteArray) t366 _ ?side1 ?side2 A26.out).mono ?_); (case side1 => repeat (first | exact (Kd.R_reads' HO365.out).2.2 | (with_reducible refine Kd.C_alloc ?_ _) | (with_reducible refine Kd.C_drewN ?_ _) | (with_reducible refine Kd.C_drew ?_))); (case side2 => exact (Kd.R_reads' HO365.out).2.1); rintro e w32 ⟨rfl, hb⟩; refine ⟨_, rfl, ?_⟩; replace HO361 := am (Kd.S_below (apAS HO361.out) hb); replace HO365 := am (Kd.R_below (apAR HO365.out) hb); replace BK352 := am (blk_below (g := gb352) (o := .cells #[.string a0_0, .int .i64 a0_1, .bool a0_2] 23 (0, 0)) (apB BK352.out) hb); replace HB := am (below_step (apG GE352.out) hb))); go_ret2; exact ⟨ap9, apG1 GE352.out⟩
        ·intro c27 c27b0 c27b1 H; simp only [Option.some.injEq, Prod.mk.injEq] at H; obtain ⟨rfl, rfl⟩ := H; go_wp2_with (first | ((with_reducible refine gate_callee (f := 69) rfl ?_); refine goesL_ (some 66) rfl rfl Tryz.func69 (by kernel_rfl) rfl #[.string a1] rfl ap3 ?_; (with_reducible refine (dn_Parse.calls kj2 a1 t358 t359 _ ?side1 A24.out).mono ?_); (case side1 => exact apH1 GE352.out); rintro e w33 ⟨v360, rfl, ho0, hb⟩; refine ⟨_, rfl, ?_⟩; have HO361 := am (Kd.S_lower ho0 (below_size (apG GE352.out))); replace BK352 := am (blk_below (g := gb352) (o := .cells #[.string a0_0, .int .i64 a0_1, .bool a0_2] 23 (0, 0)) (apB BK352.out) hb); replace HB := am (below_step (apG GE352.out) hb); (try clear ho0); obtain ⟨Ao34, co34, eo34⟩ := Kd.S_slice HO361.out; subst eo34) | ((with_reducible refine gate_callee (f := 70) rfl ?_); refine goesL_ (some 71) rfl rfl Tryz.func70 (by kernel_rfl) rfl #[.slice Ao34 t358.length co34] rfl ap3 ?_; (with_reducible refine (dn_Keys.calls kj2 _ _ t358 t362 t363 _ ?side1 ?side2 ?side3 A25.out).mono ?_); (case side1 => repeat (first | exact (Kd.S_reads' HO361.out).2.2 | (with_reducible refine Kd.C_alloc ?_ _) | (with_reducible refine Kd.C_drewN ?_ _) | (with_reducible refine Kd.C_drew ?_))); (case side2 => exact (Kd.S_reads' HO361.out).2.1); (case side3 => exact apH1 GE352.out); rintro e w35 ⟨v364, rfl, ho0, hb⟩; refine ⟨_, rfl, ?_⟩; replace HO361 := am (Kd.S_below (apAS HO361.out) hb); have HO365 := am (Kd.R_lower ho0 (below_size (apG GE352.out))); replace BK352 := am (blk_below (g := gb352) (o := .cells #[.string a0_0, .int .i64 a0_1, .bool a0_2] 23 (0, 0)) (apB BK352.out) hb); replace HB := am (below_step (apG GE352.out) hb); (try clear ho0); obtain ⟨Ao36, co36, eo36⟩ := Kd.R_slice HO365.out; subst eo36) | ((with_reducible refine gate_callee (f := 71) rfl ?_); refine goesL_ (some 75) rfl rfl Tryz.func71 (by kernel_rfl) rfl #[.slice Ao36 t362.length co36, .string (⟨#[]⟩ : ByteArray)] rfl ap3 ?_; (with_reducible refine (strings_Join.calls _ _ t362 (⟨#[]⟩ : ByteArray) t366 _ ?side1 ?side2 A26.out).mono ?_); (case side1 => repeat (first | exact (Kd.R_reads' HO365.out).2.2 | (with_reducible refine Kd.C_alloc ?_ _) | (with_reducible refine Kd.C_drewN ?_ _) | (with_reducible refine Kd.C_drew ?_))); (case side2 => exact (Kd.R_reads' HO365.out).2.1); rintro e w37 ⟨rfl, hb⟩; refine ⟨_, rfl, ?_⟩; replace HO361 := am (Kd.S_below (apAS HO361.out) hb); replace HO365 := am (Kd.R_below (apAR HO365.out) hb); replace BK352 := am (blk_below (g := gb352) (o := .cells #[.string a0_0, .int .i64 a0_1, .bool a0_2] 23 (0, 0)) (apB BK352.out) hb); replace HB := am (below_step (apG GE352.out) hb))); go_ret2; exact ⟨ap9, apG1 GE352.out⟩
       ·intro c23 c23b0 c23b1 H; simp only [Option.some.injEq, Prod.mk.injEq] at H; obtain ⟨rfl, rfl⟩ := H; go_wp2; go_ret2; exact ⟨ap9, apG1 GE352.out⟩
def attr_known.f (a0_0 : ByteArray) (a0_1 : Int) (a0_2 : Bool) : Option (Bool) := if a0_1 ≥ 1 then (some (decide (a0_1 ≤ 7))) else (some false)
set_option maxHeartbeats 8000000 in
set_option maxRecDepth 100000 in
theorem attr_known.calls (a0_0 : ByteArray) (a0_1 : Int) (a0_2 : Bool) (r : Bool) (w : World) (h : attr_known.f a0_0 a0_1 a0_2 = some r) :
  Calls Tryz.prog 42 #[.agg #[.string a0_0, .int .i64 a0_1, .bool a0_2]] w fun e w' => e = .returned (.bool r) ∧ Below w.heap.size w w' := by
 have hu23 := Tryz.underlying23
 have HB := am (Below.refl w.heap.size w)
 have H : (if a0_1 ≥ 1 then (some (decide (a0_1 ≤ 7))) else (some false)) = some r := h
 clear h
 revert H
 refine spd00 ?_ ?_
 ·intro c2b0 H; obtain rfl := Option.some.inj H; go_enter Tryz.func42, Tryz.ntmps42; go_wp2_with (first | ((with_reducible refine gate_dst (N := 1) rfl ?_); refine box_event ?hg (N := 1) ?hd (cs := #[.string a0_0, .int .i64 a0_1, .bool a0_2]) (t := 23) ?hr ?_; (case hd => rfl); (case hg => rfl); (case hr => first | (go_simp; done) | (go_simp; rfl)); intro gb101 hg w3 hbox hb; have BK101 := am (hbox); have GW101 := am ((by rw [hg]; exact (below_size ap1) : w.heap.size ≤ gb101)); have GE101 := am ((by rw [hg]; exact (below_size ap1) : w.heap.size ≤ gb101)); replace HB := am (below_step ap1 hb); clear hb hbox hg; obtain ⟨hcz4_0, hcz4_1, hcz4_2, hfz4_0, hfz4_1, hfz4_2⟩ := bc3 BK101.out)); go_ret; exact ⟨ap9, apG1 GE101.out⟩
 ·intro c2b0 H; obtain rfl := Option.some.inj H; go_enter Tryz.func42, Tryz.ntmps42; go_wp2_with (first | ((with_reducible refine gate_dst (N := 1) rfl ?_); refine box_event ?hg (N := 1) ?hd (cs := #[.string a0_0, .int .i64 a0_1, .bool a0_2]) (t := 23) ?hr ?_; (case hd => rfl); (case hg => rfl); (case hr => first | (go_simp; done) | (go_simp; rfl)); intro gb101 hg w5 hbox hb; have BK101 := am (hbox); have GW101 := am ((by rw [hg]; exact (below_size ap1) : w.heap.size ≤ gb101)); have GE101 := am ((by rw [hg]; exact (below_size ap1) : w.heap.size ≤ gb101)); replace HB := am (below_step ap1 hb); clear hb hbox hg; obtain ⟨hcz6_0, hcz6_1, hcz6_2, hfz6_0, hfz6_1, hfz6_2⟩ := bc3 BK101.out)); go_ret; exact ⟨ap9, apG1 GE101.out⟩
def attr_Normal.f (k : Nat) (a0_0 : ByteArray) (a0_1 : Int) (a0_2 : Bool) (a1 : ByteArray) : Option (ByteArray × Int) := (attr_known.f a0_0 a0_1 a0_2).bind fun t368 => (if t368 = true then (if (a1.size : Int) > 1000 then (some ((⟨#[]⟩ : ByteArray), 5)) else (if a1.toList = ([] : List UInt8) then (some ((⟨#[]⟩ : ByteArray), 4)) else ((attr_form.f k a0_0 a0_1 a0_2 a1).bind fun bt369 => (if bt369.2 = true then (some (bt369.1, 0)) else (some ((⟨#[]⟩ : ByteArray), 4)))))) else (some ((⟨#[]⟩ : ByteArray), 14)))
theorem attr_Normal.mono : ∀ a0 a1 a2 a3 k, LeO (attr_Normal.f k a0 a1 a2 a3) (attr_Normal.f (k + 1) a0 a1 a2 a3) := by
 intro a0 a1 a2 a3 k; unfold attr_Normal.f; repeat' first
   | (with_reducible exact attr_form.mono _ _ _ _ _)
   | (with_reducible exact LeO.refl _)
   | (with_reducible exact LeO.none _)
   | (with_reducible refine LeO.ite ?_ ?_)
   | (with_reducible refine LeO.bind ?_ (fun _ => ?_))
set_option maxHeartbeats 8000000 in
set_option maxRecDepth 100000 in
theorem attr_Normal.calls (k : Nat) (a0_0 : ByteArray) (a0_1 : Int) (a0_2 : Bool) (a1 : ByteArray) (r1 : ByteArray) (r2 : Int) (w : World) (hG : Gw w) (h : attr_Normal.f k a0_0 a0_1 a0_2 a1 = some (r1, r2)) :
  Calls Tryz.prog 19 #[.agg #[.string a0_0, .int .i64 a0_1, .bool a0_2], .string a1] w fun e w' => e = .returned (.tuple #[.string r1, .int .i64 r2]) ∧ Below w.heap.size w w' := by
 have hu23 := Tryz.underlying23
 have HB := am (Below.refl w.heap.size w)
 have HG := am hG
 clear hG
 have H : ((attr_known.f a0_0 a0_1 a0_2).bind fun t368 => (if t368 = true then (if (a1.size : Int) > 1000 then (some ((⟨#[]⟩ : ByteArray), 5)) else (if a1.toList = ([] : List UInt8) then (some ((⟨#[]⟩ : ByteArray), 4)) else ((attr_form.f k a0_0 a0_1 a0_2 a1).bind fun bt369 => (if bt369.2 = true then (some (bt369.1, 0)) else (some ((⟨#[]⟩ : ByteArray), 4)))))) else (some ((⟨#[]⟩ : ByteArray), 14)))) = some (r1, r2) := h
 clear h
 replace H := Option.bind_eq_some_iff.mp H
 obtain ⟨t368, A30, H⟩ := H
 replace H : (if t368 = true then (if (a1.size : Int) > 1000 then (some ((⟨#[]⟩ : ByteArray), 5)) else (if a1.toList = ([] : List UInt8) then (some ((⟨#[]⟩ : ByteArray), 4)) else ((attr_form.f k a0_0 a0_1 a0_2 a1).bind fun bt369 => (if bt369.2 = true then (some (bt369.1, 0)) else (some ((⟨#[]⟩ : ByteArray), 4)))))) else (some ((⟨#[]⟩ : ByteArray), 14))) = some (r1, r2) := H
 have A3 := am A30
 clear A30
 revert H
 refine spb ?_ ?_
 ·rintro rfl H; revert H; refine spd11 ?_ ?_
  ·intro c5 c5b0 H; have c5b1 : decide (1000 < a1.size) = true := decide_eq_true (by omega); clear c5; simp only [Option.some.injEq, Prod.mk.injEq] at H; obtain ⟨rfl, rfl⟩ := H; go_enter Tryz.func19, Tryz.ntmps19; go_wp2_with (first | ((with_reducible refine gate_dst (N := 2) rfl ?_); refine box_event ?hg (N := 2) ?hd (cs := #[.string a0_0, .int .i64 a0_1, .bool a0_2]) (t := 23) ?hr ?_; (case hd => rfl); (case hg => rfl); (case hr => first | (go_simp; done) | (go_simp; rfl)); intro gb367 hg w6 hbox hb; have BK367 := am (hbox); have GW367 := am ((by rw [hg]; exact (below_size ap1) : w.heap.size ≤ gb367)); have GE367 := am ((by rw [hg]; exact (below_size ap1) : w.heap.size ≤ gb367)); replace HB := am (below_step ap1 hb); clear hb hbox hg; obtain ⟨hcz7_0, hcz7_1, hcz7_2, hfz7_0, hfz7_1, hfz7_2⟩ := bc3 BK367.out) | ((with_reducible refine gate_callee (f := 42) rfl ?_); refine goesL_ (some 10) rfl rfl Tryz.func42 (by kernel_rfl) rfl #[.agg #[.string a0_0, .int .i64 a0_1, .bool a0_2]] rfl ap3 ?_; (with_reducible refine (attr_known.calls a0_0 a0_1 a0_2 true _ A3.out).mono ?_); rintro e w8 ⟨rfl, hb⟩; refine ⟨_, rfl, ?_⟩; replace BK367 := am (blk_below (g := gb367) (o := .cells #[.string a0_0, .int .i64 a0_1, .bool a0_2] 23 (0, 0)) (apB BK367.out) hb); replace HB := am (below_step (apG GE367.out) hb))); go_ret2; exact ⟨ap9, apG1 GE367.out⟩
  ·intro c5 c5b0 H; have c5b1 : decide (1000 < a1.size) = false := decide_eq_false (by omega); clear c5; revert H; refine spe01 ?_ ?_
   ·intro c9b0 c9b1 H; simp only [Option.some.injEq, Prod.mk.injEq] at H; obtain ⟨rfl, rfl⟩ := H; go_enter Tryz.func19, Tryz.ntmps19; go_wp2_with (first | ((with_reducible refine gate_dst (N := 2) rfl ?_); refine box_event ?hg (N := 2) ?hd (cs := #[.string a0_0, .int .i64 a0_1, .bool a0_2]) (t := 23) ?hr ?_; (case hd => rfl); (case hg => rfl); (case hr => first | (go_simp; done) | (go_simp; rfl)); intro gb367 hg w10 hbox hb; have BK367 := am (hbox); have GW367 := am ((by rw [hg]; exact (below_size ap1) : w.heap.size ≤ gb367)); have GE367 := am ((by rw [hg]; exact (below_size ap1) : w.heap.size ≤ gb367)); replace HB := am (below_step ap1 hb); clear hb hbox hg; obtain ⟨hcz11_0, hcz11_1, hcz11_2, hfz11_0, hfz11_1, hfz11_2⟩ := bc3 BK367.out) | ((with_reducible refine gate_callee (f := 42) rfl ?_); refine goesL_ (some 10) rfl rfl Tryz.func42 (by kernel_rfl) rfl #[.agg #[.string a0_0, .int .i64 a0_1, .bool a0_2]] rfl ap3 ?_; (with_reducible refine (attr_known.calls a0_0 a0_1 a0_2 true _ A3.out).mono ?_); rintro e w12 ⟨rfl, hb⟩; refine ⟨_, rfl, ?_⟩; replace BK367 := am (blk_below (g := gb367) (o := .cells #[.string a0_0, .int .i64 a0_1, .bool a0_2] 23 (0, 0)) (apB BK367.out) hb); replace HB := am (below_step (apG GE367.out) hb))); go_ret2; exact ⟨ap9, apG1 GE367.out⟩
   ·intro c9 c9b0 c9b1 H; replace H := Option.bind_eq_some_iff.mp H; obtain ⟨⟨t369, t370⟩, A130, H⟩ := H; replace H : (if t370 = true then (some (t369, 0)) else (some ((⟨#[]⟩ : ByteArray), 4))) = some (r1, r2) := H; have A13 := am A130; clear A130; revert H; refine spb ?_ ?_
    ·rintro rfl H; simp only [Option.some.injEq, Prod.mk.injEq] at H; obtain ⟨rfl, rfl⟩ := H; go_enter Tryz.func19, Tryz.ntmps19; go_wp2_with (first | ((with_reducible refine gate_dst (N := 2) rfl ?_); refine box_event ?hg (N := 2) ?hd (cs := #[.string a0_0, .int .i64 a0_1, .bool a0_2]) (t := 23) ?hr ?_; (case hd => rfl); (case hg => rfl); (case hr => first | (go_simp; done) | (go_simp; rfl)); intro gb367 hg w15 hbox hb; have BK367 := am (hbox); have GW367 := am ((by rw [hg]; exact (below_size ap1) : w.heap.size ≤ gb367)); have GE367 := am ((by rw [hg]; exact (below_size ap1) : w.heap.size ≤ gb367)); replace HB := am (below_step ap1 hb); clear hb hbox hg; obtain ⟨hcz16_0, hcz16_1, hcz16_2, hfz16_0, hfz16_1, hfz16_2⟩ := bc3 BK367.out) | ((with_reducible refine gate_callee (f := 42) rfl ?_); refine goesL_ (some 10) rfl rfl Tryz.func42 (by kernel_rfl) rfl #[.agg #[.string a0_0, .int .i64 a0_1, .bool a0_2]] rfl ap3 ?_; (with_reducible refine (attr_known.calls a0_0 a0_1 a0_2 true _ A3.out).mono ?_); rintro e w17 ⟨rfl, hb⟩; refine ⟨_, rfl, ?_⟩; replace BK367 := am (blk_below (g := gb367) (o := .cells #[.string a0_0, .int .i64 a0_1, .bool a0_2] 23 (0, 0)) (apB BK367.out) hb); replace HB := am (below_step (apG GE367.out) hb); obtain ⟨hcz18_0, hcz18_1, hcz18_2, hfz18_0, hfz18_1, hfz18_2⟩ := bc3 BK367.out) | ((with_reducible refine gate_callee (f := 43) rfl ?_); refine goesL_ (some 22) rfl rfl Tryz.func43 (by kernel_rfl) rfl #[.agg #[.string a0_0, .int .i64 a0_1, .bool a0_2], .string a1] rfl ap3 ?_; (with_reducible refine (attr_form.calls k a0_0 a0_1 a0_2 a1 t369 true _ ?side1 A13.out).mono ?_); (case side1 => exact apH1 GE367.out); rintro e w19 ⟨rfl, hb⟩; refine ⟨_, rfl, ?_⟩; replace BK367 := am (blk_below (g := gb367) (o := .cells #[.string a0_0, .int .i64 a0_1, .bool a0_2] 23 (0, 0)) (apB BK367.out) hb); replace HB := am (below_step (apG GE367.out) hb))); go_ret2; exact ⟨ap9, apG1 GE367.out⟩
    ·rintro rfl H; simp only [Option.some.injEq, Prod.mk.injEq] at H; obtain ⟨rfl, rfl⟩ := H; go_enter Tryz.func19, Tryz.ntmps19; go_wp2_with (first | ((with_reducible refine gate_dst (N := 2) rfl ?_); refine box_event ?hg (N := 2) ?hd (cs := #[.string a0_0, .int .i64 a0_1, .bool a0_2]) (t := 23) ?hr ?_; (case hd => rfl); (case hg => rfl); (case hr => first | (go_simp; done) | (go_simp; rfl)); intro gb367 hg w20 hbox hb; have BK367 := am (hbox); have GW367 := am ((by rw [hg]; exact (below_size ap1) : w.heap.size ≤ gb367)); have GE367 := am ((by rw [hg]; exact (below_size ap1) : w.heap.size ≤ gb367)); replace HB := am (below_step ap1 hb); clear hb hbox hg; obtain ⟨hcz21_0, hcz21_1, hcz21_2, hfz21_0, hfz21_1, hfz21_2⟩ := bc3 BK367.out) | ((with_reducible refine gate_callee (f := 42) rfl ?_); refine goesL_ (some 10) rfl rfl Tryz.func42 (by kernel_rfl) rfl #[.agg #[.string a0_0, .int .i64 a0_1, .bool a0_2]] rfl ap3 ?_; (with_reducible refine (attr_known.calls a0_0 a0_1 a0_2 true _ A3.out).mono ?_); rintro e w22 ⟨rfl, hb⟩; refine ⟨_, rfl, ?_⟩; replace BK367 := am (blk_below (g := gb367) (o := .cells #[.string a0_0, .int .i64 a0_1, .bool a0_2] 23 (0, 0)) (apB BK367.out) hb); replace HB := am (below_step (apG GE367.out) hb); obtain ⟨hcz23_0, hcz23_1, hcz23_2, hfz23_0, hfz23_1, hfz23_2⟩ := bc3 BK367.out) | ((with_reducible refine gate_callee (f := 43) rfl ?_); refine goesL_ (some 22) rfl rfl Tryz.func43 (by kernel_rfl) rfl #[.agg #[.string a0_0, .int .i64 a0_1, .bool a0_2], .string a1] rfl ap3 ?_; (with_reducible refine (attr_form.calls k a0_0 a0_1 a0_2 a1 t369 false _ ?side1 A13.out).mono ?_); (case side1 => exact apH1 GE367.out); rintro e w24 ⟨rfl, hb⟩; refine ⟨_, rfl, ?_⟩; replace BK367 := am (blk_below (g := gb367) (o := .cells #[.string a0_0, .int .i64 a0_1, .bool a0_2] 23 (0, 0)) (apB BK367.out) hb); replace HB := am (below_step (apG GE367.out) hb))); go_ret2; exact ⟨ap9, apG1 GE367.out⟩
 ·rintro rfl H; simp only [Option.some.injEq, Prod.mk.injEq] at H; obtain ⟨rfl, rfl⟩ := H; go_enter Tryz.func19, Tryz.ntmps19; go_wp2_with (first | ((with_reducible refine gate_dst (N := 2) rfl ?_); refine box_event ?hg (N := 2) ?hd (cs := #[.string a0_0, .int .i64 a0_1, .bool a0_2]) (t := 23) ?hr ?_; (case hd => rfl); (case hg => rfl); (case hr => first | (go_simp; done) | (go_simp; rfl)); intro gb367 hg w25 hbox hb; have BK367 := am (hbox); have GW367 := am ((by rw [hg]; exact (below_size ap1) : w.heap.size ≤ gb367)); have GE367 := am ((by rw [hg]; exact (below_size ap1) : w.heap.size ≤ gb367)); replace HB := am (below_step ap1 hb); clear hb hbox hg; obtain ⟨hcz26_0, hcz26_1, hcz26_2, hfz26_0, hfz26_1, hfz26_2⟩ := bc3 BK367.out) | ((with_reducible refine gate_callee (f := 42) rfl ?_); refine goesL_ (some 10) rfl rfl Tryz.func42 (by kernel_rfl) rfl #[.agg #[.string a0_0, .int .i64 a0_1, .bool a0_2]] rfl ap3 ?_; (with_reducible refine (attr_known.calls a0_0 a0_1 a0_2 false _ A3.out).mono ?_); rintro e w27 ⟨rfl, hb⟩; refine ⟨_, rfl, ?_⟩; replace BK367 := am (blk_below (g := gb367) (o := .cells #[.string a0_0, .int .i64 a0_1, .bool a0_2] 23 (0, 0)) (apB BK367.out) hb); replace HB := am (below_step (apG GE367.out) hb))); go_ret2; exact ⟨ap9, apG1 GE367.out⟩
def R13Phone.l0 : Nat → List Int → List Int → Int → Option (ByteArray × Int)
 | 0, _, _, _ => none
 | k + 1, x4, x6, x7 => if x7 < (x4.length : Int) then (if 0 ≤ x7 then (if (rd x4 x7) = 32 then (R13Phone.l0 k x4 x6 (wrap64 (x7 + 1))) else (if (rd x4 x7) = 45 then (R13Phone.l0 k x4 x6 (wrap64 (x7 + 1))) else (if x6.length < 35184372088832 then (R13Phone.l0 k x4 (x6 ++ [rd x4 x7]) (wrap64 (x7 + 1))) else (none)))) else (none)) else ((R13Text.f k x6).bind fun t772 => (some (t772, 0)))
def R13Phone.f (k : Nat) (a0 : ByteArray) : Option (ByteArray × Int) := (R13Mapped.f k a0 true).bind fun bt759 => (if bt759.2 = 0 then (R13Phone.l0 k bt759.1 (([] : List Int)) 0) else (some ((⟨#[]⟩ : ByteArray), bt759.2)))
set_option maxHeartbeats 8000000 in
set_option maxRecDepth 100000 in
theorem R13Phone.calls (k : Nat) (a0 : ByteArray) (r1 : ByteArray) (r2 : Int) (w : World) (h : R13Phone.f k a0 = some (r1, r2)) :
  Calls Tryz.prog 47 #[.string a0] w fun e w' => e = .returned (.tuple #[.string r1, .int .i64 r2]) ∧ Below w.heap.size w w' := by
 have HB := am (Below.refl w.heap.size w)
 have H : ((R13Mapped.f k a0 true).bind fun bt759 => (if bt759.2 = 0 then (R13Phone.l0 k bt759.1 (([] : List Int)) 0) else (some ((⟨#[]⟩ : ByteArray), bt759.2)))) = some (r1, r2) := h
 clear h
 replace H := Option.bind_eq_some_iff.mp H
 obtain ⟨⟨t759, t760⟩, A20, H⟩ := H
 replace H : (if t760 = 0 then (R13Phone.l0 k t759 (([] : List Int)) 0) else (some ((⟨#[]⟩ : ByteArray), t760))) = some (r1, r2) := H
 have A2 := am A20
 clear A20
 revert H
 refine spe01 ?_ ?_
 ·intro c3b0 c3b1 H; obtain ⟨y763, hy763⟩ : ∃ y_ : List Int, y_ = (([] : List Int)) := ⟨_, rfl⟩; replace H : (R13Phone.l0 k t759 y763 0) = some (r1, r2) := apY hy763 H; have Ny763 := am hy763; clear hy763; have H' := am H; clear H; go_enter Tryz.func47, Tryz.ntmps47; go_wp2_with (first | ((with_reducible refine gate_callee (f := 40) rfl ?_); refine goesL_ (some 10) rfl rfl Tryz.func40 (by kernel_rfl) rfl #[.string a0, .bool true] rfl ap3 ?_; (with_reducible refine (R13Mapped.calls k a0 true t759 t760 _ A2.out).mono ?_); rintro e w4 ⟨v761, rfl, ho0, hb⟩; refine ⟨_, rfl, ?_⟩; have HO762 := am (Kd.R_lower ho0 (below_size ap1)); replace HB := am (below_step ap1 hb); (try clear ho0)) | ((with_reducible refine gate_dst (N := 16) rfl ?_); refine Kd.R_lit (Kd.int .i32) _ 21 ?hg (N := 16) ?hd (xs := ([] : List Int)) (inner := []) (ok := fun _ => True) (okp := fun _ => True) ?hr ?hp (fun _ hk => hk) trivial (Below.refl _ _) (Nat.le_refl _) (by simp) ?_; (case hd => rfl); (case hg => rfl); (case hr => first | (go_simp; done) | (go_simp; rfl)); (case hp => exact (Reps.none _ _)); intro v764 w5 ho6 hb hg_ hnew_; clear hg_ hnew_; (first | rw [← Ny763.out] at ho6 | (simp only [Int.reduceToNat] at ho6; rw [← Ny763.out] at ho6)); have n0_ := am (Kd.R_elder' (apAR HO762.out) (Kd.R_base ho6) hb); have n1_ := am (Kd.R_lower (Kd.R_new' ho6 (Kd.R_lt (apAR HO762.out))) (below_size ap1)); have n2_ := am (below_step ap1 hb); clear HO762; clear HB; have HO762 := n0_; have HO765 := n1_; have HB := n2_; clear n0_ n1_ n2_; clear hb ho6)); go_loopg [6, 7] k (fun kq v6 v7 w' => ∃ (x6_1 : List Int) (x7_1 : Int), v7 = .int .i64 x7_1 ∧ Aside0 (R13Phone.l0 kq t759 x6_1 x7_1 = some (r1, r2)) ∧ Aside0 (kq ≤ k) ∧ Aside0 (Kd.R (Kd.int .i32) 21 w' w.heap.size (fun k_ => some k_ ≠ (v6 : Value).ownBlock) v761 t759) ∧ Aside0 (Kd.R (Kd.int .i32) 21 w' w.heap.size (fun k_ => some k_ ≠ (v761 : Value).ownBlock) v6 x6_1) ∧ Aside0 (Below w.heap.size w w')); (case atStart => exact ⟨(y763), (0), ap2, H', ⟨Nat.le_refl _⟩, ⟨by (with_reducible repeat (first | apply Kd.R_alloc | apply Kd.R_drewN | apply Kd.R_drew)); exact Kd.R_mono HO762.out (fun _ hk => hk.2)⟩, ⟨by (with_reducible repeat (first | apply Kd.R_alloc | apply Kd.R_drewN | apply Kd.R_drew)); exact Kd.R_mono HO765.out (fun _ hk => hk.2)⟩, ⟨ap1⟩⟩); case round =>
   clear H'; (try clear c3); (try clear c3b0); (try clear c3b1); obtain ⟨x6_1, x7_1, rfl, HA, HK1, HO_4, HO_6, HB⟩ := hrel; cases gk with
   | zero => exact absurd HA.out (by simp [R13Phone.l0])
   | succ k1 =>
    have H := HA.out; clear HA; simp only [R13Phone.l0] at H; revert H; refine spd00 ?_ ?_
    ·intro c7b0 H; revert H; refine spn0 ?_; intro c8b0 H; revert H; refine spe01 ?_ ?_
     ·intro c9b0 c9b1 H; have H' := am H; clear H; obtain ⟨Ao10, co10, eo10⟩ := Kd.R_slice HO_4.out; subst eo10; have p766 : 0 ≤ (x7_1 : Int) := apD; have q766 : x7_1 < (t759.length : Int) := apD; obtain ⟨ad766, e766, hx766_0⟩ := Kd.at_int (Kd.R_reads' HO_4.out).2.2 x7_1 p766 q766; cases e766; replace p766 := eq_true p766; replace q766 := eq_true q766; go_wp2; go_roundg k1; (case measure => have := HK1.out; omega); case rel => exact ⟨(x6_1), (wrap64 (x7_1 + 1)), ap2, H', ⟨by have := HK1.out; omega⟩, ⟨apAR HO_4.out⟩, ⟨apAR HO_6.out⟩, ⟨ap1⟩⟩
     ·intro c9 c9b0 c9b1 H; revert H; refine spe01 ?_ ?_
      ·intro c11b0 c11b1 H; have H' := am H; clear H; obtain ⟨Ao12, co12, eo12⟩ := Kd.R_slice HO_4.out; subst eo12; have p766 : 0 ≤ (x7_1 : Int) := apD; have q766 : x7_1 < (t759.length : Int) := apD; obtain ⟨ad766, e766, hx766_0⟩ := Kd.at_int (Kd.R_reads' HO_4.out).2.2 x7_1 p766 q766; cases e766; replace p766 := eq_true p766; replace q766 := eq_true q766; have p767 : 0 ≤ (x7_1 : Int) := apD; have q767 : x7_1 < (t759.length : Int) := apD; obtain ⟨ad767, e767, hx767_0⟩ := Kd.at_int (Kd.R_reads' HO_4.out).2.2 x7_1 p767 q767; obtain rfl : ad766 = ad767 := (by injection e767); replace p767 := eq_true p767; replace q767 := eq_true q767; go_wp2; go_roundg k1; (case measure => have := HK1.out; omega); case rel => exact ⟨(x6_1), (wrap64 (x7_1 + 1)), ap2, H', ⟨by have := HK1.out; omega⟩, ⟨apAR HO_4.out⟩, ⟨apAR HO_6.out⟩, ⟨ap1⟩⟩
      ·intro c11 c11b0 c11b1 H; by_cases c13 : x6_1.length < 35184372088832
       ·rw [if_pos c13] at H; have LMc13 := am c13; clear c13; obtain ⟨y769, hy769⟩ : ∃ y_ : List Int, y_ = (x6_1 ++ [rd t759 x7_1]) := ⟨_, rfl⟩; replace H : (R13Phone.l0 k1 t759 y769 (wrap64 (x7_1 + 1))) = some (r1, r2) := apY hy769 H; have Ny769 := am hy769; clear hy769; have H' := am H; clear H; obtain ⟨Ao14, co14, eo14⟩ := Kd.R_slice HO_4.out; subst eo14; have p766 : 0 ≤ (x7_1 : Int) := apD; have q766 : x7_1 < (t759.length : Int) := apD; obtain ⟨ad766, e766, hx766_0⟩ := Kd.at_int (Kd.R_reads' HO_4.out).2.2 x7_1 p766 q766; cases e766; replace p766 := eq_true p766; replace q766 := eq_true q766; have p767 : 0 ≤ (x7_1 : Int) := apD; have q767 : x7_1 < (t759.length : Int) := apD; obtain ⟨ad767, e767, hx767_0⟩ := Kd.at_int (Kd.R_reads' HO_4.out).2.2 x7_1 p767 q767; obtain rfl : ad766 = ad767 := (by injection e767); replace p767 := eq_true p767; replace q767 := eq_true q767; have p768 : 0 ≤ (x7_1 : Int) := apD; have q768 : x7_1 < (t759.length : Int) := apD; obtain ⟨ad768, e768, hx768_0⟩ := Kd.at_int (Kd.R_reads' HO_4.out).2.2 x7_1 p768 q768; obtain rfl : ad766 = ad768 := (by injection e768); replace p768 := eq_true p768; replace q768 := eq_true q768; go_wp2_with (first | ((with_reducible refine gate_builtin (b := .append) (xs := #[.tmp 35, .tmp 40]) rfl ?_); at_builtin; refine Kd.R_append (Kd.int .i32) (w0 := w) w.heap.size rfl (.tmp 35) (.tmp 40) 64 21 (.int .i32 0) 4 rfl Tryz.underlying64 info21 rfl (by decide) (by omega) u6 x6_1 (rd t759 x7_1) [.int .i32 (rd t759 x7_1)] (fun k_ => some k_ ≠ (.slice (some ad766) t759.length co14 : Value).ownBlock) (fun _ => False) rfl rfl ?aP (fun _ hk => hk.elim) ?aF ?aO ?aB ?aS ?aL ?_; (case aP => exact rfl); (case aB => exact ap1); (case aF => exact (fun k_ hk => Kd.fresh' (Kd.R_lt (apAR HO_4.out)) k_ hk)); (case aO => exact (apAR HO_6.out)); (case aS => exact (below_size ap1)); (case aL => have := LMc13.out; omega); intro v770 w15 ho hb hg hat; rw [← Ny769.out] at ho; replace HO_4 := am (Kd.R_after (ok := (fun _ => True)) (by (with_reducible repeat (first | apply Kd.R_alloc | apply Kd.R_drewN | apply Kd.R_drew)); exact Kd.R_mono HO_4.out (fun _ hk => ⟨trivial, hk⟩)) hg hat); have HO771 := am (ho); replace HB := am (hb); clear ho hb hg hat)); go_roundg k1; (case measure => have := HK1.out; omega); case rel => exact ⟨(y769), (wrap64 (x7_1 + 1)), ap2, H', ⟨by have := HK1.out; omega⟩, ⟨by (with_reducible repeat (first | apply Kd.R_alloc | apply Kd.R_drewN | apply Kd.R_drew)); exact Kd.R_mono HO_4.out (fun _ hk => hk.2)⟩, ⟨apAR HO771.out⟩, ⟨ap1⟩⟩
       ·rw [if_neg c13] at H; exact absurd H (by simp)
    ·intro c7b0 H; replace H := Option.bind_eq_some_iff.mp H; obtain ⟨t772, A160, H⟩ := H; replace H : (some (t772, 0)) = some (r1, r2) := H; have A16 := am A160; clear A160; simp only [Option.some.injEq, Prod.mk.injEq] at H; obtain ⟨rfl, rfl⟩ := H; obtain ⟨Ao17, co17, eo17⟩ := Kd.R_slice HO_4.out; subst eo17; obtain ⟨Ao18, co18, eo18⟩ := Kd.R_slice HO_6.out; subst eo18; go_wp2_with (first | ((with_reducible refine gate_callee (f := 41) rfl ?_); refine goesL_ (some 43) rfl rfl Tryz.func41 (by kernel_rfl) rfl #[.slice Ao18 x6_1.length co18] rfl ap3 ?_; (with_reducible refine (R13Text.calls k1 _ _ x6_1 t772 _ ?side1 ?side2 A16.out).mono ?_); (case side1 => repeat (first | exact (Kd.R_reads' HO_6.out).2.2 | (with_reducible refine Kd.C_alloc ?_ _) | (with_reducible refine Kd.C_drewN ?_ _) | (with_reducible refine Kd.C_drew ?_))); (case side2 => exact (Kd.R_reads' HO_6.out).2.1); rintro e w19 ⟨rfl, hb⟩; refine ⟨_, rfl, ?_⟩; replace HO_4 := am (Kd.R_below (apAR HO_4.out) hb); replace HO_6 := am (Kd.R_below (apAR HO_6.out) hb); replace HB := am (below_step ap1 hb))); go_ret2; exact ⟨ap9, ap1⟩
 ·intro c3 c3b0 c3b1 H; simp only [Option.some.injEq, Prod.mk.injEq] at H; obtain ⟨rfl, rfl⟩ := H; go_enter Tryz.func47, Tryz.ntmps47; go_wp2_with (first | ((with_reducible refine gate_callee (f := 40) rfl ?_); refine goesL_ (some 10) rfl rfl Tryz.func40 (by kernel_rfl) rfl #[.string a0, .bool true] rfl ap3 ?_; (with_reducible refine (R13Mapped.calls k a0 true t759 t760 _ A2.out).mono ?_); rintro e w20 ⟨v761, rfl, ho0, hb⟩; refine ⟨_, rfl, ?_⟩; have HO762 := am (Kd.R_lower ho0 (below_size ap1)); replace HB := am (below_step ap1 hb); (try clear ho0))); go_ret2; exact ⟨ap9, ap1⟩
mutual
def R01Less.l0 : Nat → ByteArray → ByteArray → Int → Option (Int)
 | 0, _, _, _ => none
 | k + 1, x0, x1, x5 => if x5 < (x0.size : Int) then (R01Less.j1 k x0 x1 x5 (decide (x5 < (x1.size : Int)))) else (R01Less.j1 k x0 x1 x5 false)
def R01Less.j1 : Nat → ByteArray → ByteArray → Int → Bool → Option (Int)
 | 0, _, _, _, _ => none
 | k + 1, x0, x1, x5, x15 => if x15 = true then (if 0 ≤ x5 then (if x5 < (x0.size : Int) then (if x5 < (x1.size : Int) then (if (bt x0 x5) < (bt x1 x5) then (some (-1)) else (if (bt x0 x5) > (bt x1 x5) then (some 1) else (R01Less.l0 k x0 x1 (wrap64 (x5 + 1))))) else (none)) else (none)) else (none)) else (if (x0.size : Int) < (x1.size : Int) then (some (-1)) else (if (x0.size : Int) > (x1.size : Int) then (some 1) else (some 0)))
end
def R01Less.f (k : Nat) (a0 : ByteArray) (a1 : ByteArray) : Option (Int) := R01Less.l0 k a0 a1 0
set_option maxHeartbeats 8000000 in
set_option maxRecDepth 100000 in
theorem R01Less.calls (k : Nat) (a0 : ByteArray) (a1 : ByteArray) (r : Int) (w : World) (h : R01Less.f k a0 a1 = some r) :
  Calls Tryz.prog 24 #[.string a0, .string a1] w fun e w' => e = .returned (.int .i64 r) ∧ Drawn0 w w' := by
 have H : (R01Less.l0 k a0 a1 0) = some r := h
 clear h
 have H' := am H
 clear H
 go_enter Tryz.func24, Tryz.ntmps24
 go_wp2
 repeat (go_quiet (fail); try go_wp2)
 go_loopg [5] k (fun kq v5 w' => ∃ (x5_1 : Int), v5 = .int .i64 x5_1 ∧ Aside0 (R01Less.l0 kq a0 a1 x5_1 = some r) ∧ Aside0 (kq ≤ k) ∧ Drawn0 w w')
 case atStart => exact ⟨(0), ap2, H', ⟨Nat.le_refl _⟩, ap7⟩
 case round =>
  clear H'; obtain ⟨x5_1, rfl, HA, HK1, ⟨m1, rfl⟩⟩ := hrel; cases gk with
  | zero => exact absurd HA.out (by simp [R01Less.l0])
  | succ k1 =>
   have H := HA.out; clear HA; simp only [R01Less.l0] at H; have HC3 := am H; clear H; go_upto_region 2 with (fail); (repeat (go_quiet (fail); go_upto_region 2 with (fail))); go_cut [15] (fun v15 wc => ∃ (kq : Nat) (x15_2 : Bool), v15 = .bool x15_2 ∧ Aside0 (R01Less.j1 kq a0 a1 x5_1 x15_2 = some r) ∧ Aside0 (kq ≤ k1) ∧ Drawn0 w wc); case first =>
    have H := HC3.out; clear HC3; revert H; refine spd00 ?_ ?_
    ·intro c4b0 H; (first | rw [c4b0] | (simp only [i64_w, i32_w]; rw [c4b0]) | skip); have H' := am H; clear H; go_wp2; (repeat (go_quiet (fail); try go_wp2)); go_meet; case rel => exact ⟨_, (decide (x5_1 < (a1.size : Int))), ap2, H', ⟨by have := HK1.out; first | omega | exact Nat.le_refl _⟩, ap7⟩
    ·intro c4b0 H; (first | rw [c4b0] | (simp only [i64_w, i32_w]; rw [c4b0]) | skip); have H' := am H; clear H; go_wp2; (repeat (go_quiet (fail); try go_wp2)); go_meet; case rel => exact ⟨_, (false), ap2, H', ⟨by have := HK1.out; first | omega | exact Nat.le_refl _⟩, ap7⟩
   case rest =>
    clear HC3; obtain ⟨kq, x15_2, rfl, HA, HJ2, ⟨mc2, rfl⟩⟩ := hcut; cases kq with
    | zero => exact absurd HA.out (by simp [R01Less.j1])
    | succ kj2 =>
     have H := HA.out; clear HA; simp only [R01Less.j1] at H; revert H; refine spb ?_ ?_
     ·rintro rfl H; revert H; refine spn0 ?_; intro c6b0 H; revert H; refine spn0 ?_; intro c7b0 H; revert H; refine spn0 ?_; intro c9b0 H; revert H; refine spd00 ?_ ?_
      ·intro c11b0 H; obtain rfl := Option.some.inj H; have p8 : 0 ≤ (x5_1 : Int) := apD; have q8 : x5_1 < (a0.size : Int) := apD; have hx8 := bt_at a0 x5_1; replace p8 := eq_true p8; replace q8 := eq_true q8; have p10 : 0 ≤ (x5_1 : Int) := apD; have q10 : x5_1 < (a1.size : Int) := apD; have hx10 := bt_at a1 x5_1; replace p10 := eq_true p10; replace q10 := eq_true q10; go_wp2; (repeat (go_quiet (fail); try go_wp2)); go_ret; exact ⟨ap2, ap7⟩
      ·intro c11b0 H; revert H; refine spd00 ?_ ?_
       ·intro c14b0 H; obtain rfl := Option.some.inj H; have p8 : 0 ≤ (x5_1 : Int) := apD; have q8 : x5_1 < (a0.size : Int) := apD; have hx8 := bt_at a0 x5_1; replace p8 := eq_true p8; replace q8 := eq_true q8; have p10 : 0 ≤ (x5_1 : Int) := apD; have q10 : x5_1 < (a1.size : Int) := apD; have hx10 := bt_at a1 x5_1; replace p10 := eq_true p10; replace q10 := eq_true q10; have p12 : 0 ≤ (x5_1 : Int) := apD; have q12 : x5_1 < (a0.size : Int) := apD; have hx12 := bt_at a0 x5_1; replace p12 := eq_true p12; replace q12 := eq_true q12; have p13 : 0 ≤ (x5_1 : Int) := apD; have q13 : x5_1 < (a1.size : Int) := apD; have hx13 := bt_at a1 x5_1; replace p13 := eq_true p13; replace q13 := eq_true q13; go_wp2; (repeat (go_quiet (fail); try go_wp2)); go_ret; exact ⟨ap2, ap7⟩
       ·intro c14b0 H; have H' := am H; clear H; have p8 : 0 ≤ (x5_1 : Int) := apD; have q8 : x5_1 < (a0.size : Int) := apD; have hx8 := bt_at a0 x5_1; replace p8 := eq_true p8; replace q8 := eq_true q8; have p10 : 0 ≤ (x5_1 : Int) := apD; have q10 : x5_1 < (a1.size : Int) := apD; have hx10 := bt_at a1 x5_1; replace p10 := eq_true p10; replace q10 := eq_true q10; have p12 : 0 ≤ (x5_1 : Int) := apD; have q12 : x5_1 < (a0.size : Int) := apD; have hx12 := bt_at a0 x5_1; replace p12 := eq_true p12; replace q12 := eq_true q12; have p13 : 0 ≤ (x5_1 : Int) := apD; have q13 : x5_1 < (a1.size : Int) := apD; have hx13 := bt_at a1 x5_1; replace p13 := eq_true p13; replace q13 := eq_true q13; go_wp2; (repeat (go_quiet (fail); try go_wp2)); go_roundg kj2; (case measure => have := HK1.out; have := HJ2.out; omega); case rel => exact ⟨(wrap64 (x5_1 + 1)), ap2, H', ⟨by have := HK1.out; have := HJ2.out; omega⟩, ap7⟩
     ·rintro rfl H; revert H; refine spd11 ?_ ?_
      ·intro c15 c15b0 H; have c15b1 : decide (a0.size < a1.size) = true := decide_eq_true (Int.ofNat_lt.mp c15); clear c15; obtain rfl := Option.some.inj H; go_wp2; (repeat (go_quiet (fail); try go_wp2)); go_ret; exact ⟨ap2, ap7⟩
      ·intro c15 c15b0 H; have c15b1 : decide (a0.size < a1.size) = false := decide_eq_false (fun h => c15 (Int.ofNat_lt.mpr h)); clear c15; revert H; refine spd11 ?_ ?_
       ·intro c16 c16b0 H; have c16b1 : decide (a1.size < a0.size) = true := decide_eq_true (Int.ofNat_lt.mp c16); clear c16; obtain rfl := Option.some.inj H; go_wp2; (repeat (go_quiet (fail); try go_wp2)); go_ret; exact ⟨ap2, ap7⟩
       ·intro c16 c16b0 H; have c16b1 : decide (a1.size < a0.size) = false := decide_eq_false (fun h => c16 (Int.ofNat_lt.mpr h)); clear c16; obtain rfl := Option.some.inj H; go_wp2; (repeat (go_quiet (fail); try go_wp2)); go_ret; exact ⟨ap2, ap7⟩
mutual
def R01Tuple.l0 : Nat → List ByteArray → List Int → Int → Option (ByteArray × Int)
 | 0, _, _, _ => none
 | k + 1, x0, x4, x5 => if x5 < (x0.length : Int) then (R01Tuple.l1 k x0 x4 x5 0) else (if (x4.length : Int) > 4096 then (some ((⟨#[]⟩ : ByteArray), 5)) else (some (strOfNums x4, 0)))
def R01Tuple.l1 : Nat → List ByteArray → List Int → Int → Int → Option (ByteArray × Int)
 | 0, _, _, _, _ => none
 | k + 1, x0, x4, x5, x6 => if 0 ≤ x5 then (if x5 < (x0.length : Int) then (if x6 < ((rdOf ByteArray.empty x0 x5).size : Int) then (R01Tuple.j2 k x0 x4 x5 x6 (decide ((x4.length : Int) ≤ 4096))) else (R01Tuple.j2 k x0 x4 x5 x6 false)) else (none)) else (none)
def R01Tuple.j2 : Nat → List ByteArray → List Int → Int → Int → Bool → Option (ByteArray × Int)
 | 0, _, _, _, _, _ => none
 | k + 1, x0, x4, x5, x6, x28 => if x28 = true then (if 0 ≤ x5 then (if x5 < (x0.length : Int) then (if 0 ≤ x6 then (if x6 < ((rdOf ByteArray.empty x0 x5).size : Int) then (if x4.length < 140737488355328 then ((some (x4 ++ [bt (rdOf ByteArray.empty x0 x5) x6] : List Int)).bind fun y680 => (if (bt (rdOf ByteArray.empty x0 x5) x6) = 0 then (if y680.length < 140737488355328 then (R01Tuple.l1 k x0 (y680 ++ [255]) x5 (wrap64 (x6 + 1))) else (none)) else (R01Tuple.l1 k x0 y680 x5 (wrap64 (x6 + 1))))) else (none)) else (none)) else (none)) else (none)) else (none)) else ((some (([0, 1] : List Int) : List Int)).bind fun y687 => (if x4.length + y687.length < 140737488355328 then (R01Tuple.l0 k x0 (x4 ++ y687) (wrap64 (x5 + 1))) else (none)))
end
def R01Tuple.f (k : Nat) (l0 : List ByteArray) : Option (ByteArray × Int) := if (l0.length : Int) > 16 then (some ((⟨#[]⟩ : ByteArray), 1)) else (R01Tuple.l0 k l0 (([] : List Int)) 0)
set_option maxHeartbeats 8000000 in
set_option maxRecDepth 100000 in
theorem R01Tuple.calls (k : Nat) (A0 : Option Addr) (c0 : Nat) (l0 : List ByteArray) (r1 : ByteArray) (r2 : Int) (w : World) (hr0 : Kd.C Kd.string w A0 l0.length l0) (hc0 : l0.length ≤ c0) (h : R01Tuple.f k l0 = some (r1, r2)) :
  Calls Tryz.prog 107 #[.slice A0 l0.length c0] w fun e w' => e = .returned (.tuple #[.string r1, .int .i64 r2]) ∧ Below w.heap.size w w' := by
 have HR0 := am hr0
 have HC0 := am hc0
 clear hr0 hc0
 have HB := am (Below.refl w.heap.size w)
 have H : (if (l0.length : Int) > 16 then (some ((⟨#[]⟩ : ByteArray), 1)) else (R01Tuple.l0 k l0 (([] : List Int)) 0)) = some (r1, r2) := h
 clear h
 revert H
 refine spd11 ?_ ?_
 ·intro c2 c2b0 H; have c2b1 : decide (16 < l0.length) = true := decide_eq_true (by omega); clear c2; simp only [Option.some.injEq, Prod.mk.injEq] at H; obtain ⟨rfl, rfl⟩ := H; go_enter Tryz.func107, Tryz.ntmps107; go_wp2; go_ret2; exact ⟨ap9, ap1⟩
 ·intro c2 c2b0 H; have c2b1 : decide (16 < l0.length) = false := decide_eq_false (by omega); clear c2; obtain ⟨y675, hy675⟩ : ∃ y_ : List Int, y_ = (([] : List Int)) := ⟨_, rfl⟩; replace H : (R01Tuple.l0 k l0 y675 0) = some (r1, r2) := apY hy675 H; have Ny675 := am hy675; clear hy675; have H' := am H; clear H; go_enter Tryz.func107, Tryz.ntmps107; go_wp2_with (first | ((with_reducible refine gate_dst (N := 10) rfl ?_); (try (refine gate_guard (by rfl) ?_; dsimp only)); refine Kd.R_lit (Kd.int .u8) _ 5 ?hg (N := 10) ?hd (xs := ([] : List Int)) (inner := []) (ok := fun _ => True) (okp := fun _ => True) ?hr ?hp (fun _ hk => hk) trivial (Below.refl _ _) (Nat.le_refl _) (by simp) ?_; (case hd => rfl); (case hg => rfl); (case hr => first | (go_simp; done) | (go_simp; rfl)); (case hp => exact (Reps.none _ _)); intro v676 w3 ho4 hb hg_ hnew_; clear hg_ hnew_; (first | rw [← Ny675.out] at ho4 | (simp only [Int.reduceToNat] at ho4; rw [← Ny675.out] at ho4)); have HO677 := am (Kd.R_lower ho4 (below_size ap1)); replace HB := am (below_step ap1 hb); clear hb ho4)); go_loopg [4, 5] k (fun kq v4 v5 w' => ∃ (x4_1 : List Int) (x5_1 : Int), v5 = .int .i64 x5_1 ∧ Aside0 (R01Tuple.l0 kq l0 x4_1 x5_1 = some (r1, r2)) ∧ Aside0 (kq ≤ k) ∧ Aside0 (Kd.R (Kd.int .u8) 5 w' w.heap.size (fun _ => True) v4 x4_1) ∧ Aside0 (Below w.heap.size w w')); (case atStart => exact ⟨(y675), (0), ap2, H', ⟨Nat.le_refl _⟩, ⟨apAR HO677.out⟩, ⟨ap1⟩⟩); case round =>
   clear H'; (try clear c2); (try clear c2b0); (try clear c2b1); obtain ⟨x4_1, x5_1, rfl, HA, HK1, HO_4, HB⟩ := hrel; cases gk with
   | zero => exact absurd HA.out (by simp [R01Tuple.l0])
   | succ k1 =>
    have H := HA.out; clear HA; simp only [R01Tuple.l0] at H; revert H; refine spd00 ?_ ?_
    ·intro c5b0 H; have H' := am H; clear H; go_wp2; go_loopg [4, 6] k1 (fun kq v4 v6 w' => ∃ (x4_2 : List Int) (x6_2 : Int), v6 = .int .i64 x6_2 ∧ Aside0 (R01Tuple.l1 kq l0 x4_2 x5_1 x6_2 = some (r1, r2)) ∧ Aside0 (kq ≤ k1) ∧ Aside0 (Kd.R (Kd.int .u8) 5 w' w.heap.size (fun _ => True) v4 x4_2) ∧ Aside0 (Below w.heap.size w w')); (case atStart => exact ⟨(x4_1), (0), ap2, H', ⟨Nat.le_refl _⟩, ⟨apAR HO_4.out⟩, ⟨ap1⟩⟩); case round =>
      clear H'; (try clear c2); (try clear c2b0); (try clear c2b1); (try clear c5); (try clear c5b0); obtain ⟨x4_2, x6_2, rfl, HA, HK2, HO_4, HB⟩ := hrel; cases gk with
      | zero => exact absurd HA.out (by simp [R01Tuple.l1])
      | succ k2 =>
       have H := HA.out; clear HA; simp only [R01Tuple.l1] at H; have HC6 := am H; clear H; go_upto_region 8 with (fail); go_cut [28] (fun v28 wc => ∃ (kq : Nat) (x28_5 : Bool), v28 = .bool x28_5 ∧ Aside0 (R01Tuple.j2 kq l0 x4_2 x5_1 x6_2 x28_5 = some (r1, r2)) ∧ Aside0 (kq ≤ k2) ∧ Aside0 (Kd.R (Kd.int .u8) 5 wc w.heap.size (fun _ => True) u4 x4_2) ∧ Aside0 (Below w.heap.size w wc)); case first =>
        have H := HC6.out; clear HC6; revert H; refine spn0 ?_; intro c7b0 H; (first | rw [c7b0] | (simp only [i64_w, i32_w]; rw [c7b0]) | skip); revert H; refine spn0 ?_; intro c8b0 H; revert H; refine spd00 ?_ ?_
        ·intro c9b0 H; have H' := am H; clear H; have p678 : 0 ≤ (x5_1 : Int) := apD; have q678 : x5_1 < (l0.length : Int) := apD; obtain ⟨ad678, e678, hx678_0⟩ := Kd.at_string HR0.out x5_1 p678 q678; cases e678; replace hx678_0 := (HB.out.cell (World.block_lt_of_cell? w _ hx678_0)).trans hx678_0; replace p678 := eq_true p678; replace q678 := eq_true q678; obtain ⟨Ao10, co10, eo10⟩ := Kd.R_slice HO_4.out; subst eo10; go_wp2; go_meet; case rel => exact ⟨_, (decide ((x4_2.length : Int) ≤ 4096)), ap2, H', ⟨by have := HK1.out; have := HK2.out; first | omega | exact Nat.le_refl _⟩, ⟨apAR HO_4.out⟩, ⟨ap1⟩⟩
        ·intro c9b0 H; have H' := am H; clear H; have p678 : 0 ≤ (x5_1 : Int) := apD; have q678 : x5_1 < (l0.length : Int) := apD; obtain ⟨ad678, e678, hx678_0⟩ := Kd.at_string HR0.out x5_1 p678 q678; cases e678; replace hx678_0 := (HB.out.cell (World.block_lt_of_cell? w _ hx678_0)).trans hx678_0; replace p678 := eq_true p678; replace q678 := eq_true q678; go_wp2; go_meet; case rel => exact ⟨_, (false), ap2, H', ⟨by have := HK1.out; have := HK2.out; first | omega | exact Nat.le_refl _⟩, ⟨apAR HO_4.out⟩, ⟨ap1⟩⟩
       case rest =>
        clear HC6; (try clear c2); (try clear c2b0); (try clear c2b1); (try clear c5); (try clear c5b0); obtain ⟨kq, x28_5, rfl, HA, HJ5, HO_4, HB⟩ := hcut; cases kq with
        | zero => exact absurd HA.out (by simp [R01Tuple.j2])
        | succ kj5 =>
         have H := HA.out; clear HA; simp only [R01Tuple.j2] at H; revert H; refine spb ?_ ?_
         ·rintro rfl H; revert H; refine spn0 ?_; intro c12b0 H; revert H; refine spn0 ?_; intro c13b0 H; revert H; refine spn0 ?_; intro c14b0 H; revert H; refine spn0 ?_; intro c15b0 H; by_cases c17 : x4_2.length < 140737488355328
          ·rw [if_pos c17] at H; have LMc17 := am c17; clear c17; obtain ⟨y680, hy680⟩ : ∃ y_ : List Int, y_ = (x4_2 ++ [bt (rdOf ByteArray.empty l0 x5_1) x6_2]) := ⟨_, rfl⟩; replace H : (if (bt (rdOf ByteArray.empty l0 x5_1) x6_2) = 0 then (if y680.length < 140737488355328 then (R01Tuple.l1 kj5 l0 (y680 ++ [255]) x5_1 (wrap64 (x6_2 + 1))) else (none)) else (R01Tuple.l1 kj5 l0 y680 x5_1 (wrap64 (x6_2 + 1)))) = some (r1, r2) := apY hy680 H; have Ny680 := am hy680; clear hy680; revert H; refine spe01 ?_ ?_
           ·intro c19b0 c19b1 H; by_cases c20 : y680.length < 140737488355328
            ·rw [if_pos c20] at H; have LMc20 := am c20; clear c20; obtain ⟨y684, hy684⟩ : ∃ y_ : List Int, y_ = (y680 ++ [255]) := ⟨_, rfl⟩; replace H : (R01Tuple.l1 kj5 l0 y684 x5_1 (wrap64 (x6_2 + 1))) = some (r1, r2) := apY hy684 H; have Ny684 := am hy684; clear hy684; have H' := am H; clear H; have p679 : 0 ≤ (x5_1 : Int) := apD; have q679 : x5_1 < (l0.length : Int) := apD; obtain ⟨ad679, e679, hx679_0⟩ := Kd.at_string HR0.out x5_1 p679 q679; cases e679; replace hx679_0 := (HB.out.cell (World.block_lt_of_cell? w _ hx679_0)).trans hx679_0; replace p679 := eq_true p679; replace q679 := eq_true q679; have p16 : 0 ≤ (x6_2 : Int) := apD; have q16 : x6_2 < ((rdOf ByteArray.empty l0 x5_1).size : Int) := apD; have hx16 := bt_at (rdOf ByteArray.empty l0 x5_1) x6_2; replace p16 := eq_true p16; replace q16 := eq_true q16; go_wp2_with (first | ((with_reducible refine gate_builtin (b := .append) (xs := #[.tmp 31, .tmp 38]) rfl ?_); (try (refine gate_guard (by rfl) ?_; dsimp only)); at_builtin; refine Kd.R_append (Kd.int .u8) (w0 := w) w.heap.size rfl (.tmp 31) (.tmp 38) 82 5 (.int .u8 0) 1 rfl Tryz.underlying82 info5 rfl (by decide) (by omega) u4 x4_2 (bt (rdOf ByteArray.empty l0 x5_1) x6_2) [.int .u8 (bt (rdOf ByteArray.empty l0 x5_1) x6_2)] (fun _ => True) (fun _ => False) rfl rfl ?aP (fun _ hk => hk.elim) ?aF ?aO ?aB ?aS ?aL ?_; (case aP => exact rfl); (case aB => exact ap1); (case aF => exact (fun _ _ => trivial)); (case aO => exact (apAR HO_4.out)); (case aS => exact (below_size ap1)); (case aL => have := LMc17.out; omega); intro v681 w21 ho hb hg hat; rw [← Ny680.out] at ho; have HO682 := am (ho); replace HB := am (hb); clear ho hb hg hat; have p683 : 0 ≤ (x5_1 : Int) := apD; have q683 : x5_1 < (l0.length : Int) := apD; obtain ⟨ad683, e683, hx683_0⟩ := Kd.at_string HR0.out x5_1 p683 q683; obtain rfl : ad679 = ad683 := (by injection e683); replace hx683_0 := (HB.out.cell (World.block_lt_of_cell? w _ hx683_0)).trans hx683_0; replace p683 := eq_true p683; replace q683 := eq_true q683; have p18 : 0 ≤ (x6_2 : Int) := apD; have q18 : x6_2 < ((rdOf ByteArray.empty l0 x5_1).size : Int) := apD; have hx18 := bt_at (rdOf ByteArray.empty l0 x5_1) x6_2; replace p18 := eq_true p18; replace q18 := eq_true q18) | ((with_reducible refine gate_builtin (b := .append) (xs := #[.tmp 47, .tmp 48]) rfl ?_); (try (refine gate_guard (by rfl) ?_; dsimp only)); at_builtin; refine Kd.R_append (Kd.int .u8) (w0 := w) w.heap.size rfl (.tmp 47) (.tmp 48) 82 5 (.int .u8 0) 1 rfl Tryz.underlying82 info5 rfl (by decide) (by omega) v681 y680 255 [.int .u8 255] (fun _ => True) (fun _ => False) rfl rfl ?aP (fun _ hk => hk.elim) ?aF ?aO ?aB ?aS ?aL ?_; (case aP => exact rfl); (case aB => exact ap1); (case aF => exact (fun _ _ => trivial)); (case aO => exact (apAR HO682.out)); (case aS => exact (below_size ap1)); (case aL => have := LMc20.out; omega); intro v685 w22 ho hb hg hat; rw [← Ny684.out] at ho; have HO686 := am (ho); replace HB := am (hb); clear ho hb hg hat)); go_roundg kj5; (case measure => have := HK1.out; have := HK2.out; have := HJ5.out; omega); case rel => exact ⟨(y684), (wrap64 (x6_2 + 1)), ap2, H', ⟨by have := HK1.out; have := HK2.out; have := HJ5.out; omega⟩, ⟨apAR HO686.out⟩, ⟨ap1⟩⟩
            ·rw [if_neg c20] at H; exact absurd H (by simp)
           ·intro c19 c19b0 c19b1 H; have H' := am H; clear H; have p679 : 0 ≤ (x5_1 : Int) := apD; have q679 : x5_1 < (l0.length : Int) := apD; obtain ⟨ad679, e679, hx679_0⟩ := Kd.at_string HR0.out x5_1 p679 q679; cases e679; replace hx679_0 := (HB.out.cell (World.block_lt_of_cell? w _ hx679_0)).trans hx679_0; replace p679 := eq_true p679; replace q679 := eq_true q679; have p16 : 0 ≤ (x6_2 : Int) := apD; have q16 : x6_2 < ((rdOf ByteArray.empty l0 x5_1).size : Int) := apD; have hx16 := bt_at (rdOf ByteArray.empty l0 x5_1) x6_2; replace p16 := eq_true p16; replace q16 := eq_true q16; go_wp2_with (first | ((with_reducible refine gate_builtin (b := .append) (xs := #[.tmp 31, .tmp 38]) rfl ?_); (try (refine gate_guard (by rfl) ?_; dsimp only)); at_builtin; refine Kd.R_append (Kd.int .u8) (w0 := w) w.heap.size rfl (.tmp 31) (.tmp 38) 82 5 (.int .u8 0) 1 rfl Tryz.underlying82 info5 rfl (by decide) (by omega) u4 x4_2 (bt (rdOf ByteArray.empty l0 x5_1) x6_2) [.int .u8 (bt (rdOf ByteArray.empty l0 x5_1) x6_2)] (fun _ => True) (fun _ => False) rfl rfl ?aP (fun _ hk => hk.elim) ?aF ?aO ?aB ?aS ?aL ?_; (case aP => exact rfl); (case aB => exact ap1); (case aF => exact (fun _ _ => trivial)); (case aO => exact (apAR HO_4.out)); (case aS => exact (below_size ap1)); (case aL => have := LMc17.out; omega); intro v681 w23 ho hb hg hat; rw [← Ny680.out] at ho; have HO682 := am (ho); replace HB := am (hb); clear ho hb hg hat; have p683 : 0 ≤ (x5_1 : Int) := apD; have q683 : x5_1 < (l0.length : Int) := apD; obtain ⟨ad683, e683, hx683_0⟩ := Kd.at_string HR0.out x5_1 p683 q683; obtain rfl : ad679 = ad683 := (by injection e683); replace hx683_0 := (HB.out.cell (World.block_lt_of_cell? w _ hx683_0)).trans hx683_0; replace p683 := eq_true p683; replace q683 := eq_true q683; have p18 : 0 ≤ (x6_2 : Int) := apD; have q18 : x6_2 < ((rdOf ByteArray.empty l0 x5_1).size : Int) := apD; have hx18 := bt_at (rdOf ByteArray.empty l0 x5_1) x6_2; replace p18 := eq_true p18; replace q18 := eq_true q18)); go_roundg kj5; (case measure => have := HK1.out; have := HK2.out; have := HJ5.out; omega); case rel => exact ⟨(y680), (wrap64 (x6_2 + 1)), ap2, H', ⟨by have := HK1.out; have := HK2.out; have := HJ5.out; omega⟩, ⟨apAR HO682.out⟩, ⟨ap1⟩⟩
          ·rw [if_neg c17] at H; exact absurd H (by simp)
         ·rintro rfl H; obtain ⟨y687, hy687⟩ : ∃ y_ : List Int, y_ = (([0, 1] : List Int)) := ⟨_, rfl⟩; replace H : (if x4_2.length + y687.length < 140737488355328 then (R01Tuple.l0 kj5 l0 (x4_2 ++ y687) (wrap64 (x5_1 + 1))) else (none)) = some (r1, r2) := apY hy687 H; have Ny687 := am hy687; clear hy687; by_cases c24 : x4_2.length + y687.length < 140737488355328
          ·rw [if_pos c24] at H; have LMc24 := am c24; clear c24; obtain ⟨y690, hy690⟩ : ∃ y_ : List Int, y_ = (x4_2 ++ y687) := ⟨_, rfl⟩; replace H : (R01Tuple.l0 kj5 l0 y690 (wrap64 (x5_1 + 1))) = some (r1, r2) := apY hy690 H; have Ny690 := am hy690; clear hy690; have H' := am H; clear H; go_wp2_with (first | ((with_reducible refine gate_dst (N := 51) rfl ?_); (try (refine gate_guard (by rfl) ?_; dsimp only)); refine Kd.R_lit (Kd.int .u8) _ 5 ?hg (N := 51) ?hd (xs := ([0, 1] : List Int)) (inner := [.int .u8 0, .int .u8 1]) (ok := fun _ => True) (okp := fun _ => True) ?hr ?hp (fun _ hk => hk) trivial (Below.refl _ _) (Nat.le_refl _) (by simp) ?_; (case hd => rfl); (case hg => rfl); (case hr => first | (go_simp; done) | (go_simp; rfl)); (case hp => exact (Reps.one (show Kd.M (Kd.int .u8) _ _ _ 0 [.int .u8 0] from rfl) (Reps.one (show Kd.M (Kd.int .u8) _ _ _ 1 [.int .u8 1] from rfl) (Reps.none _ _)))); intro v688 w25 ho26 hb hg_ hnew_; clear hg_ hnew_; (first | rw [← Ny687.out] at ho26 | (simp only [Int.reduceToNat] at ho26; rw [← Ny687.out] at ho26)); have n0_ := am (Kd.R_elder' (apAR HO_4.out) (Kd.R_base ho26) hb); have n1_ := am (Kd.R_lower (Kd.R_new' ho26 (Kd.R_lt (apAR HO_4.out))) (below_size ap1)); have n2_ := am (below_step ap1 hb); clear HO_4; clear HB; have HO_4 := n0_; have HO689 := n1_; have HB := n2_; clear n0_ n1_ n2_; clear hb ho26; obtain ⟨Ao28, co28, eo28⟩ := Kd.R_slice HO689.out; subst eo28) | ((with_reducible refine gate_builtin (b := .append) (xs := #[.tmp 50, .tmp 51]) rfl ?_); (try (refine gate_guard (by rfl) ?_; dsimp only)); at_builtin; refine Kd.R_append_rows (Kd.int .u8) (w0 := w) w.heap.size rfl (.tmp 50) (.tmp 51) 82 5 (.int .u8 0) 1 rfl Tryz.underlying82 info5 rfl (by decide) (by omega) u4 x4_2 y687 _ _ _ (fun k_ => some k_ ≠ (.slice Ao28 y687.length co28 : Value).ownBlock) (fun _ => False) rfl rfl ?aO ?aR (fun _ _ h => h) (fun _ h => h.elim) ?aF ?aB ?aS ?aL ?_; (case aR => repeat (first | exact (Kd.R_reads' HO689.out).2.2 | (with_reducible refine Kd.C_alloc ?_ _) | (with_reducible refine Kd.C_drewN ?_ _) | (with_reducible refine Kd.C_drew ?_))); (case aB => exact ap1); (case aF => exact (fun k_ hk => Kd.fresh' (Kd.R_lt (apAR HO689.out)) k_ hk)); (case aO => exact (by (with_reducible repeat (first | apply Kd.R_alloc | apply Kd.R_drewN | apply Kd.R_drew)); exact Kd.R_mono HO_4.out (fun _ hk => hk.2))); (case aS => exact (below_size ap1)); (case aL => have := LMc24.out; omega); intro v691 w27 ho hb hg hat; rw [← Ny690.out] at ho; replace HO689 := am (Kd.R_after (ok := (fun _ => True)) (apAR HO689.out) hg hat); have HO692 := am (ho); replace HB := am (hb); clear ho hb hg hat)); go_roundg kj5; (case measure => have := HK1.out; have := HK2.out; have := HJ5.out; omega); case rel => exact ⟨(y690), (wrap64 (x5_1 + 1)), ap2, H', ⟨by have := HK1.out; have := HK2.out; have := HJ5.out; omega⟩, ⟨by (with_reducible repeat (first | apply Kd.R_alloc | apply Kd.R_drewN | apply Kd.R_drew)); exact Kd.R_mono HO692.out (fun _ hk => trivial)⟩, ⟨ap1⟩⟩
          ·rw [if_neg c24] at H; exact absurd H (by simp)
    ·intro c5b0 H; revert H; refine spd11 ?_ ?_
     ·intro c29 c29b0 H; have c29b1 : decide (4096 < x4_1.length) = true := decide_eq_true (by omega); clear c29; simp only [Option.some.injEq, Prod.mk.injEq] at H; obtain ⟨rfl, rfl⟩ := H; obtain ⟨Ao30, co30, eo30⟩ := Kd.R_slice HO_4.out; subst eo30; go_wp2; go_ret2; exact ⟨ap9, ap1⟩
     ·intro c29 c29b0 H; have c29b1 : decide (4096 < x4_1.length) = false := decide_eq_false (by omega); clear c29; simp only [Option.some.injEq, Prod.mk.injEq] at H; obtain ⟨rfl, rfl⟩ := H; obtain ⟨Ao31, co31, eo31⟩ := Kd.R_slice HO_4.out; subst eo31; have hcv32 := own_string (P := Tryz.prog) Tryz.underlying82 Tryz.underlying5 Tryz.underlying9 (Kd.own_of_R HO_4.out); go_wp2; go_ret2; exact ⟨ap9, ap1⟩
mutual
def R15Key.l0 : Nat → List (S96) → List ByteArray → Int → Option (ByteArray × Int)
 | 0, _, _, _ => none
 | k + 1, x0, x4, x5 => if x5 < (x0.length : Int) then (if 0 ≤ x5 then ((R13Ready.f k ((rd_T96 x0 x5).f1) true).bind fun bt698 => ((R01Tuple.f k (([(rd_T96 x0 x5).f0, bt698.1] : List ByteArray))).bind fun bt704 => (R15Key.l1 k x0 x4 x5 bt704.1 0))) else (none)) else (R15Key.l2 k x4 (⟨#[]⟩ : ByteArray) 0)
def R15Key.l1 : Nat → List (S96) → List ByteArray → Int → ByteArray → Int → Option (ByteArray × Int)
 | 0, _, _, _, _, _ => none
 | k + 1, x0, x4, x5, x8, x10 => if x10 < (x4.length : Int) then (if 0 ≤ x10 then ((R01Less.f k (rdOf ByteArray.empty x4 x10) x8).bind fun t707 => (if t707 < 0 then (R15Key.l1 k x0 x4 x5 x8 (wrap64 (x10 + 1))) else ((some (([] : List ByteArray) : List ByteArray)).bind fun y708 => (if x10 ≤ (x4.length : Int) then ((some (x4.take (x10 : Int).toNat : List ByteArray)).bind fun y711 => (if y708.length + y711.length < 8796093022208 then ((some (y708 ++ y711 : List ByteArray)).bind fun y715 => (if y715.length < 8796093022208 then ((some (y715 ++ [x8] : List ByteArray)).bind fun y718 => ((some (x4.drop (x10 : Int).toNat : List ByteArray)).bind fun y721 => (if y718.length + y721.length < 8796093022208 then (R15Key.l0 k x0 (y718 ++ y721) (wrap64 (x5 + 1))) else (none)))) else (none))) else (none))) else (none))))) else (none)) else ((some (([] : List ByteArray) : List ByteArray)).bind fun y728 => (if 0 ≤ x10 then (if x10 ≤ (x4.length : Int) then ((some (x4.take (x10 : Int).toNat : List ByteArray)).bind fun y731 => (if y728.length + y731.length < 8796093022208 then ((some (y728 ++ y731 : List ByteArray)).bind fun y735 => (if y735.length < 8796093022208 then ((some (y735 ++ [x8] : List ByteArray)).bind fun y738 => ((some (x4.drop (x10 : Int).toNat : List ByteArray)).bind fun y741 => (if y738.length + y741.length < 8796093022208 then (R15Key.l0 k x0 (y738 ++ y741) (wrap64 (x5 + 1))) else (none)))) else (none))) else (none))) else (none)) else (none)))
def R15Key.l2 : Nat → List ByteArray → ByteArray → Int → Option (ByteArray × Int)
 | 0, _, _, _ => none
 | k + 1, x4, x12, x13 => if x13 < (x4.length : Int) then (if 0 ≤ x13 then (if x12.size + (rdOf ByteArray.empty x4 x13).size ≤ 9223372036854775807 then (R15Key.l2 k x4 (x12 ++ (rdOf ByteArray.empty x4 x13)) (wrap64 (x13 + 1))) else (none)) else (none)) else (some (x12, 0))
end
def R15Key.f (k : Nat) (l0 : List (S96)) : Option (ByteArray × Int) := (R15Rdn.f k l0).bind fun t693 => (if t693 = true then (R15Key.l0 k l0 (([] : List ByteArray)) 0) else (some ((⟨#[]⟩ : ByteArray), 4)))
set_option maxHeartbeats 8000000 in
set_option maxRecDepth 100000 in
theorem R15Key.calls (k : Nat) (A0 : Option Addr) (c0 : Nat) (l0 : List (S96)) (r1 : ByteArray) (r2 : Int) (w : World) (hr0 : Kd.C k96 w A0 l0.length l0) (hc0 : l0.length ≤ c0) (h : R15Key.f k l0 = some (r1, r2)) :
  Calls Tryz.prog 76 #[.slice A0 l0.length c0] w fun e w' => e = .returned (.tuple #[.string r1, .int .i64 r2]) ∧ Below w.heap.size w w' := by
 have HR0 := am hr0
 have HC0 := am hc0
 clear hr0 hc0
 have HB := am (Below.refl w.heap.size w)
 have H : ((R15Rdn.f k l0).bind fun t693 => (if t693 = true then (R15Key.l0 k l0 (([] : List ByteArray)) 0) else (some ((⟨#[]⟩ : ByteArray), 4)))) = some (r1, r2) := h
 clear h
 replace H := Option.bind_eq_some_iff.mp H
 obtain ⟨t693, A20, H⟩ := H
 replace H : (if t693 = true then (R15Key.l0 k l0 (([] : List ByteArray)) 0) else (some ((⟨#[]⟩ : ByteArray), 4))) = some (r1, r2) := H
 have A2 := am A20
 clear A20
 revert H
 refine spb ?_ ?_
 ·rintro rfl H; obtain ⟨y694, hy694⟩ : ∃ y_ : List ByteArray, y_ = (([] : List ByteArray)) := ⟨_, rfl⟩; replace H : (R15Key.l0 k l0 y694 0) = some (r1, r2) := apY hy694 H; have Ny694 := am hy694; clear hy694; have H' := am H; clear H; go_enter Tryz.func76, Tryz.ntmps76; go_wp2_with (first | ((with_reducible refine gate_callee (f := 106) rfl ?_); refine goesL_ (some 15) rfl rfl Tryz.func106 (by kernel_rfl) rfl #[.slice A0 l0.length c0] rfl ap3 ?_; (with_reducible refine (R15Rdn.calls k _ _ l0 true _ ?side1 ?side2 A2.out).mono ?_); (case side1 => repeat (first | exact HR0.out | (with_reducible refine Kd.C_alloc ?_ _) | (with_reducible refine Kd.C_drewN ?_ _) | (with_reducible refine Kd.C_drew ?_))); (case side2 => exact HC0.out); rintro e w4 ⟨rfl, hb⟩; refine ⟨_, rfl, ?_⟩; replace HB := am (below_step ap1 hb)) | ((with_reducible refine gate_dst (N := 17) rfl ?_); refine Kd.R_lit Kd.string _ 9 ?hg (N := 17) ?hd (xs := ([] : List ByteArray)) (inner := []) (ok := fun _ => True) (okp := fun _ => True) ?hr ?hp (fun _ hk => hk) trivial (Below.refl _ _) (Nat.le_refl _) (by simp) ?_; (case hd => rfl); (case hg => rfl); (case hr => first | (go_simp; done) | (go_simp; rfl)); (case hp => exact (Reps.none _ _)); intro v695 w5 ho6 hb hg_ hnew_; clear hg_ hnew_; (first | rw [← Ny694.out] at ho6 | (simp only [Int.reduceToNat] at ho6; rw [← Ny694.out] at ho6)); have HO696 := am (Kd.R_lower ho6 (below_size ap1)); replace HB := am (below_step ap1 hb); clear hb ho6)); go_loopg [4, 5] k (fun kq v4 v5 w' => ∃ (x4_1 : List ByteArray) (x5_1 : Int), v5 = .int .i64 x5_1 ∧ Aside0 (R15Key.l0 kq l0 x4_1 x5_1 = some (r1, r2)) ∧ Aside0 (kq ≤ k) ∧ Aside0 (Kd.R Kd.string 9 w' w.heap.size (fun _ => True) v4 x4_1) ∧ Aside0 (Below w.heap.size w w')); (case atStart => exact ⟨(y694), (0), ap2, H', ⟨Nat.le_refl _⟩, ⟨apAR HO696.out⟩, ⟨ap1⟩⟩); case round =>
   clear H'; (try clear c3); obtain ⟨x4_1, x5_1, rfl, HA, HK1, HO_4, HB⟩ := hrel; cases gk with
   | zero => exact absurd HA.out (by simp [R15Key.l0])
   | succ k1 =>
    have H := HA.out; clear HA; simp only [R15Key.l0] at H; revert H; refine spd00 ?_ ?_
    ·intro c7b0 H; revert H; refine spn0 ?_; intro c8b0 H; replace H := Option.bind_eq_some_iff.mp H; obtain ⟨⟨t698, t699⟩, A90, H⟩ := H; replace H : ((R01Tuple.f k1 (([(rd_T96 l0 x5_1).f0, t698] : List ByteArray))).bind fun bt704 => (R15Key.l1 k1 l0 x4_1 x5_1 bt704.1 0)) = some (r1, r2) := H; have A9 := am A90; clear A90; obtain ⟨y701, hy701⟩ : ∃ y_ : List ByteArray, y_ = (([(rd_T96 l0 x5_1).f0, t698] : List ByteArray)) := ⟨_, rfl⟩; replace H : ((R01Tuple.f k1 y701).bind fun bt704 => (R15Key.l1 k1 l0 x4_1 x5_1 bt704.1 0)) = some (r1, r2) := apY hy701 H; have Ny701 := am hy701; clear hy701; replace H := Option.bind_eq_some_iff.mp H; obtain ⟨⟨t704, t705⟩, A100, H⟩ := H; replace H : (R15Key.l1 k1 l0 x4_1 x5_1 t704 0) = some (r1, r2) := H; have A10 := am A100; clear A100; have H' := am H; clear H; have p697 : 0 ≤ (x5_1 : Int) := apD; have q697 : x5_1 < (l0.length : Int) := apD; obtain ⟨ad697, e697, hx697_0, hx697_1⟩ := at_T96 HR0.out x5_1 p697 q697; cases e697; replace hx697_0 := (HB.out.cell (World.block_lt_of_cell? w _ hx697_0)).trans hx697_0; replace hx697_1 := (HB.out.cell (World.block_lt_of_cell? w _ hx697_1)).trans hx697_1; replace p697 := eq_true p697; replace q697 := eq_true q697; go_wp2_with (first | ((with_reducible refine gate_callee (f := 17) rfl ?_); refine goesL_ (some 30) rfl rfl Tryz.func17 (by kernel_rfl) rfl #[.string ((rd_T96 l0 x5_1).f1), .bool true] rfl ap3 ?_; (with_reducible refine (R13Ready.calls k1 ((rd_T96 l0 x5_1).f1) true t698 t699 _ A9.out).mono ?_); rintro e w11 ⟨rfl, hb⟩; refine ⟨_, rfl, ?_⟩; replace HO_4 := am (Kd.R_below (apAR HO_4.out) hb); replace HB := am (below_step ap1 hb); have p700 : 0 ≤ (x5_1 : Int) := apD; have q700 : x5_1 < (l0.length : Int) := apD; obtain ⟨ad700, e700, hx700_0, hx700_1⟩ := at_T96 HR0.out x5_1 p700 q700; obtain rfl : ad697 = ad700 := (by injection e700); replace hx700_0 := (HB.out.cell (World.block_lt_of_cell? w _ hx700_0)).trans hx700_0; replace hx700_1 := (HB.out.cell (World.block_lt_of_cell? w _ hx700_1)).trans hx700_1; replace p700 := eq_true p700; replace q700 := eq_true q700) | ((with_reducible refine gate_dst (N := 40) rfl ?_); refine Kd.R_lit Kd.string _ 9 ?hg (N := 40) ?hd (xs := ([(rd_T96 l0 x5_1).f0, t698] : List ByteArray)) (inner := [.string ((rd_T96 l0 x5_1).f0), .string t698]) (ok := fun _ => True) (okp := fun _ => True) ?hr ?hp (fun _ hk => hk) trivial (Below.refl _ _) (Nat.le_refl _) (by simp) ?_; (case hd => rfl); (case hg => rfl); (case hr => first | (go_simp; done) | (go_simp; rfl)); (case hp => exact (Reps.one (show Kd.M Kd.string _ _ _ ((rd_T96 l0 x5_1).f0) [.string ((rd_T96 l0 x5_1).f0)] from rfl) (Reps.one (show Kd.M Kd.string _ _ _ t698 [.string t698] from rfl) (Reps.none _ _)))); intro v702 w12 ho13 hb hg_ hnew_; clear hg_ hnew_; (first | rw [← Ny701.out] at ho13 | (simp only [Int.reduceToNat] at ho13; rw [← Ny701.out] at ho13)); have n0_ := am (Kd.R_elder' (apAR HO_4.out) (Kd.R_base ho13) hb); have n1_ := am (Kd.R_lower (Kd.R_new' ho13 (Kd.R_lt (apAR HO_4.out))) (below_size ap1)); have n2_ := am (below_step ap1 hb); clear HO_4; clear HB; have HO_4 := n0_; have HO703 := n1_; have HB := n2_; clear n0_ n1_ n2_; clear hb ho13; obtain ⟨Ao14, co14, eo14⟩ := Kd.R_slice HO703.out; subst eo14) | ((with_reducible refine gate_callee (f := 107) rfl ?_); refine goesL_ (some 41) rfl rfl Tryz.func107 (by kernel_rfl) rfl #[.slice Ao14 y701.length co14] rfl ap3 ?_; (with_reducible refine (R01Tuple.calls k1 _ _ y701 t704 t705 _ ?side1 ?side2 A10.out).mono ?_); (case side1 => repeat (first | exact (Kd.R_reads' HO703.out).2.2 | (with_reducible refine Kd.C_alloc ?_ _) | (with_reducible refine Kd.C_drewN ?_ _) | (with_reducible refine Kd.C_drew ?_))); (case side2 => exact (Kd.R_reads' HO703.out).2.1); rintro e w15 ⟨rfl, hb⟩; refine ⟨_, rfl, ?_⟩; replace HO_4 := am (Kd.R_below (apAR HO_4.out) hb); replace HO703 := am (Kd.R_below (apAR HO703.out) hb); replace HB := am (below_step ap1 hb))); go_loopg [10] k1 (fun kq v10 w' => ∃ (x10_2 : Int), v10 = .int .i64 x10_2 ∧ Aside0 (R15Key.l1 kq l0 x4_1 x5_1 t704 x10_2 = some (r1, r2)) ∧ Aside0 (kq ≤ k1) ∧ Aside0 (Kd.R Kd.string 9 w' w.heap.size (fun _ => True) u4 x4_1) ∧ Aside0 (Below w.heap.size w w')); (case atStart => exact ⟨(0), ap2, H', ⟨Nat.le_refl _⟩, ⟨by (with_reducible repeat (first | apply Kd.R_alloc | apply Kd.R_drewN | apply Kd.R_drew)); exact Kd.R_mono HO_4.out (fun _ hk => trivial)⟩, ⟨ap1⟩⟩); case round =>
      clear H'; (try clear c3); (try clear c7); (try clear c7b0); (try clear c8); (try clear c8b0); (try clear hx697_0); (try clear hx697_1); (try clear hx700_0); (try clear hx700_1); (try clear p697); (try clear p700); (try clear q697); (try clear q700); obtain ⟨x10_2, rfl, HA, HK2, HO_4, HB⟩ := hrel; cases gk with
      | zero => exact absurd HA.out (by simp [R15Key.l1])
      | succ k2 =>
       have H := HA.out; clear HA; simp only [R15Key.l1] at H; revert H; refine spd00 ?_ ?_
       ·intro c16b0 H; revert H; refine spn0 ?_; intro c17b0 H; replace H := Option.bind_eq_some_iff.mp H; obtain ⟨t707, A180, H⟩ := H; replace H : (if t707 < 0 then (R15Key.l1 k2 l0 x4_1 x5_1 t704 (wrap64 (x10_2 + 1))) else ((some (([] : List ByteArray) : List ByteArray)).bind fun y708 => (if x10_2 ≤ (x4_1.length : Int) then ((some (x4_1.take (x10_2 : Int).toNat : List ByteArray)).bind fun y711 => (if y708.length + y711.length < 8796093022208 then ((some (y708 ++ y711 : List ByteArray)).bind fun y715 => (if y715.length < 8796093022208 then ((some (y715 ++ [t704] : List ByteArray)).bind fun y718 => ((some (x4_1.drop (x10_2 : Int).toNat : List ByteArray)).bind fun y721 => (if y718.length + y721.length < 8796093022208 then (R15Key.l0 k2 l0 (y718 ++ y721) (wrap64 (x5_1 + 1))) else (none)))) else (none))) else (none))) else (none)))) = some (r1, r2) := H; have A18 := am A180; clear A180; revert H; refine spd00 ?_ ?_
        ·intro c19b0 H; have H' := am H; clear H; obtain ⟨Ao20, co20, eo20⟩ := Kd.R_slice HO_4.out; subst eo20; have p706 : 0 ≤ (x10_2 : Int) := apD; have q706 : x10_2 < (x4_1.length : Int) := apD; obtain ⟨ad706, e706, hx706_0⟩ := Kd.at_string (Kd.R_reads' HO_4.out).2.2 x10_2 p706 q706; cases e706; replace p706 := eq_true p706; replace q706 := eq_true q706; go_wp2_with (first | (go_at_call 24; (with_reducible refine (R01Less.calls k2 (rdOf ByteArray.empty x4_1 x10_2) t704 t707 _ A18.out).mono ?_); rintro e w' ⟨rfl, ⟨nd, rfl⟩⟩)); go_roundg k2; (case measure => have := HK1.out; have := HK2.out; omega); case rel => exact ⟨(wrap64 (x10_2 + 1)), ap2, H', ⟨by have := HK1.out; have := HK2.out; omega⟩, ⟨apAR HO_4.out⟩, ⟨ap1⟩⟩
        ·intro c19b0 H; obtain ⟨y708, hy708⟩ : ∃ y_ : List ByteArray, y_ = (([] : List ByteArray)) := ⟨_, rfl⟩; replace H : (if x10_2 ≤ (x4_1.length : Int) then ((some (x4_1.take (x10_2 : Int).toNat : List ByteArray)).bind fun y711 => (if y708.length + y711.length < 8796093022208 then ((some (y708 ++ y711 : List ByteArray)).bind fun y715 => (if y715.length < 8796093022208 then ((some (y715 ++ [t704] : List ByteArray)).bind fun y718 => ((some (x4_1.drop (x10_2 : Int).toNat : List ByteArray)).bind fun y721 => (if y718.length + y721.length < 8796093022208 then (R15Key.l0 k2 l0 (y718 ++ y721) (wrap64 (x5_1 + 1))) else (none)))) else (none))) else (none))) else (none)) = some (r1, r2) := apY hy708 H; have Ny708 := am hy708; clear hy708; have c21b0 := eq_true (apD : 0 ≤ x10_2); by_cases c22 : x10_2 ≤ (x4_1.length : Int)
         ·rw [if_pos c22] at H; have c22b0 := eq_true c22; have c22b1 := decide_eq_true c22; clear c22; obtain ⟨y711, hy711⟩ : ∃ y_ : List ByteArray, y_ = (x4_1.take (x10_2 : Int).toNat) := ⟨_, rfl⟩; replace H : (if y708.length + y711.length < 8796093022208 then ((some (y708 ++ y711 : List ByteArray)).bind fun y715 => (if y715.length < 8796093022208 then ((some (y715 ++ [t704] : List ByteArray)).bind fun y718 => ((some (x4_1.drop (x10_2 : Int).toNat : List ByteArray)).bind fun y721 => (if y718.length + y721.length < 8796093022208 then (R15Key.l0 k2 l0 (y718 ++ y721) (wrap64 (x5_1 + 1))) else (none)))) else (none))) else (none)) = some (r1, r2) := apY hy711 H; have Ny711 := am hy711; clear hy711; by_cases c23 : y708.length + y711.length < 8796093022208
          ·rw [if_pos c23] at H; have LMc23 := am c23; clear c23; obtain ⟨y715, hy715⟩ : ∃ y_ : List ByteArray, y_ = (y708 ++ y711) := ⟨_, rfl⟩; replace H : (if y715.length < 8796093022208 then ((some (y715 ++ [t704] : List ByteArray)).bind fun y718 => ((some (x4_1.drop (x10_2 : Int).toNat : List ByteArray)).bind fun y721 => (if y718.length + y721.length < 8796093022208 then (R15Key.l0 k2 l0 (y718 ++ y721) (wrap64 (x5_1 + 1))) else (none)))) else (none)) = some (r1, r2) := apY hy715 H; have Ny715 := am hy715; clear hy715; by_cases c24 : y715.length < 8796093022208
           ·rw [if_pos c24] at H; have LMc24 := am c24; clear c24; obtain ⟨y718, hy718⟩ : ∃ y_ : List ByteArray, y_ = (y715 ++ [t704]) := ⟨_, rfl⟩; replace H : ((some (x4_1.drop (x10_2 : Int).toNat : List ByteArray)).bind fun y721 => (if y718.length + y721.length < 8796093022208 then (R15Key.l0 k2 l0 (y718 ++ y721) (wrap64 (x5_1 + 1))) else (none))) = some (r1, r2) := apY hy718 H; have Ny718 := am hy718; clear hy718; have c25b0 := eq_true (apD : 0 ≤ x10_2); have c26b0 := eq_true (apD : x10_2 ≤ (x4_1.length : Int)); obtain ⟨y721, hy721⟩ : ∃ y_ : List ByteArray, y_ = (x4_1.drop (x10_2 : Int).toNat) := ⟨_, rfl⟩; replace H : (if y718.length + y721.length < 8796093022208 then (R15Key.l0 k2 l0 (y718 ++ y721) (wrap64 (x5_1 + 1))) else (none)) = some (r1, r2) := apY hy721 H; have Ny721 := am hy721; clear hy721; by_cases c27 : y718.length + y721.length < 8796093022208
            ·rw [if_pos c27] at H; have LMc27 := am c27; clear c27; obtain ⟨y725, hy725⟩ : ∃ y_ : List ByteArray, y_ = (y718 ++ y721) := ⟨_, rfl⟩; replace H : (R15Key.l0 k2 l0 y725 (wrap64 (x5_1 + 1))) = some (r1, r2) := apY hy725 H; have Ny725 := am hy725; clear hy725; have H' := am H; clear H; obtain ⟨Ao28, co28, eo28⟩ := Kd.R_slice HO_4.out; subst eo28; have p706 : 0 ≤ (x10_2 : Int) := apD; have q706 : x10_2 < (x4_1.length : Int) := apD; obtain ⟨ad706, e706, hx706_0⟩ := Kd.at_string (Kd.R_reads' HO_4.out).2.2 x10_2 p706 q706; cases e706; replace p706 := eq_true p706; replace q706 := eq_true q706; go_wp2_with (first | (go_at_call 24; (with_reducible refine (R01Less.calls k2 (rdOf ByteArray.empty x4_1 x10_2) t704 t707 _ A18.out).mono ?_); rintro e w' ⟨rfl, ⟨nd, rfl⟩⟩) | ((with_reducible refine gate_dst (N := 59) rfl ?_); refine Kd.R_lit Kd.string _ 9 ?hg (N := 59) ?hd (xs := ([] : List ByteArray)) (inner := []) (ok := fun _ => True) (okp := fun _ => True) ?hr ?hp (fun _ hk => hk) trivial (Below.refl _ _) (Nat.le_refl _) (by simp) ?_; (case hd => rfl); (case hg => rfl); (case hr => first | (go_simp; done) | (go_simp; rfl)); (case hp => exact (Reps.none _ _)); intro v709 w29 ho30 hb hg_ hnew_; clear hg_ hnew_; (first | rw [← Ny708.out] at ho30 | (simp only [Int.reduceToNat] at ho30; rw [← Ny708.out] at ho30)); have n0_ := am (Kd.R_elder' (apAR HO_4.out) (Kd.R_base ho30) hb); have n1_ := am (Kd.R_lower (Kd.R_new' ho30 (Kd.R_lt (apAR HO_4.out))) (below_size ap1)); have n2_ := am (below_step ap1 hb); clear HO_4; clear HB; have HO_4 := n0_; have HO710 := n1_; have HB := n2_; clear n0_ n1_ n2_; clear hb ho30; have q31 : (x10_2 : Int) ≤ ((x4_1.length : Int) : Int) := apD; obtain ⟨i031, hi031, _, hsz31, _⟩ := info_parts info9; have hroom31 : x4_1.length ≤ co28 := (Kd.R_reads' HO_4.out).2.1; have hC31 : Kd.C Kd.string _ (some ad706) x4_1.length x4_1 := (Kd.R_reads' HO_4.out).2.2; have hcut31 := cut_to (P := Tryz.prog) 31 9 .i64 Tryz.underlying31 hi031 (some ad706) x4_1.length co28 x10_2 (apD) q31 hroom31; have hr31 := Kd.C_take (m := (x10_2 : Int).toNat) hC31 (by omega); have hy31 : y711.length = (x10_2 : Int).toNat := (by rw [Ny711.out, List.length_take]; omega); rw [← Ny711.out] at hr31; rw [← hy31] at hcut31; have HR714 := am hr31; have HC714 := am (show y711.length ≤ co28 from by omega); clear hr31 hC31 hroom31 hi031 hsz31; have KY31 := am hy31; clear hy31; have KL31 := am (show (x10_2 : Int).toNat ≤ x4_1.length from by omega); replace q31 := eq_true q31) | ((with_reducible refine gate_builtin (b := .append) (xs := #[.tmp 60, .tmp 63]) rfl ?_); at_builtin; refine Kd.R_append_rows Kd.string (w0 := w) w.heap.size rfl (.tmp 60) (.tmp 63) 31 9 (.string ⟨#[]⟩) 16 rfl Tryz.underlying31 info9 rfl (by decide) (by omega) v709 y708 y711 _ _ _ (fun k_ => some k_ ≠ (.slice (some ad706) x4_1.length co28 : Value).ownBlock) (fun _ => False) rfl rfl ?aO ?aR (fun _ _ h => h) (fun _ h => h.elim) ?aF ?aB ?aS ?aL ?_; (case aR => repeat (first | exact (apC HR714.out) | (with_reducible refine Kd.C_alloc ?_ _) | (with_reducible refine Kd.C_drewN ?_ _) | (with_reducible refine Kd.C_drew ?_))); (case aB => exact ap1); (case aF => exact (fun k_ hk => Kd.fresh' (Kd.R_lt (apAR HO_4.out)) k_ hk)); (case aO => exact (by (with_reducible repeat (first | apply Kd.R_alloc | apply Kd.R_drewN | apply Kd.R_drew)); exact Kd.R_mono HO710.out (fun _ hk => hk.2))); (case aS => exact (below_size ap1)); (case aL => have := LMc23.out; omega); intro v716 w32 ho hb hg hat; rw [← Ny715.out] at ho; have n0_ := am (Kd.R_after (ok := (fun _ => True)) (apAR HO_4.out) hg hat); have n1_ := am (hb); have n2_ := am ((show Kd.C Kd.string w32 (some ad706) y711.length y711 from by rw [Ny711.out]; exact Kd.C_take (m := (x10_2 : Int).toNat) ((Kd.R_reads' (Kd.R_after (ok := (fun _ => True)) (apAR HO_4.out) hg hat)).2.2) KL31.out)); have n3_ := am (ho); clear HO_4; clear HB; clear HR714; clear HO710; have HO_4 := n0_; have HB := n1_; have HR714 := n2_; have HO717 := n3_; clear n0_ n1_ n2_ n3_; clear ho hb hg hat) | ((with_reducible refine gate_builtin (b := .append) (xs := #[.tmp 65, .tmp 67]) rfl ?_); at_builtin; refine Kd.R_append Kd.string (w0 := w) w.heap.size rfl (.tmp 65) (.tmp 67) 31 9 (.string ⟨#[]⟩) 16 rfl Tryz.underlying31 info9 rfl (by decide) (by omega) v716 y715 t704 [.string t704] (fun k_ => some k_ ≠ (.slice (some ad706) x4_1.length co28 : Value).ownBlock) (fun _ => False) rfl rfl ?aP (fun _ hk => hk.elim) ?aF ?aO ?aB ?aS ?aL ?_; (case aP => exact rfl); (case aB => exact ap1); (case aF => exact (fun k_ hk => Kd.fresh' (Kd.R_lt (apAR HO_4.out)) k_ hk)); (case aO => exact (apAR HO717.out)); (case aS => exact (below_size ap1)); (case aL => have := LMc24.out; omega); intro v719 w33 ho hb hg hat; rw [← Ny718.out] at ho; have n0_ := am (Kd.R_after (ok := (fun _ => True)) (apAR HO_4.out) hg hat); have n1_ := am (hb); have n2_ := am ((show Kd.C Kd.string w33 (some ad706) y711.length y711 from by rw [Ny711.out]; exact Kd.C_take (m := (x10_2 : Int).toNat) ((Kd.R_reads' (Kd.R_after (ok := (fun _ => True)) (apAR HO_4.out) hg hat)).2.2) KL31.out)); have n3_ := am (ho); clear HO_4; clear HB; clear HR714; clear HO717; have HO_4 := n0_; have HB := n1_; have HR714 := n2_; have HO720 := n3_; clear n0_ n1_ n2_ n3_; clear ho hb hg hat; have q34 : (x10_2 : Int) ≤ ((x4_1.length : Int) : Int) := apD; obtain ⟨i034, hi034, _, hsz34, _⟩ := info_parts info9; have hroom34 : x4_1.length ≤ co28 := (Kd.R_reads' HO_4.out).2.1; have hC34 : Kd.C Kd.string _ (some ad706) x4_1.length x4_1 := (Kd.R_reads' HO_4.out).2.2; have q034 : (0 : Int) ≤ (x10_2 : Int) := apD; have hcut34 := cut_from (P := Tryz.prog) 31 9 .i64 Tryz.underlying31 hi034 1 hsz34 (some ad706) x4_1.length co28 x10_2 q034 q34; have hr34 := Kd.C_drop (m := (x10_2 : Int).toNat) (c := co28) hC34 (by omega) hroom34; obtain ⟨A34, hA34⟩ : ∃ A1, A1 = (if co28 = (x10_2 : Int).toNat then (some ad706) else ((some ad706) : Option Addr).map (·.add ((x10_2 : Int).toNat * 1))) := ⟨_, rfl⟩; obtain ⟨c34, hc34⟩ : ∃ c1, c1 = co28 - (x10_2 : Int).toNat := ⟨_, rfl⟩; have hy34 : y721.length = x4_1.length - (x10_2 : Int).toNat := (by rw [Ny721.out, List.length_drop] <;> omega); rw [show (x4_1).drop (x10_2 : Int).toNat = y721 from Ny721.out.symm] at hr34; replace hr34 : Kd.C Kd.string _ A34 y721.length y721 := (by rw [hA34]; exact hr34); rw [← hy34, ← hA34, ← hc34] at hcut34; have HR724 := am hr34; have HC724 := am (show y721.length ≤ c34 from by rw [hy34, hc34]; exact Nat.sub_le_sub_right hroom34 _); clear hr34 hC34 hroom34 hi034 hsz34 hc34; have KY34 := am hy34; have KA34 := am hA34; clear hy34 hA34; have KL34 := am (show (x10_2 : Int).toNat ≤ x4_1.length from by omega); replace q34 := eq_true q34) | ((with_reducible refine gate_builtin (b := .append) (xs := #[.tmp 69, .tmp 72]) rfl ?_); at_builtin; refine Kd.R_append_rows Kd.string (w0 := w) w.heap.size rfl (.tmp 69) (.tmp 72) 31 9 (.string ⟨#[]⟩) 16 rfl Tryz.underlying31 info9 rfl (by decide) (by omega) v719 y718 y721 _ _ _ (fun k_ => some k_ ≠ (.slice (some ad706) x4_1.length co28 : Value).ownBlock) (fun _ => False) rfl rfl ?aO ?aR (fun _ _ h => h) (fun _ h => h.elim) ?aF ?aB ?aS ?aL ?_; (case aR => repeat (first | exact (apC HR724.out) | (with_reducible refine Kd.C_alloc ?_ _) | (with_reducible refine Kd.C_drewN ?_ _) | (with_reducible refine Kd.C_drew ?_))); (case aB => exact ap1); (case aF => exact (fun k_ hk => Kd.fresh' (Kd.R_lt (apAR HO_4.out)) k_ hk)); (case aO => exact (apAR HO720.out)); (case aS => exact (below_size ap1)); (case aL => have := LMc27.out; omega); intro v726 w35 ho hb hg hat; rw [← Ny725.out] at ho; have n0_ := am (Kd.R_after (ok := (fun _ => True)) (apAR HO_4.out) hg hat); have n1_ := am (hb); have n2_ := am ((show Kd.C Kd.string w35 (some ad706) y711.length y711 from by rw [Ny711.out]; exact Kd.C_take (m := (x10_2 : Int).toNat) ((Kd.R_reads' (Kd.R_after (ok := (fun _ => True)) (apAR HO_4.out) hg hat)).2.2) KL31.out)); have n3_ := am ((show Kd.C Kd.string w35 A34 y721.length y721 from by rw [Ny721.out, KA34.out]; exact Kd.C_drop (m := (x10_2 : Int).toNat) (c := co28) ((Kd.R_reads' (Kd.R_after (ok := (fun _ => True)) (apAR HO_4.out) hg hat)).2.2) KL34.out ((Kd.R_reads' (Kd.R_after (ok := (fun _ => True)) (apAR HO_4.out) hg hat)).2.1))); have n4_ := am (ho); clear HO_4; clear HB; clear HR714; clear HR724; clear HO720; have HO_4 := n0_; have HB := n1_; have HR714 := n2_; have HR724 := n3_; have HO727 := n4_; clear n0_ n1_ n2_ n3_ n4_; clear ho hb hg hat)); go_roundg k2; (case measure => have := HK1.out; have := HK2.out; omega); case rel => exact ⟨(y725), (wrap64 (x5_1 + 1)), ap2, H', ⟨by have := HK1.out; have := HK2.out; omega⟩, ⟨by (with_reducible repeat (first | apply Kd.R_alloc | apply Kd.R_drewN | apply Kd.R_drew)); exact Kd.R_mono HO727.out (fun _ hk => trivial)⟩, ⟨ap1⟩⟩
            ·rw [if_neg c27] at H; exact absurd H (by simp)
           ·rw [if_neg c24] at H; exact absurd H (by simp)
          ·rw [if_neg c23] at H; exact absurd H (by simp)
         ·rw [if_neg c22] at H; exact absurd H (by simp)
       ·intro c16b0 H; obtain ⟨y728, hy728⟩ : ∃ y_ : List ByteArray, y_ = (([] : List ByteArray)) := ⟨_, rfl⟩; replace H : (if 0 ≤ x10_2 then (if x10_2 ≤ (x4_1.length : Int) then ((some (x4_1.take (x10_2 : Int).toNat : List ByteArray)).bind fun y731 => (if y728.length + y731.length < 8796093022208 then ((some (y728 ++ y731 : List ByteArray)).bind fun y735 => (if y735.length < 8796093022208 then ((some (y735 ++ [t704] : List ByteArray)).bind fun y738 => ((some (x4_1.drop (x10_2 : Int).toNat : List ByteArray)).bind fun y741 => (if y738.length + y741.length < 8796093022208 then (R15Key.l0 k2 l0 (y738 ++ y741) (wrap64 (x5_1 + 1))) else (none)))) else (none))) else (none))) else (none)) else (none)) = some (r1, r2) := apY hy728 H; have Ny728 := am hy728; clear hy728; by_cases c36 : 0 ≤ x10_2
        ·rw [if_pos c36] at H; have c36b0 := eq_true c36; have c36b1 := decide_eq_true c36; clear c36; by_cases c37 : x10_2 ≤ (x4_1.length : Int)
         ·rw [if_pos c37] at H; have c37b0 := eq_true c37; have c37b1 := decide_eq_true c37; clear c37; obtain ⟨y731, hy731⟩ : ∃ y_ : List ByteArray, y_ = (x4_1.take (x10_2 : Int).toNat) := ⟨_, rfl⟩; replace H : (if y728.length + y731.length < 8796093022208 then ((some (y728 ++ y731 : List ByteArray)).bind fun y735 => (if y735.length < 8796093022208 then ((some (y735 ++ [t704] : List ByteArray)).bind fun y738 => ((some (x4_1.drop (x10_2 : Int).toNat : List ByteArray)).bind fun y741 => (if y738.length + y741.length < 8796093022208 then (R15Key.l0 k2 l0 (y738 ++ y741) (wrap64 (x5_1 + 1))) else (none)))) else (none))) else (none)) = some (r1, r2) := apY hy731 H; have Ny731 := am hy731; clear hy731; by_cases c38 : y728.length + y731.length < 8796093022208
          ·rw [if_pos c38] at H; have LMc38 := am c38; clear c38; obtain ⟨y735, hy735⟩ : ∃ y_ : List ByteArray, y_ = (y728 ++ y731) := ⟨_, rfl⟩; replace H : (if y735.length < 8796093022208 then ((some (y735 ++ [t704] : List ByteArray)).bind fun y738 => ((some (x4_1.drop (x10_2 : Int).toNat : List ByteArray)).bind fun y741 => (if y738.length + y741.length < 8796093022208 then (R15Key.l0 k2 l0 (y738 ++ y741) (wrap64 (x5_1 + 1))) else (none)))) else (none)) = some (r1, r2) := apY hy735 H; have Ny735 := am hy735; clear hy735; by_cases c39 : y735.length < 8796093022208
           ·rw [if_pos c39] at H; have LMc39 := am c39; clear c39; obtain ⟨y738, hy738⟩ : ∃ y_ : List ByteArray, y_ = (y735 ++ [t704]) := ⟨_, rfl⟩; replace H : ((some (x4_1.drop (x10_2 : Int).toNat : List ByteArray)).bind fun y741 => (if y738.length + y741.length < 8796093022208 then (R15Key.l0 k2 l0 (y738 ++ y741) (wrap64 (x5_1 + 1))) else (none))) = some (r1, r2) := apY hy738 H; have Ny738 := am hy738; clear hy738; have c40b0 := eq_true (apD : 0 ≤ x10_2); have c41b0 := eq_true (apD : x10_2 ≤ (x4_1.length : Int)); obtain ⟨y741, hy741⟩ : ∃ y_ : List ByteArray, y_ = (x4_1.drop (x10_2 : Int).toNat) := ⟨_, rfl⟩; replace H : (if y738.length + y741.length < 8796093022208 then (R15Key.l0 k2 l0 (y738 ++ y741) (wrap64 (x5_1 + 1))) else (none)) = some (r1, r2) := apY hy741 H; have Ny741 := am hy741; clear hy741; by_cases c42 : y738.length + y741.length < 8796093022208
            ·rw [if_pos c42] at H; have LMc42 := am c42; clear c42; obtain ⟨y745, hy745⟩ : ∃ y_ : List ByteArray, y_ = (y738 ++ y741) := ⟨_, rfl⟩; replace H : (R15Key.l0 k2 l0 y745 (wrap64 (x5_1 + 1))) = some (r1, r2) := apY hy745 H; have Ny745 := am hy745; clear hy745; have H' := am H; clear H; obtain ⟨Ao43, co43, eo43⟩ := Kd.R_slice HO_4.out; subst eo43; go_wp2_with (first | ((with_reducible refine gate_dst (N := 59) rfl ?_); refine Kd.R_lit Kd.string _ 9 ?hg (N := 59) ?hd (xs := ([] : List ByteArray)) (inner := []) (ok := fun _ => True) (okp := fun _ => True) ?hr ?hp (fun _ hk => hk) trivial (Below.refl _ _) (Nat.le_refl _) (by simp) ?_; (case hd => rfl); (case hg => rfl); (case hr => first | (go_simp; done) | (go_simp; rfl)); (case hp => exact (Reps.none _ _)); intro v729 w44 ho45 hb hg_ hnew_; clear hg_ hnew_; (first | rw [← Ny728.out] at ho45 | (simp only [Int.reduceToNat] at ho45; rw [← Ny728.out] at ho45)); have n0_ := am (Kd.R_elder' (apAR HO_4.out) (Kd.R_base ho45) hb); have n1_ := am (Kd.R_lower (Kd.R_new' ho45 (Kd.R_lt (apAR HO_4.out))) (below_size ap1)); have n2_ := am (below_step ap1 hb); clear HO_4; clear HB; have HO_4 := n0_; have HO730 := n1_; have HB := n2_; clear n0_ n1_ n2_; clear hb ho45; have q46 : (x10_2 : Int) ≤ ((x4_1.length : Int) : Int) := apD; obtain ⟨i046, hi046, _, hsz46, _⟩ := info_parts info9; have hroom46 : x4_1.length ≤ co43 := (Kd.R_reads' HO_4.out).2.1; have hC46 : Kd.C Kd.string _ Ao43 x4_1.length x4_1 := (Kd.R_reads' HO_4.out).2.2; have hcut46 := cut_to (P := Tryz.prog) 31 9 .i64 Tryz.underlying31 hi046 Ao43 x4_1.length co43 x10_2 (apD) q46 hroom46; have hr46 := Kd.C_take (m := (x10_2 : Int).toNat) hC46 (by omega); have hy46 : y731.length = (x10_2 : Int).toNat := (by rw [Ny731.out, List.length_take]; omega); rw [← Ny731.out] at hr46; rw [← hy46] at hcut46; have HR734 := am hr46; have HC734 := am (show y731.length ≤ co43 from by omega); clear hr46 hC46 hroom46 hi046 hsz46; have KY46 := am hy46; clear hy46; have KL46 := am (show (x10_2 : Int).toNat ≤ x4_1.length from by omega); replace q46 := eq_true q46) | ((with_reducible refine gate_builtin (b := .append) (xs := #[.tmp 60, .tmp 63]) rfl ?_); at_builtin; refine Kd.R_append_rows Kd.string (w0 := w) w.heap.size rfl (.tmp 60) (.tmp 63) 31 9 (.string ⟨#[]⟩) 16 rfl Tryz.underlying31 info9 rfl (by decide) (by omega) v729 y728 y731 _ _ _ (fun k_ => some k_ ≠ (.slice Ao43 x4_1.length co43 : Value).ownBlock) (fun _ => False) rfl rfl ?aO ?aR (fun _ _ h => h) (fun _ h => h.elim) ?aF ?aB ?aS ?aL ?_; (case aR => repeat (first | exact (apC HR734.out) | (with_reducible refine Kd.C_alloc ?_ _) | (with_reducible refine Kd.C_drewN ?_ _) | (with_reducible refine Kd.C_drew ?_))); (case aB => exact ap1); (case aF => exact (fun k_ hk => Kd.fresh' (Kd.R_lt (apAR HO_4.out)) k_ hk)); (case aO => exact (by (with_reducible repeat (first | apply Kd.R_alloc | apply Kd.R_drewN | apply Kd.R_drew)); exact Kd.R_mono HO730.out (fun _ hk => hk.2))); (case aS => exact (below_size ap1)); (case aL => have := LMc38.out; omega); intro v736 w47 ho hb hg hat; rw [← Ny735.out] at ho; have n0_ := am (Kd.R_after (ok := (fun _ => True)) (apAR HO_4.out) hg hat); have n1_ := am (hb); have n2_ := am ((show Kd.C Kd.string w47 Ao43 y731.length y731 from by rw [Ny731.out]; exact Kd.C_take (m := (x10_2 : Int).toNat) ((Kd.R_reads' (Kd.R_after (ok := (fun _ => True)) (apAR HO_4.out) hg hat)).2.2) KL46.out)); have n3_ := am (ho); clear HO_4; clear HB; clear HR734; clear HO730; have HO_4 := n0_; have HB := n1_; have HR734 := n2_; have HO737 := n3_; clear n0_ n1_ n2_ n3_; clear ho hb hg hat) | ((with_reducible refine gate_builtin (b := .append) (xs := #[.tmp 65, .tmp 67]) rfl ?_); at_builtin; refine Kd.R_append Kd.string (w0 := w) w.heap.size rfl (.tmp 65) (.tmp 67) 31 9 (.string ⟨#[]⟩) 16 rfl Tryz.underlying31 info9 rfl (by decide) (by omega) v736 y735 t704 [.string t704] (fun k_ => some k_ ≠ (.slice Ao43 x4_1.length co43 : Value).ownBlock) (fun _ => False) rfl rfl ?aP (fun _ hk => hk.elim) ?aF ?aO ?aB ?aS ?aL ?_; (case aP => exact rfl); (case aB => exact ap1); (case aF => exact (fun k_ hk => Kd.fresh' (Kd.R_lt (apAR HO_4.out)) k_ hk)); (case aO => exact (apAR HO737.out)); (case aS => exact (below_size ap1)); (case aL => have := LMc39.out; omega); intro v739 w48 ho hb hg hat; rw [← Ny738.out] at ho; have n0_ := am (Kd.R_after (ok := (fun _ => True)) (apAR HO_4.out) hg hat); have n1_ := am (hb); have n2_ := am ((show Kd.C Kd.string w48 Ao43 y731.length y731 from by rw [Ny731.out]; exact Kd.C_take (m := (x10_2 : Int).toNat) ((Kd.R_reads' (Kd.R_after (ok := (fun _ => True)) (apAR HO_4.out) hg hat)).2.2) KL46.out)); have n3_ := am (ho); clear HO_4; clear HB; clear HR734; clear HO737; have HO_4 := n0_; have HB := n1_; have HR734 := n2_; have HO740 := n3_; clear n0_ n1_ n2_ n3_; clear ho hb hg hat; have q49 : (x10_2 : Int) ≤ ((x4_1.length : Int) : Int) := apD; obtain ⟨i049, hi049, _, hsz49, _⟩ := info_parts info9; have hroom49 : x4_1.length ≤ co43 := (Kd.R_reads' HO_4.out).2.1; have hC49 : Kd.C Kd.string _ Ao43 x4_1.length x4_1 := (Kd.R_reads' HO_4.out).2.2; have q049 : (0 : Int) ≤ (x10_2 : Int) := apD; have hcut49 := cut_from (P := Tryz.prog) 31 9 .i64 Tryz.underlying31 hi049 1 hsz49 Ao43 x4_1.length co43 x10_2 q049 q49; have hr49 := Kd.C_drop (m := (x10_2 : Int).toNat) (c := co43) hC49 (by omega) hroom49; obtain ⟨A49, hA49⟩ : ∃ A1, A1 = (if co43 = (x10_2 : Int).toNat then Ao43 else (Ao43 : Option Addr).map (·.add ((x10_2 : Int).toNat * 1))) := ⟨_, rfl⟩; obtain ⟨c49, hc49⟩ : ∃ c1, c1 = co43 - (x10_2 : Int).toNat := ⟨_, rfl⟩; have hy49 : y741.length = x4_1.length - (x10_2 : Int).toNat := (by rw [Ny741.out, List.length_drop] <;> omega); rw [show (x4_1).drop (x10_2 : Int).toNat = y741 from Ny741.out.symm] at hr49; replace hr49 : Kd.C Kd.string _ A49 y741.length y741 := (by rw [hA49]; exact hr49); rw [← hy49, ← hA49, ← hc49] at hcut49; have HR744 := am hr49; have HC744 := am (show y741.length ≤ c49 from by rw [hy49, hc49]; exact Nat.sub_le_sub_right hroom49 _); clear hr49 hC49 hroom49 hi049 hsz49 hc49; have KY49 := am hy49; have KA49 := am hA49; clear hy49 hA49; have KL49 := am (show (x10_2 : Int).toNat ≤ x4_1.length from by omega); replace q49 := eq_true q49) | ((with_reducible refine gate_builtin (b := .append) (xs := #[.tmp 69, .tmp 72]) rfl ?_); at_builtin; refine Kd.R_append_rows Kd.string (w0 := w) w.heap.size rfl (.tmp 69) (.tmp 72) 31 9 (.string ⟨#[]⟩) 16 rfl Tryz.underlying31 info9 rfl (by decide) (by omega) v739 y738 y741 _ _ _ (fun k_ => some k_ ≠ (.slice Ao43 x4_1.length co43 : Value).ownBlock) (fun _ => False) rfl rfl ?aO ?aR (fun _ _ h => h) (fun _ h => h.elim) ?aF ?aB ?aS ?aL ?_; (case aR => repeat (first | exact (apC HR744.out) | (with_reducible refine Kd.C_alloc ?_ _) | (with_reducible refine Kd.C_drewN ?_ _) | (with_reducible refine Kd.C_drew ?_))); (case aB => exact ap1); (case aF => exact (fun k_ hk => Kd.fresh' (Kd.R_lt (apAR HO_4.out)) k_ hk)); (case aO => exact (apAR HO740.out)); (case aS => exact (below_size ap1)); (case aL => have := LMc42.out; omega); intro v746 w50 ho hb hg hat; rw [← Ny745.out] at ho; have n0_ := am (Kd.R_after (ok := (fun _ => True)) (apAR HO_4.out) hg hat); have n1_ := am (hb); have n2_ := am ((show Kd.C Kd.string w50 Ao43 y731.length y731 from by rw [Ny731.out]; exact Kd.C_take (m := (x10_2 : Int).toNat) ((Kd.R_reads' (Kd.R_after (ok := (fun _ => True)) (apAR HO_4.out) hg hat)).2.2) KL46.out)); have n3_ := am ((show Kd.C Kd.string w50 A49 y741.length y741 from by rw [Ny741.out, KA49.out]; exact Kd.C_drop (m := (x10_2 : Int).toNat) (c := co43) ((Kd.R_reads' (Kd.R_after (ok := (fun _ => True)) (apAR HO_4.out) hg hat)).2.2) KL49.out ((Kd.R_reads' (Kd.R_after (ok := (fun _ => True)) (apAR HO_4.out) hg hat)).2.1))); have n4_ := am (ho); clear HO_4; clear HB; clear HR734; clear HR744; clear HO740; have HO_4 := n0_; have HB := n1_; have HR734 := n2_; have HR744 := n3_; have HO747 := n4_; clear n0_ n1_ n2_ n3_ n4_; clear ho hb hg hat)); go_roundg k2; (case measure => have := HK1.out; have := HK2.out; omega); case rel => exact ⟨(y745), (wrap64 (x5_1 + 1)), ap2, H', ⟨by have := HK1.out; have := HK2.out; omega⟩, ⟨by (with_reducible repeat (first | apply Kd.R_alloc | apply Kd.R_drewN | apply Kd.R_drew)); exact Kd.R_mono HO747.out (fun _ hk => trivial)⟩, ⟨ap1⟩⟩
            ·rw [if_neg c42] at H; exact absurd H (by simp)
           ·rw [if_neg c39] at H; exact absurd H (by simp)
          ·rw [if_neg c38] at H; exact absurd H (by simp)
         ·rw [if_neg c37] at H; exact absurd H (by simp)
        ·rw [if_neg c36] at H; exact absurd H (by simp)
    ·intro c7b0 H; have H' := am H; clear H; go_wp2; go_loopg [12, 13] k1 (fun kq v12 v13 w' => ∃ (x12_2 : ByteArray) (x13_2 : Int), v12 = .string x12_2 ∧ v13 = .int .i64 x13_2 ∧ Aside0 (R15Key.l2 kq x4_1 x12_2 x13_2 = some (r1, r2)) ∧ Aside0 (kq ≤ k1) ∧ Aside0 (Kd.R Kd.string 9 w' w.heap.size (fun _ => True) u4 x4_1) ∧ Aside0 (Below w.heap.size w w')); (case atStart => exact ⟨((⟨#[]⟩ : ByteArray)), (0), ap2, ap2, H', ⟨Nat.le_refl _⟩, ⟨apAR HO_4.out⟩, ⟨ap1⟩⟩); case round =>
      clear H'; (try clear c3); (try clear c7); (try clear c7b0); obtain ⟨x12_2, x13_2, rfl, rfl, HA, HK2, HO_4, HB⟩ := hrel; cases gk with
      | zero => exact absurd HA.out (by simp [R15Key.l2])
      | succ k2 =>
       have H := HA.out; clear HA; simp only [R15Key.l2] at H; revert H; refine spd00 ?_ ?_
       ·intro c51b0 H; revert H; refine spn0 ?_; intro c52b0 H; by_cases c53 : x12_2.size + (rdOf ByteArray.empty x4_1 x13_2).size ≤ 9223372036854775807
        ·rw [if_pos c53] at H; have c53b0 := eq_true c53; have c53b1 := decide_eq_true c53; (try have c53b2 : (9223372036854775807 < x12_2.size + (rdOf ByteArray.empty x4_1 x13_2).size) = False := eq_false (Nat.not_lt.2 c53)); have H' := am H; clear H; obtain ⟨Ao54, co54, eo54⟩ := Kd.R_slice HO_4.out; subst eo54; have p748 : 0 ≤ (x13_2 : Int) := apD; have q748 : x13_2 < (x4_1.length : Int) := apD; obtain ⟨ad748, e748, hx748_0⟩ := Kd.at_string (Kd.R_reads' HO_4.out).2.2 x13_2 p748 q748; cases e748; replace p748 := eq_true p748; replace q748 := eq_true q748; go_wp2; go_roundg k2; (case measure => have := HK1.out; have := HK2.out; omega); case rel => exact ⟨(x12_2 ++ (rdOf ByteArray.empty x4_1 x13_2)), (wrap64 (x13_2 + 1)), ap2, ap2, H', ⟨by have := HK1.out; have := HK2.out; omega⟩, ⟨apAR HO_4.out⟩, ⟨ap1⟩⟩
        ·rw [if_neg c53] at H; exact absurd H (by simp)
       ·intro c51b0 H; simp only [Option.some.injEq, Prod.mk.injEq] at H; obtain ⟨rfl, rfl⟩ := H; obtain ⟨Ao55, co55, eo55⟩ := Kd.R_slice HO_4.out; subst eo55; go_wp2; go_ret2; exact ⟨ap9, ap1⟩
 ·rintro rfl H; simp only [Option.some.injEq, Prod.mk.injEq] at H; obtain ⟨rfl, rfl⟩ := H; go_enter Tryz.func76, Tryz.ntmps76; go_wp2_with (first | ((with_reducible refine gate_callee (f := 106) rfl ?_); refine goesL_ (some 15) rfl rfl Tryz.func106 (by kernel_rfl) rfl #[.slice A0 l0.length c0] rfl ap3 ?_; (with_reducible refine (R15Rdn.calls k _ _ l0 false _ ?side1 ?side2 A2.out).mono ?_); (case side1 => repeat (first | exact HR0.out | (with_reducible refine Kd.C_alloc ?_ _) | (with_reducible refine Kd.C_drewN ?_ _) | (with_reducible refine Kd.C_drew ?_))); (case side2 => exact HC0.out); rintro e w56 ⟨rfl, hb⟩; refine ⟨_, rfl, ?_⟩; replace HB := am (below_step ap1 hb))); go_ret2; exact ⟨ap9, ap1⟩
def R15Keys.l0 : Nat → List (List (S96)) → List ByteArray → Int → Option (List ByteArray × Int)
 | 0, _, _, _ => none
 | k + 1, x0, x4, x5 => if x5 ≥ 0 then (if 0 ≤ x5 then (if x5 < (x0.length : Int) then ((R15Key.f k (rd_L8 x0 x5)).bind fun bt754 => (if x4.length < 8796093022208 then (R15Keys.l0 k x0 (x4 ++ [bt754.1]) (wrap64 (x5 - 1))) else (none))) else (none)) else (none)) else (some (x4, 0))
def R15Keys.f (k : Nat) (l0 : List (List (S96))) : Option (List ByteArray × Int) := (R15Right.f k l0).bind fun t749 => (if t749 = true then (R15Keys.l0 k l0 (([] : List ByteArray)) (wrap64 ((l0.length : Int) - 1))) else (some (([] : List ByteArray), 4)))
set_option maxHeartbeats 8000000 in
set_option maxRecDepth 100000 in
theorem R15Keys.calls (k : Nat) (A0 : Option Addr) (c0 : Nat) (l0 : List (List (S96))) (r1 : List ByteArray) (r2 : Int) (w : World) (hr0 : Kd.C (Kd.slice 96 k96) w A0 l0.length l0) (hc0 : l0.length ≤ c0) (h : R15Keys.f k l0 = some (r1, r2)) :
  Calls Tryz.prog 46 #[.slice A0 l0.length c0] w fun e w' => ∃ v0_ : Value, e = .returned (.tuple #[v0_, .int .i64 r2]) ∧ Kd.R Kd.string 9 w' w.heap.size (fun _ => True) v0_ r1 ∧ Below w.heap.size w w' := by
 have HR0 := am hr0
 have HC0 := am hc0
 clear hr0 hc0
 have HB := am (Below.refl w.heap.size w)
 have H : ((R15Right.f k l0).bind fun t749 => (if t749 = true then (R15Keys.l0 k l0 (([] : List ByteArray)) (wrap64 ((l0.length : Int) - 1))) else (some (([] : List ByteArray), 4)))) = some (r1, r2) := h
 clear h
 replace H := Option.bind_eq_some_iff.mp H
 obtain ⟨t749, A20, H⟩ := H
 replace H : (if t749 = true then (R15Keys.l0 k l0 (([] : List ByteArray)) (wrap64 ((l0.length : Int) - 1))) else (some (([] : List ByteArray), 4))) = some (r1, r2) := H
 have A2 := am A20
 clear A20
 revert H
 refine spb ?_ ?_
 ·rintro rfl H; obtain ⟨y750, hy750⟩ : ∃ y_ : List ByteArray, y_ = (([] : List ByteArray)) := ⟨_, rfl⟩; replace H : (R15Keys.l0 k l0 y750 (wrap64 ((l0.length : Int) - 1))) = some (r1, r2) := apY hy750 H; have Ny750 := am hy750; clear hy750; have H' := am H; clear H; go_enter Tryz.func46, Tryz.ntmps46; go_wp2_with (first | ((with_reducible refine gate_callee (f := 75) rfl ?_); refine goesL_ (some 9) rfl rfl Tryz.func75 (by kernel_rfl) rfl #[.slice A0 l0.length c0] rfl ap3 ?_; (with_reducible refine (R15Right.calls k _ _ l0 true _ ?side1 ?side2 A2.out).mono ?_); (case side1 => repeat (first | exact HR0.out | (with_reducible refine Kd.C_alloc ?_ _) | (with_reducible refine Kd.C_drewN ?_ _) | (with_reducible refine Kd.C_drew ?_))); (case side2 => exact HC0.out); rintro e w4 ⟨rfl, hb⟩; refine ⟨_, rfl, ?_⟩; replace HB := am (below_step ap1 hb)) | ((with_reducible refine gate_dst (N := 11) rfl ?_); refine Kd.R_lit Kd.string _ 9 ?hg (N := 11) ?hd (xs := ([] : List ByteArray)) (inner := []) (ok := fun _ => True) (okp := fun _ => True) ?hr ?hp (fun _ hk => hk) trivial (Below.refl _ _) (Nat.le_refl _) (by simp) ?_; (case hd => rfl); (case hg => rfl); (case hr => first | (go_simp; done) | (go_simp; rfl)); (case hp => exact (Reps.none _ _)); intro v751 w5 ho6 hb hg_ hnew_; clear hg_ hnew_; (first | rw [← Ny750.out] at ho6 | (simp only [Int.reduceToNat] at ho6; rw [← Ny750.out] at ho6)); have HO752 := am (Kd.R_lower ho6 (below_size ap1)); replace HB := am (below_step ap1 hb); clear hb ho6)); go_loopg [4, 5] k (fun kq v4 v5 w' => ∃ (x4_1 : List ByteArray) (x5_1 : Int), v5 = .int .i64 x5_1 ∧ Aside0 (R15Keys.l0 kq l0 x4_1 x5_1 = some (r1, r2)) ∧ Aside0 (kq ≤ k) ∧ Aside0 (Kd.R Kd.string 9 w' w.heap.size (fun _ => True) v4 x4_1) ∧ Aside0 (Below w.heap.size w w')); (case atStart => exact ⟨(y750), (wrap64 ((l0.length : Int) - 1)), ap2, H', ⟨Nat.le_refl _⟩, ⟨apAR HO752.out⟩, ⟨ap1⟩⟩); case round =>
   clear H'; (try clear c3); obtain ⟨x4_1, x5_1, rfl, HA, HK1, HO_4, HB⟩ := hrel; cases gk with
   | zero => exact absurd HA.out (by simp [R15Keys.l0])
   | succ k1 =>
    have H := HA.out; clear HA; simp only [R15Keys.l0] at H; revert H; refine spd00 ?_ ?_
    ·intro c7b0 H; revert H; refine spn0 ?_; intro c8b0 H; revert H; refine spn0 ?_; intro c9b0 H; replace H := Option.bind_eq_some_iff.mp H; obtain ⟨⟨t754, t755⟩, A100, H⟩ := H; replace H : (if x4_1.length < 8796093022208 then (R15Keys.l0 k1 l0 (x4_1 ++ [t754]) (wrap64 (x5_1 - 1))) else (none)) = some (r1, r2) := H; have A10 := am A100; clear A100; by_cases c11 : x4_1.length < 8796093022208
     ·rw [if_pos c11] at H; have LMc11 := am c11; clear c11; obtain ⟨y756, hy756⟩ : ∃ y_ : List ByteArray, y_ = (x4_1 ++ [t754]) := ⟨_, rfl⟩; replace H : (R15Keys.l0 k1 l0 y756 (wrap64 (x5_1 - 1))) = some (r1, r2) := apY hy756 H; have Ny756 := am hy756; clear hy756; have H' := am H; clear H; have p753 : 0 ≤ (x5_1 : Int) := apD; have q753 : x5_1 < (l0.length : Int) := apD; obtain ⟨ad753, A753_0, c753_0, e753, hx753_0, hl753_0, hi753_0⟩ := at_L8 HR0.out x5_1 p753 q753; cases e753; replace hx753_0 := (HB.out.cell (World.block_lt_of_cell? w _ hx753_0)).trans hx753_0; have HR753_0 := am hi753_0; have HC753_0 := am hl753_0; clear hi753_0 hl753_0; replace p753 := eq_true p753; replace q753 := eq_true q753; go_wp2_with (first | ((with_reducible refine gate_callee (f := 76) rfl ?_); refine goesL_ (some 24) rfl rfl Tryz.func76 (by kernel_rfl) rfl #[.slice A753_0 (rd_L8 l0 x5_1).length c753_0] rfl ap3 ?_; (with_reducible refine (R15Key.calls k1 _ _ (rd_L8 l0 x5_1) t754 t755 _ ?side1 ?side2 A10.out).mono ?_); (case side1 => repeat (first | exact (Kd.C_below HR753_0.out HB.out) | (with_reducible refine Kd.C_alloc ?_ _) | (with_reducible refine Kd.C_drewN ?_ _) | (with_reducible refine Kd.C_drew ?_))); (case side2 => exact HC753_0.out); rintro e w12 ⟨rfl, hb⟩; refine ⟨_, rfl, ?_⟩; replace HO_4 := am (Kd.R_below (apAR HO_4.out) hb); replace HB := am (below_step ap1 hb)) | ((with_reducible refine gate_builtin (b := .append) (xs := #[.tmp 27, .tmp 29]) rfl ?_); at_builtin; refine Kd.R_append Kd.string (w0 := w) w.heap.size rfl (.tmp 27) (.tmp 29) 31 9 (.string ⟨#[]⟩) 16 rfl Tryz.underlying31 info9 rfl (by decide) (by omega) u4 x4_1 t754 [.string t754] (fun _ => True) (fun _ => False) rfl rfl ?aP (fun _ hk => hk.elim) ?aF ?aO ?aB ?aS ?aL ?_; (case aP => exact rfl); (case aB => exact ap1); (case aF => exact (fun _ _ => trivial)); (case aO => exact (apAR HO_4.out)); (case aS => exact (below_size ap1)); (case aL => have := LMc11.out; omega); intro v757 w13 ho hb hg hat; rw [← Ny756.out] at ho; have HO758 := am (ho); replace HB := am (hb); clear ho hb hg hat)); go_roundg k1; (case measure => have := HK1.out; omega); case rel => exact ⟨(y756), (wrap64 (x5_1 - 1)), ap2, H', ⟨by have := HK1.out; omega⟩, ⟨apAR HO758.out⟩, ⟨ap1⟩⟩
     ·rw [if_neg c11] at H; exact absurd H (by simp)
    ·intro c7b0 H; simp only [Option.some.injEq, Prod.mk.injEq] at H; obtain ⟨rfl, rfl⟩ := H; go_wp2; go_ret2; exact ⟨_, ap9, apAR HO_4.out, ap1⟩
 ·rintro rfl H; simp only [Option.some.injEq, Prod.mk.injEq] at H; obtain ⟨rfl, rfl⟩ := H; go_enter Tryz.func46, Tryz.ntmps46; go_wp2_with (first | ((with_reducible refine gate_callee (f := 75) rfl ?_); refine goesL_ (some 9) rfl rfl Tryz.func75 (by kernel_rfl) rfl #[.slice A0 l0.length c0] rfl ap3 ?_; (with_reducible refine (R15Right.calls k _ _ l0 false _ ?side1 ?side2 A2.out).mono ?_); (case side1 => repeat (first | exact HR0.out | (with_reducible refine Kd.C_alloc ?_ _) | (with_reducible refine Kd.C_drewN ?_ _) | (with_reducible refine Kd.C_drew ?_))); (case side2 => exact HC0.out); rintro e w14 ⟨rfl, hb⟩; refine ⟨_, rfl, ?_⟩; replace HB := am (below_step ap1 hb))); go_ret2; exact ⟨_, ap9, by first | exact Kd.R_nil _ _ _ _ _ | exact Kd.N_nil _ _ _ _ _ | exact Kd.V_nil _ _ _ _ _ | exact Kd.Q_nil _ _ _ _ _ | exact Kd.S_nil _ _ _ _ _, ap1⟩
mutual
def R16Number.j0 : Nat → ByteArray → Bool → Option (Bool)
 | 0, _, _ => none
 | k + 1, x0, x13 => if x13 = true then (if 1 ≤ (x0.size : Int) then (R16Number.j1 k (x0.extract 1 x0.size)) else (none)) else (R16Number.j1 k x0)
def R16Number.j1 : Nat → ByteArray → Option (Bool)
 | 0, _ => none
 | k + 1, x0 => if (x0.size : Int) < 1 then (R16Number.j2 k x0 true) else (if (x0.size : Int) > 18 then (R16Number.j2 k x0 true) else (if 0 < (x0.size : Int) then (R16Number.j2 k x0 ((bt x0 0) == 48)) else (none)))
def R16Number.j2 : Nat → ByteArray → Bool → Option (Bool)
 | 0, _, _ => none
 | k + 1, x0, x28 => if x28 = true then (some false) else (R16Number.l0 k x0 0)
def R16Number.l0 : Nat → ByteArray → Int → Option (Bool)
 | 0, _, _ => none
 | k + 1, x0, x3 => if x3 < (x0.size : Int) then (if 0 ≤ x3 then (if (bt x0 x3) < 48 then (some false) else (if (bt x0 x3) > 57 then (some false) else (R16Number.l0 k x0 (wrap64 (x3 + 1))))) else (none)) else (some true)
end
def R16Number.f (k : Nat) (a0 : ByteArray) : Option (Bool) := if a0.toList = ([48] : List UInt8) then (some true) else (if (a0.size : Int) > 0 then (if 0 < (a0.size : Int) then (R16Number.j0 k a0 ((bt a0 0) == 45)) else (none)) else (R16Number.j0 k a0 false))
set_option maxHeartbeats 8000000 in
set_option maxRecDepth 100000 in
theorem R16Number.calls (k : Nat) (a0 : ByteArray) (r : Bool) (w : World) (h : R16Number.f k a0 = some r) :
  Calls Tryz.prog 44 #[.string a0] w fun e w' => e = .returned (.bool r) ∧ Drawn0 w w' := by
 have H : (if a0.toList = ([48] : List UInt8) then (some true) else (if (a0.size : Int) > 0 then (if 0 < (a0.size : Int) then (R16Number.j0 k a0 ((bt a0 0) == 45)) else (none)) else (R16Number.j0 k a0 false))) = some r := h
 clear h
 revert H
 refine spe01 ?_ ?_
 ·intro c2b0 c2b1 H; obtain rfl := Option.some.inj H; go_enter Tryz.func44, Tryz.ntmps44; go_wp2; go_ret; exact ⟨ap2, ap7⟩
 ·intro c2 c2b0 c2b1 H; have HC3 := am H; clear H; go_enter Tryz.func44, Tryz.ntmps44; go_upto_region 3 with (fail); go_cut [13] (fun v13 wc => ∃ (kq : Nat) (x13_2 : Bool), v13 = .bool x13_2 ∧ Aside0 (R16Number.j0 kq a0 x13_2 = some r) ∧ Aside0 (kq ≤ k) ∧ Drawn0 w wc); case first =>
   have H := HC3.out; clear HC3; revert H; refine spd11 ?_ ?_
   ·intro c4 c4b0 H; have c4b1 : decide (0 < a0.size) = true := decide_eq_true (by omega); clear c4; (first | rw [c4b0] | (simp only [i64_w, i32_w]; rw [c4b0]) | skip); revert H; refine spn1 ?_; intro c5 c5b0 H; have c5b1 : decide (0 < a0.size) = true := decide_eq_true (by omega); clear c5; have H' := am H; clear H; have p6 : 0 ≤ (0 : Int) := (by omega); have q6 : 0 < a0.size := (by have : (0 : Int) < (a0.size : Int) := apD; omega); have hx6 : ∀ h : 0 < a0.size, ((a0[0]'h).toNat : Int) = bt a0 0 := bt_at a0 0; clear p6; have qi6 : (0 < (a0.size : Int)) = True := eq_true (apD); replace q6 := eq_true q6; go_wp2; (first | go_meet | (simp only [c2b0] at *; go_meet) | (simp only [c2b0] at *; go_meet)); case rel => exact ⟨_, (((bt a0 0) == 45)), ap2, H', ⟨apN⟩, ap7⟩
   ·intro c4 c4b0 H; have c4b1 : decide (0 < a0.size) = false := decide_eq_false (by omega); clear c4; (first | rw [c4b0] | (simp only [i64_w, i32_w]; rw [c4b0]) | skip); have H' := am H; clear H; go_wp2; (first | go_meet | (simp only [c2b0] at *; go_meet) | (simp only [c2b0] at *; go_meet)); case rel => exact ⟨_, (false), ap2, H', ⟨apN⟩, ap7⟩
  case rest =>
   clear HC3; (try clear c2); (try clear c2b0); (try clear c2b1); obtain ⟨kq, x13_2, rfl, HA, HJ2, ⟨mc2, rfl⟩⟩ := hcut; cases kq with
   | zero => exact absurd HA.out (by simp [R16Number.j0])
   | succ kj2 =>
    have H := HA.out; clear HA; simp only [R16Number.j0] at H; have HC7 := am H; clear H; go_upto_if 13 with (fail); go_cut [0] (fun v0 wc => ∃ (kq : Nat) (x0_6 : ByteArray), v0 = .string x0_6 ∧ Aside0 (R16Number.j1 kq x0_6 = some r) ∧ Aside0 (kq ≤ kj2) ∧ Drawn0 w wc); case first =>
     have H := HC7.out; clear HC7; revert H; refine spb ?_ ?_
     ·rintro rfl H; by_cases c9 : 1 ≤ (a0.size : Int)
      ·rw [if_pos c9] at H; have c9b0 := eq_true c9; have c9b1 := decide_eq_true c9; clear c9; have H' := am H; clear H; go_wp2; (first | go_meet | (simp only [c2b0] at *; go_meet) | (simp only [c2b0] at *; go_meet)); case rel => exact ⟨_, (a0.extract 1 a0.size), ap2, H', ⟨by have := HJ2.out; first | omega | exact Nat.le_refl _⟩, ap7⟩
      ·rw [if_neg c9] at H; exact absurd H (by simp)
     ·rintro rfl H; have H' := am H; clear H; go_wp2; (first | go_meet | (simp only [c2b0] at *; go_meet) | (simp only [c2b0] at *; go_meet)); case rel => exact ⟨_, (a0), ap2, H', ⟨by have := HJ2.out; first | omega | exact Nat.le_refl _⟩, ap7⟩
    case rest =>
     clear HC7; (try clear c2); (try clear c2b0); (try clear c2b1); obtain ⟨kq, x0_6, rfl, HA, HJ6, ⟨mc6, rfl⟩⟩ := hcut; cases kq with
     | zero => exact absurd HA.out (by simp [R16Number.j1])
     | succ kj6 =>
      have H := HA.out; clear HA; simp only [R16Number.j1] at H; have HC10 := am H; clear H; go_upto_region 5 with (fail); go_cut [28] (fun v28 wc => ∃ (kq : Nat) (x28_9 : Bool), v28 = .bool x28_9 ∧ Aside0 (R16Number.j2 kq x0_6 x28_9 = some r) ∧ Aside0 (kq ≤ kj6) ∧ Drawn0 w wc); case first =>
       have H := HC10.out; clear HC10; revert H; refine spd11 ?_ ?_
       ·intro c11 c11b0 H; have c11b1 : decide (x0_6.size < 1) = true := decide_eq_true (by omega); clear c11; (first | rw [c11b0] | (simp only [i64_w, i32_w]; rw [c11b0]) | skip); have H' := am H; clear H; go_wp2; (first | go_meet | (simp only [c2b0] at *; go_meet) | (simp only [c2b0] at *; go_meet)); case rel => exact ⟨_, (true), ap2, H', ⟨by have := HJ2.out; have := HJ6.out; first | omega | exact Nat.le_refl _⟩, ap7⟩
       ·intro c11 c11b0 H; have c11b1 : decide (x0_6.size < 1) = false := decide_eq_false (by omega); clear c11; (first | rw [c11b0] | (simp only [i64_w, i32_w]; rw [c11b0]) | skip); revert H; refine spd11 ?_ ?_
        ·intro c12 c12b0 H; have c12b1 : decide (18 < x0_6.size) = true := decide_eq_true (by omega); clear c12; have H' := am H; clear H; go_wp2; (first | go_meet | (simp only [c2b0] at *; go_meet) | (simp only [c2b0] at *; go_meet)); case rel => exact ⟨_, (true), ap2, H', ⟨by have := HJ2.out; have := HJ6.out; first | omega | exact Nat.le_refl _⟩, ap7⟩
        ·intro c12 c12b0 H; have c12b1 : decide (18 < x0_6.size) = false := decide_eq_false (by omega); clear c12; revert H; refine spn1 ?_; intro c13 c13b0 H; have c13b1 : decide (0 < x0_6.size) = true := decide_eq_true (by omega); clear c13; have H' := am H; clear H; have p14 : 0 ≤ (0 : Int) := (by omega); have q14 : 0 < x0_6.size := (by have : (0 : Int) < (x0_6.size : Int) := apD; omega); have hx14 : ∀ h : 0 < x0_6.size, ((x0_6[0]'h).toNat : Int) = bt x0_6 0 := bt_at x0_6 0; clear p14; have qi14 : (0 < (x0_6.size : Int)) = True := eq_true (apD); replace q14 := eq_true q14; go_wp2; (first | go_meet | (simp only [c2b0] at *; go_meet) | (simp only [c2b0] at *; go_meet)); case rel => exact ⟨_, (((bt x0_6 0) == 48)), ap2, H', ⟨by have := HJ2.out; have := HJ6.out; first | omega | exact Nat.le_refl _⟩, ap7⟩
      case rest =>
       clear HC10; (try clear c2); (try clear c2b0); (try clear c2b1); obtain ⟨kq, x28_9, rfl, HA, HJ9, ⟨mc9, rfl⟩⟩ := hcut; cases kq with
       | zero => exact absurd HA.out (by simp [R16Number.j2])
       | succ kj9 =>
        have H := HA.out; clear HA; simp only [R16Number.j2] at H; revert H; refine spb ?_ ?_
        ·rintro rfl H; obtain rfl := Option.some.inj H; go_wp2; go_ret; exact ⟨ap2, ap7⟩
        ·rintro rfl H; have H' := am H; clear H; go_wp2; go_loopg [3] kj9 (fun kq v3 w' => ∃ (x3_4 : Int), v3 = .int .i64 x3_4 ∧ Aside0 (R16Number.l0 kq x0_6 x3_4 = some r) ∧ Aside0 (kq ≤ kj9) ∧ Drawn0 w w'); (case atStart => exact ⟨(0), ap2, H', ⟨Nat.le_refl _⟩, ap7⟩); case round =>
          clear H'; (try clear c2); (try clear c2b0); (try clear c2b1); (try clear c15); obtain ⟨x3_4, rfl, HA, HK4, ⟨m4, rfl⟩⟩ := hrel; cases gk with
          | zero => exact absurd HA.out (by simp [R16Number.l0])
          | succ k4 =>
           have H := HA.out; clear HA; simp only [R16Number.l0] at H; revert H; refine spd00 ?_ ?_
           ·intro c16b0 H; revert H; refine spn0 ?_; intro c17b0 H; revert H; refine spd00 ?_ ?_
            ·intro c19b0 H; obtain rfl := Option.some.inj H; have p18 : 0 ≤ (x3_4 : Int) := apD; have q18 : x3_4 < (x0_6.size : Int) := apD; have hx18 := bt_at x0_6 x3_4; replace p18 := eq_true p18; replace q18 := eq_true q18; go_wp2; go_ret; exact ⟨ap2, ap7⟩
            ·intro c19b0 H; revert H; refine spd00 ?_ ?_
             ·intro c21b0 H; obtain rfl := Option.some.inj H; have p18 : 0 ≤ (x3_4 : Int) := apD; have q18 : x3_4 < (x0_6.size : Int) := apD; have hx18 := bt_at x0_6 x3_4; replace p18 := eq_true p18; replace q18 := eq_true q18; have p20 : 0 ≤ (x3_4 : Int) := apD; have q20 : x3_4 < (x0_6.size : Int) := apD; have hx20 := bt_at x0_6 x3_4; replace p20 := eq_true p20; replace q20 := eq_true q20; go_wp2; go_ret; exact ⟨ap2, ap7⟩
             ·intro c21b0 H; have H' := am H; clear H; have p18 : 0 ≤ (x3_4 : Int) := apD; have q18 : x3_4 < (x0_6.size : Int) := apD; have hx18 := bt_at x0_6 x3_4; replace p18 := eq_true p18; replace q18 := eq_true q18; have p20 : 0 ≤ (x3_4 : Int) := apD; have q20 : x3_4 < (x0_6.size : Int) := apD; have hx20 := bt_at x0_6 x3_4; replace p20 := eq_true p20; replace q20 := eq_true q20; go_wp2; go_roundg k4; (case measure => have := HJ2.out; have := HJ6.out; have := HJ9.out; have := HK4.out; omega); case rel => exact ⟨(wrap64 (x3_4 + 1)), ap2, H', ⟨by have := HJ2.out; have := HJ6.out; have := HJ9.out; have := HK4.out; omega⟩, ap7⟩
           ·intro c16b0 H; obtain rfl := Option.some.inj H; go_wp2; go_ret; exact ⟨ap2, ap7⟩
mutual
def R16Normal.j0 : Nat → ByteArray → Bool → ByteArray → Int → Bool → Option (ByteArray × Int)
 | 0, _, _, _, _, _ => none
 | k + 1, x1, x24, x774000, x774001, x774002 => if x24 = true then (some ((⟨#[]⟩ : ByteArray), 14)) else (if (x1.size : Int) > 1000 then (some ((⟨#[]⟩ : ByteArray), 5)) else (if (x1.size : Int) = 0 then (some ((⟨#[]⟩ : ByteArray), 4)) else (if x774001 = 1 then (R16Normal.j1 k x1 x1 true x774001 (x774001 == 1) x774000 x774001 x774002) else (R16Normal.j1 k x1 x1 true x774001 (x774001 == 2) x774000 x774001 x774002))))
def R16Normal.j1 : Nat → ByteArray → ByteArray → Bool → Int → Bool → ByteArray → Int → Bool → Option (ByteArray × Int)
 | 0, _, _, _, _, _, _, _, _ => none
 | k + 1, x1, x6, x7, x33, x34, x774000, x774001, x774002 => if x34 = true then ((R13Ready.f k x1 (x774001 == 1)).bind fun bt774 => (if bt774.2 = 0 then (if ((bt774.1.size : Int) > 0) then (some (bt774.1, 0)) else (some ((⟨#[]⟩ : ByteArray), 4))) else (some ((⟨#[]⟩ : ByteArray), 4)))) else (if x33 = 4 then ((R16Number.f k x1).bind fun t776 => (if t776 = true then (some (x6, 0)) else (some ((⟨#[]⟩ : ByteArray), 4)))) else (if x33 = 5 then (if x1.toList = ([84, 82, 85, 69] : List UInt8) then (some (x6, 0)) else (if (x1.toList = ([70, 65, 76, 83, 69] : List UInt8)) then (some (x6, 0)) else (some ((⟨#[]⟩ : ByteArray), 4)))) else (if x33 = 6 then ((R15Parse.f k x1).bind fun bt777 => ((R15Keys.f k bt777.1).bind fun bt781 => (R16Normal.l0 k (⟨#[]⟩ : ByteArray) (bt777.2 == 0) bt781.1 0))) else (if x33 = 7 then ((R13Phone.f k x1).bind fun bt786 => (if bt786.2 = 0 then (if ((bt786.1.size : Int) > 0) then (some (bt786.1, 0)) else (some ((⟨#[]⟩ : ByteArray), 4))) else (some ((⟨#[]⟩ : ByteArray), 4)))) else (if x7 = true then (some (x6, 0)) else (some ((⟨#[]⟩ : ByteArray), 4)))))))
def R16Normal.l0 : Nat → ByteArray → Bool → List ByteArray → Int → Option (ByteArray × Int)
 | 0, _, _, _, _ => none
 | k + 1, x6, x7, x12, x14 => if x14 < (x12.length : Int) then (if 0 ≤ x14 then (if x6.size + (rdOf ByteArray.empty x12 x14).size ≤ 9223372036854775807 then (R16Normal.l0 k (x6 ++ (rdOf ByteArray.empty x12 x14)) x7 x12 (wrap64 (x14 + 1))) else (none)) else (none)) else (if x7 = true then (some (x6, 0)) else (some ((⟨#[]⟩ : ByteArray), 4)))
end
def R16Normal.f (k : Nat) (a0_0 : ByteArray) (a0_1 : Int) (a0_2 : Bool) (a1 : ByteArray) : Option (ByteArray × Int) := if a0_1 < 1 then (R16Normal.j0 k a1 true a0_0 a0_1 a0_2) else (R16Normal.j0 k a1 (decide (a0_1 > 7)) a0_0 a0_1 a0_2)
set_option maxHeartbeats 8000000 in
set_option maxRecDepth 100000 in
theorem R16Normal.calls (k : Nat) (a0_0 : ByteArray) (a0_1 : Int) (a0_2 : Bool) (a1 : ByteArray) (r1 : ByteArray) (r2 : Int) (w : World) (h : R16Normal.f k a0_0 a0_1 a0_2 a1 = some (r1, r2)) :
  Calls Tryz.prog 20 #[.agg #[.string a0_0, .int .i64 a0_1, .bool a0_2], .string a1] w fun e w' => e = .returned (.tuple #[.string r1, .int .i64 r2]) ∧ Below w.heap.size w w' := by
 have hu23 := Tryz.underlying23
 have HB := am (Below.refl w.heap.size w)
 have H : (if a0_1 < 1 then (R16Normal.j0 k a1 true a0_0 a0_1 a0_2) else (R16Normal.j0 k a1 (decide (a0_1 > 7)) a0_0 a0_1 a0_2)) = some (r1, r2) := h
 clear h
 have HC3 := am H
 clear H
 go_enter Tryz.func20, Tryz.ntmps20
 go_upto_region 1 with (first | ((with_reducible refine gate_dst (N := 2) rfl ?_); (try (refine gate_guard (by rfl) ?_; dsimp only)); refine box_event ?hg (N := 2) ?hd (cs := #[.string a0_0, .int .i64 a0_1, .bool a0_2]) (t := 23) ?hr ?_; (case hd => rfl); (case hg => rfl); (case hr => first | (go_simp; done) | (go_simp; rfl)); intro gb773 hg w4 hbox hb; have BK773 := am (hbox); have GW773 := am ((by rw [hg]; exact (below_size ap1) : w.heap.size ≤ gb773)); have GE773 := am ((by rw [hg]; exact (below_size ap1) : w.heap.size ≤ gb773)); replace HB := am (below_step ap1 hb); clear hb hbox hg))
 (try simp only [Act.put, List.setIfInBounds_toArray, List.set_cons_zero, List.set_cons_succ])
 go_cut [24] (fun v24 wc => ∃ (kq : Nat) (x24_2 : Bool), v24 = .bool x24_2 ∧ Aside0 (R16Normal.j0 kq a1 x24_2 a0_0 a0_1 a0_2 = some (r1, r2)) ∧ Aside0 (kq ≤ k) ∧ Aside0 (wc.heap[gb773]? = some (.cells #[.string a0_0, .int .i64 a0_1, .bool a0_2] 23 (0, 0))) ∧ Aside0 (Below w.heap.size w wc))
 case first =>
  have H := HC3.out; clear HC3; revert H; refine spd00 ?_ ?_
  ·intro c5b0 H; (first | rw [c5b0] | (simp only [i64_w, i32_w]; rw [c5b0]) | skip); have H' := am H; clear H; obtain ⟨hcz6_0, hcz6_1, hcz6_2, hfz6_0, hfz6_1, hfz6_2⟩ := bc3 BK773.out; go_wp2; go_meet; case rel => exact ⟨_, (true), ap2, H', ⟨apN⟩, ⟨apB BK773.out⟩, ⟨apG1 GE773.out⟩⟩
  ·intro c5b0 H; (first | rw [c5b0] | (simp only [i64_w, i32_w]; rw [c5b0]) | skip); have H' := am H; clear H; obtain ⟨hcz7_0, hcz7_1, hcz7_2, hfz7_0, hfz7_1, hfz7_2⟩ := bc3 BK773.out; go_wp2; go_meet; case rel => exact ⟨_, (decide (a0_1 > 7)), ap2, H', ⟨apN⟩, ⟨apB BK773.out⟩, ⟨apG1 GE773.out⟩⟩
 case rest =>
  clear HC3; obtain ⟨kq, x24_2, rfl, HA, HJ2, BK773, HB⟩ := hcut; cases kq with
  | zero => exact absurd HA.out (by simp [R16Normal.j0])
  | succ kj2 =>
   have H := HA.out; clear HA; simp only [R16Normal.j0] at H; revert H; refine spb ?_ ?_
   ·rintro rfl H; simp only [Option.some.injEq, Prod.mk.injEq] at H; obtain ⟨rfl, rfl⟩ := H; go_wp2; go_ret2; exact ⟨ap9, apG1 GE773.out⟩
   ·rintro rfl H; revert H; refine spd11 ?_ ?_
    ·intro c9 c9b0 H; have c9b1 : decide (1000 < a1.size) = true := decide_eq_true (by omega); clear c9; simp only [Option.some.injEq, Prod.mk.injEq] at H; obtain ⟨rfl, rfl⟩ := H; go_wp2; go_ret2; exact ⟨ap9, apG1 GE773.out⟩
    ·intro c9 c9b0 H; have c9b1 : decide (1000 < a1.size) = false := decide_eq_false (by omega); clear c9; revert H; refine spe01 ?_ ?_
     ·intro c10b0 c10b1 H; simp only [Option.some.injEq, Prod.mk.injEq] at H; obtain ⟨rfl, rfl⟩ := H; go_wp2; go_ret2; exact ⟨ap9, apG1 GE773.out⟩
     ·intro c10 c10b0 c10b1 H; have HC11 := am H; clear H; obtain ⟨hcz12_0, hcz12_1, hcz12_2, hfz12_0, hfz12_1, hfz12_2⟩ := bc3 BK773.out; go_upto_if 34 with (fail); go_cut [34] (fun v34 wc => ∃ (kq : Nat) (x34_10 : Bool), v34 = .bool x34_10 ∧ Aside0 (R16Normal.j1 kq a1 a1 true a0_1 x34_10 a0_0 a0_1 a0_2 = some (r1, r2)) ∧ Aside0 (kq ≤ kj2) ∧ Aside0 (wc.heap[gb773]? = some (.cells #[.string a0_0, .int .i64 a0_1, .bool a0_2] 23 (0, 0))) ∧ Aside0 (Below w.heap.size w wc)); case first =>
       have H := HC11.out; clear HC11; revert H; refine spe01 ?_ ?_
       ·intro c13b0 c13b1 H; (first | rw [c13b0] | (simp only [i64_w, i32_w]; rw [c13b0]) | skip); have H' := am H; clear H; go_wp2; (first | go_meet | (simp only [c13b0] at *; go_meet) | (simp only [c10b0] at *; go_meet) | (simp only [c10b0] at *; go_meet)); case rel => exact ⟨_, ((a0_1 == 1)), ap2, H', ⟨by have := HJ2.out; first | omega | exact Nat.le_refl _⟩, ⟨apB BK773.out⟩, ⟨apG1 GE773.out⟩⟩
       ·intro c13 c13b0 c13b1 H; (first | rw [c13b0] | (simp only [i64_w, i32_w]; rw [c13b0]) | skip); have H' := am H; clear H; go_wp2; (first | go_meet | (simp only [c13b0] at *; go_meet) | (simp only [c13b0] at *; go_meet) | (simp only [c10b0] at *; go_meet)); case rel => exact ⟨_, ((a0_1 == 2)), ap2, H', ⟨by have := HJ2.out; first | omega | exact Nat.le_refl _⟩, ⟨apB BK773.out⟩, ⟨apG1 GE773.out⟩⟩
      case rest =>
       clear HC11; (try clear c8); (try clear c9); (try clear c9b0); (try clear c9b1); (try clear c10); (try clear c10b0); (try clear c10b1); (try clear hcz12_0); (try clear hcz12_1); (try clear hcz12_2); (try clear hfz12_0); (try clear hfz12_1); (try clear hfz12_2); obtain ⟨kq, x34_10, rfl, HA, HJ10, BK773, HB⟩ := hcut; cases kq with
       | zero => exact absurd HA.out (by simp [R16Normal.j1])
       | succ kj10 =>
        have H := HA.out; clear HA; simp only [R16Normal.j1] at H; revert H; refine spb ?_ ?_
        ·rintro rfl H; replace H := Option.bind_eq_some_iff.mp H; obtain ⟨⟨t774, t775⟩, A150, H⟩ := H; replace H : (if t775 = 0 then (if ((t774.size : Int) > 0) then (some (t774, 0)) else (some ((⟨#[]⟩ : ByteArray), 4))) else (some ((⟨#[]⟩ : ByteArray), 4))) = some (r1, r2) := H; have A15 := am A150; clear A150; revert H; refine spe01 ?_ ?_
         ·intro c16b0 c16b1 H; revert H; refine spd11 ?_ ?_
          ·intro c17 c17b0 H; have c17b1 : decide (0 < t774.size) = true := decide_eq_true (by omega); clear c17; simp only [Option.some.injEq, Prod.mk.injEq] at H; obtain ⟨rfl, rfl⟩ := H; obtain ⟨hcz18_0, hcz18_1, hcz18_2, hfz18_0, hfz18_1, hfz18_2⟩ := bc3 BK773.out; go_wp2_with (first | ((with_reducible refine gate_callee (f := 17) rfl ?_); refine goesL_ (some 42) rfl rfl Tryz.func17 (by kernel_rfl) rfl #[.string a1, .bool (a0_1 == 1)] rfl ap3 ?_; (with_reducible refine (R13Ready.calls kj10 a1 (a0_1 == 1) t774 t775 _ A15.out).mono ?_); rintro e w19 ⟨rfl, hb⟩; refine ⟨_, rfl, ?_⟩; replace BK773 := am (blk_below (g := gb773) (o := .cells #[.string a0_0, .int .i64 a0_1, .bool a0_2] 23 (0, 0)) (apB BK773.out) hb); replace HB := am (below_step (apG GE773.out) hb))); go_ret2; exact ⟨ap9, apG1 GE773.out⟩
          ·intro c17 c17b0 H; have c17b1 : decide (0 < t774.size) = false := decide_eq_false (by omega); clear c17; simp only [Option.some.injEq, Prod.mk.injEq] at H; obtain ⟨rfl, rfl⟩ := H; obtain ⟨hcz20_0, hcz20_1, hcz20_2, hfz20_0, hfz20_1, hfz20_2⟩ := bc3 BK773.out; go_wp2_with (first | ((with_reducible refine gate_callee (f := 17) rfl ?_); refine goesL_ (some 42) rfl rfl Tryz.func17 (by kernel_rfl) rfl #[.string a1, .bool (a0_1 == 1)] rfl ap3 ?_; (with_reducible refine (R13Ready.calls kj10 a1 (a0_1 == 1) t774 t775 _ A15.out).mono ?_); rintro e w21 ⟨rfl, hb⟩; refine ⟨_, rfl, ?_⟩; replace BK773 := am (blk_below (g := gb773) (o := .cells #[.string a0_0, .int .i64 a0_1, .bool a0_2] 23 (0, 0)) (apB BK773.out) hb); replace HB := am (below_step (apG GE773.out) hb))); go_ret2; exact ⟨ap9, apG1 GE773.out⟩
         ·intro c16 c16b0 c16b1 H; simp only [Option.some.injEq, Prod.mk.injEq] at H; obtain ⟨rfl, rfl⟩ := H; obtain ⟨hcz22_0, hcz22_1, hcz22_2, hfz22_0, hfz22_1, hfz22_2⟩ := bc3 BK773.out; go_wp2_with (first | ((with_reducible refine gate_callee (f := 17) rfl ?_); refine goesL_ (some 42) rfl rfl Tryz.func17 (by kernel_rfl) rfl #[.string a1, .bool (a0_1 == 1)] rfl ap3 ?_; (with_reducible refine (R13Ready.calls kj10 a1 (a0_1 == 1) t774 t775 _ A15.out).mono ?_); rintro e w23 ⟨rfl, hb⟩; refine ⟨_, rfl, ?_⟩; replace BK773 := am (blk_below (g := gb773) (o := .cells #[.string a0_0, .int .i64 a0_1, .bool a0_2] 23 (0, 0)) (apB BK773.out) hb); replace HB := am (below_step (apG GE773.out) hb))); go_ret2; exact ⟨ap9, apG1 GE773.out⟩
        ·rintro rfl H; revert H; refine spe01 ?_ ?_
         ·intro c24b0 c24b1 H; replace H := Option.bind_eq_some_iff.mp H; obtain ⟨t776, A250, H⟩ := H; replace H : (if t776 = true then (some (a1, 0)) else (some ((⟨#[]⟩ : ByteArray), 4))) = some (r1, r2) := H; have A25 := am A250; clear A250; revert H; refine spb ?_ ?_
          ·rintro rfl H; simp only [Option.some.injEq, Prod.mk.injEq] at H; obtain ⟨rfl, rfl⟩ := H; go_wp2_with (first | ((with_reducible refine gate_callee (f := 44) rfl ?_); refine goesL_ (some 56) rfl rfl Tryz.func44 (by kernel_rfl) rfl #[.string a1] rfl ap3 ?_; (with_reducible refine (R16Number.calls kj10 a1 true _ A25.out).mono ?_); rintro e w' ⟨rfl, ⟨nd, rfl⟩⟩; refine ⟨_, rfl, ?_⟩)); go_ret2; exact ⟨ap9, apG1 GE773.out⟩
          ·rintro rfl H; simp only [Option.some.injEq, Prod.mk.injEq] at H; obtain ⟨rfl, rfl⟩ := H; go_wp2_with (first | ((with_reducible refine gate_callee (f := 44) rfl ?_); refine goesL_ (some 56) rfl rfl Tryz.func44 (by kernel_rfl) rfl #[.string a1] rfl ap3 ?_; (with_reducible refine (R16Number.calls kj10 a1 false _ A25.out).mono ?_); rintro e w' ⟨rfl, ⟨nd, rfl⟩⟩; refine ⟨_, rfl, ?_⟩)); go_ret2; exact ⟨ap9, apG1 GE773.out⟩
         ·intro c24 c24b0 c24b1 H; revert H; refine spe01 ?_ ?_
          ·intro c27b0 c27b1 H; revert H; refine spe01 ?_ ?_
           ·intro c28b0 c28b1 H; simp only [Option.some.injEq, Prod.mk.injEq] at H; obtain ⟨rfl, rfl⟩ := H; go_wp2; go_ret2; exact ⟨ap9, apG1 GE773.out⟩
           ·intro c28 c28b0 c28b1 H; revert H; refine spe01 ?_ ?_
            ·intro c29b0 c29b1 H; simp only [Option.some.injEq, Prod.mk.injEq] at H; obtain ⟨rfl, rfl⟩ := H; go_wp2; go_ret2; exact ⟨ap9, apG1 GE773.out⟩
            ·intro c29 c29b0 c29b1 H; simp only [Option.some.injEq, Prod.mk.injEq] at H; obtain ⟨rfl, rfl⟩ := H; go_wp2; go_ret2; exact ⟨ap9, apG1 GE773.out⟩
          ·intro c27 c27b0 c27b1 H; revert H; refine spe01 ?_ ?_
           ·intro c30b0 c30b1 H; replace H := Option.bind_eq_some_iff.mp H; obtain ⟨⟨t777, t778⟩, A310, H⟩ := H; replace H : ((R15Keys.f kj10 t777).bind fun bt781 => (R16Normal.l0 kj10 (⟨#[]⟩ : ByteArray) (t778 == 0) bt781.1 0)) = some (r1, r2) := H; have A31 := am A310; clear A310; replace H := Option.bind_eq_some_iff.mp H; obtain ⟨⟨t781, t782⟩, A320, H⟩ := H; replace H : (R16Normal.l0 kj10 (⟨#[]⟩ : ByteArray) (t778 == 0) t781 0) = some (r1, r2) := H; have A32 := am A320; clear A320; have H' := am H; clear H; go_wp2_with (first | ((with_reducible refine gate_callee (f := 45) rfl ?_); refine goesL_ (some 69) rfl rfl Tryz.func45 (by kernel_rfl) rfl #[.string a1] rfl ap3 ?_; (with_reducible refine (R15Parse.calls kj10 a1 t777 t778 _ A31.out).mono ?_); rintro e w33 ⟨v779, rfl, ho0, hb⟩; refine ⟨_, rfl, ?_⟩; have HO780 := am (Kd.S_lower ho0 (below_size (apG GE773.out))); replace BK773 := am (blk_below (g := gb773) (o := .cells #[.string a0_0, .int .i64 a0_1, .bool a0_2] 23 (0, 0)) (apB BK773.out) hb); replace HB := am (below_step (apG GE773.out) hb); (try clear ho0); obtain ⟨Ao34, co34, eo34⟩ := Kd.S_slice HO780.out; subst eo34) | ((with_reducible refine gate_callee (f := 46) rfl ?_); refine goesL_ (some 74) rfl rfl Tryz.func46 (by kernel_rfl) rfl #[.slice Ao34 t777.length co34] rfl ap3 ?_; (with_reducible refine (R15Keys.calls kj10 _ _ t777 t781 t782 _ ?side1 ?side2 A32.out).mono ?_); (case side1 => repeat (first | exact (Kd.S_reads' HO780.out).2.2 | (with_reducible refine Kd.C_alloc ?_ _) | (with_reducible refine Kd.C_drewN ?_ _) | (with_reducible refine Kd.C_drew ?_))); (case side2 => exact (Kd.S_reads' HO780.out).2.1); rintro e w35 ⟨v783, rfl, ho0, hb⟩; refine ⟨_, rfl, ?_⟩; replace HO780 := am (Kd.S_below (apAS HO780.out) hb); have HO784 := am (Kd.R_lower ho0 (below_size (apG GE773.out))); replace BK773 := am (blk_below (g := gb773) (o := .cells #[.string a0_0, .int .i64 a0_1, .bool a0_2] 23 (0, 0)) (apB BK773.out) hb); replace HB := am (below_step (apG GE773.out) hb); (try clear ho0))); go_loopg [6, 14] kj10 (fun kq v6 v14 w' => ∃ (x6_3 : ByteArray) (x14_3 : Int), v6 = .string x6_3 ∧ v14 = .int .i64 x14_3 ∧ Aside0 (R16Normal.l0 kq x6_3 (t778 == 0) t781 x14_3 = some (r1, r2)) ∧ Aside0 (kq ≤ kj10) ∧ Aside0 (Kd.R Kd.string 9 w' w.heap.size (fun _ => True) v783 t781) ∧ Aside0 (w'.heap[gb773]? = some (.cells #[.string a0_0, .int .i64 a0_1, .bool a0_2] 23 (0, 0))) ∧ Aside0 (Below w.heap.size w w')); (case atStart => exact ⟨((⟨#[]⟩ : ByteArray)), (0), ap2, ap2, H', ⟨Nat.le_refl _⟩, ⟨apAR HO784.out⟩, ⟨apB BK773.out⟩, ⟨apG1 GE773.out⟩⟩); case round =>
             clear H'; (try clear c8); (try clear c9); (try clear c9b0); (try clear c9b1); (try clear c10); (try clear c10b0); (try clear c10b1); (try clear c14); (try clear c24); (try clear c24b0); (try clear c24b1); (try clear c27); (try clear c27b0); (try clear c27b1); (try clear c30); (try clear c30b0); (try clear c30b1); (try clear hcz12_0); (try clear hcz12_1); (try clear hcz12_2); (try clear hfz12_0); (try clear hfz12_1); (try clear hfz12_2); obtain ⟨x6_3, x14_3, rfl, rfl, HA, HK3, HO_12, BK773, HB⟩ := hrel; cases gk with
             | zero => exact absurd HA.out (by simp [R16Normal.l0])
             | succ k3 =>
              have H := HA.out; clear HA; simp only [R16Normal.l0] at H; revert H; refine spd00 ?_ ?_
              ·intro c36b0 H; revert H; refine spn0 ?_; intro c37b0 H; by_cases c38 : x6_3.size + (rdOf ByteArray.empty t781 x14_3).size ≤ 9223372036854775807
               ·rw [if_pos c38] at H; have c38b0 := eq_true c38; have c38b1 := decide_eq_true c38; (try have c38b2 : (9223372036854775807 < x6_3.size + (rdOf ByteArray.empty t781 x14_3).size) = False := eq_false (Nat.not_lt.2 c38)); have H' := am H; clear H; obtain ⟨Ao39, co39, eo39⟩ := Kd.R_slice HO_12.out; subst eo39; have p785 : 0 ≤ (x14_3 : Int) := apD; have q785 : x14_3 < (t781.length : Int) := apD; obtain ⟨ad785, e785, hx785_0⟩ := Kd.at_string (Kd.R_reads' HO_12.out).2.2 x14_3 p785 q785; cases e785; replace p785 := eq_true p785; replace q785 := eq_true q785; go_wp2; go_roundg k3; (case measure => have := HJ2.out; have := HJ10.out; have := HK3.out; omega); case rel => exact ⟨(x6_3 ++ (rdOf ByteArray.empty t781 x14_3)), (wrap64 (x14_3 + 1)), ap2, ap2, H', ⟨by have := HJ2.out; have := HJ10.out; have := HK3.out; omega⟩, ⟨apAR HO_12.out⟩, ⟨apB BK773.out⟩, ⟨apG1 GE773.out⟩⟩
               ·rw [if_neg c38] at H; exact absurd H (by simp)
              ·intro c36b0 H; by_cases c40 : (t778 == 0) = true
               ·rw [if_pos c40] at H; have c40b0 : (t778 == 0) = true := c40; (try (have c40b1 : decide (t778 = 0) = true := by simpa using c40)); (try (have c40b2 : (t778 == 0) = true := by simpa using c40)); clear c40; simp only [Option.some.injEq, Prod.mk.injEq] at H; obtain ⟨rfl, rfl⟩ := H; obtain ⟨Ao41, co41, eo41⟩ := Kd.R_slice HO_12.out; subst eo41; go_wp2; go_ret2; exact ⟨ap9, apG1 GE773.out⟩
               ·rw [if_neg c40] at H; have c40b0 : (t778 == 0) = false := by simpa using c40
                (try (have c40b1 : decide (t778 = 0) = false := by simpa using c40)); (try (have c40b2 : (t778 == 0) = false := by simpa using c40)); (try (have c40b3 : ¬ (t778 = 0) := by simpa using c40)); clear c40; simp only [Option.some.injEq, Prod.mk.injEq] at H; obtain ⟨rfl, rfl⟩ := H; obtain ⟨Ao42, co42, eo42⟩ := Kd.R_slice HO_12.out; subst eo42; go_wp2; go_ret2; exact ⟨ap9, apG1 GE773.out⟩
           ·intro c30 c30b0 c30b1 H; revert H; refine spe01 ?_ ?_
            ·intro c43b0 c43b1 H; replace H := Option.bind_eq_some_iff.mp H; obtain ⟨⟨t786, t787⟩, A440, H⟩ := H; replace H : (if t787 = 0 then (if ((t786.size : Int) > 0) then (some (t786, 0)) else (some ((⟨#[]⟩ : ByteArray), 4))) else (some ((⟨#[]⟩ : ByteArray), 4))) = some (r1, r2) := H; have A44 := am A440; clear A440; revert H; refine spe01 ?_ ?_
             ·intro c45b0 c45b1 H; revert H; refine spd11 ?_ ?_
              ·intro c46 c46b0 H; have c46b1 : decide (0 < t786.size) = true := decide_eq_true (by omega); clear c46; simp only [Option.some.injEq, Prod.mk.injEq] at H; obtain ⟨rfl, rfl⟩ := H; go_wp2_with (first | ((with_reducible refine gate_callee (f := 47) rfl ?_); refine goesL_ (some 95) rfl rfl Tryz.func47 (by kernel_rfl) rfl #[.string a1] rfl ap3 ?_; (with_reducible refine (R13Phone.calls kj10 a1 t786 t787 _ A44.out).mono ?_); rintro e w47 ⟨rfl, hb⟩; refine ⟨_, rfl, ?_⟩; replace BK773 := am (blk_below (g := gb773) (o := .cells #[.string a0_0, .int .i64 a0_1, .bool a0_2] 23 (0, 0)) (apB BK773.out) hb); replace HB := am (below_step (apG GE773.out) hb))); go_ret2; exact ⟨ap9, apG1 GE773.out⟩
              ·intro c46 c46b0 H; have c46b1 : decide (0 < t786.size) = false := decide_eq_false (by omega); clear c46; simp only [Option.some.injEq, Prod.mk.injEq] at H; obtain ⟨rfl, rfl⟩ := H; go_wp2_with (first | ((with_reducible refine gate_callee (f := 47) rfl ?_); refine goesL_ (some 95) rfl rfl Tryz.func47 (by kernel_rfl) rfl #[.string a1] rfl ap3 ?_; (with_reducible refine (R13Phone.calls kj10 a1 t786 t787 _ A44.out).mono ?_); rintro e w48 ⟨rfl, hb⟩; refine ⟨_, rfl, ?_⟩; replace BK773 := am (blk_below (g := gb773) (o := .cells #[.string a0_0, .int .i64 a0_1, .bool a0_2] 23 (0, 0)) (apB BK773.out) hb); replace HB := am (below_step (apG GE773.out) hb))); go_ret2; exact ⟨ap9, apG1 GE773.out⟩
             ·intro c45 c45b0 c45b1 H; simp only [Option.some.injEq, Prod.mk.injEq] at H; obtain ⟨rfl, rfl⟩ := H; go_wp2_with (first | ((with_reducible refine gate_callee (f := 47) rfl ?_); refine goesL_ (some 95) rfl rfl Tryz.func47 (by kernel_rfl) rfl #[.string a1] rfl ap3 ?_; (with_reducible refine (R13Phone.calls kj10 a1 t786 t787 _ A44.out).mono ?_); rintro e w49 ⟨rfl, hb⟩; refine ⟨_, rfl, ?_⟩; replace BK773 := am (blk_below (g := gb773) (o := .cells #[.string a0_0, .int .i64 a0_1, .bool a0_2] 23 (0, 0)) (apB BK773.out) hb); replace HB := am (below_step (apG GE773.out) hb))); go_ret2; exact ⟨ap9, apG1 GE773.out⟩
            ·intro c43 c43b0 c43b1 H; by_cases c50 : true = true
             ·clear c50; (first | rw [if_pos rfl] at H | rw [if_pos trivial] at H); simp only [Option.some.injEq, Prod.mk.injEq] at H; obtain ⟨rfl, rfl⟩ := H; go_wp2; go_ret2; exact ⟨ap9, apG1 GE773.out⟩
             ·exact absurd rfl c50
end Go.Proofs.YtpklcnpmppaaoaaGreatDoor.Print
namespace Go.Proofs.YtpklcnpmppaaoaaGreatDoor.Print
open Go.RowKit Go.Proofs.YtpklcnpmppaaoaaGreatDoorW.PrintWords Go.Proofs.YtpklcnpmppaaoaaGreatDoorW.PrintLast Go.Proofs.YtpklcnpmppaaoaaGreatDoorW.PrintMore Go.Proofs.YtpklcnpmppaaoaaGreatDoor.Pure
set_option linter.unusedVariables false
set_option linter.unusedSimpArgs false
theorem ext_take (s : ByteArray) (a b : Nat) : bl (s.extract a b) = ((bl s).drop a).take (b - a) := by
 show (s.extract a b).data.toList = _; rw [ByteArray.data_extract, Array.toList_extract, List.extract_eq_take_drop]
theorem ext_from (s : ByteArray) (a : Nat) : bl (s.extract a s.size) = (bl s).drop a := by
 rw [ext_take]; exact List.take_of_length_le (by rw [List.length_drop, bl_length]; omega)
theorem ext_to (s : ByteArray) (b : Nat) : bl (s.extract 0 b) = (bl s).take b := by rw [ext_take]; simp
theorem ba_ext {a b : ByteArray} (h : bl a = bl b) : a = b := ByteArray.ext (Array.toList_inj.1 h)
theorem mk_ext {a : ByteArray} {l : List UInt8} (h : bl a = l) : a = mkB l := ba_ext (by rw [h])
theorem tl_bl (s : ByteArray) : s.toList = bl s := Lib.toList_data s
def digs (l : List UInt8) : Bool := l.all fun c => decide (48 ≤ c.toNat ∧ c.toNat ≤ 57)
def digitsOf : List UInt8 → List UInt8
 | [] => []
 | c :: r => if c = 45 then r else c :: r
def numOk (l : List UInt8) : Bool := decide (l = [48]) || (decide (1 ≤ (digitsOf l).length ∧ (digitsOf l).length ≤ 18 ∧ (digitsOf l).head? ≠ some 48) && digs (digitsOf l))
theorem digitsOf_le (l : List UInt8) : (digitsOf l).length ≤ l.length := by
 cases l with
 | nil => simp [digitsOf]
 | cons c r => rw [digitsOf]; split <;> simp
theorem num_loop (s : ByteArray) (hs : s.size ≤ 1000000) : ∀ (m i : Nat), s.size - i = m → i ≤ s.size → Ev (fun k => attr_number.l0 k s (s.size : Int) (i : Int)) (digs ((bl s).drop i)) := by
 intro m; induction m with
 | zero =>
  intro i hm hi; rw [drop_end (by omega)]; refine Ev.step (fun k => by rw [attr_number.l0]) ?_; exact Ev.neg (by omega) Ev.rfl'
 | succ m ih =>
  intro i hm hi; cases hr : (bl s).drop i with
  | nil => have := drop_nil hr; omega
  | cons c r =>
   obtain ⟨h1, h2, h3⟩ := drop_cons hr; have hi2 := ih (i + 1) (by omega) (by omega); rw [h3] at hi2; refine Ev.step (fun k => by rw [attr_number.l0]) ?_; rw [h2, wsucc (p := i) (by omega)]; refine Ev.pos (by omega) (Ev.pos (by omega) (Ev.pos (by omega) ?_)); by_cases c1 : c.toNat < 48
   ·refine Ev.pos (by omega) ?_; rw [show digs (c :: r) = false by simp [digs]; intro h; omega]; exact Ev.rfl'
   ·refine Ev.neg (by omega) ?_; by_cases c2 : 57 < c.toNat
    ·refine Ev.pos (by omega) ?_; rw [show digs (c :: r) = false by simp [digs]; intro h; omega]; exact Ev.rfl'
    ·refine Ev.neg (by omega) ?_; rw [show digs (c :: r) = digs r by simp [digs]; omega]; exact hi2
theorem trim_f (s : ByteArray) (hs : s.size ≤ 1000000) : strings_TrimPrefix.f s (⟨#[45]⟩ : ByteArray) = some (mkB (digitsOf (bl s))) := by
 have e1 : ((⟨#[45]⟩ : ByteArray).size : Int) = 1 := rfl; have e2 : (⟨#[45]⟩ : ByteArray).toList = [45] := by rw [Lib.toList_data]
 have hl := bl_length s; unfold strings_TrimPrefix.f stringslite_TrimPrefix.f stringslite_HasPrefix.f; rw [e1, e2]; cases hb : bl s with
 | nil =>
  rw [hb] at hl; simp only [List.length_nil] at hl; rw [if_neg (by omega), Option.bind_some, if_neg (by simp), Option.bind_some]; exact congrArg some (mk_ext hb)
 | cons c r =>
  rw [hb] at hl; simp only [List.length_cons] at hl; rw [if_pos (by omega), if_pos (by omega), if_pos (by omega), Option.bind_some, tl_bl, ext_to, hb]; by_cases h : c = 45
  ·subst h; rw [if_pos (by simp), if_pos (by omega), if_pos (by omega), Option.bind_some]; refine congrArg some (mk_ext ?_); rw [ext_from, hb]; rfl
  ·rw [if_neg (by simp [h]), Option.bind_some]; refine congrArg some (mk_ext ?_); rw [hb, digitsOf, if_neg h]
theorem bt_zero {s : ByteArray} {c : UInt8} {r : List UInt8} (h : bl s = c :: r) : bt s 0 = (c.toNat : Int) := by
 have := (drop_cons (s := s) (p := 0) (c := c) (r := r) (by rw [List.drop_zero, h])).2.1; simpa using this
theorem eq48 (c : UInt8) : ((c.toNat : Int) = 48) ↔ c = 48 := by
 rw [show (48 : Int) = ((48 : UInt8).toNat : Int) from rfl]; exact ieq c 48
theorem eq45 (c : UInt8) : ((c.toNat : Int) = 45) ↔ c = 45 := by
 rw [show (45 : Int) = ((45 : UInt8).toNat : Int) from rfl]; exact ieq c 45
theorem number_ev (s : ByteArray) (hs : s.size ≤ 1000000) : Ev (fun k => attr_number.f k s) (numOk (bl s)) := by
 unfold attr_number.f; refine Ev.bindc (trim_f s hs) ?_; have hsz : (mkB (digitsOf (bl s))).size = (digitsOf (bl s)).length := mkB_size _; have hls : (digitsOf (bl s)).length ≤ 1000000 := by
  have := bl_length s; have h2 := digitsOf_le (bl s); omega
 have hloop : Ev (fun k => attr_number.l0 k (mkB (digitsOf (bl s))) ((mkB (digitsOf (bl s))).size : Int) 0) (digs (digitsOf (bl s))) := num_loop (mkB (digitsOf (bl s))) (by omega) _ 0 rfl (by omega); have hout : ∀ {b : Bool}, b = true → numOk (bl s) = false → Ev (fun k => attr_number.j0 k (mkB (digitsOf (bl s))) b) (numOk (bl s)) := by
  intro b hb h; rw [h]; exact Ev.step (fun k => by rw [attr_number.j0]) (Ev.pos hb Ev.rfl')
 have hin : ∀ {b : Bool}, b = false → numOk (bl s) = digs (digitsOf (bl s)) → Ev (fun k => attr_number.j0 k (mkB (digitsOf (bl s))) b) (numOk (bl s)) := by
  intro b hb h; rw [h]; exact Ev.step (fun k => by rw [attr_number.j0]) (Ev.neg (by simp [hb]) hloop)
 rw [tl_bl, show bl (mkB (digitsOf (bl s))) = digitsOf (bl s) from rfl, tl_bl]; by_cases h0 : digitsOf (bl s) = []
 ·refine Ev.pos h0 (hout rfl ?_); unfold numOk; rw [h0]; have : ¬ bl s = [48] := by intro h; rw [h] at h0; simp [digitsOf] at h0
  simp [this]
 ·refine Ev.neg h0 ?_; obtain ⟨d, r, hd⟩ := List.exists_cons_of_ne_nil h0; rw [hsz]; by_cases h18 : 18 < (digitsOf (bl s)).length
  ·refine Ev.pos (by omega) (hout rfl ?_); unfold numOk; have : ¬ bl s = [48] := by intro h; rw [h] at h18; simp [digitsOf] at h18
   have h2 : ¬ (1 ≤ (digitsOf (bl s)).length ∧ (digitsOf (bl s)).length ≤ 18 ∧ (digitsOf (bl s)).head? ≠ some 48) := by omega
   rw [decide_eq_false this, decide_eq_false h2]; rfl
  ·refine Ev.neg (by omega) (Ev.pos (by rw [hd, List.length_cons]; omega) ?_); rw [bt_zero (s := mkB (digitsOf (bl s))) (c := d) (r := r) hd]; have h1 : 1 ≤ (digitsOf (bl s)).length := by rw [hd]; simp
   by_cases h48 : d = 48
   ·refine Ev.pos ((eq48 d).2 h48) ?_; by_cases hz : bl s = [48]
    ·refine hin (by simp [hz]) ?_; unfold numOk; rw [hz]; rfl
    ·refine hout (by simp [hz]) ?_; unfold numOk; have h2 : ¬ (1 ≤ (digitsOf (bl s)).length ∧ (digitsOf (bl s)).length ≤ 18 ∧ (digitsOf (bl s)).head? ≠ some 48) := by rw [hd, h48]; simp
     rw [decide_eq_false hz, decide_eq_false h2]; rfl
   ·refine Ev.neg (fun h => h48 ((eq48 d).1 h)) (hin rfl ?_); unfold numOk; have hz : ¬ bl s = [48] := by
     intro h; rw [h] at hd; simp [digitsOf] at hd; exact h48 hd.1.symm
    have h2 : 1 ≤ (digitsOf (bl s)).length ∧ (digitsOf (bl s)).length ≤ 18 ∧ (digitsOf (bl s)).head? ≠ some 48 := ⟨h1, by omega, by rw [hd]; simpa using h48⟩; rw [decide_eq_false hz, decide_eq_true h2]; simp
theorem sortL_perm {a b : List (List UInt8)} (h : a.Perm b) : sortL a = sortL b := by
 unfold sortL; have tr : ∀ x y z : List UInt8, decide (x ≤ y) = true → decide (y ≤ z) = true → decide (x ≤ z) = true := by
  intro x y z h1 h2; exact decide_eq_true (List.le_trans (of_decide_eq_true h1) (of_decide_eq_true h2))
 have tot : ∀ x y : List UInt8, (decide (x ≤ y) || decide (y ≤ x)) = true := by
  intro x y; rcases List.le_total x y with h | h
  ·rw [decide_eq_true h]; rfl
  ·rw [decide_eq_true h, Bool.or_true]
 refine List.Perm.eq_of_pairwise (le := fun x y => decide (x ≤ y) = true) ?_ (List.pairwise_mergeSort tr tot a) (List.pairwise_mergeSort tr tot b) (((List.mergeSort_perm a _).trans h).trans (List.mergeSort_perm b _).symm); intro x y _ _ h1 h2; exact List.le_antisymm (of_decide_eq_true h1) (of_decide_eq_true h2)
theorem sorted_is {ps xs : List ByteArray} (hp : (ps.map bl).Pairwise (· ≤ ·)) (h : ps.Perm xs) : ps = sortB xs := by
 have e : ps.map bl = sortL (xs.map bl) := by
  rw [← sortL_perm (h.map bl)]; unfold sortL; refine (List.mergeSort_of_pairwise ?_).symm; exact hp.imp fun {x y} h => decide_eq_true h
 have e2 : sortB xs = (ps.map bl).map (fun l => (⟨l.toArray⟩ : ByteArray)) := by rw [e]; rfl
 rw [e2, List.map_map]; (conv => lhs; rw [← List.map_id ps]); exact List.map_congr_left fun x _ => rfl
theorem swapZ_snoc (l : List UInt8) (c : UInt8) : swapZ 0 [0, 255] (l ++ [c]) = swapZ 0 [0, 255] l ++ (if c = 0 then [0, 255] else [c]) := by simp [swapZ]
theorem swapZ_pre (a b : List UInt8) : (swapZ 0 [0, 255] a).length ≤ (swapZ 0 [0, 255] (a ++ b)).length := by
 unfold swapZ; rw [List.flatMap_append, List.length_append]; omega
theorem tup_l1 (xs : List ByteArray) (hx : xs.length ≤ 1000) (i : Nat) (p : ByteArray) (r : List ByteArray) (hr : xs.drop i = p :: r) (B : List UInt8) (hB : (B ++ part1 p).length ≤ 4096) {o : ByteArray × Int}
  (hnext : Ev (fun k => R01Tuple.l0 k xs (ints (B ++ part1 p)) ((i + 1 : Nat) : Int)) o) :
  ∀ (m j : Nat), p.size - j = m → j ≤ p.size → Ev (fun k => R01Tuple.l1 k xs (ints (B ++ swapZ 0 [0, 255] ((bl p).take j))) (i : Int) (j : Int)) o := by
 have g1 := (rdOf_at hr).1
 have g2 := rdB_at hr
 have hpart : part1 p = swapZ 0 [0, 255] (bl p) ++ [0, 1] := rfl
 have hsz : p.size ≤ 4096 := by
  have h1 : ∀ l : List UInt8, l.length ≤ (swapZ 0 [0, 255] l).length := by
   intro l; induction l with
   | nil => simp
   | cons c l ih =>
    have : swapZ 0 [0, 255] (c :: l) = (if c = 0 then [0, 255] else [c]) ++ swapZ 0 [0, 255] l := rfl; rw [this, List.length_append, List.length_cons]; have h2 : 1 ≤ (if c = 0 then [0, 255] else [c] : List UInt8).length := by split <;> simp
    omega
  have h3 := h1 (bl p); rw [bl_length] at h3; rw [hpart, List.length_append, List.length_append] at hB; omega
 intro m
 induction m with
 | zero =>
  intro j hm hj; rw [List.take_of_length_le (by rw [bl_length]; omega)]; refine Ev.step (fun k => by rw [R01Tuple.l1]) ?_; rw [g2]; refine Ev.pos (by omega) (Ev.pos (by omega) (Ev.neg (by omega) ?_)); refine Ev.step (fun k => by rw [R01Tuple.j2]) ?_; rw [wsucc (show i ≤ 2000000 by omega)]; refine Ev.neg (by simp) (Ev.bindc rfl ?_); rw [hpart, List.length_append, List.length_append] at hB; refine Ev.pos (by rw [ints_length, List.length_append]; simp only [List.length_cons, List.length_nil]; omega) ?_; have e : ints (B ++ swapZ 0 [0, 255] (bl p)) ++ [0, 1] = ints (B ++ part1 p) := by
   rw [hpart, ← List.append_assoc]; exact ints_app _ [0, 1]
  rw [e]; exact hnext
 | succ m ih =>
  intro j hm hj; have hlt : j < (bl p).length := by rw [bl_length]; omega
  have hi2 := ih (j + 1) (by omega) (by omega); have hd : (bl p).drop j = (bl p)[j] :: (bl p).drop (j + 1) := List.drop_eq_getElem_cons hlt; obtain ⟨_, hbt, _⟩ := drop_cons hd; rw [List.take_succ_eq_append_getElem hlt, swapZ_snoc] at hi2; have hle : (B ++ swapZ 0 [0, 255] ((bl p).take j)).length ≤ 4096 := by
   have := swapZ_pre ((bl p).take j) ((bl p).drop j); rw [List.take_append_drop] at this; rw [hpart, List.length_append, List.length_append] at hB; rw [List.length_append]; omega
  generalize (bl p)[j] = c at *; refine Ev.step (fun k => by rw [R01Tuple.l1]) ?_; rw [g2]; refine Ev.pos (by omega) (Ev.pos (by omega) (Ev.pos (by omega) ?_)); rw [show decide (((ints (B ++ swapZ 0 [0, 255] ((bl p).take j))).length : Int) ≤ 4096) = true from decide_eq_true (by rw [ints_length]; omega)]; refine Ev.step (fun k => by rw [R01Tuple.j2]) ?_; rw [g2, hbt, wsucc (by omega)]; refine Ev.pos rfl (Ev.pos (by omega) (Ev.pos (by omega) (Ev.pos (by omega) (Ev.pos (by omega) (Ev.pos (by rw [ints_length]; omega) (Ev.bindc rfl ?_)))))); have e1 : ints (B ++ swapZ 0 [0, 255] ((bl p).take j)) ++ [(c.toNat : Int)] = ints (B ++ swapZ 0 [0, 255] ((bl p).take j) ++ [c]) := ints_app _ [c]; rw [e1]; by_cases h0 : c = 0
  ·subst h0; rw [if_pos rfl] at hi2; refine Ev.pos rfl (Ev.pos (by rw [ints_length, List.length_append]; simp only [List.length_cons, List.length_nil]; omega) ?_); rw [show ints (B ++ swapZ 0 [0, 255] ((bl p).take j) ++ [0]) ++ [255] = ints (B ++ (swapZ 0 [0, 255] ((bl p).take j) ++ [0, 255])) by
    rw [show ([255] : List Int) = ints [255] from rfl, ints_app]; simp]
   exact hi2
  ·rw [if_neg h0] at hi2; refine Ev.neg (fun h => h0 ?_) ?_
   ·have : c.toNat = 0 := by omega
    exact UInt8.toNat_inj.1 this
   ·rw [List.append_assoc]; exact hi2
theorem tup_l0 (xs : List ByteArray) (hx : xs.length ≤ 1000) (hl : (tupOf xs).length ≤ 4096) : ∀ (m i : Nat), xs.length - i = m → i ≤ xs.length → Ev (fun k => R01Tuple.l0 k xs (ints (tupOf (xs.take i))) (i : Int)) (⟨(tupOf xs).toArray⟩, 0) := by
 intro m; induction m with
 | zero =>
  intro i hm hi; rw [List.take_of_length_le (by omega)]; refine Ev.step (fun k => by rw [R01Tuple.l0]) ?_; refine Ev.neg (by omega) (Ev.neg (by rw [ints_length]; omega) ?_); rw [strOfNums_ints]; exact Ev.rfl'
 | succ m ih =>
  intro i hm hi; cases hr : xs.drop i with
  | nil => have := List.drop_eq_nil_iff.1 hr; omega
  | cons p r =>
   have g1 := (rdOf_at hr).1; have hi2 := ih (i + 1) (by omega) (by omega); rw [take_next hr, tupOf_snoc] at hi2; have hB : (tupOf (xs.take i) ++ part1 p).length ≤ 4096 := by
    rw [← tupOf_snoc, ← take_next hr]; have : tupOf xs = tupOf (xs.take (i + 1)) ++ tupOf (xs.drop (i + 1)) := by unfold tupOf; rw [← List.flatMap_append, List.take_append_drop]
    rw [this, List.length_append] at hl; omega
   have := tup_l1 xs hx i p r hr (tupOf (xs.take i)) hB hi2 _ 0 rfl (Nat.zero_le _); rw [List.take_zero, show swapZ 0 [0, 255] [] = [] from rfl, List.append_nil] at this; refine Ev.step (fun k => by rw [R01Tuple.l0]) ?_; exact Ev.pos (by omega) this
theorem refTup_ev (xs : List ByteArray) (h16 : xs.length ≤ 16) (hl : (tupOf xs).length ≤ 4096) : Ev (fun k => R01Tuple.f k xs) (⟨(tupOf xs).toArray⟩, 0) := by
 unfold R01Tuple.f; refine Ev.neg (by omega) ?_; exact tup_l0 xs (by omega) hl _ 0 rfl (Nat.zero_le _)
def lessI : List UInt8 → List UInt8 → Int
 | [], [] => 0
 | [], _ :: _ => -1
 | _ :: _, [] => 1
 | a :: x, b :: y => if a.toNat < b.toNat then -1 else if b.toNat < a.toNat then 1 else lessI x y
theorem lessI_lt : ∀ (x y : List UInt8), lessI x y < 0 ↔ x < y
 | [], [] => by simp [lessI]
 | [], b :: y => by simp [lessI]
 | a :: x, [] => by simp [lessI]
 | a :: x, b :: y => by
  rw [lessI, List.cons_lt_cons_iff]
  by_cases h1 : a.toNat < b.toNat
  ·
   rw [if_pos h1]
   exact ⟨fun _ => .inl (UInt8.lt_iff_toNat_lt.2 h1), fun _ => by omega⟩
  ·
   rw [if_neg h1]
   by_cases h2 : b.toNat < a.toNat
   ·
    rw [if_pos h2]
    refine ⟨fun h => by omega, ?_⟩
    rintro (h | ⟨h, _⟩)
    ·
     exact absurd (UInt8.lt_iff_toNat_lt.1 h) h1
    ·
     subst h; omega
   ·
    rw [if_neg h2]
    have e : a = b := UInt8.toNat_inj.1 (by omega)
    subst e
    rw [lessI_lt x y]
    refine ⟨fun h => .inr ⟨rfl, h⟩, ?_⟩
    rintro (h | ⟨_, h⟩)
    ·
     exact absurd (UInt8.lt_iff_toNat_lt.1 h) h1
    ·
     exact h
theorem less_ev (a b : ByteArray) (ha : a.size ≤ 1000000) (hb : b.size ≤ 1000000) : ∀ (m i : Nat), a.size - i = m → i ≤ a.size → Ev (fun k => R01Less.l0 k a b (i : Int)) (lessI ((bl a).drop i) ((bl b).drop i)) ∨ b.size < i := by
 intro m; induction m with
 | zero =>
  intro i hm hi; by_cases hbi : b.size < i
  ·exact .inr hbi
  left; rw [drop_end (s := a) (by omega)]; refine Ev.step (fun k => by rw [R01Less.l0]) ?_; refine Ev.neg (by omega) ?_; refine Ev.step (fun k => by rw [R01Less.j1]) ?_; refine Ev.neg (by simp) ?_; cases hb' : (bl b).drop i with
  | nil =>
   have := drop_nil hb'; exact Ev.neg (by omega) (Ev.neg (by omega) Ev.rfl')
  | cons c r =>
   have := (drop_cons hb').1; exact Ev.pos (by omega) Ev.rfl'
 | succ m ih =>
  intro i hm hi; by_cases hbi : b.size < i
  ·exact .inr hbi
  left; cases ha' : (bl a).drop i with
  | nil => have := drop_nil ha'; omega
  | cons c r =>
   obtain ⟨k1, k2, k3⟩ := drop_cons ha'; refine Ev.step (fun k => by rw [R01Less.l0]) ?_; refine Ev.pos (by omega) ?_; cases hb' : (bl b).drop i with
   | nil =>
    have := drop_nil hb'; rw [show decide ((i : Int) < (b.size : Int)) = false from decide_eq_false (by omega)]; refine Ev.step (fun k => by rw [R01Less.j1]) ?_; exact Ev.neg (by simp) (Ev.neg (by omega) (Ev.pos (by omega) Ev.rfl'))
   | cons d q =>
    obtain ⟨l1, l2, l3⟩ := drop_cons hb'; rw [show decide ((i : Int) < (b.size : Int)) = true from decide_eq_true (by omega)]; refine Ev.step (fun k => by rw [R01Less.j1]) ?_; rw [k2, l2, wsucc (by omega), lessI]; refine Ev.pos rfl (Ev.pos (by omega) (Ev.pos (by omega) (Ev.pos (by omega) ?_))); by_cases h1 : c.toNat < d.toNat
    ·rw [if_pos h1]; exact Ev.pos (by omega) Ev.rfl'
    ·rw [if_neg h1]; refine Ev.neg (by omega) ?_; by_cases h2 : d.toNat < c.toNat
     ·rw [if_pos h2]; exact Ev.pos (by omega) Ev.rfl'
     ·rw [if_neg h2]; refine Ev.neg (by omega) ?_; rcases ih (i + 1) (by omega) (by omega) with h | h
      ·rw [k3, l3] at h; exact h
      ·omega
theorem refLess_ev (a b : ByteArray) (ha : a.size ≤ 1000000) (hb : b.size ≤ 1000000) : Ev (fun k => R01Less.f k a b) (lessI (bl a) (bl b)) := by
 unfold R01Less.f; rcases less_ev a b ha hb _ 0 rfl (Nat.zero_le _) with h | h
 ·rw [List.drop_zero, List.drop_zero] at h; exact h
 ·omega
abbrev Srt (ps : List ByteArray) : Prop := (ps.map bl).Pairwise (· ≤ ·)
theorem srt_insert {ps : List ByteArray} (h : Srt ps) (s : ByteArray) (j : Nat) (hj : ∀ x ∈ ps.take j, bl x < bl s) (hn : ∀ x, ps[j]? = some x → ¬ bl x < bl s) : Srt (ps.take j ++ [s] ++ ps.drop j) := by
 have h' : Srt (ps.take j ++ ps.drop j) := by rw [List.take_append_drop]; exact h
 unfold Srt at h' ⊢; rw [List.map_append, List.pairwise_append] at h'; obtain ⟨h1, h2, h3⟩ := h'; rw [List.append_assoc, List.map_append, List.pairwise_append]; have hd : ∀ x ∈ (ps.drop j).map bl, bl s ≤ x := by
  cases hc : ps.drop j with
  | nil => simp
  | cons y r =>
   have hy : ps[j]? = some y := by
    have := congrArg List.head? hc; rw [List.head?_drop] at this; simpa using this
   have hsy : bl s ≤ bl y := List.not_lt.1 (hn y hy); rw [hc, List.map_cons, List.pairwise_cons] at h2; intro x hx; rw [List.map_cons] at hx; rcases List.mem_cons.1 hx with rfl | hx
   ·exact hsy
   ·exact List.le_trans hsy (h2.1 x hx)
 refine ⟨h1, ?_, ?_⟩
 ·rw [List.map_append, List.pairwise_append]; refine ⟨by simp, h2, ?_⟩; intro a ha b hb; simp only [List.map_cons, List.map_nil, List.mem_singleton] at ha; subst ha; exact hd b hb
 ·intro a ha b hb; rw [List.map_append] at hb; rcases List.mem_append.1 hb with hb | hb
  ·simp only [List.map_cons, List.map_nil, List.mem_singleton] at hb; subst hb; obtain ⟨x, hx, rfl⟩ := List.mem_map.1 ha; exact List.le_of_lt (hj x hx)
  ·exact h3 a ha b hb
theorem perm_insert (ps : List ByteArray) (s : ByteArray) (j : Nat) : (ps.take j ++ [s] ++ ps.drop j).Perm (ps ++ [s]) := by
 have h1 : (ps.take j ++ [s] ++ ps.drop j).Perm (s :: (ps.take j ++ ps.drop j)) := by
  rw [List.append_assoc]; exact List.perm_middle
 rw [List.take_append_drop] at h1; exact h1.trans (List.perm_append_singleton s ps).symm
theorem key_ins (l : List AvaS) (hl : l.length ≤ 1000) (i : Nat) (ps : List ByteArray) (hps : ps.length ≤ 1000) (hsz : ∀ x ∈ ps, x.size ≤ 4096) (s : ByteArray) (hs : s.size ≤ 4096) (hS : Srt ps) {o : ByteArray × Int} (hi : i ≤ 1000)
  (hnext : ∀ ps', Srt ps' → ps'.Perm (ps ++ [s]) → Ev (fun k => R15Key.l0 k l ps' ((i + 1 : Nat) : Int)) o) :
  ∀ (m j : Nat), ps.length - j = m → j ≤ ps.length → (∀ x ∈ ps.take j, bl x < bl s) → Ev (fun k => R15Key.l1 k l ps (i : Int) s (j : Int)) o := by
 intro m
 induction m with
 | zero =>
  intro j hm hj hlt; have hn := hnext (ps.take j ++ [s] ++ ps.drop j) (srt_insert hS s j hlt (fun x hx => by
   have := (List.getElem?_eq_some_iff.1 hx).1; omega)) (perm_insert ps s j)
  refine Ev.step (fun k => by rw [R15Key.l1]) ?_; rw [wsucc (show i ≤ 2000000 by omega)]; refine Ev.neg (by omega) (Ev.bindc rfl (Ev.pos (by omega) (Ev.pos (by omega) (Ev.bindc rfl ?_)))); rw [Int.toNat_natCast]; refine Ev.pos (by rw [List.length_take]; simp only [List.length_nil]; omega) (Ev.bindc rfl ?_); rw [List.nil_append]; refine Ev.pos (by rw [List.length_take]; omega) (Ev.bindc rfl (Ev.bindc rfl ?_)); exact Ev.pos (by rw [List.length_append, List.length_take, List.length_drop]; simp only [List.length_cons, List.length_nil]; omega) hn
 | succ m ih =>
  intro j hm hj hlt; cases hr : ps.drop j with
  | nil => have := List.drop_eq_nil_iff.1 hr; omega
  | cons x r =>
   have g2 := rdB_at hr; have hx : ps[j]? = some x := by
    have := congrArg List.head? hr; rw [List.head?_drop] at this; simpa using this
   have hxm : x ∈ ps := List.mem_of_getElem? hx; have hL := refLess_ev x s (by have := hsz x hxm; omega) (by omega); refine Ev.step (fun k => by rw [R15Key.l1]) ?_; rw [g2, wsucc (show i ≤ 2000000 by omega), wsucc (show j ≤ 2000000 by omega)]; refine Ev.pos (by omega) (Ev.pos (by omega) (Ev.bind hL ?_)); by_cases hc : lessI (bl x) (bl s) < 0
   ·refine Ev.pos hc (ih (j + 1) (by omega) (by omega) ?_); intro y hy; rw [take_next hr] at hy; rcases List.mem_append.1 hy with hy | hy
    ·exact hlt y hy
    ·simp only [List.mem_singleton] at hy; subst hy; exact (lessI_lt _ _).1 hc
   ·have hn := hnext (ps.take j ++ [s] ++ ps.drop j) (srt_insert hS s j hlt (fun y hy => by
     rw [hx] at hy; injection hy with hy; subst hy; exact fun h => hc ((lessI_lt _ _).2 h))) (perm_insert ps s j)
    refine Ev.neg hc (Ev.bindc rfl (Ev.pos (by omega) (Ev.bindc rfl ?_))); rw [Int.toNat_natCast]; refine Ev.pos (by rw [List.length_take]; simp only [List.length_nil]; omega) (Ev.bindc rfl ?_); rw [List.nil_append]; refine Ev.pos (by rw [List.length_take]; omega) (Ev.bindc rfl (Ev.bindc rfl ?_)); exact Ev.pos (by rw [List.length_append, List.length_take, List.length_drop]; simp only [List.length_cons, List.length_nil]; omega) hn
theorem key_cat (ps : List ByteArray) (hps : ps.length ≤ 1000) (hsz : ∀ x ∈ ps, x.size ≤ 4096) : ∀ (m j : Nat), ps.length - j = m → j ≤ ps.length →
  Ev (fun k => R15Key.l2 k ps (mkB ((ps.take j).map bl).flatten) (j : Int)) (mkB (ps.map bl).flatten, 0) := by
 intro m
 induction m with
 | zero =>
  intro j hm hj; rw [List.take_of_length_le (by omega)]; refine Ev.step (fun k => by rw [R15Key.l2]) ?_; exact Ev.neg (by omega) Ev.rfl'
 | succ m ih =>
  intro j hm hj; cases hr : ps.drop j with
  | nil => have := List.drop_eq_nil_iff.1 hr; omega
  | cons x r =>
   have g2 := rdB_at hr; have hxm : x ∈ ps := List.mem_of_mem_drop (show x ∈ ps.drop j by rw [hr]; simp); have hi2 := ih (j + 1) (by omega) (by omega); rw [take_next hr, List.map_append, List.flatten_append] at hi2; have e : mkB ((ps.take j).map bl).flatten ++ x = mkB (((ps.take j).map bl).flatten ++ (List.map bl [x]).flatten) := by
    rw [ba_app']; simp
   have hB := flat_len 4096 ((ps.take j).map bl) (fun y hy => by
    obtain ⟨z, hz, rfl⟩ := List.mem_map.1 hy; rw [bl_length]; exact hsz z (List.mem_of_mem_take hz))
   rw [List.length_map, List.length_take] at hB; have hB2 : min j ps.length * 4096 ≤ 1000 * 4096 := Nat.mul_le_mul_right _ (by omega); have hxs := hsz x hxm; refine Ev.step (fun k => by rw [R15Key.l2]) ?_; rw [g2, wsucc (by omega), e]; exact Ev.pos (by omega) (Ev.pos (by omega) (Ev.pos (by rw [mkB_size]; omega) hi2))
theorem runesN_len (s : ByteArray) : ∀ (n p : Nat) (l : List Int), runesN s n p = some l → l.length ≤ n
 | 0, p, l, h => by simp [runesN] at h; subst h; simp
 | n + 1, p, l, h => by
  rw [runesN] at h
  split at h
  ·
   split at h
   ·
    cases h
   ·
    obtain ⟨l', hl', rfl⟩ := Option.map_eq_some_iff.1 h
    have := runesN_len s n _ l' hl'
    rw [List.length_cons]; omega
  ·
   simp at h; subst h; simp
theorem readyB_len (s : ByteArray) (h : s.size ≤ 255) : (readyB s).size ≤ 1020 := by
 unfold readyB; cases hr : readyOf true s with
 | none => show (mkB []).size ≤ 1020; rw [mkB_size]; simp
 | some t =>
  show (mkB t).size ≤ 1020; rw [mkB_size]; unfold readyOf at hr; obtain ⟨l, hl, rfl⟩ := Option.map_eq_some_iff.1 hr; have h1 := runesN_len s _ _ l hl; have h2 := encAll_length (sq (l.filterMap (mapRune true)) false); have h3 := sq_len (l.filterMap (mapRune true)) false; have h4 := List.length_filterMap_le (mapRune true) l; omega
theorem tup2_len {a : AvaS} (h1 : a.f0.size ≤ 32) (h2 : a.f1.size ≤ 255) : (tupOf [a.f0, readyB a.f1]).length ≤ 4096 := by
 have h3 := readyB_len a.f1 h2; have k1 := swapZ_len 0 [0, 255] 2 (by omega) (by simp) a.f0.data.toList; have k2 := swapZ_len 0 [0, 255] 2 (by omega) (by simp) (readyB a.f1).data.toList; have l1 : a.f0.data.toList.length = a.f0.size := bl_length a.f0; have l2 : (readyB a.f1).data.toList.length = (readyB a.f1).size := bl_length (readyB a.f1); unfold tupOf; simp only [List.flatMap_cons, List.flatMap_nil, List.length_append, List.length_nil, part1, List.length_cons]; omega
theorem tupV_is {a : AvaS} (h1 : a.f0.size ≤ 32) (h2 : a.f1.size ≤ 255) : tupV a = ⟨(tupOf [a.f0, readyB a.f1]).toArray⟩ := by
 have h3 := readyB_len a.f1 h2; have h4 := tup2_len h1 h2; unfold tupV tupB; rw [if_neg (by simp), if_neg (by simp; omega), if_neg (by omega)]
theorem refready_ev' (s : ByteArray) (hs : s.size ≤ 100000) : ∃ e, Ev (fun k => R13Ready.f k s true) (readyB s, e) := by
 have h := refready_ev s (by omega) true; unfold readyB; cases hr : readyOf true s with
 | none => rw [hr] at h; exact ⟨_, h⟩
 | some t => rw [hr] at h; exact ⟨_, h⟩
theorem tupV_len (a : AvaS) : (tupV a).size ≤ 4096 := tupB_len _
theorem refkey_loop (l : List AvaS) (hl : l.length ≤ 1000) (hs : ∀ a ∈ l, a.f0.size ≤ 32 ∧ a.f1.size ≤ 255) : ∀ (m i : Nat) (ps : List ByteArray), l.length - i = m → i ≤ l.length → Srt ps → ps.Perm ((l.take i).map tupV) → Ev (fun k => R15Key.l0 k l ps (i : Int)) (keyOf l, 0) := by
 intro m; induction m with
 | zero =>
  intro i ps hm hi hS hp; rw [List.take_of_length_le (by omega)] at hp; have e := sorted_is hS hp; have hlen : ps.length ≤ 1000 := by rw [hp.length_eq, List.length_map]; exact hl
  have hsz : ∀ x ∈ ps, x.size ≤ 4096 := fun x hx => by
   obtain ⟨a, _, rfl⟩ := List.mem_map.1 (hp.mem_iff.1 hx); exact tupV_len a
  have := key_cat ps hlen hsz _ 0 rfl (Nat.zero_le _); refine Ev.step (fun k => by rw [R15Key.l0]) ?_; refine Ev.neg (by omega) ?_; have e2 : keyOf l = mkB (ps.map bl).flatten := by rw [e]; rfl
  rw [e2]; exact this
 | succ m ih =>
  intro i ps hm hi hS hp; cases hr : l.drop i with
  | nil => have := List.drop_eq_nil_iff.1 hr; omega
  | cons a r =>
   have g1 := (getD_at (d := a) hr).1; have g2 := rdA_at hr; have ha := hs a (List.mem_of_mem_drop (show a ∈ l.drop i by rw [hr]; simp)); obtain ⟨e, he⟩ := refready_ev' a.f1 (by omega); have hT := refTup_ev [a.f0, readyB a.f1] (by simp) (tup2_len ha.1 ha.2); rw [← tupV_is ha.1 ha.2] at hT; have hlen : ps.length ≤ 1000 := by rw [hp.length_eq, List.length_map, List.length_take]; omega
   have hsz : ∀ x ∈ ps, x.size ≤ 4096 := fun x hx => by
    obtain ⟨a, _, rfl⟩ := List.mem_map.1 (hp.mem_iff.1 hx); exact tupV_len a
   refine Ev.step (fun k => by rw [R15Key.l0]) ?_; rw [g2]; refine Ev.pos (by omega) (Ev.pos (by omega) (Ev.bind he ?_)); refine Ev.bind hT ?_; exact key_ins l hl i ps hlen hsz (tupV a) (tupV_len a) hS (by omega) (fun ps' hS' hp' => ih (i + 1) ps' (by omega) (by omega) hS' (by
    rw [take_next hr, List.map_append]; exact hp'.trans (hp.append_right _))) _ 0 rfl (Nat.zero_le _) (by simp)
def keyR (l : List AvaS) : ByteArray × Int := if rdnOk l = true then (keyOf l, 0) else (⟨#[]⟩, 4)
theorem rdnIn_small : ∀ (l pre : List AvaS), rdnIn pre l = true → ∀ a ∈ l, a.f0.size ≤ 32 ∧ a.f1.size ≤ 255
 | [], _, _, a, ha => by simp at ha
 | x :: l, pre, h, a, ha => by
  rw [rdnIn] at h
  simp only [Bool.and_eq_true] at h
  rcases List.mem_cons.1 ha with rfl | ha
  ·
   refine ⟨?_, ?_⟩
   ·
    have h1 := h.1.1.1
    rw [← bl_length]
    unfold typeOk at h1
    cases hc : bl a.f0 with
    | nil => simp
    | cons c t =>
     rw [hc] at h1
     simp only [Bool.and_eq_true] at h1
     exact of_decide_eq_true h1.2
   ·
    have h2 := h.1.1.2
    unfold valueOk at h2
    cases hr : readyOf true a.f1 with
    | none => rw [hr] at h2; cases h2
    | some t =>
     rw [hr] at h2
     simp only [Bool.and_eq_true, decide_eq_true_eq] at h2
     exact h2.1
  ·
   exact rdnIn_small l _ h.2 a ha
theorem rdnOk_small {l : List AvaS} (h : rdnOk l = true) : l.length ≤ 4 ∧ ∀ a ∈ l, a.f0.size ≤ 32 ∧ a.f1.size ≤ 255 := by
 unfold rdnOk at h; rw [Bool.and_eq_true] at h; exact ⟨(of_decide_eq_true h.1).2, rdnIn_small l [] h.2⟩
theorem refKey_ev (l : List AvaS) (hl : l.length ≤ 1000000) (hs : ∀ a ∈ l, szA a) : Ev (fun k => R15Key.f k l) (keyR l) := by
 unfold R15Key.f keyR; refine Ev.bind (refRdn_ev l hl hs) ?_; cases h : rdnOk l with
 | true =>
  rw [if_pos rfl]; obtain ⟨h1, h2⟩ := rdnOk_small h; exact Ev.pos rfl (refkey_loop l (by omega) h2 _ 0 [] rfl (Nat.zero_le _) (by unfold Srt; simp) (by simp))
 | false => exact Ev.neg (by simp) (by simpa using Ev.rfl')
theorem nameOk_rdn {n : List (List AvaS)} (h : nameOk n = true) : ∀ l ∈ n, rdnOk l = true := by
 unfold nameOk at h; rw [Bool.and_eq_true] at h; exact fun l hl => List.all_eq_true.1 h.2 l hl
theorem refkeys_loop (n : List (List AvaS)) (hn : n.length ≤ 1000) (hok : ∀ l ∈ n, rdnOk l = true) (hs : ∀ l ∈ n, l.length ≤ 1000000 ∧ ∀ a ∈ l, szA a) : ∀ (m i : Nat), n.length - i = m → i ≤ n.length →
  Ev (fun k => R15Keys.l0 k n ((n.reverse.take i).map keyOf) (((n.length : Nat) : Int) - 1 - (i : Int))) (keysOf n, 0) := by
 intro m
 induction m with
 | zero =>
  intro i hm hi; rw [List.take_of_length_le (by rw [List.length_reverse]; omega)]; refine Ev.step (fun k => by rw [R15Keys.l0]) ?_; exact Ev.neg (by omega) Ev.rfl'
 | succ m ih =>
  intro i hm hi; have hi2 := ih (i + 1) (by omega) (by omega); have hj : n.length - 1 - i < n.length := by omega
  have hr : n.reverse.drop i = n[n.length - 1 - i] :: n.reverse.drop (i + 1) := by
   rw [List.drop_eq_getElem_cons (by rw [List.length_reverse]; omega), List.getElem_reverse]
  rw [take_next hr, List.map_append] at hi2; have hmem : n[n.length - 1 - i] ∈ n := List.getElem_mem _; obtain ⟨z1, z2⟩ := hs _ hmem; have hk := refKey_ev _ z1 z2; unfold keyR at hk; rw [if_pos (hok _ hmem)] at hk; have e1 : ((n.length : Nat) : Int) - 1 - (i : Int) = ((n.length - 1 - i : Nat) : Int) := by omega
  have e2 : wrap64 (((n.length - 1 - i : Nat) : Int) - 1) = ((n.length : Nat) : Int) - 1 - ((i + 1 : Nat) : Int) := by unfold wrap64; omega
  have hg : rd_L8 n ((n.length - 1 - i : Nat) : Int) = n[n.length - 1 - i] := rdR_get hj; refine Ev.step (fun k => by rw [R15Keys.l0]) ?_; rw [e1, e2, hg]; refine Ev.pos (by omega) (Ev.pos (by omega) (Ev.pos (by omega) (Ev.bind hk ?_))); exact Ev.pos (by rw [List.length_map, List.length_take]; omega) hi2
theorem refKeys_ev (n : List (List AvaS)) (hl : n.length ≤ 1000000) (h : szN n) : Ev (fun k => R15Keys.f k n) (if nameOk n = true then (keysOf n, 0) else ([], 4)) := by
 unfold R15Keys.f; refine Ev.bind (refRight_ev n hl h) ?_; cases hn : nameOk n with
 | false => exact Ev.neg (by simp) (by simpa using Ev.rfl')
 | true =>
  rw [if_pos rfl]; have h12 := (nameOk_sz hn).1; have := refkeys_loop n (by omega) (nameOk_rdn hn) h _ 0 rfl (Nat.zero_le _); refine Ev.pos rfl ?_; rw [show wrap64 ((n.length : Int) - 1) = ((n.length : Nat) : Int) - 1 - ((0 : Nat) : Int) by unfold wrap64; omega]; exact this
end Go.Proofs.YtpklcnpmppaaoaaGreatDoor.Print
namespace Go.Proofs.YtpklcnpmppaaoaaGreatDoor.Print
open Go.RowKit Go.Proofs.YtpklcnpmppaaoaaGreatDoorW.PrintWords Go.Proofs.YtpklcnpmppaaoaaGreatDoorW.PrintLast Go.Proofs.YtpklcnpmppaaoaaGreatDoorW.PrintMore
attribute [local go_sem] max2_int min2_int max_two min_two max_three min_three max_four min_four
set_option linter.unusedVariables false
set_option linter.unusedSimpArgs false
def attr_piece.f (k : Nat) (a0_0 : ByteArray) (a0_1 : Int) (a0_2 : Bool) (a1 : ByteArray) : Option (ByteArray × Int) := if a0_1 = 7 then ((prep_Phone.f k a1).bind fun bt427 => (some (bt427.1, bt427.2))) else ((prep_Map.f a1 (a0_1 == 1)).bind fun bt429 => (some (bt429.1, bt429.2)))
theorem attr_piece.mono : ∀ a0 a1 a2 a3 k, LeO (attr_piece.f k a0 a1 a2 a3) (attr_piece.f (k + 1) a0 a1 a2 a3) := by
 intro a0 a1 a2 a3 k; unfold attr_piece.f; repeat' first
   | (with_reducible exact prep_Phone.mono _ _)
   | (with_reducible exact LeO.refl _)
   | (with_reducible exact LeO.none _)
   | (with_reducible refine LeO.ite ?_ ?_)
   | (with_reducible refine LeO.bind ?_ (fun _ => ?_))
set_option maxHeartbeats 8000000 in
set_option maxRecDepth 100000 in
theorem attr_piece.calls (k : Nat) (a0_0 : ByteArray) (a0_1 : Int) (a0_2 : Bool) (a1 : ByteArray) (r1 : ByteArray) (r2 : Int) (w : World) (hG : Gw w) (h : attr_piece.f k a0_0 a0_1 a0_2 a1 = some (r1, r2)) :
  Calls Tryz.prog 33 #[.agg #[.string a0_0, .int .i64 a0_1, .bool a0_2], .string a1] w fun e w' => e = .returned (.tuple #[.string r1, .int .i64 r2]) ∧ Below w.heap.size w w' := by
 have hu23 := Tryz.underlying23
 have HB := am (Below.refl w.heap.size w)
 have HG := am hG
 clear hG
 have H : (if a0_1 = 7 then ((prep_Phone.f k a1).bind fun bt427 => (some (bt427.1, bt427.2))) else ((prep_Map.f a1 (a0_1 == 1)).bind fun bt429 => (some (bt429.1, bt429.2)))) = some (r1, r2) := h
 clear h
 revert H
 refine spe01 ?_ ?_
 ·intro c3b0 c3b1 H; replace H := Option.bind_eq_some_iff.mp H; obtain ⟨⟨t427, t428⟩, A40, H⟩ := H; replace H : (some (t427, t428)) = some (r1, r2) := H; have A4 := am A40; clear A40; simp only [Option.some.injEq, Prod.mk.injEq] at H; obtain ⟨rfl, rfl⟩ := H; go_enter Tryz.func33, Tryz.ntmps33; go_wp2_with (first | ((with_reducible refine gate_dst (N := 2) rfl ?_); refine box_event ?hg (N := 2) ?hd (cs := #[.string a0_0, .int .i64 a0_1, .bool a0_2]) (t := 23) ?hr ?_; (case hd => rfl); (case hg => rfl); (case hr => first | (go_simp; done) | (go_simp; rfl)); intro gb426 hg w5 hbox hb; have BK426 := am (hbox); have GW426 := am ((by rw [hg]; exact (below_size ap1) : w.heap.size ≤ gb426)); have GE426 := am ((by rw [hg]; exact (below_size ap1) : w.heap.size ≤ gb426)); replace HB := am (below_step ap1 hb); clear hb hbox hg; obtain ⟨hcz6_0, hcz6_1, hcz6_2, hfz6_0, hfz6_1, hfz6_2⟩ := bc3 BK426.out) | ((with_reducible refine gate_callee (f := 56) rfl ?_); refine goesL_ (some 10) rfl rfl Tryz.func56 (by kernel_rfl) rfl #[.string a1] rfl ap3 ?_; (with_reducible refine (prep_Phone.calls k a1 t427 t428 _ ?side1 A4.out).mono ?_); (case side1 => exact apH1 GE426.out); rintro e w7 ⟨rfl, hb⟩; refine ⟨_, rfl, ?_⟩; replace BK426 := am (blk_below (g := gb426) (o := .cells #[.string a0_0, .int .i64 a0_1, .bool a0_2] 23 (0, 0)) (apB BK426.out) hb); replace HB := am (below_step (apG GE426.out) hb))); go_ret2; exact ⟨ap9, apG1 GE426.out⟩
 ·intro c3 c3b0 c3b1 H; replace H := Option.bind_eq_some_iff.mp H; obtain ⟨⟨t429, t430⟩, A80, H⟩ := H; replace H : (some (t429, t430)) = some (r1, r2) := H; have A8 := am A80; clear A80; simp only [Option.some.injEq, Prod.mk.injEq] at H; obtain ⟨rfl, rfl⟩ := H; go_enter Tryz.func33, Tryz.ntmps33; go_wp2_with (first | ((with_reducible refine gate_dst (N := 2) rfl ?_); refine box_event ?hg (N := 2) ?hd (cs := #[.string a0_0, .int .i64 a0_1, .bool a0_2]) (t := 23) ?hr ?_; (case hd => rfl); (case hg => rfl); (case hr => first | (go_simp; done) | (go_simp; rfl)); intro gb426 hg w9 hbox hb; have BK426 := am (hbox); have GW426 := am ((by rw [hg]; exact (below_size ap1) : w.heap.size ≤ gb426)); have GE426 := am ((by rw [hg]; exact (below_size ap1) : w.heap.size ≤ gb426)); replace HB := am (below_step ap1 hb); clear hb hbox hg; obtain ⟨hcz10_0, hcz10_1, hcz10_2, hfz10_0, hfz10_1, hfz10_2⟩ := bc3 BK426.out) | ((with_reducible refine gate_callee (f := 57) rfl ?_); refine goesL_ (some 17) rfl rfl Tryz.func57 (by kernel_rfl) rfl #[.string a1, .bool (a0_1 == 1)] rfl ap3 ?_; (with_reducible refine (prep_Map.calls a1 (a0_1 == 1) t429 t430 _ A8.out).mono ?_); rintro e w11 ⟨rfl, hb⟩; refine ⟨_, rfl, ?_⟩; replace BK426 := am (blk_below (g := gb426) (o := .cells #[.string a0_0, .int .i64 a0_1, .bool a0_2] 23 (0, 0)) (apB BK426.out) hb); replace HB := am (below_step (apG GE426.out) hb))); go_ret2; exact ⟨ap9, apG1 GE426.out⟩
end Go.Proofs.YtpklcnpmppaaoaaGreatDoor.Print
namespace Go.Proofs.YtpklcnpmppaaoaaGreatDoor.Print
open Go.RowKit Go.Proofs.YtpklcnpmppaaoaaGreatDoorW.PrintWords Go.Proofs.YtpklcnpmppaaoaaGreatDoorW.PrintLast Go.Proofs.YtpklcnpmppaaoaaGreatDoorW.PrintMore Go.Proofs.YtpklcnpmppaaoaaGreatDoor.Pure
set_option linter.unusedVariables false
set_option linter.unusedSimpArgs false
theorem enc_is (z : UInt8) (hz : z.toNat < 128) : Lib.encodeRune (z.toNat : Int) = [z] := by
 unfold Lib.encodeRune; rw [Lib.encodeRuneZ_one (by omega) (by omega)]; simp only [List.map_cons, List.map_nil, Int.toNat_natCast]; congr 1; apply UInt8.toNat_inj.1; rw [u8s _ (by omega)]
theorem enc_low (z : UInt8) (hz : z.toNat < 128) (r : Int) (h : r ≠ (z.toNat : Int)) : ∀ c ∈ Lib.encodeRune r, c ≠ z := by
 by_cases h1 : 0 ≤ r ∧ r ≤ 127
 ·unfold Lib.encodeRune; rw [Lib.encodeRuneZ_one h1.1 h1.2]; intro c hc; simp only [List.map_cons, List.map_nil, List.mem_singleton] at hc; subst hc; intro h2; have := congrArg UInt8.toNat h2; rw [u8s _ (by omega)] at this; omega
 ·have hall : ∀ q : List Int, (∀ x ∈ q, 128 ≤ x ∧ x < 256) → ∀ c ∈ q.map (fun x => x.toNat.toUInt8), c ≠ z := by
   intro q hq c hc h2; obtain ⟨x, hx, rfl⟩ := List.mem_map.1 hc; have := hq x hx; have h3 := congrArg UInt8.toNat h2; rw [u8s _ (by omega)] at h3; omega
  unfold Lib.encodeRune; by_cases h2 : 128 ≤ r ∧ r ≤ 2047
  ·rw [Lib.encodeRuneZ_two h2.1 h2.2]; exact hall _ (by simp; omega)
  by_cases h3 : (2048 ≤ r ∧ r < 55296) ∨ (57343 < r ∧ r ≤ 65535)
  ·rw [Lib.encodeRuneZ_three h3]; exact hall _ (by simp; omega)
  by_cases h4 : 65536 ≤ r ∧ r ≤ 1114111
  ·rw [Lib.encodeRuneZ_four h4.1 h4.2]; exact hall _ (by simp; omega)
  ·rw [Lib.encodeRuneZ_bad (by omega)]; exact hall _ (by simp)
theorem swapZ_nil (z : UInt8) : ∀ l : List UInt8, swapZ z [] l = l.filter (· != z)
 | [] => rfl
 | c :: l => by
  have ih := swapZ_nil z l
  show (if c = z then [] else [c]) ++ swapZ z [] l = _
  rw [ih]
  by_cases h : c = z
  ·
   simp [h]
  ·
   simp [h]
theorem filt_enc (z : UInt8) (hz : z.toNat < 128) : ∀ l : List Int, (encAll l).filter (· != z) = encAll (l.filter (· != (z.toNat : Int)))
 | [] => rfl
 | r :: l => by
  have ih := filt_enc z hz l
  rw [encAll_cons, List.filter_append, ih]
  by_cases h : r = (z.toNat : Int)
  ·
   subst h
   rw [enc_is z hz, List.filter_cons_of_neg (by simp), List.filter_cons_of_neg (by simp)]; rfl
  ·
   rw [List.filter_cons_of_pos (by simpa using h), encAll_cons]
   congr 1
   exact List.filter_eq_self.2 fun c hc => by simpa using enc_low z hz r h c hc
theorem nb_filter (l : List Int) : ∀ b, (sq l b).filter (· != 32) = l.filter (· != 32) := by
 induction l with
 | nil => intro b; rfl
 | cons x r ih =>
  intro b; rw [sq]; split
  ·rename_i h; rw [List.filter_cons, List.filter_cons, ih]
  ·rename_i h; rw [ih]; have hx : x = 32 := by
    by_cases h2 : x = 32
    ·exact h2
    ·exact absurd (Or.inl h2) h
   rw [List.filter_cons_of_neg (by simp [hx])]
def phoneL (m : List Int) : List Int := (m.filter (· != 32)).filter (· != 45)
def phoneOf (s : ByteArray) : Option (List UInt8) := (runesN s s.size 0).map fun l => encAll (phoneL (l.filterMap (mapRune true)))
def ansOf : Option (List UInt8) → ByteArray × Int
 | some t => (mkB t, 0)
 | none => (⟨#[]⟩, 19)
theorem repl_f (z : UInt8) (L : List UInt8) (h : L.length ≤ 1000000) : strings_ReplaceAll.f (mkB L) (⟨#[z]⟩ : ByteArray) (⟨#[]⟩ : ByteArray) = some (mkB (L.filter (· != z))) := by
 unfold strings_ReplaceAll.f; rw [if_pos (by rw [mkB_size]; exact h), if_pos (show 1 ≤ (⟨#[z]⟩ : ByteArray).size from Nat.le_refl _), if_pos (show (⟨#[]⟩ : ByteArray).size ≤ 1000 by decide)]; have : Lib.replaceAll (mkB L).data.toList (⟨#[z]⟩ : ByteArray).data.toList (⟨#[]⟩ : ByteArray).data.toList = swapZ z [] L := replaceAll_z z [] _ (by simp); rw [this, swapZ_nil]
theorem phone_ev (s : ByteArray) (hs : s.size ≤ 100000) : Ev (fun k => prep_Phone.f k s) (ansOf (phoneOf s)) := by
 unfold prep_Phone.f; have hr := ready_ev s hs true; unfold phoneOf; unfold readyOf at hr; cases h : runesN s s.size 0 with
 | none =>
  rw [h] at hr; exact Ev.bind hr (Ev.neg (show ¬ ((19 : Int) = 0) by decide) Ev.rfl')
 | some l =>
  rw [h] at hr; simp only [Option.map_some] at hr; obtain ⟨_, hll⟩ := runesN_le s _ _ l h; have hfl : (l.filterMap (mapRune true)).length ≤ s.size := Nat.le_trans (List.length_filterMap_le _ _) hll; have hsl := sq_len (l.filterMap (mapRune true)) false; have hel := encAll_length (sq (l.filterMap (mapRune true)) false); refine Ev.bind hr (Ev.pos (show (0 : Int) = 0 from rfl) (Ev.bindc (repl_f 32 _ (by omega)) (Ev.bindc (repl_f 45 _ ?_) ?_)))
  ·have := List.length_filter_le (fun x : UInt8 => x != 32) (encAll (sq (l.filterMap (mapRune true)) false)); omega
  ·have e1 := filt_enc 32 (by decide) (sq (l.filterMap (mapRune true)) false); have e2 := filt_enc 45 (by decide) ((sq (l.filterMap (mapRune true)) false).filter (· != 32)); have e3 := nb_filter (l.filterMap (mapRune true)) false; refine Ev.const fun k => ?_
   show some (mkB _, 0) = some (mkB _, 0); rw [e1]; rw [show ((32 : UInt8).toNat : Int) = 32 from rfl, show ((45 : UInt8).toNat : Int) = 45 from rfl] at *; rw [e2, e3]; rfl
theorem refphone_loop (l : List Int) (hl : l.length ≤ 1000000) {t : ByteArray} : ∀ (n i : Nat) (acc : List Int), l.length - i = n → i ≤ l.length → acc.length ≤ i →
  Ev (fun k => R13Text.f k (acc ++ phoneL (l.drop i))) t →
  Ev (fun k => R13Phone.l0 k l acc (i : Int)) (t, 0) := by
 intro n
 induction n with
 | zero =>
  intro i acc hn hi ha ht; rw [List.drop_eq_nil_of_le (by omega), show phoneL [] = [] from rfl, List.append_nil] at ht; refine Ev.step (fun k => by rw [R13Phone.l0]) (Ev.neg (by omega) (Ev.bind ht Ev.rfl'))
 | succ n ih =>
  intro i acc hn hi ha ht; cases hr : l.drop i with
  | nil => have := List.drop_eq_nil_iff.1 hr; omega
  | cons x r =>
   obtain ⟨g1, g2, g3⟩ := rd_at hr; rw [hr] at ht; refine Ev.step (fun k => by rw [R13Phone.l0]) ?_; rw [g2, wsucc (p := i) (by omega)]; refine Ev.pos (by omega) (Ev.pos (by omega) ?_); by_cases h32 : x = 32
   ·refine Ev.pos h32 (ih (i + 1) acc (by omega) (by omega) (by omega) ?_); rw [g3]; rw [show phoneL (x :: r) = phoneL r by simp [phoneL, h32]] at ht; exact ht
   ·refine Ev.neg h32 ?_; by_cases h45 : x = 45
    ·refine Ev.pos h45 (ih (i + 1) acc (by omega) (by omega) (by omega) ?_); rw [g3]; rw [show phoneL (x :: r) = phoneL r by simp [phoneL, h45]] at ht; exact ht
    ·refine Ev.neg h45 (Ev.pos (by omega) (ih (i + 1) (acc ++ [x]) (by omega) (by omega) (by simp; omega) ?_)); rw [g3, List.append_assoc]; rw [show phoneL (x :: r) = x :: phoneL r by simp [phoneL, h32, h45]] at ht; exact ht
theorem mapped_ok {s : ByteArray} {l : List Int} (h : runesN s s.size 0 = some l) (fold : Bool) : (l.filterMap (mapRune fold)).length ≤ s.size ∧ ∀ r ∈ l.filterMap (mapRune fold), okRune r := by
 obtain ⟨_, hll⟩ := runesN_le s _ _ l h; refine ⟨Nat.le_trans (List.length_filterMap_le _ _) hll, ?_⟩; intro r hr'; obtain ⟨x, hx, hx2⟩ := List.mem_filterMap.1 hr'; exact mapRune_ok (runesN_ok s _ _ l h x hx) hx2
theorem text_ev0 (m : List Int) (hl : m.length ≤ 1000000) (hok : ∀ r ∈ m, okRune r) : Ev (fun k => R13Text.f k m) (mkB (encAll m)) := by
 have := text_loop m (by omega) hok _ 0 [] rfl (Nat.zero_le _) (Nat.zero_le _); rw [List.drop_zero, List.nil_append] at this; exact this
theorem refphone_ev (s : ByteArray) (hs : s.size ≤ 100000) : Ev (fun k => R13Phone.f k s) (ansOf (phoneOf s)) := by
 unfold R13Phone.f; have hm := mapped_ev s (by omega) true; unfold phoneOf; cases h : runesN s s.size 0 with
 | none =>
  rw [h] at hm; exact Ev.bind hm (Ev.neg (show ¬ ((19 : Int) = 0) by decide) Ev.rfl')
 | some l =>
  rw [h] at hm; obtain ⟨h1, h2⟩ := mapped_ok h true; refine Ev.bind hm (Ev.pos (show (0 : Int) = 0 from rfl) ?_); refine refphone_loop (l.filterMap (mapRune true)) (by omega) _ 0 [] rfl (Nat.zero_le _) (Nat.le_refl _) ?_; rw [List.drop_zero, List.nil_append]; have hpl : (phoneL (l.filterMap (mapRune true))).length ≤ 1000000 := by
   have a := List.length_filter_le (fun x : Int => x != 32) (l.filterMap (mapRune true)); have b := List.length_filter_le (fun x : Int => x != 45) ((l.filterMap (mapRune true)).filter (· != 32)); unfold phoneL; omega
  exact text_ev0 _ hpl fun r hr => h2 r (List.mem_filter.1 (List.mem_filter.1 hr).1).1
end Go.Proofs.YtpklcnpmppaaoaaGreatDoor.Print
namespace Go.Proofs.YtpklcnpmppaaoaaGreatDoor.Print
open Go.RowKit Go.Proofs.YtpklcnpmppaaoaaGreatDoorW.PrintWords Go.Proofs.YtpklcnpmppaaoaaGreatDoorW.PrintLast Go.Proofs.YtpklcnpmppaaoaaGreatDoorW.PrintMore
attribute [local go_sem] max2_int min2_int max_two min_two max_three min_three max_four min_four
set_option linter.unusedVariables false
set_option linter.unusedSimpArgs false
def attr_both.f (k : Nat) (a0_0 : ByteArray) (a0_1 : Int) (a0_2 : Bool) (a1 : ByteArray) (a2 : ByteArray) : Option (ByteArray × ByteArray × Int) := (attr_Normal.f k a0_0 a0_1 a0_2 a1).bind fun bt372 => (if bt372.2 = 0 then ((attr_Normal.f k a0_0 a0_1 a0_2 a2).bind fun bt374 => (if bt374.2 = 0 then (some (bt372.1, bt374.1, 0)) else (some ((⟨#[]⟩ : ByteArray), (⟨#[]⟩ : ByteArray), bt374.2)))) else (some ((⟨#[]⟩ : ByteArray), (⟨#[]⟩ : ByteArray), bt372.2)))
theorem attr_both.mono : ∀ a0 a1 a2 a3 a4 k, LeO (attr_both.f k a0 a1 a2 a3 a4) (attr_both.f (k + 1) a0 a1 a2 a3 a4) := by
 intro a0 a1 a2 a3 a4 k; unfold attr_both.f; repeat' first
   | (with_reducible exact attr_Normal.mono _ _ _ _ _)
   | (with_reducible exact LeO.refl _)
   | (with_reducible exact LeO.none _)
   | (with_reducible refine LeO.ite ?_ ?_)
   | (with_reducible refine LeO.bind ?_ (fun _ => ?_))
set_option maxHeartbeats 8000000 in
set_option maxRecDepth 100000 in
theorem attr_both.calls (k : Nat) (a0_0 : ByteArray) (a0_1 : Int) (a0_2 : Bool) (a1 : ByteArray) (a2 : ByteArray) (r1 : ByteArray) (r2 : ByteArray) (r3 : Int) (w : World) (hG : Gw w) (h : attr_both.f k a0_0 a0_1 a0_2 a1 a2 = some (r1, r2, r3)) :
  Calls Tryz.prog 25 #[.agg #[.string a0_0, .int .i64 a0_1, .bool a0_2], .string a1, .string a2] w fun e w' => e = .returned (.tuple #[.string r1, .string r2, .int .i64 r3]) ∧ Below w.heap.size w w' := by
 have hu23 := Tryz.underlying23
 have HB := am (Below.refl w.heap.size w)
 have HG := am hG
 clear hG
 have H : ((attr_Normal.f k a0_0 a0_1 a0_2 a1).bind fun bt372 => (if bt372.2 = 0 then ((attr_Normal.f k a0_0 a0_1 a0_2 a2).bind fun bt374 => (if bt374.2 = 0 then (some (bt372.1, bt374.1, 0)) else (some ((⟨#[]⟩ : ByteArray), (⟨#[]⟩ : ByteArray), bt374.2)))) else (some ((⟨#[]⟩ : ByteArray), (⟨#[]⟩ : ByteArray), bt372.2)))) = some (r1, r2, r3) := h
 clear h
 replace H := Option.bind_eq_some_iff.mp H
 obtain ⟨⟨t372, t373⟩, A40, H⟩ := H
 replace H : (if t373 = 0 then ((attr_Normal.f k a0_0 a0_1 a0_2 a2).bind fun bt374 => (if bt374.2 = 0 then (some (t372, bt374.1, 0)) else (some ((⟨#[]⟩ : ByteArray), (⟨#[]⟩ : ByteArray), bt374.2)))) else (some ((⟨#[]⟩ : ByteArray), (⟨#[]⟩ : ByteArray), t373))) = some (r1, r2, r3) := H
 have A4 := am A40
 clear A40
 revert H
 refine spe01 ?_ ?_
 ·intro c5b0 c5b1 H; replace H := Option.bind_eq_some_iff.mp H; obtain ⟨⟨t374, t375⟩, A60, H⟩ := H; replace H : (if t375 = 0 then (some (t372, t374, 0)) else (some ((⟨#[]⟩ : ByteArray), (⟨#[]⟩ : ByteArray), t375))) = some (r1, r2, r3) := H; have A6 := am A60; clear A60; revert H; refine spe01 ?_ ?_
  ·intro c7b0 c7b1 H; simp only [Option.some.injEq, Prod.mk.injEq] at H; obtain ⟨rfl, rfl, rfl⟩ := H; go_enter Tryz.func25, Tryz.ntmps25; go_wp2_with (first | ((with_reducible refine gate_dst (N := 3) rfl ?_); refine box_event ?hg (N := 3) ?hd (cs := #[.string a0_0, .int .i64 a0_1, .bool a0_2]) (t := 23) ?hr ?_; (case hd => rfl); (case hg => rfl); (case hr => first | (go_simp; done) | (go_simp; rfl)); intro gb371 hg w8 hbox hb; have BK371 := am (hbox); have GW371 := am ((by rw [hg]; exact (below_size ap1) : w.heap.size ≤ gb371)); have GE371 := am ((by rw [hg]; exact (below_size ap1) : w.heap.size ≤ gb371)); replace HB := am (below_step ap1 hb); clear hb hbox hg; obtain ⟨hcz9_0, hcz9_1, hcz9_2, hfz9_0, hfz9_1, hfz9_2⟩ := bc3 BK371.out) | ((with_reducible refine gate_callee (f := 19) rfl ?_); refine goesL_ (some 15) rfl rfl Tryz.func19 (by kernel_rfl) rfl #[.agg #[.string a0_0, .int .i64 a0_1, .bool a0_2], .string a1] rfl ap3 ?_; (with_reducible refine (attr_Normal.calls k a0_0 a0_1 a0_2 a1 t372 t373 _ ?side1 A4.out).mono ?_); (case side1 => exact apH1 GE371.out); rintro e w10 ⟨rfl, hb⟩; refine ⟨_, rfl, ?_⟩; replace BK371 := am (blk_below (g := gb371) (o := .cells #[.string a0_0, .int .i64 a0_1, .bool a0_2] 23 (0, 0)) (apB BK371.out) hb); replace HB := am (below_step (apG GE371.out) hb); obtain ⟨hcz11_0, hcz11_1, hcz11_2, hfz11_0, hfz11_1, hfz11_2⟩ := bc3 BK371.out) | ((with_reducible refine gate_callee (f := 19) rfl ?_); refine goesL_ (some 24) rfl rfl Tryz.func19 (by kernel_rfl) rfl #[.agg #[.string a0_0, .int .i64 a0_1, .bool a0_2], .string a2] rfl ap3 ?_; (with_reducible refine (attr_Normal.calls k a0_0 a0_1 a0_2 a2 t374 t375 _ ?side1 A6.out).mono ?_); (case side1 => exact apH1 GE371.out); rintro e w12 ⟨rfl, hb⟩; refine ⟨_, rfl, ?_⟩; replace BK371 := am (blk_below (g := gb371) (o := .cells #[.string a0_0, .int .i64 a0_1, .bool a0_2] 23 (0, 0)) (apB BK371.out) hb); replace HB := am (below_step (apG GE371.out) hb))); go_ret3; exact ⟨ap9, apG1 GE371.out⟩
  ·intro c7 c7b0 c7b1 H; simp only [Option.some.injEq, Prod.mk.injEq] at H; obtain ⟨rfl, rfl, rfl⟩ := H; go_enter Tryz.func25, Tryz.ntmps25; go_wp2_with (first | ((with_reducible refine gate_dst (N := 3) rfl ?_); refine box_event ?hg (N := 3) ?hd (cs := #[.string a0_0, .int .i64 a0_1, .bool a0_2]) (t := 23) ?hr ?_; (case hd => rfl); (case hg => rfl); (case hr => first | (go_simp; done) | (go_simp; rfl)); intro gb371 hg w13 hbox hb; have BK371 := am (hbox); have GW371 := am ((by rw [hg]; exact (below_size ap1) : w.heap.size ≤ gb371)); have GE371 := am ((by rw [hg]; exact (below_size ap1) : w.heap.size ≤ gb371)); replace HB := am (below_step ap1 hb); clear hb hbox hg; obtain ⟨hcz14_0, hcz14_1, hcz14_2, hfz14_0, hfz14_1, hfz14_2⟩ := bc3 BK371.out) | ((with_reducible refine gate_callee (f := 19) rfl ?_); refine goesL_ (some 15) rfl rfl Tryz.func19 (by kernel_rfl) rfl #[.agg #[.string a0_0, .int .i64 a0_1, .bool a0_2], .string a1] rfl ap3 ?_; (with_reducible refine (attr_Normal.calls k a0_0 a0_1 a0_2 a1 t372 t373 _ ?side1 A4.out).mono ?_); (case side1 => exact apH1 GE371.out); rintro e w15 ⟨rfl, hb⟩; refine ⟨_, rfl, ?_⟩; replace BK371 := am (blk_below (g := gb371) (o := .cells #[.string a0_0, .int .i64 a0_1, .bool a0_2] 23 (0, 0)) (apB BK371.out) hb); replace HB := am (below_step (apG GE371.out) hb); obtain ⟨hcz16_0, hcz16_1, hcz16_2, hfz16_0, hfz16_1, hfz16_2⟩ := bc3 BK371.out) | ((with_reducible refine gate_callee (f := 19) rfl ?_); refine goesL_ (some 24) rfl rfl Tryz.func19 (by kernel_rfl) rfl #[.agg #[.string a0_0, .int .i64 a0_1, .bool a0_2], .string a2] rfl ap3 ?_; (with_reducible refine (attr_Normal.calls k a0_0 a0_1 a0_2 a2 t374 t375 _ ?side1 A6.out).mono ?_); (case side1 => exact apH1 GE371.out); rintro e w17 ⟨rfl, hb⟩; refine ⟨_, rfl, ?_⟩; replace BK371 := am (blk_below (g := gb371) (o := .cells #[.string a0_0, .int .i64 a0_1, .bool a0_2] 23 (0, 0)) (apB BK371.out) hb); replace HB := am (below_step (apG GE371.out) hb))); go_ret3; exact ⟨ap9, apG1 GE371.out⟩
 ·intro c5 c5b0 c5b1 H; simp only [Option.some.injEq, Prod.mk.injEq] at H; obtain ⟨rfl, rfl, rfl⟩ := H; go_enter Tryz.func25, Tryz.ntmps25; go_wp2_with (first | ((with_reducible refine gate_dst (N := 3) rfl ?_); refine box_event ?hg (N := 3) ?hd (cs := #[.string a0_0, .int .i64 a0_1, .bool a0_2]) (t := 23) ?hr ?_; (case hd => rfl); (case hg => rfl); (case hr => first | (go_simp; done) | (go_simp; rfl)); intro gb371 hg w18 hbox hb; have BK371 := am (hbox); have GW371 := am ((by rw [hg]; exact (below_size ap1) : w.heap.size ≤ gb371)); have GE371 := am ((by rw [hg]; exact (below_size ap1) : w.heap.size ≤ gb371)); replace HB := am (below_step ap1 hb); clear hb hbox hg; obtain ⟨hcz19_0, hcz19_1, hcz19_2, hfz19_0, hfz19_1, hfz19_2⟩ := bc3 BK371.out) | ((with_reducible refine gate_callee (f := 19) rfl ?_); refine goesL_ (some 15) rfl rfl Tryz.func19 (by kernel_rfl) rfl #[.agg #[.string a0_0, .int .i64 a0_1, .bool a0_2], .string a1] rfl ap3 ?_; (with_reducible refine (attr_Normal.calls k a0_0 a0_1 a0_2 a1 t372 t373 _ ?side1 A4.out).mono ?_); (case side1 => exact apH1 GE371.out); rintro e w20 ⟨rfl, hb⟩; refine ⟨_, rfl, ?_⟩; replace BK371 := am (blk_below (g := gb371) (o := .cells #[.string a0_0, .int .i64 a0_1, .bool a0_2] 23 (0, 0)) (apB BK371.out) hb); replace HB := am (below_step (apG GE371.out) hb))); go_ret3; exact ⟨ap9, apG1 GE371.out⟩
def attr_Equal.f (k : Nat) (a0_0 : ByteArray) (a0_1 : Int) (a0_2 : Bool) (a1 : ByteArray) (a2 : ByteArray) : Option (Bool × Int) := (attr_both.f k a0_0 a0_1 a0_2 a1 a2).bind fun bt377 => (if bt377.2.2 = 0 then (some ((bt377.1.toList == bt377.2.1.toList), bt377.2.2)) else (some (false, bt377.2.2)))
theorem attr_Equal.mono : ∀ a0 a1 a2 a3 a4 k, LeO (attr_Equal.f k a0 a1 a2 a3 a4) (attr_Equal.f (k + 1) a0 a1 a2 a3 a4) := by
 intro a0 a1 a2 a3 a4 k; unfold attr_Equal.f; repeat' first
   | (with_reducible exact attr_both.mono _ _ _ _ _ _)
   | (with_reducible exact LeO.refl _)
   | (with_reducible exact LeO.none _)
   | (with_reducible refine LeO.ite ?_ ?_)
   | (with_reducible refine LeO.bind ?_ (fun _ => ?_))
set_option maxHeartbeats 8000000 in
set_option maxRecDepth 100000 in
theorem attr_Equal.calls (k : Nat) (a0_0 : ByteArray) (a0_1 : Int) (a0_2 : Bool) (a1 : ByteArray) (a2 : ByteArray) (r1 : Bool) (r2 : Int) (w : World) (hG : Gw w) (h : attr_Equal.f k a0_0 a0_1 a0_2 a1 a2 = some (r1, r2)) :
  Calls Tryz.prog 10 #[.agg #[.string a0_0, .int .i64 a0_1, .bool a0_2], .string a1, .string a2] w fun e w' => e = .returned (.tuple #[.bool r1, .int .i64 r2]) ∧ Below w.heap.size w w' := by
 have hu23 := Tryz.underlying23
 have HB := am (Below.refl w.heap.size w)
 have HG := am hG
 clear hG
 have H : ((attr_both.f k a0_0 a0_1 a0_2 a1 a2).bind fun bt377 => (if bt377.2.2 = 0 then (some ((bt377.1.toList == bt377.2.1.toList), bt377.2.2)) else (some (false, bt377.2.2)))) = some (r1, r2) := h
 clear h
 replace H := Option.bind_eq_some_iff.mp H
 obtain ⟨⟨t377, t378, t379⟩, A40, H⟩ := H
 replace H : (if t379 = 0 then (some ((t377.toList == t378.toList), t379)) else (some (false, t379))) = some (r1, r2) := H
 have A4 := am A40
 clear A40
 revert H
 refine spe01 ?_ ?_
 ·intro c5b0 c5b1 H; simp only [Option.some.injEq, Prod.mk.injEq] at H; obtain ⟨rfl, rfl⟩ := H; go_enter Tryz.func10, Tryz.ntmps10; go_wp2_with (first | ((with_reducible refine gate_dst (N := 3) rfl ?_); refine box_event ?hg (N := 3) ?hd (cs := #[.string a0_0, .int .i64 a0_1, .bool a0_2]) (t := 23) ?hr ?_; (case hd => rfl); (case hg => rfl); (case hr => first | (go_simp; done) | (go_simp; rfl)); intro gb376 hg w6 hbox hb; have BK376 := am (hbox); have GW376 := am ((by rw [hg]; exact (below_size ap1) : w.heap.size ≤ gb376)); have GE376 := am ((by rw [hg]; exact (below_size ap1) : w.heap.size ≤ gb376)); replace HB := am (below_step ap1 hb); clear hb hbox hg; obtain ⟨hcz7_0, hcz7_1, hcz7_2, hfz7_0, hfz7_1, hfz7_2⟩ := bc3 BK376.out) | ((with_reducible refine gate_callee (f := 25) rfl ?_); refine goesL_ (some 15) rfl rfl Tryz.func25 (by kernel_rfl) rfl #[.agg #[.string a0_0, .int .i64 a0_1, .bool a0_2], .string a1, .string a2] rfl ap3 ?_; (with_reducible refine (attr_both.calls k a0_0 a0_1 a0_2 a1 a2 t377 t378 t379 _ ?side1 A4.out).mono ?_); (case side1 => exact apH1 GE376.out); rintro e w8 ⟨rfl, hb⟩; refine ⟨_, rfl, ?_⟩; replace BK376 := am (blk_below (g := gb376) (o := .cells #[.string a0_0, .int .i64 a0_1, .bool a0_2] 23 (0, 0)) (apB BK376.out) hb); replace HB := am (below_step (apG GE376.out) hb))); go_ret2; exact ⟨ap9, apG1 GE376.out⟩
 ·intro c5 c5b0 c5b1 H; simp only [Option.some.injEq, Prod.mk.injEq] at H; obtain ⟨rfl, rfl⟩ := H; go_enter Tryz.func10, Tryz.ntmps10; go_wp2_with (first | ((with_reducible refine gate_dst (N := 3) rfl ?_); refine box_event ?hg (N := 3) ?hd (cs := #[.string a0_0, .int .i64 a0_1, .bool a0_2]) (t := 23) ?hr ?_; (case hd => rfl); (case hg => rfl); (case hr => first | (go_simp; done) | (go_simp; rfl)); intro gb376 hg w9 hbox hb; have BK376 := am (hbox); have GW376 := am ((by rw [hg]; exact (below_size ap1) : w.heap.size ≤ gb376)); have GE376 := am ((by rw [hg]; exact (below_size ap1) : w.heap.size ≤ gb376)); replace HB := am (below_step ap1 hb); clear hb hbox hg; obtain ⟨hcz10_0, hcz10_1, hcz10_2, hfz10_0, hfz10_1, hfz10_2⟩ := bc3 BK376.out) | ((with_reducible refine gate_callee (f := 25) rfl ?_); refine goesL_ (some 15) rfl rfl Tryz.func25 (by kernel_rfl) rfl #[.agg #[.string a0_0, .int .i64 a0_1, .bool a0_2], .string a1, .string a2] rfl ap3 ?_; (with_reducible refine (attr_both.calls k a0_0 a0_1 a0_2 a1 a2 t377 t378 t379 _ ?side1 A4.out).mono ?_); (case side1 => exact apH1 GE376.out); rintro e w11 ⟨rfl, hb⟩; refine ⟨_, rfl, ?_⟩; replace BK376 := am (blk_below (g := gb376) (o := .cells #[.string a0_0, .int .i64 a0_1, .bool a0_2] 23 (0, 0)) (apB BK376.out) hb); replace HB := am (below_step (apG GE376.out) hb))); go_ret2; exact ⟨ap9, apG1 GE376.out⟩
def attr_Check.f (k : Nat) (a0_0 : ByteArray) (a0_1 : Int) (a0_2 : Bool) (a1 : ByteArray) : Option (Int) := (attr_Normal.f k a0_0 a0_1 a0_2 a1).bind fun bt875 => (some bt875.2)
set_option maxHeartbeats 8000000 in
set_option maxRecDepth 100000 in
theorem attr_Check.calls (k : Nat) (a0_0 : ByteArray) (a0_1 : Int) (a0_2 : Bool) (a1 : ByteArray) (r : Int) (w : World) (hG : Gw w) (h : attr_Check.f k a0_0 a0_1 a0_2 a1 = some r) :
  Calls Tryz.prog 21 #[.agg #[.string a0_0, .int .i64 a0_1, .bool a0_2], .string a1] w fun e w' => e = .returned (.int .i64 r) ∧ Below w.heap.size w w' := by
 have hu23 := Tryz.underlying23
 have HB := am (Below.refl w.heap.size w)
 have HG := am hG
 clear hG
 have H : ((attr_Normal.f k a0_0 a0_1 a0_2 a1).bind fun bt875 => (some bt875.2)) = some r := h
 clear h
 replace H := Option.bind_eq_some_iff.mp H
 obtain ⟨⟨t875, t876⟩, A30, H⟩ := H
 replace H : (some t876) = some r := H
 have A3 := am A30
 clear A30
 obtain rfl := Option.some.inj H
 go_enter Tryz.func21, Tryz.ntmps21
 go_wp2_with (first | ((with_reducible refine gate_dst (N := 2) rfl ?_); refine box_event ?hg (N := 2) ?hd (cs := #[.string a0_0, .int .i64 a0_1, .bool a0_2]) (t := 23) ?hr ?_; (case hd => rfl); (case hg => rfl); (case hr => first | (go_simp; done) | (go_simp; rfl)); intro gb874 hg w4 hbox hb; have BK874 := am (hbox); have GW874 := am ((by rw [hg]; exact (below_size ap1) : w.heap.size ≤ gb874)); have GE874 := am ((by rw [hg]; exact (below_size ap1) : w.heap.size ≤ gb874)); replace HB := am (below_step ap1 hb); clear hb hbox hg; obtain ⟨hcz5_0, hcz5_1, hcz5_2, hfz5_0, hfz5_1, hfz5_2⟩ := bc3 BK874.out) | ((with_reducible refine gate_callee (f := 19) rfl ?_); refine goesL_ (some 10) rfl rfl Tryz.func19 (by kernel_rfl) rfl #[.agg #[.string a0_0, .int .i64 a0_1, .bool a0_2], .string a1] rfl ap3 ?_; (with_reducible refine (attr_Normal.calls k a0_0 a0_1 a0_2 a1 t875 t876 _ ?side1 A3.out).mono ?_); (case side1 => exact apH1 GE874.out); rintro e w6 ⟨rfl, hb⟩; refine ⟨_, rfl, ?_⟩; replace BK874 := am (blk_below (g := gb874) (o := .cells #[.string a0_0, .int .i64 a0_1, .bool a0_2] 23 (0, 0)) (apB BK874.out) hb); replace HB := am (below_step (apG GE874.out) hb)))
 go_ret
 exact ⟨ap9, apG1 GE874.out⟩
end Go.Proofs.YtpklcnpmppaaoaaGreatDoor.Print
namespace Go.Proofs.YtpklcnpmppaaoaaGreatDoor.Print
open Go.RowKit Go.Proofs.YtpklcnpmppaaoaaGreatDoorW.PrintWords Go.Proofs.YtpklcnpmppaaoaaGreatDoorW.PrintLast Go.Proofs.YtpklcnpmppaaoaaGreatDoorW.PrintMore Go.Proofs.YtpklcnpmppaaoaaGreatDoor.Pure
set_option linter.unusedVariables false
set_option linter.unusedSimpArgs false
def nameOf (s : ByteArray) : List (List AvaS) × Int :=
 if 1000 < s.size then ([], 5) else if (bl s).dropWhile (· == 32) = [] then ([], 0) else
  match (signs (bl s)).bind fun L => goP L [] [] [] with
  | none => ([], 4)
  | some N => if nameOk (mkN N) = true then (mkN N, 0) else ([], 4)
theorem dnparse_ev (s : ByteArray) (hs : s.size ≤ 100000) : Ev (fun k => dn_Parse.f k s) (nameOf s) := by
 obtain ⟨p1, p2, p3, p4⟩ := parse_ev s hs; unfold nameOf; by_cases h : 1000 < s.size
 ·rw [if_pos h]; exact p1 h
 ·rw [if_neg h]; by_cases hb : (bl s).dropWhile (· == 32) = []
  ·rw [if_pos hb]; exact p2 (by omega) hb
  ·rw [if_neg hb]; cases hg : ((signs (bl s)).bind fun L => goP L [] [] []) with
   | none => exact p3 (by omega) hb hg
   | some N =>
    obtain ⟨z1, z2, z3⟩ := sz_mk (Nat.le_refl _) (read_short hs hg); exact p4 (by omega) hb N _ hg (right_ev (mkN N) z1 z2)
theorem nameOf_ok (s : ByteArray) (hs : s.size ≤ 100000) : nameOk (nameOf s).1 = true ∧ (nameOf s).1.length ≤ 1000000 ∧ szN (nameOf s).1 := by
 have h0 : nameOk [] = true ∧ ([] : List (List AvaS)).length ≤ 1000000 ∧ szN [] := ⟨rfl, by simp, by simp [szN]⟩; unfold nameOf; by_cases h : 1000 < s.size
 ·rw [if_pos h]; exact h0
 ·rw [if_neg h]; by_cases hb : (bl s).dropWhile (· == 32) = []
  ·rw [if_pos hb]; exact h0
  ·rw [if_neg hb]; cases hg : ((signs (bl s)).bind fun L => goP L [] [] []) with
   | none => exact h0
   | some N =>
    obtain ⟨z1, z2, z3⟩ := sz_mk (Nat.le_refl _) (read_short hs hg); dsimp only; by_cases hn : nameOk (mkN N) = true
    ·rw [if_pos hn]; exact ⟨hn, z1, z2⟩
    ·rw [if_neg hn]; exact h0
def keysB (s : ByteArray) : ByteArray := mkB ((keysOf (nameOf s).1).map bl).flatten
theorem keyOf_len (l : List AvaS) (h : l.length ≤ 4) : (keyOf l).size ≤ 16384 := by
 unfold keyOf; rw [show ∀ q : List UInt8, (⟨q.toArray⟩ : ByteArray).size = q.length from mkB_size]; have h2 := sortB_size (l.map tupV) (fun x hx => by
  obtain ⟨a, _, rfl⟩ := List.mem_map.1 hx; exact tupV_len a)
 have h3 := flat_len 4096 _ h2; rw [List.length_map, sortB_len, List.length_map] at h3; omega
theorem keysOf_join {n : List (List AvaS)} (hn : nameOk n = true) : (keysOf n).length ≤ 12 ∧ ((keysOf n).map bl).flatten.length ≤ 200000 := by
 obtain ⟨h1, h2⟩ := nameOk_sz hn; have hl := keysOf_len n; refine ⟨by omega, ?_⟩; have h3 := flat_len 16384 ((keysOf n).map bl) (fun x hx => by
  obtain ⟨y, hy, rfl⟩ := List.mem_map.1 hx; obtain ⟨a, ha, rfl⟩ := List.mem_map.1 hy; rw [bl_length]; exact keyOf_len a (h2 a (List.mem_reverse.1 ha)))
 rw [List.length_map, hl] at h3; omega
theorem join_keys {n : List (List AvaS)} (hn : nameOk n = true) : strings_Join.f (keysOf n) (⟨#[]⟩ : ByteArray) = some (mkB ((keysOf n).map bl).flatten) := by
 obtain ⟨h1, h2⟩ := keysOf_join hn; unfold strings_Join.f; rw [joinB_none, if_pos (by omega), if_pos (by omega)]
def trueB : List UInt8 := [84, 82, 85, 69]
def falseB : List UInt8 := [70, 65, 76, 83, 69]
def someT : Option (List UInt8) → ByteArray × Bool
 | some u => (mkB u, decide (u ≠ []))
 | none => (⟨#[]⟩, false)
def formOf (t : Int) (s : ByteArray) : ByteArray × Bool :=
 if t = 1 ∨ t = 2 then someT (readyOf (t == 1) s)
 else if t = 7 then someT (phoneOf s)
 else if t = 4 then (s, numOk (bl s))
 else if t = 5 then (s, decide (bl s = trueB ∨ bl s = falseB))
 else if t = 6 then (keysB s, (nameOf s).2 == 0)
 else (s, true)
theorem someT_ev {F : Nat → Option (ByteArray × Int)} {o : Option (List UInt8)} (h : Ev F (ansOf o)) : Ev (fun k => (F k).bind fun bt => if bt.2 = 0 then some (bt.1, (bt.1.toList != ([] : List UInt8))) else some (bt.1, false)) (someT o) := by
 refine Ev.bind h ?_; cases o with
 | none => exact Ev.neg (show ¬ ((19 : Int) = 0) by decide) Ev.rfl'
 | some u =>
  refine Ev.pos (show (0 : Int) = 0 from rfl) (Ev.const fun k => ?_); show some (mkB u, (mkB u).toList != []) = some (mkB u, decide (u ≠ [])); rw [tl_bl]; show some (mkB u, u != []) = _; cases u <;> simp
theorem ready_ans (s : ByteArray) (hs : s.size ≤ 100000) (fold : Bool) : Ev (fun k => prep_Ready.f k s fold) (ansOf (readyOf fold s)) := by
 have h := ready_ev s hs fold; cases hr : readyOf fold s <;> rw [hr] at h <;> exact h
theorem form_ev (n : ByteArray) (t : Int) (b : Bool) (s : ByteArray) (hs : s.size ≤ 100000) : Ev (fun k => attr_form.f k n t b s) (formOf t s) := by
 have hj : ∀ {q : Bool}, q = decide (t = 1 ∨ t = 2) → Ev (fun k => attr_form.j0 k s t q n t b) (formOf t s) := by
  intro q hq; unfold formOf; refine Ev.step (fun k => by rw [attr_form.j0]) ?_; by_cases h12 : t = 1 ∨ t = 2
  ·rw [if_pos h12]; exact Ev.pos (by rw [hq]; exact decide_eq_true h12) (someT_ev (ready_ans s hs _))
  ·rw [if_neg h12]; refine Ev.neg (by rw [hq]; simpa using h12) ?_; by_cases h7 : t = 7
   ·rw [if_pos h7]; exact Ev.pos h7 (someT_ev (phone_ev s hs))
   ·rw [if_neg h7]; refine Ev.neg h7 ?_; by_cases h4 : t = 4
    ·rw [if_pos h4]; exact Ev.pos h4 (Ev.bind (number_ev s (by omega)) Ev.rfl')
    ·rw [if_neg h4]; refine Ev.neg h4 ?_; by_cases h5 : t = 5
     ·rw [if_pos h5]; refine Ev.pos h5 ?_; rw [tl_bl]; by_cases ht : bl s = trueB
      ·rw [decide_eq_true (Or.inl ht)]; exact Ev.pos ht Ev.rfl'
      ·refine Ev.neg ht (Ev.const fun k => ?_); by_cases hf : bl s = falseB
       ·rw [decide_eq_true (Or.inr hf), hf]; rfl
       ·rw [decide_eq_false (by simp [ht, hf])]; rw [show (bl s == ([70, 65, 76, 83, 69] : List UInt8)) = false from beq_eq_false_iff_ne.2 hf]
     ·rw [if_neg h5]; refine Ev.neg h5 ?_; by_cases h6 : t = 6
      ·rw [if_pos h6]; obtain ⟨k1, k2, k3⟩ := nameOf_ok s hs; have hk := keys_ev (nameOf s).1 k2 k3; rw [if_pos k1] at hk; refine Ev.pos h6 (Ev.bind (dnparse_ev s hs) (Ev.bind hk (Ev.bindc (join_keys k1) ?_))); by_cases h0 : (nameOf s).2 = 0
       ·rw [h0]; exact Ev.pos rfl Ev.rfl'
       ·rw [beq_eq_false_iff_ne.2 h0]; exact Ev.neg h0 Ev.rfl'
      ·rw [if_neg h6]; exact Ev.neg h6 Ev.rfl'
 unfold attr_form.f; by_cases h1 : t = 1
 ·exact Ev.pos h1 (hj (by rw [decide_eq_true (Or.inl h1), h1]; rfl))
 ·refine Ev.neg h1 (hj ?_); by_cases h2 : t = 2
  ·rw [decide_eq_true (Or.inr h2), h2]; rfl
  ·rw [decide_eq_false (by simp [h1, h2])]; exact beq_eq_false_iff_ne.2 h2
def normOf (t : Int) (s : ByteArray) : ByteArray × Int :=
 if t < 1 ∨ 7 < t then (⟨#[]⟩, 14) else if 1000 < s.size then (⟨#[]⟩, 5) else if s.size = 0 then (⟨#[]⟩, 4) else if (formOf t s).2 = true then ((formOf t s).1, 0) else (⟨#[]⟩, 4)
theorem sz0 (s : ByteArray) : bl s = [] ↔ s.size = 0 := by
 rw [← bl_length]; exact List.length_eq_zero_iff.symm
theorem normal_ev (n : ByteArray) (t : Int) (b : Bool) (s : ByteArray) : Ev (fun k => attr_Normal.f k n t b s) (normOf t s) := by
 unfold attr_Normal.f normOf attr_known.f; by_cases ht : t < 1 ∨ 7 < t
 ·rw [if_pos ht]; by_cases h1 : t ≥ 1
  ·rw [if_pos h1]; refine Ev.bindc (u := decide (t ≤ 7)) rfl (Ev.neg (by simp; omega) Ev.rfl')
  ·rw [if_neg h1]; exact Ev.bindc (u := false) rfl (Ev.neg (by simp) Ev.rfl')
 ·rw [if_neg ht, if_pos (by omega)]; refine Ev.bindc (u := decide (t ≤ 7)) rfl (Ev.pos (by simp; omega) ?_); by_cases h5 : 1000 < s.size
  ·rw [if_pos h5]; exact Ev.pos (by omega) Ev.rfl'
  ·rw [if_neg h5]; refine Ev.neg (by omega) ?_; rw [tl_bl]; by_cases h0 : s.size = 0
   ·rw [if_pos h0]; exact Ev.pos ((sz0 s).2 h0) Ev.rfl'
   ·rw [if_neg h0]; refine Ev.neg (fun h => h0 ((sz0 s).1 h)) (Ev.bind (form_ev n t b s (by omega)) ?_); by_cases hf : (formOf t s).2 = true
    ·refine Ev.pos hf ?_; rw [if_pos hf]; exact Ev.rfl'
    ·refine Ev.neg hf ?_; rw [if_neg hf]; exact Ev.rfl'
theorem check_ev (n : ByteArray) (t : Int) (b : Bool) (s : ByteArray) : Ev (fun k => attr_Check.f k n t b s) (normOf t s).2 := by
 unfold attr_Check.f; exact Ev.bind (normal_ev n t b s) Ev.rfl'
end Go.Proofs.YtpklcnpmppaaoaaGreatDoor.Print
namespace Go.Proofs
open Go.Shelf
def Tryz.laysC172_ren : Go.Shelf.Ren := ⟨fun | 172 => 26 | 244 => 50 | 245 => 51 | 247 => 77 | 279 => 78 | 280 => 79 | 281 => 80 | 282 => 81 | 287 => 108 | 316 => 109 | 171 => 111 | 205 => 110 | 321 => 130 | 322 => 131 | 243 => 132 | 246 => 152 | 283 => 172 | 284 => 173 | 285 => 174 | 286 => 175 | 129 => 171 | 317 => 182 | 318 => 183 | 319 => 184 | 320 => 185 | 337 => 187 | 338 => 188 | n => n, fun | 9 => 9 | 3 => 3 | 75 => 50 | 76 => 51 | 4 => 4 | 5 => 5 | 167 => 101 | 37 => 82 | 0 => 0 | 85 => 102 | 2 => 2 | 168 => 104 | 53 => 128 | 175 => 129 | 46 => 68 | 210 => 132 | 127 => 137 | 145 => 147 | 143 => 145 | 21 => 21 | 171 => 177 | 173 => 179 | 212 => 192 | 51 => 152 | 20 => 20 | 213 => 193 | 232 => 196 | 233 => 197 | 80 => 112 | n => n, fun | 15 => 2 | 16 => 3 | 17 => 6 | 18 => 7 | 19 => 8 | n => n⟩
theorem Tryz.laysC172 : Go.Proofs.LaysC.n172 Tryz.prog Tryz.laysC172_ren := {
  mixed := by kernel_rfl
  f129 := Tryz.func171.trans (congrArg some (by kernel_rfl))
  f171 := Tryz.func111.trans (congrArg some (by kernel_rfl))
  f172 := Tryz.func26.trans (congrArg some (by kernel_rfl))
  f205 := Tryz.func110.trans (congrArg some (by kernel_rfl))
  f243 := Tryz.func132.trans (congrArg some (by kernel_rfl))
  f244 := Tryz.func50.trans (congrArg some (by kernel_rfl))
  f245 := Tryz.func51.trans (congrArg some (by kernel_rfl))
  f246 := Tryz.func152.trans (congrArg some (by kernel_rfl))
  f247 := Tryz.func77.trans (congrArg some (by kernel_rfl))
  f279 := Tryz.func78.trans (congrArg some (by kernel_rfl))
  f280 := Tryz.func79.trans (congrArg some (by kernel_rfl))
  f281 := Tryz.func80.trans (congrArg some (by kernel_rfl))
  f282 := Tryz.func81.trans (congrArg some (by kernel_rfl))
  f283 := Tryz.func172.trans (congrArg some (by kernel_rfl))
  f284 := Tryz.func173.trans (congrArg some (by kernel_rfl))
  f285 := Tryz.func174.trans (congrArg some (by kernel_rfl))
  f286 := Tryz.func175.trans (congrArg some (by kernel_rfl))
  f287 := Tryz.func108.trans (congrArg some (by kernel_rfl))
  f316 := Tryz.func109.trans (congrArg some (by kernel_rfl))
  f317 := Tryz.func182.trans (congrArg some (by kernel_rfl))
  f318 := Tryz.func183.trans (congrArg some (by kernel_rfl))
  f319 := Tryz.func184.trans (congrArg some (by kernel_rfl))
  f320 := Tryz.func185.trans (congrArg some (by kernel_rfl))
  f321 := Tryz.func130.trans (congrArg some (by kernel_rfl))
  f322 := Tryz.func131.trans (congrArg some (by kernel_rfl))
  f337 := Tryz.func187.trans (congrArg some (by kernel_rfl))
  f338 := Tryz.func188.trans (congrArg some (by kernel_rfl))
  t0 := Tryz.underlying0
  a0 := Tryz.isAgg0
  z0 := Tryz.sizeOf0
  v0 := Tryz.zeroValue0
  t2 := Tryz.underlying2
  a2 := Tryz.isAgg2
  z2 := Tryz.sizeOf2
  v2 := Tryz.zeroValue2
  t3 := Tryz.underlying3
  a3 := Tryz.isAgg3
  z3 := Tryz.sizeOf3
  v3 := Tryz.zeroValue3
  t4 := Tryz.underlying4
  a4 := Tryz.isAgg4
  z4 := Tryz.sizeOf4
  v4 := Tryz.zeroValue4
  t5 := Tryz.underlying5
  a5 := Tryz.isAgg5
  z5 := Tryz.sizeOf5
  v5 := Tryz.zeroValue5
  t9 := Tryz.underlying9
  a9 := Tryz.isAgg9
  z9 := Tryz.sizeOf9
  v9 := Tryz.zeroValue9
  t20 := Tryz.underlying20
  a20 := Tryz.isAgg20
  z20 := Tryz.sizeOf20
  v20 := Tryz.zeroValue20
  t21 := Tryz.underlying21
  a21 := Tryz.isAgg21
  z21 := Tryz.sizeOf21
  v21 := Tryz.zeroValue21
  t37 := Tryz.underlying82
  a37 := Tryz.isAgg82
  z37 := Tryz.sizeOf82
  v37 := Tryz.zeroValue82
  t46 := Tryz.underlying68
  a46 := Tryz.isAgg68
  z46 := Tryz.sizeOf68
  v46 := Tryz.zeroValue68
  t51 := Tryz.underlying152
  a51 := Tryz.isAgg152
  z51 := Tryz.sizeOf152
  v51 := Tryz.zeroValue152
  t53 := Tryz.underlying128
  a53 := Tryz.isAgg128
  z53 := Tryz.sizeOf128
  v53 := Tryz.zeroValue128
  t75 := Tryz.underlying50
  a75 := Tryz.isAgg50
  z75 := Tryz.sizeOf50
  v75 := Tryz.zeroValue50
  t76 := Tryz.underlying51
  a76 := Tryz.isAgg51
  z76 := Tryz.sizeOf51
  v76 := Tryz.zeroValue51
  t85 := Tryz.underlying102
  a85 := Tryz.isAgg102
  z85 := Tryz.sizeOf102
  v85 := Tryz.zeroValue102
  t127 := Tryz.underlying137
  a127 := Tryz.isAgg137
  z127 := Tryz.sizeOf137
  v127 := Tryz.zeroValue137
  t143 := Tryz.underlying145
  a143 := Tryz.isAgg145
  z143 := Tryz.sizeOf145
  v143 := Tryz.zeroValue145
  t145 := Tryz.underlying147
  a145 := Tryz.isAgg147
  z145 := Tryz.sizeOf147
  v145 := Tryz.zeroValue147
  t167 := Tryz.underlying101
  a167 := Tryz.isAgg101
  z167 := Tryz.sizeOf101
  v167 := Tryz.zeroValue101
  t168 := Tryz.underlying104
  a168 := Tryz.isAgg104
  z168 := Tryz.sizeOf104
  v168 := Tryz.zeroValue104
  t171 := Tryz.underlying177
  a171 := Tryz.isAgg177
  z171 := Tryz.sizeOf177
  v171 := Tryz.zeroValue177
  t173 := Tryz.underlying179
  a173 := Tryz.isAgg179
  z173 := Tryz.sizeOf179
  v173 := Tryz.zeroValue179
  t175 := Tryz.underlying129
  a175 := Tryz.isAgg129
  z175 := Tryz.sizeOf129
  v175 := Tryz.zeroValue129
  t210 := Tryz.underlying132
  a210 := Tryz.isAgg132
  z210 := Tryz.sizeOf132
  v210 := Tryz.zeroValue132
  t212 := Tryz.underlying192
  a212 := Tryz.isAgg192
  z212 := Tryz.sizeOf192
  v212 := Tryz.zeroValue192
  t213 := Tryz.underlying193
  a213 := Tryz.isAgg193
  z213 := Tryz.sizeOf193
  t232 := Tryz.underlying196
  a232 := Tryz.isAgg196
  z232 := Tryz.sizeOf196
  v232 := Tryz.zeroValue196
  t233 := Tryz.underlying197
  a233 := Tryz.isAgg197
  z233 := Tryz.sizeOf197
  v233 := Tryz.zeroValue197
  g15 := by kernel_rfl
  g16 := by kernel_rfl
  g17 := by kernel_rfl
  g18 := by kernel_rfl
  g19 := by kernel_rfl
  t80 := Tryz.underlying112
  a80 := Tryz.isAgg112
  z80 := Tryz.sizeOf112
  v80 := Tryz.zeroValue112
  i0 := by kernel_rfl
  i2 := by kernel_rfl
  i3 := by kernel_rfl
  i4 := by kernel_rfl
  i5 := by kernel_rfl
  i9 := by kernel_rfl
  i20 := by kernel_rfl
  i21 := by kernel_rfl
  i37 := by kernel_rfl
  i46 := by kernel_rfl
  i51 := by kernel_rfl
  i53 := by kernel_rfl
  i75 := by kernel_rfl
  i76 := by kernel_rfl
  i80 := by kernel_rfl
  i85 := by kernel_rfl
  i127 := by kernel_rfl
  i143 := by kernel_rfl
  i145 := by kernel_rfl
  i167 := by kernel_rfl
  i168 := by kernel_rfl
  i171 := by kernel_rfl
  i173 := by kernel_rfl
  i175 := by kernel_rfl
  i210 := by kernel_rfl
  i212 := by kernel_rfl
  i232 := by kernel_rfl
  i233 := by kernel_rfl
  m15 := by kernel_rfl
  m16 := by kernel_rfl
  m17 := by kernel_rfl
  m18 := by kernel_rfl
  m19 := by kernel_rfl
  c0 := by kernel_rfl
  c2 := by kernel_rfl
  c3 := by kernel_rfl
  c4 := by kernel_rfl
  c5 := by kernel_rfl
  c9 := by kernel_rfl
  c20 := by kernel_rfl
  c21 := by kernel_rfl
  c37 := by kernel_rfl
  c46 := by kernel_rfl
  c51 := by kernel_rfl
  c53 := by kernel_rfl
  c75 := by kernel_rfl
  c76 := by kernel_rfl
  c80 := by kernel_rfl
  c85 := by kernel_rfl
  c127 := by kernel_rfl
  c143 := by kernel_rfl
  c145 := by kernel_rfl
  c167 := by kernel_rfl
  c168 := by kernel_rfl
  c171 := by kernel_rfl
  c173 := by kernel_rfl
  c175 := by kernel_rfl
  c210 := by kernel_rfl
  c212 := by kernel_rfl
  c213 := by kernel_rfl
  c232 := by kernel_rfl
  c233 := by kernel_rfl }
open Go.RowKit in
theorem Tryz.strconv_Atoi_ok (s : ByteArray) (hmax : s.size ≤ 9223372036854775806) (v : Int) (h : Lib.atoiAll s.data.toList = .ok v) (w : World) :
    Calls Tryz.prog 26 #[.string s] w fun e w' => e = .returned (.tuple #[.int .i64 v, .nilIface]) ∧ (w' = w ∨ ∃ t, w' = Lib.bytesWorld w 5 t) := Any.strconv_Atoi_ok Tryz.laysC172 s hmax v h w
end Go.Proofs
namespace Go.Proofs.YtpklcnpmppaaoaaGreatDoor.Print
open Go.RowKit Go.Proofs.YtpklcnpmppaaoaaGreatDoorW.PrintWords Go.Proofs.YtpklcnpmppaaoaaGreatDoorW.PrintLast Go.Proofs.YtpklcnpmppaaoaaGreatDoorW.PrintMore
def atoiOf : Lib.NumEnd Int → Option Int
 | .ok v => some v
 | _ => none
def strconv_Atoi_26.f (a0 : ByteArray) : Option (Int × Option Int) := if a0.size ≤ 1000000 then (atoiOf (Lib.atoiAll a0.data.toList)).map fun v => (v, none) else none
theorem strconv_Atoi_26.calls (a0 : ByteArray) (r1 : Int) (r2 : Option Int) (w : World) (h : strconv_Atoi_26.f a0 = some (r1, r2)) :
  Calls Tryz.prog 26 #[.string a0] w fun e w' => e = .returned (.tuple #[.int .i64 r1, errW r2]) ∧ Below w.heap.size w w' := by
 unfold strconv_Atoi_26.f at h
 by_cases c : a0.size ≤ 1000000
 ·rw [if_pos c] at h; obtain ⟨v, hv, h⟩ := Option.map_eq_some_iff.1 h; simp only [Prod.mk.injEq] at h; obtain ⟨rfl, rfl⟩ := h; have h2 : Lib.atoiAll a0.data.toList = .ok v := by
   cases hq : Lib.atoiAll a0.data.toList <;> simp_all [atoiOf]
  refine (Tryz.strconv_Atoi_ok a0 (by omega) v h2 w).mono ?_; rintro e w' ⟨he, hw⟩; refine ⟨he, ?_⟩; rcases hw with rfl | ⟨t, rfl⟩
  ·exact Below.refl _ _
  ·exact bytes_below (Below.refl _ _) (Nat.le_refl _) _ _
 ·rw [if_neg c] at h; cases h
end Go.Proofs.YtpklcnpmppaaoaaGreatDoor.Print
namespace Go.Proofs.YtpklcnpmppaaoaaGreatDoor.Print
open Go.RowKit Go.Proofs.YtpklcnpmppaaoaaGreatDoorW.PrintWords
def strings_Compare.f (a0 a1 : ByteArray) : Option Int := some (Lib.compareBytes a0.data.toList a1.data.toList)
theorem strings_Compare.calls (a0 a1 : ByteArray) (r : Int) (w : World) (h : strings_Compare.f a0 a1 = some r) :
  Calls Tryz.prog 28 #[.string a0, .string a1] w fun e w' => e = .returned (.int .i64 r) ∧ Drawn0 w w' := by
 obtain rfl := Option.some.inj h
 refine (Tryz.strings_Compare a0 a1 w).mono ?_
 rintro e w' ⟨he, rfl⟩
 exact ⟨he, Drawn0.refl _⟩
end Go.Proofs.YtpklcnpmppaaoaaGreatDoor.Print
namespace Go.Proofs.YtpklcnpmppaaoaaGreatDoor.Print
open Go.RowKit Go.Proofs.YtpklcnpmppaaoaaGreatDoorW.PrintWords Go.Proofs.YtpklcnpmppaaoaaGreatDoorW.PrintLast Go.Proofs.YtpklcnpmppaaoaaGreatDoorW.PrintMore
attribute [local go_sem] max2_int min2_int max_two min_two max_three min_three max_four min_four
set_option linter.unusedVariables false
set_option linter.unusedSimpArgs false
def cmp_isNaN_int.f (a0 : Int) : Option (Bool) := some (a0 != a0)
set_option maxHeartbeats 8000000 in
set_option maxRecDepth 100000 in
theorem cmp_isNaN_int.calls (a0 : Int) (r : Bool) (w : World) (h : cmp_isNaN_int.f a0 = some r) :
  Calls Tryz.prog 52 #[.int .i64 a0] w fun e w' => e = .returned (.bool r) ∧ Drawn0 w w' := by
 have H : (some (a0 != a0)) = some r := h
 clear h
 obtain rfl := Option.some.inj H
 go_enter Tryz.func52, Tryz.ntmps52
 go_wp2
 go_ret
 exact ⟨ap2, ap7⟩
def cmp_Compare_int.f (a0 : Int) (a1 : Int) : Option (Int) := (cmp_isNaN_int.f a0).bind fun t414 => ((cmp_isNaN_int.f a1).bind fun t415 => (if t414 = true then (if t415 = true then (some 0) else (some (-1))) else (if t415 = true then (some 1) else (if a0 < a1 then (some (-1)) else (if a0 > a1 then (some 1) else (some 0))))))
set_option maxHeartbeats 8000000 in
set_option maxRecDepth 100000 in
theorem cmp_Compare_int.calls (a0 : Int) (a1 : Int) (r : Int) (w : World) (h : cmp_Compare_int.f a0 a1 = some r) :
  Calls Tryz.prog 27 #[.int .i64 a0, .int .i64 a1] w fun e w' => e = .returned (.int .i64 r) ∧ Drawn0 w w' := by
 have H : ((cmp_isNaN_int.f a0).bind fun t414 => ((cmp_isNaN_int.f a1).bind fun t415 => (if t414 = true then (if t415 = true then (some 0) else (some (-1))) else (if t415 = true then (some 1) else (if a0 < a1 then (some (-1)) else (if a0 > a1 then (some 1) else (some 0))))))) = some r := h
 clear h
 replace H := Option.bind_eq_some_iff.mp H
 obtain ⟨t414, A30, H⟩ := H
 replace H : ((cmp_isNaN_int.f a1).bind fun t415 => (if t414 = true then (if t415 = true then (some 0) else (some (-1))) else (if t415 = true then (some 1) else (if a0 < a1 then (some (-1)) else (if a0 > a1 then (some 1) else (some 0)))))) = some r := H
 have A3 := am A30
 clear A30
 replace H := Option.bind_eq_some_iff.mp H
 obtain ⟨t415, A40, H⟩ := H
 replace H : (if t414 = true then (if t415 = true then (some 0) else (some (-1))) else (if t415 = true then (some 1) else (if a0 < a1 then (some (-1)) else (if a0 > a1 then (some 1) else (some 0))))) = some r := H
 have A4 := am A40
 clear A40
 revert H
 refine spb ?_ ?_
 ·rintro rfl H; revert H; refine spb ?_ ?_
  ·rintro rfl H; obtain rfl := Option.some.inj H; go_enter Tryz.func27, Tryz.ntmps27; go_wp2_with (first | ((with_reducible refine gate_callee (f := 52) rfl ?_); refine goesL_ (some 8) rfl rfl Tryz.func52 (by kernel_rfl) rfl #[.int .i64 a0] rfl ap3 ?_; (with_reducible refine (cmp_isNaN_int.calls a0 true _ A3.out).mono ?_); rintro e w' ⟨rfl, ⟨nd, rfl⟩⟩; refine ⟨_, rfl, ?_⟩) | ((with_reducible refine gate_callee (f := 52) rfl ?_); refine goesL_ (some 10) rfl rfl Tryz.func52 (by kernel_rfl) rfl #[.int .i64 a1] rfl ap3 ?_; (with_reducible refine (cmp_isNaN_int.calls a1 true _ A4.out).mono ?_); rintro e w' ⟨rfl, ⟨nd, rfl⟩⟩; refine ⟨_, rfl, ?_⟩)); go_ret; exact ⟨ap2, ap7⟩
  ·rintro rfl H; obtain rfl := Option.some.inj H; go_enter Tryz.func27, Tryz.ntmps27; go_wp2_with (first | ((with_reducible refine gate_callee (f := 52) rfl ?_); refine goesL_ (some 8) rfl rfl Tryz.func52 (by kernel_rfl) rfl #[.int .i64 a0] rfl ap3 ?_; (with_reducible refine (cmp_isNaN_int.calls a0 true _ A3.out).mono ?_); rintro e w' ⟨rfl, ⟨nd, rfl⟩⟩; refine ⟨_, rfl, ?_⟩) | ((with_reducible refine gate_callee (f := 52) rfl ?_); refine goesL_ (some 10) rfl rfl Tryz.func52 (by kernel_rfl) rfl #[.int .i64 a1] rfl ap3 ?_; (with_reducible refine (cmp_isNaN_int.calls a1 false _ A4.out).mono ?_); rintro e w' ⟨rfl, ⟨nd, rfl⟩⟩; refine ⟨_, rfl, ?_⟩)); go_ret; exact ⟨ap2, ap7⟩
 ·rintro rfl H; revert H; refine spb ?_ ?_
  ·rintro rfl H; obtain rfl := Option.some.inj H; go_enter Tryz.func27, Tryz.ntmps27; go_wp2_with (first | ((with_reducible refine gate_callee (f := 52) rfl ?_); refine goesL_ (some 8) rfl rfl Tryz.func52 (by kernel_rfl) rfl #[.int .i64 a0] rfl ap3 ?_; (with_reducible refine (cmp_isNaN_int.calls a0 false _ A3.out).mono ?_); rintro e w' ⟨rfl, ⟨nd, rfl⟩⟩; refine ⟨_, rfl, ?_⟩) | ((with_reducible refine gate_callee (f := 52) rfl ?_); refine goesL_ (some 10) rfl rfl Tryz.func52 (by kernel_rfl) rfl #[.int .i64 a1] rfl ap3 ?_; (with_reducible refine (cmp_isNaN_int.calls a1 true _ A4.out).mono ?_); rintro e w' ⟨rfl, ⟨nd, rfl⟩⟩; refine ⟨_, rfl, ?_⟩)); go_ret; exact ⟨ap2, ap7⟩
  ·rintro rfl H; revert H; refine spd00 ?_ ?_
   ·intro c8b0 H; obtain rfl := Option.some.inj H; go_enter Tryz.func27, Tryz.ntmps27; go_wp2_with (first | ((with_reducible refine gate_callee (f := 52) rfl ?_); refine goesL_ (some 8) rfl rfl Tryz.func52 (by kernel_rfl) rfl #[.int .i64 a0] rfl ap3 ?_; (with_reducible refine (cmp_isNaN_int.calls a0 false _ A3.out).mono ?_); rintro e w' ⟨rfl, ⟨nd, rfl⟩⟩; refine ⟨_, rfl, ?_⟩) | ((with_reducible refine gate_callee (f := 52) rfl ?_); refine goesL_ (some 10) rfl rfl Tryz.func52 (by kernel_rfl) rfl #[.int .i64 a1] rfl ap3 ?_; (with_reducible refine (cmp_isNaN_int.calls a1 false _ A4.out).mono ?_); rintro e w' ⟨rfl, ⟨nd, rfl⟩⟩; refine ⟨_, rfl, ?_⟩)); go_ret; exact ⟨ap2, ap7⟩
   ·intro c8b0 H; revert H; refine spd00 ?_ ?_
    ·intro c9b0 H; obtain rfl := Option.some.inj H; go_enter Tryz.func27, Tryz.ntmps27; go_wp2_with (first | ((with_reducible refine gate_callee (f := 52) rfl ?_); refine goesL_ (some 8) rfl rfl Tryz.func52 (by kernel_rfl) rfl #[.int .i64 a0] rfl ap3 ?_; (with_reducible refine (cmp_isNaN_int.calls a0 false _ A3.out).mono ?_); rintro e w' ⟨rfl, ⟨nd, rfl⟩⟩; refine ⟨_, rfl, ?_⟩) | ((with_reducible refine gate_callee (f := 52) rfl ?_); refine goesL_ (some 10) rfl rfl Tryz.func52 (by kernel_rfl) rfl #[.int .i64 a1] rfl ap3 ?_; (with_reducible refine (cmp_isNaN_int.calls a1 false _ A4.out).mono ?_); rintro e w' ⟨rfl, ⟨nd, rfl⟩⟩; refine ⟨_, rfl, ?_⟩)); go_ret; exact ⟨ap2, ap7⟩
    ·intro c9b0 H; obtain rfl := Option.some.inj H; go_enter Tryz.func27, Tryz.ntmps27; go_wp2_with (first | ((with_reducible refine gate_callee (f := 52) rfl ?_); refine goesL_ (some 8) rfl rfl Tryz.func52 (by kernel_rfl) rfl #[.int .i64 a0] rfl ap3 ?_; (with_reducible refine (cmp_isNaN_int.calls a0 false _ A3.out).mono ?_); rintro e w' ⟨rfl, ⟨nd, rfl⟩⟩; refine ⟨_, rfl, ?_⟩) | ((with_reducible refine gate_callee (f := 52) rfl ?_); refine goesL_ (some 10) rfl rfl Tryz.func52 (by kernel_rfl) rfl #[.int .i64 a1] rfl ap3 ?_; (with_reducible refine (cmp_isNaN_int.calls a1 false _ A4.out).mono ?_); rintro e w' ⟨rfl, ⟨nd, rfl⟩⟩; refine ⟨_, rfl, ?_⟩)); go_ret; exact ⟨ap2, ap7⟩
def attr_Order.j0 : Nat → ByteArray → ByteArray → ByteArray → Int → Bool → Option (Int × Int)
 | 0, _, _, _, _, _ => none
 | k + 1, x1, x2, x417000, x417001, x417002 => (attr_both.f k x417000 x417001 x417002 x1 x2).bind fun bt417 => (if bt417.2.2 = 0 then (if x417001 = 4 then ((strconv_Atoi_26.f bt417.1).bind fun bt420 => ((strconv_Atoi_26.f bt417.2.1).bind fun bt422 => ((cmp_Compare_int.f bt420.1 bt422.1).bind fun t424 => (some (t424, 0))))) else ((strings_Compare.f bt417.1 bt417.2.1).bind fun t425 => (some (t425, 0)))) else (some (0, bt417.2.2)))
def attr_Order.f (k : Nat) (a0_0 : ByteArray) (a0_1 : Int) (a0_2 : Bool) (a1 : ByteArray) (a2 : ByteArray) : Option (Int × Int) := if a0_1 = 1 then (attr_Order.j0 k a1 a2 a0_0 a0_1 a0_2) else (if a0_1 = 2 then (attr_Order.j0 k a1 a2 a0_0 a0_1 a0_2) else (if a0_1 = 4 then (attr_Order.j0 k a1 a2 a0_0 a0_1 a0_2) else (some (0, 20))))
theorem attr_Order.mono_l : ∀ k, (∀ y0 y1 y2 y3 y4, LeO (attr_Order.j0 k y0 y1 y2 y3 y4) (attr_Order.j0 (k + 1) y0 y1 y2 y3 y4))
 | 0 => fun _ _ _ _ _ r h => by simp [attr_Order.j0] at h
 | k + 1 => by
  have ih0 := attr_Order.mono_l k
  ·
   intro y0 y1 y2 y3 y4
   unfold attr_Order.j0
   repeat' first
   | (with_reducible exact ih0 _ _ _ _ _)
   | (with_reducible exact attr_both.mono _ _ _ _ _ _)
   | (with_reducible exact LeO.refl _)
   | (with_reducible exact LeO.none _)
   | (with_reducible refine LeO.ite ?_ ?_)
   | (with_reducible refine LeO.bind ?_ (fun _ => ?_))
theorem attr_Order.mono : ∀ a0 a1 a2 a3 a4 k, LeO (attr_Order.f k a0 a1 a2 a3 a4) (attr_Order.f (k + 1) a0 a1 a2 a3 a4) := by
 intro a0 a1 a2 a3 a4 k; have ih0 := attr_Order.mono_l k; unfold attr_Order.f; repeat' first
   | (with_reducible exact ih0 _ _ _ _ _)
   | (with_reducible exact attr_both.mono _ _ _ _ _ _)
   | (with_reducible exact LeO.refl _)
   | (with_reducible exact LeO.none _)
   | (with_reducible refine LeO.ite ?_ ?_)
   | (with_reducible refine LeO.bind ?_ (fun _ => ?_))
set_option maxHeartbeats 8000000 in
set_option maxRecDepth 100000 in
theorem attr_Order.calls (k : Nat) (a0_0 : ByteArray) (a0_1 : Int) (a0_2 : Bool) (a1 : ByteArray) (a2 : ByteArray) (r1 : Int) (r2 : Int) (w : World) (hG : Gw w) (h : attr_Order.f k a0_0 a0_1 a0_2 a1 a2 = some (r1, r2)) :
  Calls Tryz.prog 12 #[.agg #[.string a0_0, .int .i64 a0_1, .bool a0_2], .string a1, .string a2] w fun e w' => e = .returned (.tuple #[.int .i64 r1, .int .i64 r2]) ∧ Below w.heap.size w w' := by
 have hu23 := Tryz.underlying23
 have HB := am (Below.refl w.heap.size w)
 have HG := am hG
 clear hG
 have H : (if a0_1 = 1 then (attr_Order.j0 k a1 a2 a0_0 a0_1 a0_2) else (if a0_1 = 2 then (attr_Order.j0 k a1 a2 a0_0 a0_1 a0_2) else (if a0_1 = 4 then (attr_Order.j0 k a1 a2 a0_0 a0_1 a0_2) else (some (0, 20))))) = some (r1, r2) := h
 clear h
 have HC4 := am H
 clear H
 go_enter Tryz.func12, Tryz.ntmps12
 go_upto_block 0 with (first | ((with_reducible refine gate_dst (N := 3) rfl ?_); refine box_event ?hg (N := 3) ?hd (cs := #[.string a0_0, .int .i64 a0_1, .bool a0_2]) (t := 23) ?hr ?_; (case hd => rfl); (case hg => rfl); (case hr => first | (go_simp; done) | (go_simp; rfl)); intro gb416 hg w5 hbox hb; have BK416 := am (hbox); have GW416 := am ((by rw [hg]; exact (below_size ap1) : w.heap.size ≤ gb416)); have GE416 := am ((by rw [hg]; exact (below_size ap1) : w.heap.size ≤ gb416)); replace HB := am (below_step ap1 hb); clear hb hbox hg; obtain ⟨hcz6_0, hcz6_1, hcz6_2, hfz6_0, hfz6_1, hfz6_2⟩ := bc3 BK416.out))
 (try simp only [Act.put, List.setIfInBounds_toArray, List.set_cons_zero, List.set_cons_succ])
 go_cut [] (fun wc => ∃ (kq : Nat), Aside0 (attr_Order.j0 kq a1 a2 a0_0 a0_1 a0_2 = some (r1, r2)) ∧ Aside0 (kq ≤ k) ∧ Aside0 (wc.heap[gb416]? = some (.cells #[.string a0_0, .int .i64 a0_1, .bool a0_2] 23 (0, 0))) ∧ Aside0 (Below w.heap.size w wc))
 case first =>
  have H := HC4.out; clear HC4; revert H; refine spe01 ?_ ?_
  ·intro c7b0 c7b1 H; (first | rw [c7b0] | (simp only [i64_w, i32_w]; rw [c7b0]) | skip); have H' := am H; clear H; go_wp2; (first | go_meet | (simp only [c7b0] at *; go_meet)); case rel => exact ⟨_, H', ⟨apN⟩, ⟨apB BK416.out⟩, ⟨apG1 GE416.out⟩⟩
  ·intro c7 c7b0 c7b1 H; (first | rw [c7b0] | (simp only [i64_w, i32_w]; rw [c7b0]) | skip); revert H; refine spe01 ?_ ?_
   ·intro c8b0 c8b1 H; have H' := am H; clear H; go_wp2; (first | go_meet | (simp only [c8b0] at *; go_meet) | (simp only [c7b0] at *; go_meet) | (simp only [c7b0] at *; go_meet)); case rel => exact ⟨_, H', ⟨apN⟩, ⟨apB BK416.out⟩, ⟨apG1 GE416.out⟩⟩
   ·intro c8 c8b0 c8b1 H; revert H; refine spe01 ?_ ?_
    ·intro c9b0 c9b1 H; have H' := am H; clear H; go_wp2; (first | go_meet | (simp only [c9b0] at *; go_meet) | (simp only [c8b0] at *; go_meet) | (simp only [c8b0] at *; go_meet)); case rel => exact ⟨_, H', ⟨apN⟩, ⟨apB BK416.out⟩, ⟨apG1 GE416.out⟩⟩
    ·intro c9 c9b0 c9b1 H; simp only [Option.some.injEq, Prod.mk.injEq] at H; obtain ⟨rfl, rfl⟩ := H; go_wp2; go_ret2; exact ⟨ap9, apG1 GE416.out⟩
 case rest =>
  clear HC4; (try clear hcz6_0); (try clear hcz6_1); (try clear hcz6_2); (try clear hfz6_0); (try clear hfz6_1); (try clear hfz6_2); obtain ⟨kq, HA, HJ3, BK416, HB⟩ := hcut; cases kq with
  | zero => exact absurd HA.out (by simp [attr_Order.j0])
  | succ kj3 =>
   have H := HA.out; clear HA; simp only [attr_Order.j0] at H; replace H := Option.bind_eq_some_iff.mp H; obtain ⟨⟨t417, t418, t419⟩, A100, H⟩ := H; replace H : (if t419 = 0 then (if a0_1 = 4 then ((strconv_Atoi_26.f t417).bind fun bt420 => ((strconv_Atoi_26.f t418).bind fun bt422 => ((cmp_Compare_int.f bt420.1 bt422.1).bind fun t424 => (some (t424, 0))))) else ((strings_Compare.f t417 t418).bind fun t425 => (some (t425, 0)))) else (some (0, t419))) = some (r1, r2) := H; have A10 := am A100; clear A100; revert H; refine spe01 ?_ ?_
   ·intro c11b0 c11b1 H; revert H; refine spe01 ?_ ?_
    ·intro c12b0 c12b1 H; replace H := Option.bind_eq_some_iff.mp H; obtain ⟨⟨t420, t421⟩, A130, H⟩ := H; replace H : ((strconv_Atoi_26.f t418).bind fun bt422 => ((cmp_Compare_int.f t420 bt422.1).bind fun t424 => (some (t424, 0)))) = some (r1, r2) := H; have A13 := am A130; clear A130; replace H := Option.bind_eq_some_iff.mp H; obtain ⟨⟨t422, t423⟩, A140, H⟩ := H; replace H : ((cmp_Compare_int.f t420 t422).bind fun t424 => (some (t424, 0))) = some (r1, r2) := H; have A14 := am A140; clear A140; replace H := Option.bind_eq_some_iff.mp H; obtain ⟨t424, A150, H⟩ := H; replace H : (some (t424, 0)) = some (r1, r2) := H; have A15 := am A150; clear A150; simp only [Option.some.injEq, Prod.mk.injEq] at H; obtain ⟨rfl, rfl⟩ := H; obtain ⟨hcz16_0, hcz16_1, hcz16_2, hfz16_0, hfz16_1, hfz16_2⟩ := bc3 BK416.out; go_wp2_with (first | ((with_reducible refine gate_callee (f := 25) rfl ?_); refine goesL_ (some 25) rfl rfl Tryz.func25 (by kernel_rfl) rfl #[.agg #[.string a0_0, .int .i64 a0_1, .bool a0_2], .string a1, .string a2] rfl ap3 ?_; (with_reducible refine (attr_both.calls kj3 a0_0 a0_1 a0_2 a1 a2 t417 t418 t419 _ ?side1 A10.out).mono ?_); (case side1 => exact apH1 GE416.out); rintro e w17 ⟨rfl, hb⟩; refine ⟨_, rfl, ?_⟩; replace BK416 := am (blk_below (g := gb416) (o := .cells #[.string a0_0, .int .i64 a0_1, .bool a0_2] 23 (0, 0)) (apB BK416.out) hb); replace HB := am (below_step (apG GE416.out) hb); obtain ⟨hcz18_0, hcz18_1, hcz18_2, hfz18_0, hfz18_1, hfz18_2⟩ := bc3 BK416.out) | ((with_reducible refine gate_callee (f := 26) rfl ?_); refine goesL_ (some 37) rfl rfl Tryz.func26 (by kernel_rfl) rfl #[.string t417] rfl ap3 ?_; (with_reducible refine (strconv_Atoi_26.calls t417 t420 t421 _ A13.out).mono ?_); rintro e w19 ⟨rfl, hb⟩; refine ⟨_, rfl, ?_⟩; replace BK416 := am (blk_below (g := gb416) (o := .cells #[.string a0_0, .int .i64 a0_1, .bool a0_2] 23 (0, 0)) (apB BK416.out) hb); replace HB := am (below_step (apG GE416.out) hb); (try simp only [errW_none, errW_some])) | ((with_reducible refine gate_callee (f := 26) rfl ?_); refine goesL_ (some 42) rfl rfl Tryz.func26 (by kernel_rfl) rfl #[.string t418] rfl ap3 ?_; (with_reducible refine (strconv_Atoi_26.calls t418 t422 t423 _ A14.out).mono ?_); rintro e w20 ⟨rfl, hb⟩; refine ⟨_, rfl, ?_⟩; replace BK416 := am (blk_below (g := gb416) (o := .cells #[.string a0_0, .int .i64 a0_1, .bool a0_2] 23 (0, 0)) (apB BK416.out) hb); replace HB := am (below_step (apG GE416.out) hb); (try simp only [errW_none, errW_some])) | ((with_reducible refine gate_callee (f := 27) rfl ?_); refine goesL_ (some 47) rfl rfl Tryz.func27 (by kernel_rfl) rfl #[.int .i64 t420, .int .i64 t422] rfl ap3 ?_; (with_reducible refine (cmp_Compare_int.calls t420 t422 t424 _ A15.out).mono ?_); rintro e w' ⟨rfl, ⟨nd, rfl⟩⟩; refine ⟨_, rfl, ?_⟩)); go_ret2; exact ⟨ap9, apG1 GE416.out⟩
    ·intro c12 c12b0 c12b1 H; replace H := Option.bind_eq_some_iff.mp H; obtain ⟨t425, A210, H⟩ := H; replace H : (some (t425, 0)) = some (r1, r2) := H; have A21 := am A210; clear A210; simp only [Option.some.injEq, Prod.mk.injEq] at H; obtain ⟨rfl, rfl⟩ := H; obtain ⟨hcz22_0, hcz22_1, hcz22_2, hfz22_0, hfz22_1, hfz22_2⟩ := bc3 BK416.out; go_wp2_with (first | ((with_reducible refine gate_callee (f := 25) rfl ?_); refine goesL_ (some 25) rfl rfl Tryz.func25 (by kernel_rfl) rfl #[.agg #[.string a0_0, .int .i64 a0_1, .bool a0_2], .string a1, .string a2] rfl ap3 ?_; (with_reducible refine (attr_both.calls kj3 a0_0 a0_1 a0_2 a1 a2 t417 t418 t419 _ ?side1 A10.out).mono ?_); (case side1 => exact apH1 GE416.out); rintro e w23 ⟨rfl, hb⟩; refine ⟨_, rfl, ?_⟩; replace BK416 := am (blk_below (g := gb416) (o := .cells #[.string a0_0, .int .i64 a0_1, .bool a0_2] 23 (0, 0)) (apB BK416.out) hb); replace HB := am (below_step (apG GE416.out) hb); obtain ⟨hcz24_0, hcz24_1, hcz24_2, hfz24_0, hfz24_1, hfz24_2⟩ := bc3 BK416.out) | ((with_reducible refine gate_callee (f := 28) rfl ?_); refine goesL_ (some 50) rfl rfl Tryz.func28 (by kernel_rfl) rfl #[.string t417, .string t418] rfl ap3 ?_; (with_reducible refine (strings_Compare.calls t417 t418 t425 _ A21.out).mono ?_); rintro e w' ⟨rfl, ⟨nd, rfl⟩⟩; refine ⟨_, rfl, ?_⟩)); go_ret2; exact ⟨ap9, apG1 GE416.out⟩
   ·intro c11 c11b0 c11b1 H; simp only [Option.some.injEq, Prod.mk.injEq] at H; obtain ⟨rfl, rfl⟩ := H; obtain ⟨hcz25_0, hcz25_1, hcz25_2, hfz25_0, hfz25_1, hfz25_2⟩ := bc3 BK416.out; go_wp2_with (first | ((with_reducible refine gate_callee (f := 25) rfl ?_); refine goesL_ (some 25) rfl rfl Tryz.func25 (by kernel_rfl) rfl #[.agg #[.string a0_0, .int .i64 a0_1, .bool a0_2], .string a1, .string a2] rfl ap3 ?_; (with_reducible refine (attr_both.calls kj3 a0_0 a0_1 a0_2 a1 a2 t417 t418 t419 _ ?side1 A10.out).mono ?_); (case side1 => exact apH1 GE416.out); rintro e w26 ⟨rfl, hb⟩; refine ⟨_, rfl, ?_⟩; replace BK416 := am (blk_below (g := gb416) (o := .cells #[.string a0_0, .int .i64 a0_1, .bool a0_2] 23 (0, 0)) (apB BK416.out) hb); replace HB := am (below_step (apG GE416.out) hb))); go_ret2; exact ⟨ap9, apG1 GE416.out⟩
end Go.Proofs.YtpklcnpmppaaoaaGreatDoor.Print
namespace Go.Proofs.YtpklcnpmppaaoaaGreatDoor.Print
open Go.RowKit Go.Proofs.YtpklcnpmppaaoaaGreatDoorW.PrintWords Go.Proofs.YtpklcnpmppaaoaaGreatDoorW.PrintLast Go.Proofs.YtpklcnpmppaaoaaGreatDoorW.PrintMore
set_option linter.unusedVariables false
set_option linter.unusedSimpArgs false
def lowB (c : UInt8) : UInt8 := if 65 ≤ c.toNat ∧ c.toNat ≤ 90 then c + 32 else c
def attr_lower.f (a0 : ByteArray) : Option ByteArray := if a0.size ≤ 1000000 then some ⟨(a0.data.toList.map lowB).toArray⟩ else none
def byteVs (l : List UInt8) : List Value := l.map fun b => Value.int .u8 b.toNat
def ConvRow (g : Nat) (l : List UInt8) (w : World) : Prop := ∃ sp : Array Value, w.heap[g]? = some (.cells ((byteVs l).toArray ++ sp) 5 (l.length + sp.size, l.length + sp.size + 1))
theorem ConvRow.cell {g : Nat} {l : List UInt8} {w : World} (h : ConvRow g l w) (i : Nat) (hi : i < l.length) : w.cell? ⟨g, i, none⟩ = some (.int .u8 (l.getD i 0).toNat) := by
 obtain ⟨sp, h⟩ := h; simp [World.cell?, h, byteVs, Array.getElem?_append, List.getD_eq_getElem?_getD, hi]
theorem ConvRow.frozen {g : Nat} {l : List UInt8} {w : World} (h : ConvRow g l w) (i : Nat) (hi : i < l.length) : w.frozen? ⟨g, i, none⟩ = false := by
 obtain ⟨sp, h⟩ := h; simp [World.frozen?, h]; omega
theorem ConvRow.lt {g : Nat} {l : List UInt8} {w : World} (h : ConvRow g l w) : g < w.heap.size := by
 obtain ⟨sp, h⟩ := h; exact blk_lt h
theorem ConvRow.drewN {g : Nat} {l : List UInt8} {w : World} (h : ConvRow g l w) (n : Nat) : ConvRow g l (w.drewN n) := h
theorem ConvRow.set {g : Nat} {l : List UInt8} {w : World} (h : ConvRow g l w) (i : Nat) (b : UInt8) (hi : i < l.length) : ConvRow g (l.set i b) (w.setCell ⟨g, i, none⟩ (.int .u8 b.toNat)) := by
 obtain ⟨sp, h⟩ := h; refine ⟨sp, ?_⟩; have e : ((byteVs l).toArray ++ sp).setIfInBounds i (.int .u8 b.toNat) = (byteVs (l.set i b)).toArray ++ sp := by
  rw [Array.setIfInBounds_append_left (by simpa [byteVs] using hi)]; simp [byteVs, List.map_set]
 simp [World.setCell, h, Array.getElem?_modify, e]
theorem ConvRow.reads {g : Nat} {l : List UInt8} {w : World} (h : ConvRow g l w) (hl : l.length ≤ 9223372036854775807) : ReadsInt w .u8 (some ⟨g, 0, none⟩) l.length (l.map fun b => (b.toNat : Int)) := by
 refine ⟨by simp, hl, fun _ => ⟨_, rfl, fun j hj => ?_⟩⟩; rw [add_plain, h.cell j hj]; simp [List.getD_eq_getElem?_getD, List.getElem?_eq_getElem hj]
theorem convRow_new (w : World) (s : ByteArray) : ConvRow w.heap.size s.data.toList (Lib.bytesWorld w 5 s) := by
 refine ⟨Array.replicate (grownCap w s.size 0 5 - s.size) (.int .u8 0), ?_⟩; rw [Lib.bytesWorld_at_new]; have e : Lib.bytesCells w 5 s = (byteVs s.data.toList).toArray ++ Array.replicate (grownCap w s.size 0 5 - s.size) (.int .u8 0) := by
  unfold Lib.bytesCells byteVs; congr 1; apply Array.ext'; simp
 rw [e]; simp [byteVs]
theorem strOfNums_bytes (l : List UInt8) : strOfNums (l.map fun b => (b.toNat : Int)) = ⟨l.toArray⟩ := by
 unfold strOfNums; congr 1; apply Array.ext'; induction l with
 | nil => rfl
 | cons x l ih => simp at ih ⊢; exact ih
def lowAt (l : List UInt8) (k : Nat) : List UInt8 := (l.take k).map lowB ++ l.drop k
theorem lowAt_len (l : List UInt8) (k : Nat) (h : k ≤ l.length) : (lowAt l k).length = l.length := by simp [lowAt]; omega
theorem lowAt_get (l : List UInt8) (k : Nat) (h : k < l.length) : (lowAt l k).getD k 0 = l.getD k 0 := by
 have h1 : ((l.take k).map lowB).length = k := by simp; omega
 unfold lowAt; rw [List.getD_eq_getElem?_getD, List.getElem?_append_right (by omega), h1, Nat.sub_self, List.getElem?_drop, Nat.add_zero, List.getD_eq_getElem?_getD]
theorem lowAt_step (l : List UInt8) (k : Nat) (h : k < l.length) : (lowAt l k).set k (lowB (l.getD k 0)) = lowAt l (k + 1) := by
 have h1 : ((l.take k).map lowB).length = k := by simp; omega
 unfold lowAt; have e : l.drop k = l[k] :: l.drop (k + 1) := List.drop_eq_getElem_cons h; rw [List.set_append_right _ _ (by omega), h1, Nat.sub_self, List.take_succ_eq_append_getElem h, e, List.set_cons_zero, List.map_append, List.append_assoc]; simp [List.getD_eq_getElem?_getD, h]
theorem lowAt_same (l : List UInt8) (k : Nat) (h : k < l.length) (hc : lowB (l.getD k 0) = l.getD k 0) : lowAt l k = lowAt l (k + 1) := by
 rw [← lowAt_step l k h, hc, ← lowAt_get l k h]; refine (List.set_getElem_self (i := k) (by rw [lowAt_len _ _ (by omega)]; exact h)).symm.trans ?_; congr 1; rw [List.getD_eq_getElem?_getD, List.getElem?_eq_getElem (by rw [lowAt_len _ _ (by omega)]; exact h)]; rfl
set_option maxHeartbeats 4000000 in
set_option maxRecDepth 1000000 in
theorem attr_lower.calls (a0 : ByteArray) (r : ByteArray) (w : World) (h : attr_lower.f a0 = some r) :
  Calls Tryz.prog 39 #[.string a0] w fun e w' => e = .returned (.string r) ∧ Below w.heap.size w w' := by
 unfold attr_lower.f at h
 by_cases c : a0.size ≤ 1000000
 ·rw [if_pos c] at h; injection h with h; subst h; have kb := fun W => print_bytes (P := Tryz.prog) 9 82 5 Tryz.underlying9 Tryz.underlying82 Tryz.underlying5 a0 W
  have hn : a0.data.toList.length = a0.size := data_length a0; go_enter Tryz.func39, Tryz.ntmps39; go_wp2; go_loopw [10] (fun i wr => ∃ (k : Nat), k ≤ a0.size ∧ i = .int .i64 k ∧ Aside0 (ConvRow w.heap.size (lowAt a0.data.toList k) wr) ∧ Aside0 (Below w.heap.size w wr)) (fun i wr => a0.size - (intOf i).toNat); (case atStart => exact ⟨0, Nat.zero_le _, rfl, ⟨convRow_new w a0⟩, ⟨bytes_below (Below.refl _ _) (Nat.le_refl _) _ _⟩⟩); case round =>
   obtain ⟨k, hk, rfl, HR, HB⟩ := hrel; by_cases hlt : k < a0.size
   ·have hl := lowAt_len a0.data.toList k (by omega); have hc := HR.out.cell k (by omega); rw [lowAt_get a0.data.toList k (by omega)] at hc; have hf := HR.out.frozen k (by omega); have HS := fun b => Aside0.mk (HR.out.set k b (by omega))
    generalize hx : a0.data.toList.getD k 0 = x at *; have hby : (x.toNat : Int) < 256 := by have := x.toNat_lt; omega
    by_cases h1 : 65 ≤ x.toNat
    ·by_cases h2 : x.toNat ≤ 90
     ·have hlo : lowB x = x + 32 := by unfold lowB; rw [if_pos ⟨h1, h2⟩]
      have h32 : ((x + 32).toNat : Int) = (x.toNat : Int) + 32 := by rw [UInt8.toNat_add]; show (((x.toNat + 32) % 256 : Nat) : Int) = _; omega
      have HS2 := Aside0.mk (show ConvRow w.heap.size (lowAt a0.data.toList (k + 1)) (wr.setCell ⟨w.heap.size, k, none⟩ (.int .u8 ((x.toNat : Int) + 32))) by have := (HS (lowB x)).out; rw [← hx] at this; rw [lowAt_step _ _ (by omega), hx, hlo, h32] at this; exact this); clear HS hlo h32; go_wp2; go_roundw; (case rel => exact ⟨k + 1, by omega, by go_num, HS2, ⟨below_set HB.out (Nat.le_refl _)⟩⟩); case measure => simp [intOf]; omega
     ·clear HS; have hlo : lowB x = x := by unfold lowB; rw [if_neg (by omega)]
      go_wp2; go_roundw; (case rel => exact ⟨k + 1, by omega, by go_num, ⟨by rw [← lowAt_same _ _ (by omega) (by rw [hx]; exact hlo)]; exact HR.out⟩, ⟨HB.out⟩⟩); case measure => simp [intOf]; omega
    ·clear HS; have hlo : lowB x = x := by unfold lowB; rw [if_neg (by omega)]
     go_wp2; go_roundw; (case rel => exact ⟨k + 1, by omega, by go_num, ⟨by rw [← lowAt_same _ _ (by omega) (by rw [hx]; exact hlo)]; exact HR.out⟩, ⟨HB.out⟩⟩); case measure => simp [intOf]; omega
   ·obtain rfl : k = a0.size := by omega
    have hl := lowAt_len a0.data.toList a0.size (by omega); have e0 : lowAt a0.data.toList a0.size = a0.data.toList.map lowB := by
     unfold lowAt; rw [List.take_of_length_le (by omega), List.drop_eq_nil_of_le (by omega), List.append_nil]
    have hr := HR.out.reads (by omega); rw [hl, hn] at hr; have kc := string_of_reads (P := Tryz.prog) (src := 82) (dst := 9) (c := grownCap w a0.size 0 5) Tryz.underlying82 Tryz.underlying5 Tryz.underlying9 hr; rw [strOfNums_bytes, e0] at kc; clear hr hl e0; go_wp2; go_ret; exact ⟨rfl, HB.out⟩
 ·rw [if_neg c] at h; cases h
def findIn : List (ByteArray × Int × Bool) → ByteArray → ByteArray × Int × Bool × Bool
 | [], _ => (⟨#[]⟩, 0, false, false)
 | x :: l, s => if s = x.1 then (x.1, x.2.1, x.2.2, true) else findIn l s
def attr_Find.f (a0 : ByteArray) : Option (ByteArray × Int × Bool × Bool) := (attr_lower.f a0).map (findIn attrTab)
theorem attrTab_len : attrTab.length = 20 := rfl
def attrAt (k : Nat) : ByteArray × Int × Bool := attrTab.getD k default
theorem attrCells_at : ∀ k, k < 20 → attrCells.extract (k * 3) (k * 3 + 3) = #[.string (attrAt k).1, .int .i64 (attrAt k).2.1, .bool (attrAt k).2.2]
 | 0, _ | 1, _ | 2, _ | 3, _ | 4, _ | 5, _ | 6, _ | 7, _ | 8, _ | 9, _ | 10, _ | 11, _ | 12, _ | 13, _ | 14, _ | 15, _ | 16, _ | 17, _ | 18, _ | 19, _ => rfl
 | n + 20, h => absurd h (by omega)
theorem attr_index (k : Nat) (hk : k < 20) (cs : Array Value) (hcs : cs = attrCells) (x : ByteArray × Int × Bool) (hx : attrAt k = x) (W : World) :
  (Instr.index 63 (.agg cs) (.int .i64 (k : Int))).run Tryz.prog W = .ok (.agg #[.string x.1, .int .i64 x.2.1, .bool x.2.2]) W := by
 subst hcs; subst hx
 have h1 : 0 ≤ (k : Int) ∧ (k : Int) < ((20 : Nat) : Int) := by omega
 simp [Instr.index, run_underlying Tryz.underlying63, h1, Tryz.sizeOf23, Tryz.isAgg23, Result.andThen, attrCells_at k hk, go_sem]
 omega
theorem attr_load (W : World) (cs : Array Value) (hcs : cs = attrCells) (t : TypeId) (fr : Nat × Nat) (h : W.heap[0]? = some (.cells attrCells t fr)) : (loadVar 63 ⟨0, 0, none⟩).run Tryz.prog W = .ok (.agg cs) W := by
 subst hcs; exact run_loadVar_row W _ t _ attrCells fr _ h Tryz.underlying63 rfl (by kernel_rfl)
theorem attr_load_run {a : Act} {o : Oper} {W : World} {cs : Array Value} (ho : o.op = .load 63 (.global 0)) (hk : (loadVar 63 ⟨0, 0, none⟩).run Tryz.prog W = .ok (.agg cs) W) : (execOp a.eval o).run Tryz.prog W = .ok (.value (.agg cs)) W := by
 have he : a.eval (.global 0) = .pointer (some ⟨0, 0, none⟩) := rfl; unfold execOp; simp only [ho, he, Instr.loadAt, Instr.sureAddr, Sem.run_bind, Sem.run_pure, Result.andThen_ok, hk]
theorem findIn_at (k : Nat) (hk : k < 20) (s : ByteArray) : findIn (attrTab.drop k) s = if s = (attrAt k).1 then ((attrAt k).1, (attrAt k).2.1, (attrAt k).2.2, true) else findIn (attrTab.drop (k + 1)) s := by
 have h := List.drop_eq_getElem_cons (l := attrTab) (i := k) (by rw [attrTab_len]; exact hk); have e : attrAt k = attrTab[k]'(by rw [attrTab_len]; exact hk) := by
  unfold attrAt; rw [List.getD_eq_getElem?_getD, List.getElem?_eq_getElem (by rw [attrTab_len]; exact hk)]; rfl
 rw [h, findIn, e]
set_option maxHeartbeats 4000000 in
set_option maxRecDepth 1000000 in
theorem attr_Find.calls (a0 : ByteArray) (r1 : ByteArray) (r2 : Int) (r3 : Bool) (r4 : Bool) (w : World) (hG : Gw w) (h : attr_Find.f a0 = some (r1, r2, r3, r4)) :
  Calls Tryz.prog 16 #[.string a0] w fun e w' => e = .returned (.tuple #[.agg #[.string r1, .int .i64 r2, .bool r3], .bool r4]) ∧ Below w.heap.size w w' := by
 obtain ⟨s, h1, h2⟩ := Option.map_eq_some_iff.1 h
 obtain ⟨cs, hcs⟩ : ∃ cs, cs = attrCells := ⟨_, rfl⟩
 have HC := Aside0.mk hcs
 have H1 := Aside0.mk h1
 have H2 := Aside0.mk h2
 have HG := Aside0.mk hG
 have hu23 := Tryz.underlying23
 clear h h1 h2 hG hcs
 have hI : ∀ (k : Nat) (hk : k < 20) (x : ByteArray × Int × Bool) (hx : attrAt k = x) (W : World), (Instr.index 63 (.agg cs) (.int .i64 (k : Int))).run Tryz.prog W = .ok (.agg #[.string x.1, .int .i64 x.2.1, .bool x.2.2]) W := fun k hk x hx W => attr_index k hk cs HC.out x hx W
 have HI := Aside0.mk hI
 clear hI
 go_enter Tryz.func16, Tryz.ntmps16
 go_wp2_with (first | (go_at_call 39; (with_reducible refine (attr_lower.calls _ _ _ H1.out).mono ?_); rintro e w1 ⟨rfl, hb⟩; obtain ⟨t_, fr_, ht_⟩ := ((HG.out.alloc _).below hb).types; have kl := attr_load w1 cs HC.out t_ fr_ ht_; replace hb := Aside0.mk hb; replace kl := Aside0.mk kl; clear ht_) | ((with_reducible refine gate_dst (N := 8) rfl ?_); refine Kd.event_run rfl (attr_load_run rfl kl.out) ?_))
 go_loopw [9] (fun i wr => ∃ (k : Nat), k ≤ 20 ∧ i = .int .i64 k ∧ Aside0 (findIn (attrTab.drop k) s = (r1, r2, r3, r4)) ∧ Aside0 (wr.heap[w.heap.size]? = some (.cells #[.string ⟨#[]⟩, .int .i64 0, .bool false] 23 (0, 0))) ∧ Aside0 (Below w.heap.size w wr)) (fun i wr => 20 - (intOf i).toNat)
 case atStart => exact ⟨0, by omega, rfl, ⟨H2.out⟩, ⟨(hb.out.block _ (blk_lt (blk_new w _))).trans (blk_new w _)⟩, ⟨below_then (below_alloc (Below.refl _ _) _) (Nat.le_of_lt (blk_lt (blk_new w _))) hb.out⟩⟩
 case round =>
  obtain ⟨k, hk, rfl, HF, HBK, HB⟩ := hrel; have hc0 : wr.cell? ⟨w.heap.size, 0, none⟩ = some (.string ⟨#[]⟩) := (blk_cell HBK.out 0).trans rfl; have hc1 : wr.cell? ⟨w.heap.size, 1, none⟩ = some (.int .i64 0) := (blk_cell HBK.out 1).trans rfl; have hc2 : wr.cell? ⟨w.heap.size, 2, none⟩ = some (.bool false) := (blk_cell HBK.out 2).trans rfl; have hgl := blk_lt HBK.out; have hgn : ¬ w.heap.size = wr.heap.size := Nat.ne_of_lt hgl; have hf0 := blk_frozen HBK.out 0; have hf1 := blk_frozen HBK.out 1; have hf2 := blk_frozen HBK.out 2; by_cases hlt : k < 20
  ·have hfi := findIn_at k hlt s; have hI := HI.out k hlt _ rfl; generalize attrAt k = x at *; rw [HF.out] at hfi; by_cases hq : s = x.1
   ·rw [if_pos hq] at hfi; simp only [Prod.mk.injEq] at hfi; obtain ⟨rfl, rfl, rfl, rfl⟩ := hfi; subst hq; clear HF; go_wp2; refine bodyPost_ret (results_ct rfl _ _ w.heap.size 23 #[.string x.1, .int .i64 x.2.1, .bool x.2.2] (0, 0) _ rfl (by (with_reducible repeat (first | refine blk_drewN ?_ _ | refine blk_drew ?_ | refine blk_alloc ?_ _)); refine blk_put (cs := #[.string x.1, .int .i64 x.2.1, .bool false]) ?_ 2 _ rfl; (with_reducible repeat (first | refine blk_drewN ?_ _ | refine blk_drew ?_ | refine blk_alloc ?_ _)); refine blk_put (cs := #[.string x.1, .int .i64 0, .bool false]) ?_ 1 _ rfl; (with_reducible repeat (first | refine blk_drewN ?_ _ | refine blk_drew ?_ | refine blk_alloc ?_ _)); refine blk_put (cs := #[.string ⟨#[]⟩, .int .i64 0, .bool false]) ?_ 0 _ rfl; (with_reducible repeat (first | refine blk_drewN ?_ _ | refine blk_drew ?_ | refine blk_alloc ?_ _)); exact HBK.out) Tryz.underlying23 rfl (by kernel_rfl)) rfl ?_; exact ⟨rfl, by repeat (first | exact HB.out | apply below_alloc | refine below_set ?_ (Nat.le_refl _) | refine below_set ?_ (below_size HB.out))⟩
   ·rw [if_neg hq] at hfi; have HF2 := Aside0.mk hfi.symm; have hqb : (x.1.toList == s.toList) = false := by
     rw [beq_eq_false_iff_ne]; intro h; exact hq (ByteArray.ext (Array.ext' (by rw [Lib.toList_data, Lib.toList_data] at h; exact h.symm)))
    clear HF hfi hq; go_wp2; go_roundw; (case rel => exact ⟨k + 1, by omega, by go_num, HF2, ⟨by (with_reducible repeat (first | refine blk_drewN ?_ _ | refine blk_drew ?_ | refine blk_alloc ?_ _)); exact HBK.out⟩, ⟨by repeat (first | exact HB.out | apply below_alloc | refine below_set ?_ (Nat.le_refl _) | refine below_set ?_ (below_size HB.out))⟩⟩); case measure => simp [intOf]; omega
  ·obtain rfl : k = 20 := by omega
   have hE := HF.out; rw [show attrTab.drop 20 = [] from rfl] at hE; simp only [findIn, Prod.mk.injEq] at hE; obtain ⟨rfl, rfl, rfl, rfl⟩ := hE; go_wp2; refine bodyPost_ret (results_ct rfl _ _ w.heap.size 23 #[.string ⟨#[]⟩, .int .i64 0, .bool false] (0, 0) _ rfl (by (with_reducible repeat (first | refine blk_drewN ?_ _ | refine blk_drew ?_ | refine blk_alloc ?_ _)); refine blk_put (cs := #[.string ⟨#[]⟩, .int .i64 0, .bool false]) ?_ 2 _ rfl; (with_reducible repeat (first | refine blk_drewN ?_ _ | refine blk_drew ?_ | refine blk_alloc ?_ _)); refine blk_put (cs := #[.string ⟨#[]⟩, .int .i64 0, .bool false]) ?_ 1 _ rfl; (with_reducible repeat (first | refine blk_drewN ?_ _ | refine blk_drew ?_ | refine blk_alloc ?_ _)); refine blk_put (cs := #[.string ⟨#[]⟩, .int .i64 0, .bool false]) ?_ 0 _ rfl; (with_reducible repeat (first | refine blk_drewN ?_ _ | refine blk_drew ?_ | refine blk_alloc ?_ _)); exact HBK.out) Tryz.underlying23 rfl (by kernel_rfl)) rfl ?_; exact ⟨rfl, by repeat (first | exact HB.out | apply below_alloc | refine below_set ?_ (Nat.le_refl _) | refine below_set ?_ (below_size HB.out))⟩
def idxP (p : ByteArray → Bool) (l : List ByteArray) : Int := match l.findIdx? p with | some i => i | none => -1
end Go.Proofs.YtpklcnpmppaaoaaGreatDoor.Print
