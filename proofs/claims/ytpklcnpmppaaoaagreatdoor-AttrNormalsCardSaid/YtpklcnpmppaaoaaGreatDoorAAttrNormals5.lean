-- laid together by pack.py (a program of this session)
import Derived.Test.YtpklcnpmppaaoaaGreatDoorAAttrNormals4
namespace Go.Proofs.YtpklcnpmppaaoaaGreatDoor.Print
open Go.RowKit Go.Proofs.YtpklcnpmppaaoaaGreatDoorW.PrintWords Go.Proofs.YtpklcnpmppaaoaaGreatDoorW.PrintLast Go.Proofs.YtpklcnpmppaaoaaGreatDoorW.PrintMore
set_option linter.unusedVariables false
set_option linter.unusedSimpArgs false
theorem idxP_hit (p : ByteArray → Bool) (l : List ByteArray) (k : Nat) (hk : k < l.length) (h0 : ∀ j, j < k → p (l.getD j ByteArray.empty) = false) (h1 : p (l.getD k ByteArray.empty) = true) : idxP p l = k := by
 have e : l.findIdx? p = some k := by
  rw [List.findIdx?_eq_some_iff_getElem]; refine ⟨hk, ?_, fun j hj => ?_⟩
  ·rw [List.getD_eq_getElem?_getD, List.getElem?_eq_getElem hk] at h1; exact h1
  ·have := h0 j hj; rw [List.getD_eq_getElem?_getD, List.getElem?_eq_getElem (by omega)] at this; simpa using this
 unfold idxP; rw [e]
theorem idxP_miss (p : ByteArray → Bool) (l : List ByteArray) (h0 : ∀ j, j < l.length → p (l.getD j ByteArray.empty) = false) : idxP p l = -1 := by
 have e : l.findIdx? p = none := by
  rw [List.findIdx?_eq_none_iff]; intro x hx; obtain ⟨j, hj, rfl⟩ := List.getElem_of_mem hx; have := h0 j hj; rw [List.getD_eq_getElem?_getD, List.getElem?_eq_getElem hj] at this; exact this
 unfold idxP; rw [e]
theorem idxP_any (p : ByteArray → Bool) (l : List ByteArray) : decide (idxP p l ≥ 0) = l.any p := by
 unfold idxP; cases h : l.findIdx? p with
 | none =>
  rw [List.findIdx?_eq_none_iff] at h; have : l.any p = false := by rw [List.any_eq_false]; intro x hx; simp [h x hx]
  simp [this]
 | some i =>
  obtain ⟨hi, hp, _⟩ := List.findIdx?_eq_some_iff_getElem.1 h; have : l.any p = true := List.any_eq_true.2 ⟨l[i], List.getElem_mem hi, hp⟩; simp [this]
def Asks (g : Nat) (lb : Array Value) (p : ByteArray → Bool) (w : World) : Prop :=
 ∀ W x, Below w.heap.size w W → Calls Tryz.prog g (#[.string x] ++ lb) W fun e w' => e = .returned (.bool (p x)) ∧ Below W.heap.size W w'
set_option maxHeartbeats 4000000 in
set_option maxRecDepth 1000000 in
theorem idxFunc_calls (A0 : Option Addr) (c0 : Nat) (l0 : List ByteArray) (p : ByteArray → Bool) (g : Nat) (lb : Array Value) (eg : ∀ args w, (callFunc g args).run Tryz.prog w = .ok (.enter g args) w) (w : World) (hr0 : Kd.C Kd.string w A0 l0.length l0) (hp : Asks g lb p w) :
  Calls Tryz.prog 55 #[.slice A0 l0.length c0, .func (.func g) #[] lb] w fun e w' => e = .returned (.int .i64 (idxP p l0)) ∧ Below w.heap.size w w' := by
 have hlm := hr0.2.1
 have HC := Aside0.mk hr0
 have HP := Aside0.mk hp
 clear hr0 hp
 go_enter Tryz.func55, Tryz.ntmps55
 go_wp2
 go_loopw [5, 8] (fun _ i wr => ∃ k : Nat, k ≤ l0.length ∧ i = .int .i64 k ∧ Aside0 (Below w.heap.size w wr) ∧ Aside0 (∀ j, j < k → p (l0.getD j ByteArray.empty) = false)) (fun _ i wr => l0.length - (intOf i).toNat)
 case atStart => exact ⟨0, Nat.zero_le _, rfl, ⟨Below.refl _ _⟩, ⟨fun j hj => absurd hj (Nat.not_lt_zero _)⟩⟩
 case round =>
  obtain ⟨k, hk, rfl, HB, HF⟩ := hrel; by_cases hlt : k < l0.length
  ·obtain ⟨ad, hA, hc⟩ := (Kd.reads_of_C (d := ByteArray.empty) HC.out).at_ (k : Int) (by omega) (by omega); have hcw := (HB.out.cell (World.block_lt_of_cell? _ _ hc)).trans hc; clear hc; subst hA; simp only [Int.toNat_natCast, rdOf] at hcw; generalize hx : l0.getD k ByteArray.empty = x at *; have HX := Aside0.mk hx; clear hx; cases hq : p x with
   | true =>
    have HQ := Aside0.mk hq; clear hq; go_wp2_with (go_at_fn g; refine (HP.out _ x (by repeat (first | exact HB.out | apply pw_below_drewN))).mono ?_; rintro e w' ⟨rfl, hb⟩; rw [HQ.out]; replace hb := Aside0.mk hb); go_ret; exact ⟨by rw [idxP_hit p l0 k hlt HF.out (by rw [HX.out]; exact HQ.out)]; rfl, below_step HB.out hb.out⟩
   | false =>
    have HQ := Aside0.mk hq; clear hq; go_wp2_with (go_at_fn g; refine (HP.out _ x (by repeat (first | exact HB.out | apply pw_below_drewN))).mono ?_; rintro e w' ⟨rfl, hb⟩; rw [HQ.out]; replace hb := Aside0.mk hb); go_roundw; case rel =>
     refine ⟨k + 1, by omega, by go_num, ⟨below_step HB.out hb.out⟩, ⟨fun j hj => ?_⟩⟩; by_cases e : j = k
     ·subst e; rw [HX.out]; exact HQ.out
     ·exact HF.out j (by omega)
    case measure => simp [intOf]; omega
  ·obtain rfl : k = l0.length := by omega
   go_wp2; go_ret; exact ⟨by rw [idxP_miss p l0 HF.out]; rfl, HB.out⟩
set_option maxHeartbeats 4000000 in
set_option maxRecDepth 1000000 in
theorem conFunc_calls (A0 : Option Addr) (c0 : Nat) (l0 : List ByteArray) (p : ByteArray → Bool) (g : Nat) (lb : Array Value) (eg : ∀ args w, (callFunc g args).run Tryz.prog w = .ok (.enter g args) w) (w : World) (hr0 : Kd.C Kd.string w A0 l0.length l0) (hp : Asks g lb p w) :
  Calls Tryz.prog 32 #[.slice A0 l0.length c0, .func (.func g) #[] lb] w fun e w' => e = .returned (.bool (l0.any p)) ∧ Below w.heap.size w w' := by
 have HI := Aside0.mk (idxFunc_calls A0 c0 l0 p g lb eg w hr0 hp)
 have HA := Aside0.mk (idxP_any p l0)
 clear hr0 hp
 generalize idxP p l0 = i at *
 go_enter Tryz.func32, Tryz.ntmps32
 go_wp2_with (go_at_call 55; (with_reducible refine HI.out.mono ?_); rintro e w' ⟨rfl, hb⟩; replace hb := Aside0.mk hb)
 go_ret
 exact ⟨by rw [← HA.out]; rfl, hb.out⟩
def given (s : ByteArray) : Bool := decide (s ≠ ⟨#[]⟩)
def slices_Concat_string_string.f (a : ByteArray) (l : List ByteArray) (b : ByteArray) : Option (List ByteArray) := if l.length ≤ 1000000 then some (a :: l ++ [b]) else none
def slices_ContainsFunc_string_string.f (l : List ByteArray) : Option Bool := some (l.any given)
theorem given_asks (w : World) : Asks 30 #[] given w := by
 intro W x _; by_cases h : x = ⟨#[]⟩
 ·subst h; show Calls Tryz.prog 30 #[.string ⟨#[]⟩] W _; go_enter Tryz.func30, Tryz.ntmps30; go_wp2; go_ret; exact ⟨rfl, Below.refl _ _⟩
 ·have e : given x = true := by simp [given, h]
  have e2 : (x.toList != []) = true := by
   rw [Lib.toList_data, bne_nil8]; cases hd : x.data.toList with
   | nil => exact absurd (ByteArray.ext (Array.toList_eq_nil_iff.1 hd)) h
   | cons a l => rfl
  rw [e]; clear e h; show Calls Tryz.prog 30 #[.string x] W _; go_enter Tryz.func30, Tryz.ntmps30; go_wp2; go_ret; exact ⟨by simp_all, Below.refl _ _⟩
theorem slices_ContainsFunc_string_string.calls (A0 : Option Addr) (c0 : Nat) (l0 : List ByteArray) (r : Bool) (w : World) (hr0 : Kd.C Kd.string w A0 l0.length l0) (hc0 : l0.length ≤ c0) (h : slices_ContainsFunc_string_string.f l0 = some r) :
  Calls Tryz.prog 32 #[.slice A0 l0.length c0, .func (.func 30) #[] #[]] w fun e w' => e = .returned (.bool r) ∧ Below w.heap.size w w' := by
 obtain rfl := Option.some.inj h
 exact conFunc_calls A0 c0 l0 given 30 #[] (enters_of Tryz.func30 (by kernel_rfl) rfl) w hr0 (given_asks w)
theorem run_append_zeros (W : World) (m : Nat) (h0 : 0 < m) (h1 : m ≤ 1000002) :
  (Builtin.append_ #[31, 3] 31 #[.slice none 0 0, .int .i64 m]).run Tryz.prog W =
   .ok (.slice (some ⟨W.heap.size, 0, none⟩) m (grownCap W m 0 9)) (W.drew.alloc (.cells (Builtin.zeroCells #[.string ⟨#[]⟩] m ++ Builtin.zeroCells #[.string ⟨#[]⟩] (grownCap W m 0 9 - m)) 9)) := by
 have hw : IntKind.i64.wrap (m : Int) = (m : Int) := by rw [i64_w]; unfold wrap64; omega
 have hneg : ¬ ((m : Int) < 0) := by omega
 obtain ⟨i, hi, hz, hsz, hby⟩ := info_parts info9
 have hbig : ¬ (281474976710656 < (m : Int) * 16) := by omega
 have hm0 : ¬ m = 0 := by omega
 have hcap := nextslicecap_zero h0
 have hm1 : ¬ (281474976710656 < m * 16) := by omega
 have h63 : ¬ (9223372036854775807 < (m : Int)) := by omega
 simp [Builtin.append_, run_underlying Tryz.underlying31, run_underlying Tryz.underlying3, sizeOf, typeInfo, zeroValue, hi, hz, hsz, hby, hw, hneg, hbig, hm0, hcap, hm1, h63, Question.forced, newRow, grownCap, go_sem]
theorem exec_append {P : Program} {a : Act} {o : Oper} {W w1 : World} {v vs vx : Value} {s x : Operand} {t tx ty : TypeId} (ho : o.op = .call { callee := .builtin .append, args := #[s, x], argTypes := #[t, tx] }) (hty : o.type = ty) (hs : a.eval s = vs) (hx : a.eval x = vx) (h : (Builtin.append_ #[t, tx] ty #[vs, vx]).run P W = .ok v w1) : (execOp a.eval o).run P W = .ok (.value v) w1 := by
 subst hty; subst hs; subst hx; unfold execOp; simp only [ho, resolve, invoke, builtin, Sem.run_bind, Sem.run_pure, Result.andThen_ok, List.map_toArray, List.map_cons, List.map_nil, h]
theorem grow_own (W : World) (m : Nat) (h1 : m ≤ 1000002) (cs : Array Value) (hs : cs.size = grownCap W m 0 9) : Kd.R Kd.string 9 (W.alloc (.cells cs 9)).drew W.heap.size (fun _ => True) (.slice (some ⟨W.heap.size, 0, none⟩) 0 (grownCap W m 0 9)) [] := by
 refine Kd.R_of_own (enc := Value.string) (xs := ([] : List ByteArray)) ⟨rfl, .inr ⟨W.heap.size, grownCap W m 0 9, cs, rfl, Nat.le_refl _, ?_, Nat.zero_le _, ?_, ?_, rfl⟩⟩ (fun _ _ => trivial)
 ·exact blk_drew (blk_new W _)
 ·exact grownCap_le_maxLen W m 0 9 (by unfold maxLen; omega)
 ·rw [hs, Nat.mul_one]
set_option maxHeartbeats 4000000 in
set_option maxRecDepth 1000000 in
theorem grow_calls (m : Nat) (h0 : 0 < m) (h1 : m ≤ 1000002) (w : World) :
  Calls Tryz.prog 54 #[.slice none 0 0, .int .i64 m] w fun e w' => ∃ v, e = .returned v ∧ Kd.R Kd.string 9 w' w.heap.size (fun _ => True) v [] ∧ Below w.heap.size w w' := by
 have hm0 : decide ((m : Int) < 0) = false := decide_eq_false (by omega)
 have hm1 : decide ((m : Int) > 0) = true := decide_eq_true (by omega)
 have hm2 : (m : Int) - 0 = m := by omega
 have hm3 : (0 : Int) < (m : Int) := by omega
 have hr := fun W => Aside0.mk (run_append_zeros W m h0 h1)
 go_enter Tryz.func54, Tryz.ntmps54
 go_wp2_with ((with_reducible refine gate_builtin (b := .append) (xs := #[.tmp 20, .tmp 21]) rfl ?_); refine Kd.event_run (v := .slice (some ⟨w.heap.size, 0, none⟩) m (grownCap w m 0 9)) (w1 := w.drew.alloc (.cells (Builtin.zeroCells #[.string ⟨#[]⟩] m ++ Builtin.zeroCells #[.string ⟨#[]⟩] (grownCap w m 0 9 - m)) 9)) rfl ?hx ?_; (case hx => exact exec_append rfl rfl rfl rfl (hr w).out))
 go_ret
 refine ⟨_, rfl, grow_own w m h1 _ ?_, ?_⟩
 ·have hge := grownCap_ge w m 0 9; simp [Builtin.zeroCells]; omega
 ·exact (below_alloc (Below.refl _ _) _).trans (below_drew1 (Below.refl _ _))
def parts3 (l1 l2 l3 : List ByteArray) : Nat → List ByteArray
 | 0 => []
 | 1 => l1
 | 2 => l1 ++ l2
 | _ => l1 ++ l2 ++ l3
set_option maxHeartbeats 4000000 in
set_option maxRecDepth 1000000 in
theorem concat_gen (V : World) (g : Nat) (A1 A2 A3 : Option Addr) (c1 c2 c3 : Nat) (l1 l2 l3 : List ByteArray) (h1 : V.cell? ⟨g, 0, none⟩ = some (.slice A1 l1.length c1)) (h2 : V.cell? ⟨g, 1, none⟩ = some (.slice A2 l2.length c2)) (h3 : V.cell? ⟨g, 2, none⟩ = some (.slice A3 l3.length c3))
  (r1 : Kd.C Kd.string V A1 l1.length l1) (r2 : Kd.C Kd.string V A2 l2.length l2) (r3 : Kd.C Kd.string V A3 l3.length l3) (hp : 0 < l1.length) (hs : l1.length + l2.length + l3.length ≤ 1000002) :
  Calls Tryz.prog 31 #[.slice (some ⟨g, 0, none⟩) 3 3] V fun e w' => ∃ v, e = .returned v ∧ Kd.R Kd.string 9 w' V.heap.size (fun _ => True) v (l1 ++ l2 ++ l3) ∧ Below V.heap.size V w' := by
 have R1 := Aside0.mk r1
 have R2 := Aside0.mk r2
 have R3 := Aside0.mk r3
 have HH := Aside0.mk (show ∀ k, k < 3 → ∃ A n c xs, V.cell? ⟨g, k, none⟩ = some (.slice A n c) ∧ n = xs.length ∧ parts3 l1 l2 l3 (k + 1) = parts3 l1 l2 l3 k ++ xs ∧ Kd.C Kd.string V A xs.length xs from fun k hk => by
  rcases (show k = 0 ∨ k = 1 ∨ k = 2 by omega) with rfl | rfl | rfl
  ·exact ⟨_, _, _, l1, h1, rfl, rfl, r1⟩
  ·exact ⟨_, _, _, l2, h2, rfl, rfl, r2⟩
  ·exact ⟨_, _, _, l3, h3, rfl, rfl, r3⟩)
 have HS := Aside0.mk (show ∀ k, k ≤ 3 → (parts3 l1 l2 l3 k).length ≤ 1000002 from fun k hk => by
  rcases (show k = 0 ∨ k = 1 ∨ k = 2 ∨ k = 3 by omega) with rfl | rfl | rfl | rfl <;> simp [parts3] <;> omega)
 have H3 := Aside0.mk (show parts3 l1 l2 l3 3 = l1 ++ l2 ++ l3 from rfl)
 have HP := Aside0.mk (show 0 < (parts3 l1 l2 l3 3).length by simp [parts3]; omega)
 clear r1 r2 r3 h1 h2 h3
 have H0 := Aside0.mk (show parts3 l1 l2 l3 0 = [] from rfl)
 generalize parts3 l1 l2 l3 = ps at *
 go_enter Tryz.func31, Tryz.ntmps31
 go_wp2
 go_loopw [3, 11] (fun s i wr => ∃ k m : Nat, k ≤ 3 ∧ i = .int .i64 k ∧ s = .int .i64 (m : Int) ∧ V = wr ∧ Aside0 (m = (ps k).length)) (fun s i wr => 3 - (intOf i).toNat)
 case atStart => exact ⟨0, 0, by omega, rfl, rfl, rfl, ⟨by rw [H0.out]; rfl⟩⟩
 case round =>
  obtain ⟨k, m, hk, rfl, rfl, rfl, HM⟩ := hrel; by_cases hlt : k < 3
  ·obtain ⟨A, n, c, xs, hc, hn, he, _⟩ := HH.out k hlt; have hb : m + n ≤ 1000002 := by
    have := HS.out (k + 1) (by omega); rw [he, List.length_append] at this; rw [HM.out, hn]; exact this
   have HM2 := Aside0.mk (show m + n = (ps (k + 1)).length by rw [he, List.length_append, HM.out, hn]); have hd : decide ((m : Int) + (n : Int) < 0) = false := decide_eq_false (by omega); clear he hn HM; go_wp2; go_roundw; (case rel => exact ⟨k + 1, m + n, by omega, by go_num, by go_num, by first | trivial | rfl, HM2⟩); case measure => simp [intOf]; omega
  ·obtain rfl : k = 3 := by omega
   have hm0 : 0 < m := by rw [HM.out]; exact HP.out
   have hm1 : m ≤ 1000002 := by rw [HM.out]; exact HS.out 3 (by omega)
   have HG := Aside0.mk (grow_calls m hm0 hm1); go_wp2_with (go_at_call 54; (with_reducible refine (HG.out _).mono ?_); rintro e w1 ⟨v0, rfl, ho, hb⟩; replace ho := Aside0.mk ho; replace hb := Aside0.mk hb); go_loopw [6, 27] (fun v i wr => ∃ k : Nat, k ≤ 3 ∧ i = .int .i64 k ∧ Aside0 (Kd.R Kd.string 9 wr V.heap.size (fun _ => True) v (ps k)) ∧ Aside0 (Below V.heap.size V wr)) (fun v i wr => 3 - (intOf i).toNat); (case atStart => exact ⟨0, by omega, rfl, ⟨by rw [H0.out]; exact ho.out⟩, hb⟩); case round =>
    clear ho hb; obtain ⟨k, hk, rfl, HO, HB⟩ := hrel; by_cases hlt : k < 3
    ·obtain ⟨A, n, c, xs, hc, rfl, he, HR⟩ := HH.out k hlt; have hcw := (HB.out.cell (World.block_lt_of_cell? _ _ hc)).trans hc; clear hc; have HRw := Aside0.mk (Kd.C_below HR HB.out); obtain ⟨ys, hys⟩ : ∃ ys, ys = ps (k + 1) := ⟨_, rfl⟩; have HE := Aside0.mk (hys.trans he); have HY := Aside0.mk hys; have HL := Aside0.mk (show (ps k).length + xs.length ≤ 1000002 by have := HS.out (k + 1) (by omega); rw [he, List.length_append] at this; exact this); clear he HR hys; go_wp2_with ((with_reducible refine gate_builtin (b := .append) (xs := #[.tmp 31, .tmp 32]) rfl ?_); at_builtin; refine Kd.R_append_row Value.string ByteArray.empty (h1 := fun _ => rfl) (w0 := V) V.heap.size rfl (.tmp 31) (.tmp 32) 31 9 (.string ⟨#[]⟩) 16 rfl Tryz.underlying31 info9 rfl (by omega) u6 (ps k) xs A xs.length c (fun _ => True) rfl rfl ?aF ?aO ?aC ?aB ?aS ?aL ?_; (case aF => exact (fun _ _ => trivial)); (case aO => exact HO.out); (case aC => exact HRw.out); (case aB => exact HB.out); (case aS => exact (below_size HB.out)); (case aL => have := HL.out; omega); intro v350 w12 ho hb hg hat; rw [← HE.out] at ho; replace hb := Aside0.mk hb; replace ho := Aside0.mk ho; clear hg hat); go_roundw; (case rel => exact ⟨k + 1, by omega, by go_num, ⟨by rw [← HY.out]; exact ho.out⟩, hb⟩); case measure => simp [intOf]; omega
    ·obtain rfl : k = 3 := by omega
     go_wp2; go_ret; exact ⟨_, rfl, by rw [← H3.out]; exact HO.out, HB.out⟩
theorem C_single (W : World) (g : Nat) (a : ByteArray) (t : TypeId) (h : W.heap[g]? = some (.cells #[.string a] t (0, 0))) : Kd.C Kd.string W (some ⟨g, 0, none⟩) [a].length [a] := by
 refine ⟨rfl, by simp, fun _ => ⟨_, rfl, fun j p hj => ?_⟩⟩; cases j with
 | zero =>
  simp only [List.getElem?_cons_zero, Option.some.injEq] at hj; subst hj; refine ⟨[.string a], rfl, rfl, fun i u hi => ?_⟩; cases i with
  | zero => simp at hi; subst hi; exact (blk_cell h 0).trans rfl
  | succ i => simp at hi
 | succ j => simp at hj
theorem slices_Concat_string_string.calls (a : ByteArray) (A0 : Option Addr) (c0 : Nat) (l0 : List ByteArray) (b : ByteArray) (r : List ByteArray) (W : World) (hr0 : Kd.C Kd.string W A0 l0.length l0) (hc0 : l0.length ≤ c0) (h : slices_Concat_string_string.f a l0 b = some r) :
  Calls Tryz.prog 31 #[.slice (some ⟨W.heap.size + 2, 0, none⟩) 3 3] (((W.alloc (.cells #[.string a] 9)).alloc (.cells #[.string b] 9)).alloc (.cells #[.slice (some ⟨W.heap.size, 0, none⟩) 1 1, .slice A0 l0.length c0, .slice (some ⟨W.heap.size + 1, 0, none⟩) 1 1] 31))
   fun e w' => ∃ v0_ : Value, e = .returned v0_ ∧ Kd.R Kd.string 9 w' W.heap.size (fun _ => True) v0_ r ∧ Below W.heap.size W w' := by
 unfold slices_Concat_string_string.f at h
 by_cases c : l0.length ≤ 1000000
 ·rw [if_pos c] at h; injection h with h; subst h; have s1 : (W.alloc (.cells #[.string a] 9)).heap.size = W.heap.size + 1 := World.size_alloc _ _; have s2 : ((W.alloc (.cells #[.string a] 9)).alloc (.cells #[.string b] 9)).heap.size = W.heap.size + 2 := by rw [World.size_alloc, s1]
  generalize hc3 : (Obj.cells #[.slice (some ⟨W.heap.size, 0, none⟩) 1 1, .slice A0 l0.length c0, .slice (some ⟨W.heap.size + 1, 0, none⟩) 1 1] 31) = o3; have b3 := blk_new ((W.alloc (.cells #[.string a] 9)).alloc (.cells #[.string b] 9)) o3; rw [s2, ← hc3] at b3; have b1 := blk_alloc (blk_alloc (blk_new W (.cells #[.string a] 9)) (.cells #[.string b] 9)) o3; have b2 := blk_alloc (blk_new (W.alloc (.cells #[.string a] 9)) (.cells #[.string b] 9)) o3; rw [s1] at b2; have hB : Below W.heap.size W (((W.alloc (.cells #[.string a] 9)).alloc (.cells #[.string b] 9)).alloc o3) := below_alloc (below_alloc (below_alloc (Below.refl _ _) _) _) _; rw [hc3] at b3; generalize ((W.alloc (.cells #[.string a] 9)).alloc (.cells #[.string b] 9)).alloc o3 = V at *; subst hc3; refine (concat_gen V (W.heap.size + 2) (some ⟨W.heap.size, 0, none⟩) A0 (some ⟨W.heap.size + 1, 0, none⟩) 1 c0 1 [a] l0 [b] ((blk_cell b3 0).trans rfl) ((blk_cell b3 1).trans rfl) ((blk_cell b3 2).trans rfl) (C_single V _ a 9 b1) (Kd.C_below hr0 hB) (C_single V _ b 9 b2) (by simp) (by simp; omega)).mono ?_; rintro e w' ⟨v, rfl, ho, hb⟩; have hs := hB.size; exact ⟨v, rfl, Kd.R_lower ho hs, below_then hB hs hb⟩
 ·rw [if_neg c] at h; cases h
end Go.Proofs.YtpklcnpmppaaoaaGreatDoor.Print
namespace Go.Proofs.YtpklcnpmppaaoaaGreatDoor.Print
open Go.RowKit Go.Proofs.YtpklcnpmppaaoaaGreatDoorW.PrintWords
def strings_Cut.f (a0 a1 : ByteArray) : Option (ByteArray × ByteArray × Bool) :=
 if a0.size ≤ 1000000 then some (⟨(Lib.cut a0.data.toList a1.data.toList).1.toArray⟩, ⟨(Lib.cut a0.data.toList a1.data.toList).2.1.toArray⟩, (Lib.cut a0.data.toList a1.data.toList).2.2) else none
theorem strings_Cut.calls (a0 a1 : ByteArray) (r1 r2 : ByteArray) (r3 : Bool) (w : World) (hG : Gw w) (h : strings_Cut.f a0 a1 = some (r1, r2, r3)) :
  Calls Tryz.prog 36 #[.string a0, .string a1] w fun e w' => e = .returned (.tuple #[.string r1, .string r2, .bool r3]) ∧ Below w.heap.size w w' := by
 unfold strings_Cut.f at h
 by_cases c : a0.size ≤ 1000000
 ·rw [if_pos c] at h; simp only [Option.some.injEq, Prod.mk.injEq] at h; obtain ⟨rfl, rfl, rfl⟩ := h; obtain ⟨m, hm⟩ := hG.maxLen; refine (Tryz.strings_Cut a0 a1 m w (by omega) hm).mono ?_; rintro e w' ⟨he, hd⟩; exact ⟨he, Drawn0.below ⟨hd⟩⟩
 ·rw [if_neg c] at h; cases h
end Go.Proofs.YtpklcnpmppaaoaaGreatDoor.Print
namespace Go.Proofs.YtpklcnpmppaaoaaGreatDoor.Print
open Go.RowKit Go.Proofs.YtpklcnpmppaaoaaGreatDoorW.PrintWords Go.Proofs.YtpklcnpmppaaoaaGreatDoorW.PrintLast Go.Proofs.YtpklcnpmppaaoaaGreatDoorW.PrintMore
attribute [local go_sem] max2_int min2_int max_two min_two max_three min_three max_four min_four
set_option linter.unusedVariables false
set_option linter.unusedSimpArgs false
def stringslite_CutPrefix.f (a0 : ByteArray) (a1 : ByteArray) : Option (ByteArray × Bool) := (stringslite_HasPrefix.f a0 a1).bind fun t431 => (if t431 = true then (if 0 ≤ (a1.size : Int) then (if (a1.size : Int) ≤ (a0.size : Int) then (some (a0.extract ((a1.size : Int) : Int).toNat a0.size, true)) else (none)) else (none)) else (some (a0, false)))
set_option maxHeartbeats 8000000 in
set_option maxRecDepth 100000 in
theorem stringslite_CutPrefix.calls (a0 : ByteArray) (a1 : ByteArray) (r1 : ByteArray) (r2 : Bool) (w : World) (h : stringslite_CutPrefix.f a0 a1 = some (r1, r2)) :
  Calls Tryz.prog 58 #[.string a0, .string a1] w fun e w' => e = .returned (.tuple #[.string r1, .bool r2]) ∧ Drawn0 w w' := by
 have H : ((stringslite_HasPrefix.f a0 a1).bind fun t431 => (if t431 = true then (if 0 ≤ (a1.size : Int) then (if (a1.size : Int) ≤ (a0.size : Int) then (some (a0.extract ((a1.size : Int) : Int).toNat a0.size, true)) else (none)) else (none)) else (some (a0, false)))) = some (r1, r2) := h
 clear h
 replace H := Option.bind_eq_some_iff.mp H
 obtain ⟨t431, A30, H⟩ := H
 replace H : (if t431 = true then (if 0 ≤ (a1.size : Int) then (if (a1.size : Int) ≤ (a0.size : Int) then (some (a0.extract ((a1.size : Int) : Int).toNat a0.size, true)) else (none)) else (none)) else (some (a0, false))) = some (r1, r2) := H
 have A3 := am A30
 clear A30
 revert H
 refine spb ?_ ?_
 ·rintro rfl H; by_cases c5 : 0 ≤ (a1.size : Int)
  ·rw [if_pos c5] at H; have c5b0 := eq_true c5; have c5b1 := decide_eq_true c5; clear c5; by_cases c6 : (a1.size : Int) ≤ (a0.size : Int)
   ·rw [if_pos c6] at H; have c6b0 := eq_true c6; have c6b1 := decide_eq_true c6; clear c6; simp only [Option.some.injEq, Prod.mk.injEq] at H; obtain ⟨rfl, rfl⟩ := H; go_enter Tryz.func58, Tryz.ntmps58; go_wp2_with (first | ((with_reducible refine gate_callee (f := 90) rfl ?_); refine goesL_ (some 8) rfl rfl Tryz.func90 (by kernel_rfl) rfl #[.string a0, .string a1] rfl ap3 ?_; (with_reducible refine (stringslite_HasPrefix.calls a0 a1 true _ A3.out).mono ?_); rintro e w' ⟨rfl, ⟨nd, rfl⟩⟩; refine ⟨_, rfl, ?_⟩)); go_ret2; exact ⟨ap2, ap7⟩
   ·rw [if_neg c6] at H; exact absurd H (by simp)
  ·rw [if_neg c5] at H; exact absurd H (by simp)
 ·rintro rfl H; simp only [Option.some.injEq, Prod.mk.injEq] at H; obtain ⟨rfl, rfl⟩ := H; go_enter Tryz.func58, Tryz.ntmps58; go_wp2_with (first | ((with_reducible refine gate_callee (f := 90) rfl ?_); refine goesL_ (some 8) rfl rfl Tryz.func90 (by kernel_rfl) rfl #[.string a0, .string a1] rfl ap3 ?_; (with_reducible refine (stringslite_HasPrefix.calls a0 a1 false _ A3.out).mono ?_); rintro e w' ⟨rfl, ⟨nd, rfl⟩⟩; refine ⟨_, rfl, ?_⟩)); go_ret2; exact ⟨ap2, ap7⟩
def strings_CutPrefix.f (a0 : ByteArray) (a1 : ByteArray) : Option (ByteArray × Bool) := (stringslite_CutPrefix.f a0 a1).bind fun bt432 => (some (bt432.1, bt432.2))
set_option maxHeartbeats 8000000 in
set_option maxRecDepth 100000 in
theorem strings_CutPrefix.calls (a0 : ByteArray) (a1 : ByteArray) (r1 : ByteArray) (r2 : Bool) (w : World) (h : strings_CutPrefix.f a0 a1 = some (r1, r2)) :
  Calls Tryz.prog 34 #[.string a0, .string a1] w fun e w' => e = .returned (.tuple #[.string r1, .bool r2]) ∧ Drawn0 w w' := by
 have H : ((stringslite_CutPrefix.f a0 a1).bind fun bt432 => (some (bt432.1, bt432.2))) = some (r1, r2) := h
 clear h
 replace H := Option.bind_eq_some_iff.mp H
 obtain ⟨⟨t432, t433⟩, A30, H⟩ := H
 replace H : (some (t432, t433)) = some (r1, r2) := H
 have A3 := am A30
 clear A30
 simp only [Option.some.injEq, Prod.mk.injEq] at H
 obtain ⟨rfl, rfl⟩ := H
 go_enter Tryz.func34, Tryz.ntmps34
 go_wp2_with (first | ((with_reducible refine gate_callee (f := 58) rfl ?_); refine goesL_ (some 8) rfl rfl Tryz.func58 (by kernel_rfl) rfl #[.string a0, .string a1] rfl ap3 ?_; (with_reducible refine (stringslite_CutPrefix.calls a0 a1 t432 t433 _ A3.out).mono ?_); rintro e w' ⟨rfl, ⟨nd, rfl⟩⟩; refine ⟨_, rfl, ?_⟩))
 go_ret2
 exact ⟨ap2, ap7⟩
def stringslite_HasSuffix.f (a0 : ByteArray) (a1 : ByteArray) : Option (Bool) := if (a0.size : Int) ≥ (a1.size : Int) then (if 0 ≤ (wrap64 ((a0.size : Int) - (a1.size : Int))) then (if (wrap64 ((a0.size : Int) - (a1.size : Int))) ≤ (a0.size : Int) then (some ((a0.extract ((wrap64 ((a0.size : Int) - (a1.size : Int))) : Int).toNat a0.size).toList == a1.toList)) else (none)) else (none)) else (some false)
set_option maxHeartbeats 8000000 in
set_option maxRecDepth 100000 in
theorem stringslite_HasSuffix.calls (a0 : ByteArray) (a1 : ByteArray) (r : Bool) (w : World) (h : stringslite_HasSuffix.f a0 a1 = some r) :
  Calls Tryz.prog 91 #[.string a0, .string a1] w fun e w' => e = .returned (.bool r) ∧ Drawn0 w w' := by
 have H : (if (a0.size : Int) ≥ (a1.size : Int) then (if 0 ≤ (wrap64 ((a0.size : Int) - (a1.size : Int))) then (if (wrap64 ((a0.size : Int) - (a1.size : Int))) ≤ (a0.size : Int) then (some ((a0.extract ((wrap64 ((a0.size : Int) - (a1.size : Int))) : Int).toNat a0.size).toList == a1.toList)) else (none)) else (none)) else (some false)) = some r := h
 clear h
 revert H
 refine spd11 ?_ ?_
 ·intro c3 c3b0 H; have c3b1 : decide (a1.size ≤ a0.size) = true := decide_eq_true (Int.ofNat_le.mp c3); clear c3; obtain ⟨ji4, hji4⟩ : ∃ j_ : Int, (wrap64 ((a0.size : Int) - (a1.size : Int))) = j_ := ⟨_, rfl⟩; replace H : (if 0 ≤ (ji4) then (if (ji4) ≤ (a0.size : Int) then (some ((a0.extract ((ji4) : Int).toNat a0.size).toList == a1.toList)) else (none)) else (none)) = some r := by first | (rw [hji4] at H; exact H) | (simp only [hji4] at H ⊢; exact H)
  have hji4w : (IntKind.i64.wrap ((a0.size : Int) - (a1.size : Int))) = ji4 := (i64_w _).trans hji4; by_cases c5 : 0 ≤ (ji4)
  ·rw [if_pos c5] at H; have c5b0 := eq_true c5; have c5b1 := decide_eq_true c5; clear c5; by_cases c6 : (ji4) ≤ (a0.size : Int)
   ·rw [if_pos c6] at H; have c6b0 := eq_true c6; have c6b1 := decide_eq_true c6; clear c6; obtain rfl := Option.some.inj H; go_enter Tryz.func91, Tryz.ntmps91; go_wp2; go_ret; exact ⟨by first | rfl | (simp; done) | (simp only [← hji4] <;> (first | rfl | simp)) | (simp [*]; done), ap7⟩
   ·rw [if_neg c6] at H; exact absurd H (by simp)
  ·rw [if_neg c5] at H; exact absurd H (by simp)
 ·intro c3 c3b0 H; have c3b1 : decide (a1.size ≤ a0.size) = false := decide_eq_false (fun h => c3 (Int.ofNat_le.mpr h)); clear c3; obtain rfl := Option.some.inj H; go_enter Tryz.func91, Tryz.ntmps91; go_wp2; go_ret; exact ⟨ap2, ap7⟩
def stringslite_CutSuffix.f (a0 : ByteArray) (a1 : ByteArray) : Option (ByteArray × Bool) := (stringslite_HasSuffix.f a0 a1).bind fun t434 => (if t434 = true then (if 0 ≤ (wrap64 ((a0.size : Int) - (a1.size : Int))) then (if (wrap64 ((a0.size : Int) - (a1.size : Int))) ≤ (a0.size : Int) then (some (a0.extract 0 ((wrap64 ((a0.size : Int) - (a1.size : Int))) : Int).toNat, true)) else (none)) else (none)) else (some (a0, false)))
set_option maxHeartbeats 8000000 in
set_option maxRecDepth 100000 in
theorem stringslite_CutSuffix.calls (a0 : ByteArray) (a1 : ByteArray) (r1 : ByteArray) (r2 : Bool) (w : World) (h : stringslite_CutSuffix.f a0 a1 = some (r1, r2)) :
  Calls Tryz.prog 59 #[.string a0, .string a1] w fun e w' => e = .returned (.tuple #[.string r1, .bool r2]) ∧ Drawn0 w w' := by
 have H : ((stringslite_HasSuffix.f a0 a1).bind fun t434 => (if t434 = true then (if 0 ≤ (wrap64 ((a0.size : Int) - (a1.size : Int))) then (if (wrap64 ((a0.size : Int) - (a1.size : Int))) ≤ (a0.size : Int) then (some (a0.extract 0 ((wrap64 ((a0.size : Int) - (a1.size : Int))) : Int).toNat, true)) else (none)) else (none)) else (some (a0, false)))) = some (r1, r2) := h
 clear h
 replace H := Option.bind_eq_some_iff.mp H
 obtain ⟨t434, A30, H⟩ := H
 replace H : (if t434 = true then (if 0 ≤ (wrap64 ((a0.size : Int) - (a1.size : Int))) then (if (wrap64 ((a0.size : Int) - (a1.size : Int))) ≤ (a0.size : Int) then (some (a0.extract 0 ((wrap64 ((a0.size : Int) - (a1.size : Int))) : Int).toNat, true)) else (none)) else (none)) else (some (a0, false))) = some (r1, r2) := H
 have A3 := am A30
 clear A30
 revert H
 refine spb ?_ ?_
 ·rintro rfl H; obtain ⟨ji5, hji5⟩ : ∃ j_ : Int, (wrap64 ((a0.size : Int) - (a1.size : Int))) = j_ := ⟨_, rfl⟩; replace H : (if 0 ≤ (ji5) then (if (ji5) ≤ (a0.size : Int) then (some (a0.extract 0 ((ji5) : Int).toNat, true)) else (none)) else (none)) = some (r1, r2) := by first | (rw [hji5] at H; exact H) | (simp only [hji5] at H ⊢; exact H)
  (try rw [hji5] at A3); have hji5w : (IntKind.i64.wrap ((a0.size : Int) - (a1.size : Int))) = ji5 := (i64_w _).trans hji5; by_cases c6 : 0 ≤ (ji5)
  ·rw [if_pos c6] at H; have c6b0 := eq_true c6; have c6b1 := decide_eq_true c6; clear c6; by_cases c7 : (ji5) ≤ (a0.size : Int)
   ·rw [if_pos c7] at H; have c7b0 := eq_true c7; have c7b1 := decide_eq_true c7; clear c7; simp only [Option.some.injEq, Prod.mk.injEq] at H; obtain ⟨rfl, rfl⟩ := H; go_enter Tryz.func59, Tryz.ntmps59; go_wp2_with (first | ((with_reducible refine gate_callee (f := 91) rfl ?_); refine goesL_ (some 8) rfl rfl Tryz.func91 (by kernel_rfl) rfl #[.string a0, .string a1] rfl ap3 ?_; (with_reducible refine (stringslite_HasSuffix.calls a0 a1 true _ A3.out).mono ?_); rintro e w' ⟨rfl, ⟨nd, rfl⟩⟩; refine ⟨_, rfl, ?_⟩)); go_ret2; exact ⟨by first | rfl | (simp; done) | (simp only [← hji5] <;> (first | rfl | simp)) | (simp [*]; done), ap7⟩
   ·rw [if_neg c7] at H; exact absurd H (by simp)
  ·rw [if_neg c6] at H; exact absurd H (by simp)
 ·rintro rfl H; simp only [Option.some.injEq, Prod.mk.injEq] at H; obtain ⟨rfl, rfl⟩ := H; go_enter Tryz.func59, Tryz.ntmps59; go_wp2_with (first | ((with_reducible refine gate_callee (f := 91) rfl ?_); refine goesL_ (some 8) rfl rfl Tryz.func91 (by kernel_rfl) rfl #[.string a0, .string a1] rfl ap3 ?_; (with_reducible refine (stringslite_HasSuffix.calls a0 a1 false _ A3.out).mono ?_); rintro e w' ⟨rfl, ⟨nd, rfl⟩⟩; refine ⟨_, rfl, ?_⟩)); go_ret2; exact ⟨ap2, ap7⟩
def strings_CutSuffix.f (a0 : ByteArray) (a1 : ByteArray) : Option (ByteArray × Bool) := (stringslite_CutSuffix.f a0 a1).bind fun bt435 => (some (bt435.1, bt435.2))
set_option maxHeartbeats 8000000 in
set_option maxRecDepth 100000 in
theorem strings_CutSuffix.calls (a0 : ByteArray) (a1 : ByteArray) (r1 : ByteArray) (r2 : Bool) (w : World) (h : strings_CutSuffix.f a0 a1 = some (r1, r2)) :
  Calls Tryz.prog 35 #[.string a0, .string a1] w fun e w' => e = .returned (.tuple #[.string r1, .bool r2]) ∧ Drawn0 w w' := by
 have H : ((stringslite_CutSuffix.f a0 a1).bind fun bt435 => (some (bt435.1, bt435.2))) = some (r1, r2) := h
 clear h
 replace H := Option.bind_eq_some_iff.mp H
 obtain ⟨⟨t435, t436⟩, A30, H⟩ := H
 replace H : (some (t435, t436)) = some (r1, r2) := H
 have A3 := am A30
 clear A30
 simp only [Option.some.injEq, Prod.mk.injEq] at H
 obtain ⟨rfl, rfl⟩ := H
 go_enter Tryz.func35, Tryz.ntmps35
 go_wp2_with (first | ((with_reducible refine gate_callee (f := 59) rfl ?_); refine goesL_ (some 8) rfl rfl Tryz.func59 (by kernel_rfl) rfl #[.string a0, .string a1] rfl ap3 ?_; (with_reducible refine (stringslite_CutSuffix.calls a0 a1 t435 t436 _ A3.out).mono ?_); rintro e w' ⟨rfl, ⟨nd, rfl⟩⟩; refine ⟨_, rfl, ?_⟩))
 go_ret2
 exact ⟨ap2, ap7⟩
mutual
def attr_Part.j0 : Nat → ByteArray → List ByteArray → List ByteArray → Bool → ByteArray → Int → Bool → Option (Bool × Int)
 | 0, _, _, _, _, _, _, _ => none
 | k + 1, x1, x3, x13, x14, x438000, x438001, x438002 => if x14 = true then (if (x3.length : Int) > 8 then (attr_Part.j1 k x1 x13 true x438000 x438001 x438002) else ((slices_ContainsFunc_string_string.f x13).bind fun t441 => (attr_Part.j1 k x1 x13 (!t441) x438000 x438001 x438002))) else (attr_Part.j1 k x1 x13 true x438000 x438001 x438002)
def attr_Part.j1 : Nat → ByteArray → List ByteArray → Bool → ByteArray → Int → Bool → Option (Bool × Int)
 | 0, _, _, _, _, _, _ => none
 | k + 1, x1, x13, x56, x438000, x438001, x438002 => if x56 = true then (some (false, 20)) else ((attr_Normal.f k x438000 x438001 x438002 x1).bind fun bt442 => (if bt442.2 = 0 then (attr_Part.l0 k x13 bt442.1 (x13.length : Int) 0 x438000 x438001 x438002) else (some (false, bt442.2))))
def attr_Part.l0 : Nat → List ByteArray → ByteArray → Int → Int → ByteArray → Int → Bool → Option (Bool × Int)
 | 0, _, _, _, _, _, _, _ => none
 | k + 1, x13, x15, x67, x68, x438000, x438001, x438002 => if x68 < x67 then (if 0 ≤ x68 then (if x68 < (x13.length : Int) then ((attr_piece.f k x438000 x438001 x438002 (rdOf ByteArray.empty x13 x68)).bind fun bt445 => (if bt445.2 = 0 then (attr_Part.l0 k (x13.set (x68 : Int).toNat bt445.1) x15 x67 (wrap64 (x68 + 1)) x438000 x438001 x438002) else (some (false, bt445.2)))) else (none)) else (none)) else (if 0 < (x13.length : Int) then ((strings_CutPrefix.f x15 (rdOf ByteArray.empty x13 0)).bind fun bt449 => (if bt449.2 = true then (if 0 ≤ (wrap64 ((x13.length : Int) - 1)) then (if (wrap64 ((x13.length : Int) - 1)) < (x13.length : Int) then ((strings_CutSuffix.f bt449.1 (rdOf ByteArray.empty x13 (wrap64 ((x13.length : Int) - 1)))).bind fun bt452 => (if 1 ≤ (wrap64 ((x13.length : Int) - 1)) then (if (wrap64 ((x13.length : Int) - 1)) ≤ (x13.length : Int) then ((some ((x13.take ((wrap64 ((x13.length : Int) - 1)) : Int).toNat).drop 1 : List ByteArray)).bind fun y454 => (attr_Part.l1 k bt452.1 bt452.2 y454 (y454.length : Int) 0)) else (none)) else (none))) else (none)) else (none)) else (some (false, 0)))) else (none))
def attr_Part.l1 : Nat → ByteArray → Bool → List ByteArray → Int → Int → Option (Bool × Int)
 | 0, _, _, _, _, _ => none
 | k + 1, x15, x21, x112, x113, x114 => if x114 < x113 then (if 0 ≤ x114 then (if x114 < (x112.length : Int) then (if x21 = true then ((strings_Cut.f x15 (rdOf ByteArray.empty x112 x114)).bind fun bt459 => (attr_Part.l1 k bt459.2.1 bt459.2.2 x112 x113 (wrap64 (x114 + 1)))) else (some (x21, 0))) else (none)) else (none)) else (some (x21, 0))
end
def attr_Part.f (k : Nat) (a0_0 : ByteArray) (a0_1 : Int) (a0_2 : Bool) (a1 : ByteArray) (a2 : ByteArray) (l3 : List ByteArray) (a4 : ByteArray) : Option (Bool × Int) := (slices_Concat_string_string.f a2 l3 a4).bind fun t438 => (if a0_1 = 1 then (attr_Part.j0 k a1 l3 t438 true a0_0 a0_1 a0_2) else (if a0_1 = 2 then (attr_Part.j0 k a1 l3 t438 true a0_0 a0_1 a0_2) else (attr_Part.j0 k a1 l3 t438 (a0_1 == 7) a0_0 a0_1 a0_2)))
theorem attr_Part.mono_l : ∀ k, (∀ y0 y1 y2 y3 y4 y5 y6, LeO (attr_Part.j0 k y0 y1 y2 y3 y4 y5 y6) (attr_Part.j0 (k + 1) y0 y1 y2 y3 y4 y5 y6)) ∧ (∀ y0 y1 y2 y3 y4 y5, LeO (attr_Part.j1 k y0 y1 y2 y3 y4 y5) (attr_Part.j1 (k + 1) y0 y1 y2 y3 y4 y5)) ∧ (∀ y0 y1 y2 y3 y4 y5 y6, LeO (attr_Part.l0 k y0 y1 y2 y3 y4 y5 y6) (attr_Part.l0 (k + 1) y0 y1 y2 y3 y4 y5 y6)) ∧ (∀ y0 y1 y2 y3 y4, LeO (attr_Part.l1 k y0 y1 y2 y3 y4) (attr_Part.l1 (k + 1) y0 y1 y2 y3 y4))
 | 0 => ⟨fun _ _ _ _ _ _ _ r h => by simp [attr_Part.j0] at h, fun _ _ _ _ _ _ r h => by simp [attr_Part.j1] at h, fun _ _ _ _ _ _ _ r h => by simp [attr_Part.l0] at h, fun _ _ _ _ _ r h => by simp [attr_Part.l1] at h⟩
 | k + 1 => by
  obtain ⟨ih0, ih1, ih2, ih3⟩ := attr_Part.mono_l k
  refine ⟨?_, ?_, ?_, ?_⟩
  ·
   intro y0 y1 y2 y3 y4 y5 y6
   unfold attr_Part.j0
   repeat' first
   | (with_reducible exact ih0 _ _ _ _ _ _ _)
   | (with_reducible exact ih1 _ _ _ _ _ _)
   | (with_reducible exact ih2 _ _ _ _ _ _ _)
   | (with_reducible exact ih3 _ _ _ _ _)
   | (with_reducible exact attr_Normal.mono _ _ _ _ _)
   | (with_reducible exact attr_piece.mono _ _ _ _ _)
   | (with_reducible exact LeO.refl _)
   | (with_reducible exact LeO.none _)
   | (with_reducible refine LeO.ite ?_ ?_)
   | (with_reducible refine LeO.bind ?_ (fun _ => ?_))
  ·
   intro y0 y1 y2 y3 y4 y5
   unfold attr_Part.j1
   repeat' first
   | (with_reducible exact ih0 _ _ _ _ _ _ _)
   | (with_reducible exact ih1 _ _ _ _ _ _)
   | (with_reducible exact ih2 _ _ _ _ _ _ _)
   | (with_reducible exact ih3 _ _ _ _ _)
   | (with_reducible exact attr_Normal.mono _ _ _ _ _)
   | (with_reducible exact attr_piece.mono _ _ _ _ _)
   | (with_reducible exact LeO.refl _)
   | (with_reducible exact LeO.none _)
   | (with_reducible refine LeO.ite ?_ ?_)
   | (with_reducible refine LeO.bind ?_ (fun _ => ?_))
  ·
   intro y0 y1 y2 y3 y4 y5 y6
   unfold attr_Part.l0
   repeat' first
   | (with_reducible exact ih0 _ _ _ _ _ _ _)
   | (with_reducible exact ih1 _ _ _ _ _ _)
   | (with_reducible exact ih2 _ _ _ _ _ _ _)
   | (with_reducible exact ih3 _ _ _ _ _)
   | (with_reducible exact attr_Normal.mono _ _ _ _ _)
   | (with_reducible exact attr_piece.mono _ _ _ _ _)
   | (with_reducible exact LeO.refl _)
   | (with_reducible exact LeO.none _)
   | (with_reducible refine LeO.ite ?_ ?_)
   | (with_reducible refine LeO.bind ?_ (fun _ => ?_))
  ·
   intro y0 y1 y2 y3 y4
   unfold attr_Part.l1
   repeat' first
   | (with_reducible exact ih0 _ _ _ _ _ _ _)
   | (with_reducible exact ih1 _ _ _ _ _ _)
   | (with_reducible exact ih2 _ _ _ _ _ _ _)
   | (with_reducible exact ih3 _ _ _ _ _)
   | (with_reducible exact attr_Normal.mono _ _ _ _ _)
   | (with_reducible exact attr_piece.mono _ _ _ _ _)
   | (with_reducible exact LeO.refl _)
   | (with_reducible exact LeO.none _)
   | (with_reducible refine LeO.ite ?_ ?_)
   | (with_reducible refine LeO.bind ?_ (fun _ => ?_))
theorem attr_Part.mono : ∀ a0 a1 a2 a3 a4 a5 a6 k, LeO (attr_Part.f k a0 a1 a2 a3 a4 a5 a6) (attr_Part.f (k + 1) a0 a1 a2 a3 a4 a5 a6) := by
 intro a0 a1 a2 a3 a4 a5 a6 k; obtain ⟨ih0, ih1, ih2, ih3⟩ := attr_Part.mono_l k; unfold attr_Part.f; repeat' first
   | (with_reducible exact ih0 _ _ _ _ _ _ _)
   | (with_reducible exact ih1 _ _ _ _ _ _)
   | (with_reducible exact ih2 _ _ _ _ _ _ _)
   | (with_reducible exact ih3 _ _ _ _ _)
   | (with_reducible exact attr_Normal.mono _ _ _ _ _)
   | (with_reducible exact attr_piece.mono _ _ _ _ _)
   | (with_reducible exact LeO.refl _)
   | (with_reducible exact LeO.none _)
   | (with_reducible refine LeO.ite ?_ ?_)
   | (with_reducible refine LeO.bind ?_ (fun _ => ?_))
set_option maxHeartbeats 8000000 in
set_option maxRecDepth 100000 in
theorem attr_Part.calls (k : Nat) (a0_0 : ByteArray) (a0_1 : Int) (a0_2 : Bool) (a1 : ByteArray) (a2 : ByteArray) (A3 : Option Addr) (c3 : Nat) (l3 : List ByteArray) (a4 : ByteArray) (r1 : Bool) (r2 : Int) (w : World) (hr3 : Kd.C Kd.string w A3 l3.length l3) (hc3 : l3.length ≤ c3) (hG : Gw w) (h : attr_Part.f k a0_0 a0_1 a0_2 a1 a2 l3 a4 = some (r1, r2)) :
  Calls Tryz.prog 14 #[.agg #[.string a0_0, .int .i64 a0_1, .bool a0_2], .string a1, .string a2, .slice A3 l3.length c3, .string a4] w fun e w' => e = .returned (.tuple #[.bool r1, .int .i64 r2]) ∧ Below w.heap.size w w' := by
 have hu23 := Tryz.underlying23
 have HR3 := am hr3
 have HC3 := am hc3
 clear hr3 hc3
 have HB := am (Below.refl w.heap.size w)
 have HG := am hG
 clear hG
 have H : ((slices_Concat_string_string.f a2 l3 a4).bind fun t438 => (if a0_1 = 1 then (attr_Part.j0 k a1 l3 t438 true a0_0 a0_1 a0_2) else (if a0_1 = 2 then (attr_Part.j0 k a1 l3 t438 true a0_0 a0_1 a0_2) else (attr_Part.j0 k a1 l3 t438 (a0_1 == 7) a0_0 a0_1 a0_2)))) = some (r1, r2) := h
 clear h
 replace H := Option.bind_eq_some_iff.mp H
 obtain ⟨t438, A60, H⟩ := H
 replace H : (if a0_1 = 1 then (attr_Part.j0 k a1 l3 t438 true a0_0 a0_1 a0_2) else (if a0_1 = 2 then (attr_Part.j0 k a1 l3 t438 true a0_0 a0_1 a0_2) else (attr_Part.j0 k a1 l3 t438 (a0_1 == 7) a0_0 a0_1 a0_2))) = some (r1, r2) := H
 have A6 := am A60
 clear A60
 have HC7 := am H
 clear H
 go_enter Tryz.func14, Tryz.ntmps14
 go_upto_region 3 with (first | ((with_reducible refine gate_dst (N := 5) rfl ?_); (try (refine gate_guard (by rfl) ?_; dsimp only)); refine box_event ?hg (N := 5) ?hd (cs := #[.string a0_0, .int .i64 a0_1, .bool a0_2]) (t := 23) ?hr ?_; (case hd => rfl); (case hg => rfl); (case hr => first | (go_simp; done) | (go_simp; rfl)); intro gb437 hg w8 hbox hb; have BK437 := am (hbox); have GW437 := am ((by rw [hg]; exact (below_size ap1) : w.heap.size ≤ gb437)); have GE437 := am ((by rw [hg]; exact (below_size ap1) : w.heap.size ≤ gb437)); replace HB := am (below_step ap1 hb); clear hb hbox hg) | ((with_reducible refine gate_callee (f := 31) rfl ?_); refine goesL_ (some 30) rfl rfl Tryz.func31 (by kernel_rfl) rfl #[.slice (some ⟨w8.heap.size + 2, 0, none⟩) 3 3] rfl (by first | done | rfl | (go_simp; done) | (go_simp; rfl) | (simp only [World.size_alloc])) ?_; (with_reducible refine (slices_Concat_string_string.calls a2 _ _ l3 a4 t438 w8 ?side1 ?side2 A6.out).mono ?_); (case side1 => repeat (first | exact (Kd.C_below HR3.out HB.out) | (with_reducible refine Kd.C_alloc ?_ _) | (with_reducible refine Kd.C_drewN ?_ _) | (with_reducible refine Kd.C_drew ?_))); (case side2 => exact HC3.out); rintro e w9 ⟨v439, rfl, ho0, hb⟩; refine ⟨_, rfl, ?_⟩; have HO440 := am (Kd.R_lower ho0 (below_size (apG GE437.out))); replace BK437 := am (blk_below (g := gb437) (o := .cells #[.string a0_0, .int .i64 a0_1, .bool a0_2] 23 (0, 0)) (apB BK437.out) hb); replace HB := am (below_step (apG GE437.out) hb); (try clear ho0)))
 (try simp only [Act.put, List.setIfInBounds_toArray, List.set_cons_zero, List.set_cons_succ])
 go_cut [14] (fun v14 wc => ∃ (kq : Nat) (x14_6 : Bool), v14 = .bool x14_6 ∧ Aside0 (attr_Part.j0 kq a1 l3 t438 x14_6 a0_0 a0_1 a0_2 = some (r1, r2)) ∧ Aside0 (kq ≤ k) ∧ Aside0 (Kd.R Kd.string 9 wc w.heap.size (fun _ => True) v439 t438) ∧ Aside0 (wc.heap[gb437]? = some (.cells #[.string a0_0, .int .i64 a0_1, .bool a0_2] 23 (0, 0))) ∧ Aside0 (Below w.heap.size w wc))
 case first =>
  have H := HC7.out; clear HC7; revert H; refine spe01 ?_ ?_
  ·intro c10b0 c10b1 H; (first | rw [c10b0] | (simp only [i64_w, i32_w]; rw [c10b0]) | skip); have H' := am H; clear H; obtain ⟨hcz11_0, hcz11_1, hcz11_2, hfz11_0, hfz11_1, hfz11_2⟩ := bc3 BK437.out; go_wp2; (first | go_meet | (simp only [c10b0] at *; go_meet)); case rel => exact ⟨_, (true), ap2, H', ⟨apN⟩, ⟨apAR HO440.out⟩, ⟨apB BK437.out⟩, ⟨apG1 GE437.out⟩⟩
  ·intro c10 c10b0 c10b1 H; (first | rw [c10b0] | (simp only [i64_w, i32_w]; rw [c10b0]) | skip); revert H; refine spe01 ?_ ?_
   ·intro c12b0 c12b1 H; have H' := am H; clear H; obtain ⟨hcz13_0, hcz13_1, hcz13_2, hfz13_0, hfz13_1, hfz13_2⟩ := bc3 BK437.out; go_wp2; (first | go_meet | (simp only [c12b0] at *; go_meet) | (simp only [c10b0] at *; go_meet) | (simp only [c10b0] at *; go_meet)); case rel => exact ⟨_, (true), ap2, H', ⟨apN⟩, ⟨apAR HO440.out⟩, ⟨apB BK437.out⟩, ⟨apG1 GE437.out⟩⟩
   ·intro c12 c12b0 c12b1 H; have H' := am H; clear H; obtain ⟨hcz14_0, hcz14_1, hcz14_2, hfz14_0, hfz14_1, hfz14_2⟩ := bc3 BK437.out; go_wp2; (first | go_meet | (simp only [c12b0] at *; go_meet) | (simp only [c12b0] at *; go_meet) | (simp only [c10b0] at *; go_meet)); case rel => exact ⟨_, ((a0_1 == 7)), ap2, H', ⟨apN⟩, ⟨apAR HO440.out⟩, ⟨apB BK437.out⟩, ⟨apG1 GE437.out⟩⟩
 case rest =>
  clear HC7; (try clear c3); obtain ⟨kq, x14_6, rfl, HA, HJ6, HO_13, BK437, HB⟩ := hcut; cases kq with
  | zero => exact absurd HA.out (by simp [attr_Part.j0])
  | succ kj6 =>
   have H := HA.out; clear HA; simp only [attr_Part.j0] at H; have HC15 := am H; clear H; go_upto_region 4 with (fail); go_cut [56] (fun v56 wc => ∃ (kq : Nat) (x56_14 : Bool), v56 = .bool x56_14 ∧ Aside0 (attr_Part.j1 kq a1 t438 x56_14 a0_0 a0_1 a0_2 = some (r1, r2)) ∧ Aside0 (kq ≤ kj6) ∧ Aside0 (Kd.R Kd.string 9 wc w.heap.size (fun _ => True) v439 t438) ∧ Aside0 (wc.heap[gb437]? = some (.cells #[.string a0_0, .int .i64 a0_1, .bool a0_2] 23 (0, 0))) ∧ Aside0 (Below w.heap.size w wc)); case first =>
    have H := HC15.out; clear HC15; revert H; refine spb ?_ ?_
    ·rintro rfl H; revert H; refine spd11 ?_ ?_
     ·intro c17 c17b0 H; have c17b1 : decide (8 < l3.length) = true := decide_eq_true (by omega); clear c17; (first | rw [c17b0] | (simp only [i64_w, i32_w]; rw [c17b0]) | skip); have H' := am H; clear H; go_wp2; (first | go_meet | (simp only [c12b0] at *; go_meet) | (simp only [c12b0] at *; go_meet) | (simp only [c10b0] at *; go_meet)); case rel => exact ⟨_, (true), ap2, H', ⟨by have := HJ6.out; first | omega | exact Nat.le_refl _⟩, ⟨apAR HO_13.out⟩, ⟨apB BK437.out⟩, ⟨apG1 GE437.out⟩⟩
     ·intro c17 c17b0 H; have c17b1 : decide (8 < l3.length) = false := decide_eq_false (by omega); clear c17; (first | rw [c17b0] | (simp only [i64_w, i32_w]; rw [c17b0]) | skip); replace H := Option.bind_eq_some_iff.mp H; obtain ⟨t441, A180, H⟩ := H; replace H : (attr_Part.j1 kj6 a1 t438 (!t441) a0_0 a0_1 a0_2) = some (r1, r2) := H; have A18 := am A180; clear A180; have H' := am H; clear H; obtain ⟨Ao19, co19, eo19⟩ := Kd.R_slice HO_13.out; subst eo19; go_wp2_with (first | (go_at_call 32; (with_reducible refine (slices_ContainsFunc_string_string.calls _ _ t438 t441 _ ?side1 ?side2 A18.out).mono ?_); (case side1 => repeat (first | exact (Kd.R_reads' HO_13.out).2.2 | (with_reducible refine Kd.C_alloc ?_ _) | (with_reducible refine Kd.C_drewN ?_ _) | (with_reducible refine Kd.C_drew ?_))); (case side2 => exact (Kd.R_reads' HO_13.out).2.1); rintro e w20 ⟨rfl, hb⟩; replace HO_13 := am (Kd.R_below (apAR HO_13.out) hb); replace BK437 := am (blk_below (g := gb437) (o := .cells #[.string a0_0, .int .i64 a0_1, .bool a0_2] 23 (0, 0)) (apB BK437.out) hb); replace HB := am (below_step (apG GE437.out) hb))); (first | go_meet | (simp only [c12b0] at *; go_meet) | (simp only [c12b0] at *; go_meet) | (simp only [c10b0] at *; go_meet)); case rel => exact ⟨_, (!t441), ap2, H', ⟨by have := HJ6.out; first | omega | exact Nat.le_refl _⟩, ⟨apAR HO_13.out⟩, ⟨apB BK437.out⟩, ⟨apG1 GE437.out⟩⟩
    ·rintro rfl H; have H' := am H; clear H; go_wp2; (first | go_meet | (simp only [c12b0] at *; go_meet) | (simp only [c12b0] at *; go_meet) | (simp only [c10b0] at *; go_meet)); case rel => exact ⟨_, (true), ap2, H', ⟨by have := HJ6.out; first | omega | exact Nat.le_refl _⟩, ⟨apAR HO_13.out⟩, ⟨apB BK437.out⟩, ⟨apG1 GE437.out⟩⟩
   case rest =>
    clear HC15; (try clear c3); obtain ⟨kq, x56_14, rfl, HA, HJ14, HO_13, BK437, HB⟩ := hcut; cases kq with
    | zero => exact absurd HA.out (by simp [attr_Part.j1])
    | succ kj14 =>
     have H := HA.out; clear HA; simp only [attr_Part.j1] at H; revert H; refine spb ?_ ?_
     ·rintro rfl H; simp only [Option.some.injEq, Prod.mk.injEq] at H; obtain ⟨rfl, rfl⟩ := H; go_wp2; go_ret2; exact ⟨ap9, apG1 GE437.out⟩
     ·rintro rfl H; replace H := Option.bind_eq_some_iff.mp H; obtain ⟨⟨t442, t443⟩, A220, H⟩ := H; replace H : (if t443 = 0 then (attr_Part.l0 kj14 t438 t442 (t438.length : Int) 0 a0_0 a0_1 a0_2) else (some (false, t443))) = some (r1, r2) := H; have A22 := am A220; clear A220; revert H; refine spe01 ?_ ?_
      ·intro c23b0 c23b1 H; have H' := am H; clear H; obtain ⟨hcz24_0, hcz24_1, hcz24_2, hfz24_0, hfz24_1, hfz24_2⟩ := bc3 BK437.out; go_wp2_with (first | ((with_reducible refine gate_callee (f := 19) rfl ?_); refine goesL_ (some 60) rfl rfl Tryz.func19 (by kernel_rfl) rfl #[.agg #[.string a0_0, .int .i64 a0_1, .bool a0_2], .string a1] rfl ap3 ?_; (with_reducible refine (attr_Normal.calls kj14 a0_0 a0_1 a0_2 a1 t442 t443 _ ?side1 A22.out).mono ?_); (case side1 => exact apH1 GE437.out); rintro e w25 ⟨rfl, hb⟩; refine ⟨_, rfl, ?_⟩; replace HO_13 := am (Kd.R_below (apAR HO_13.out) hb); replace BK437 := am (blk_below (g := gb437) (o := .cells #[.string a0_0, .int .i64 a0_1, .bool a0_2] 23 (0, 0)) (apB BK437.out) hb); replace HB := am (below_step (apG GE437.out) hb); obtain ⟨Ao26, co26, eo26⟩ := Kd.R_slice HO_13.out; subst eo26)); go_loopg [68] kj14 (fun kq v68 w' => ∃ (x13_3 : List ByteArray) (x68_3 : Int), v68 = .int .i64 x68_3 ∧ Aside0 (attr_Part.l0 kq x13_3 t442 (t438.length : Int) x68_3 a0_0 a0_1 a0_2 = some (r1, r2)) ∧ Aside0 (kq ≤ kj14) ∧ Aside0 (Kd.R Kd.string 9 w' w.heap.size (fun _ => True) (.slice Ao26 t438.length co26) x13_3) ∧ Aside0 (w'.heap[gb437]? = some (.cells #[.string a0_0, .int .i64 a0_1, .bool a0_2] 23 (0, 0))) ∧ Aside0 (Below w.heap.size w w')); (case atStart => exact ⟨(t438), (0), ap2, H', ⟨Nat.le_refl _⟩, ⟨apAR HO_13.out⟩, ⟨apB BK437.out⟩, ⟨apG1 GE437.out⟩⟩); case round =>
        clear H'; (try clear c3); (try clear c21); (try clear c23); (try clear c23b0); (try clear c23b1); (try clear hcz24_0); (try clear hcz24_1); (try clear hcz24_2); (try clear hfz24_0); (try clear hfz24_1); (try clear hfz24_2); obtain ⟨x13_3, x68_3, rfl, HA, HK3, HO_13, BK437, HB⟩ := hrel; have hl13_3 := (Kd.R_reads' HO_13.out).1; rw [hl13_3] at HO_13; (try simp only [hl13_3]); (try simp only [hl13_3] at BK437); cases gk with
        | zero => exact absurd HA.out (by simp [attr_Part.l0])
        | succ k3 =>
         have H := HA.out; clear HA; simp only [attr_Part.l0] at H; revert H; refine spd01 ?_ ?_
         ·intro c27b0 H; revert H; refine spn0 ?_; intro c28b0 H; revert H; refine spn0 ?_; intro c29b0 H; replace H := Option.bind_eq_some_iff.mp H; obtain ⟨⟨t445, t446⟩, A300, H⟩ := H; replace H : (if t446 = 0 then (attr_Part.l0 k3 (x13_3.set (x68_3 : Int).toNat t445) t442 (t438.length : Int) (wrap64 (x68_3 + 1)) a0_0 a0_1 a0_2) else (some (false, t446))) = some (r1, r2) := H; have A30 := am A300; clear A300; revert H; refine spe01 ?_ ?_
          ·intro c31b0 c31b1 H; obtain ⟨y447, hy447⟩ : ∃ y_ : List ByteArray, y_ = (x13_3.set (x68_3 : Int).toNat t445) := ⟨_, rfl⟩; replace H : (attr_Part.l0 k3 y447 t442 (t438.length : Int) (wrap64 (x68_3 + 1)) a0_0 a0_1 a0_2) = some (r1, r2) := apY hy447 H; have Ny447 := am hy447; clear hy447; have H' := am H; clear H; have p444 : 0 ≤ (x68_3 : Int) := apD; have q444 : x68_3 < (x13_3.length : Int) := apD; obtain ⟨ad444, e444, hx444_0⟩ := Kd.at_string (Kd.R_reads' HO_13.out).2.2 x68_3 p444 q444; cases e444; replace p444 := eq_true p444; replace q444 := eq_true q444; obtain ⟨hcz33_0, hcz33_1, hcz33_2, hfz33_0, hfz33_1, hfz33_2⟩ := bc3 BK437.out; go_wp2_with (first | ((with_reducible refine gate_callee (f := 33) rfl ?_); refine goesL_ (some 76) rfl rfl Tryz.func33 (by kernel_rfl) rfl #[.agg #[.string a0_0, .int .i64 a0_1, .bool a0_2], .string (rdOf ByteArray.empty x13_3 x68_3)] rfl ap3 ?_; (with_reducible refine (attr_piece.calls k3 a0_0 a0_1 a0_2 (rdOf ByteArray.empty x13_3 x68_3) t445 t446 _ ?side1 A30.out).mono ?_); (case side1 => exact apH1 GE437.out); rintro e w34 ⟨rfl, hb⟩; refine ⟨_, rfl, ?_⟩; replace HO_13 := am (Kd.R_below (apAR HO_13.out) hb); replace BK437 := am (blk_below (g := gb437) (o := .cells #[.string a0_0, .int .i64 a0_1, .bool a0_2] 23 (0, 0)) (apB BK437.out) hb); replace HB := am (below_step (apG GE437.out) hb); have p32 : 0 ≤ (x68_3 : Int) := apD; have q32 : (x68_3 : Int) < ((x13_3.length : Int) : Int) := apD; obtain ⟨go32, co32, eo32, gb32, gl32, cl32, HG32⟩ := Kd.R_form HO_13.out (by omega); (first | cases eo32 | (injection eo32 with ea_ en_ ec_; (first | subst ea_ | (injection ea_ with ea_; subst ea_)); subst ec_; clear en_)); have GB32 := am gb32; have GG32 := am HG32; clear gb32 gl32 HG32; (first | simp only [add_plain] at hx444_0 | skip); obtain ⟨hx32_0, hf32_0⟩ := Kd.R_celln (⟨#[]⟩ : ByteArray) HO_13.out (x68_3 : Int) p32 q32; replace p32 := eq_true p32; replace q32 := eq_true q32; obtain ⟨hy35_, hz35_⟩ := Kd.R_celln (⟨#[]⟩ : ByteArray) HO_13.out (x68_3 : Int) (apD) (apD); have HP35 := Kd.R_putg HO_13.out (x68_3 : Int) t445) | ((with_reducible refine gate_store (t := 9) (p := 85) rfl ?_); refine store_event (t := 9) (p := 85) (v := ?vo_w36) (w1 := (w34.setCell ⟨go32, (x68_3 : Int).toNat, none⟩ (.string t445))) ?hg ?ho ?hn ?hr ?_; (case ho => rfl); (case hg => rfl); (case hn => rfl); (case hr => first | (go_simp; done) | (go_simp; rfl)); intro w36 hw; have hg : w34.grownBy w36 (some go32) := (by rw [hw]; exact HP35.2); have hp_ : Kd.R Kd.string 9 w36 w.heap.size (fun _ => True) (.slice (some ⟨go32, 0, none⟩) x13_3.length co26) y447 := (by rw [hw, Ny447.out]; exact HP35.1); clear HP35; have n0_ := am (hp_); have n1_ := am (blk_grown (g := gb437) (o := .cells #[.string a0_0, .int .i64 a0_1, .bool a0_2] 23 (0, 0)) (apB BK437.out) hg (Kd.R_ne HO_13.out BK437.out (by decide))); have n2_ := am ((by rw [hw]; exact below_set (HB.out) GB32.out : Below w.heap.size w w36)); clear HO_13; clear BK437; clear HB; have HO_13 := n0_; have BK437 := n1_; have HB := n2_; clear n0_ n1_ n2_; clear hg hw hp_)); (try simp only [← hl13_3]); go_roundg k3; (case measure => have := HJ6.out; have := HJ14.out; have := HK3.out; omega); case rel => exact ⟨(y447), (wrap64 (x68_3 + 1)), ap2, H', ⟨by have := HJ6.out; have := HJ14.out; have := HK3.out; omega⟩, ⟨by (try simp only [hl13_3]); (with_reducible repeat (first | apply Kd.R_alloc | apply Kd.R_drewN | apply Kd.R_drew)); exact HO_13.out⟩, ⟨by (try simp only [hl13_3]); (with_reducible repeat (first | refine blk_drewN ?_ _ | refine blk_drew ?_ | refine blk_alloc ?_ _)); exact BK437.out⟩, ⟨apG1 GE437.out⟩⟩
          ·intro c31 c31b0 c31b1 H; simp only [Option.some.injEq, Prod.mk.injEq] at H; obtain ⟨rfl, rfl⟩ := H; have p444 : 0 ≤ (x68_3 : Int) := apD; have q444 : x68_3 < (x13_3.length : Int) := apD; obtain ⟨ad444, e444, hx444_0⟩ := Kd.at_string (Kd.R_reads' HO_13.out).2.2 x68_3 p444 q444; cases e444; replace p444 := eq_true p444; replace q444 := eq_true q444; obtain ⟨hcz37_0, hcz37_1, hcz37_2, hfz37_0, hfz37_1, hfz37_2⟩ := bc3 BK437.out; go_wp2_with (first | ((with_reducible refine gate_callee (f := 33) rfl ?_); refine goesL_ (some 76) rfl rfl Tryz.func33 (by kernel_rfl) rfl #[.agg #[.string a0_0, .int .i64 a0_1, .bool a0_2], .string (rdOf ByteArray.empty x13_3 x68_3)] rfl ap3 ?_; (with_reducible refine (attr_piece.calls k3 a0_0 a0_1 a0_2 (rdOf ByteArray.empty x13_3 x68_3) t445 t446 _ ?side1 A30.out).mono ?_); (case side1 => exact apH1 GE437.out); rintro e w38 ⟨rfl, hb⟩; refine ⟨_, rfl, ?_⟩; replace HO_13 := am (Kd.R_below (apAR HO_13.out) hb); replace BK437 := am (blk_below (g := gb437) (o := .cells #[.string a0_0, .int .i64 a0_1, .bool a0_2] 23 (0, 0)) (apB BK437.out) hb); replace HB := am (below_step (apG GE437.out) hb))); go_ret2; exact ⟨ap9, apG1 GE437.out⟩
         ·intro c27 c27b0 H; have c27b9 : decide (x68_3 < (x13_3.length : Int)) = false := by rw [← hl13_3]; exact c27b0
          have c27b9 : decide (x68_3 < (x13_3.length : Int)) = false := by rw [← hl13_3]; exact c27b0
          have c27b9 : decide (x68_3 < (x13_3.length : Int)) = false := by rw [← hl13_3]; exact c27b0
          clear c27; revert H; refine spn1 ?_; intro c39 c39b0 H; have c39b1 : decide (0 < x13_3.length) = true := decide_eq_true (by omega); clear c39; replace H := Option.bind_eq_some_iff.mp H; obtain ⟨⟨t449, t450⟩, A400, H⟩ := H; replace H : (if t450 = true then (if 0 ≤ (wrap64 ((x13_3.length : Int) - 1)) then (if (wrap64 ((x13_3.length : Int) - 1)) < (x13_3.length : Int) then ((strings_CutSuffix.f t449 (rdOf ByteArray.empty x13_3 (wrap64 ((x13_3.length : Int) - 1)))).bind fun bt452 => (if 1 ≤ (wrap64 ((x13_3.length : Int) - 1)) then (if (wrap64 ((x13_3.length : Int) - 1)) ≤ (x13_3.length : Int) then ((some ((x13_3.take ((wrap64 ((x13_3.length : Int) - 1)) : Int).toNat).drop 1 : List ByteArray)).bind fun y454 => (attr_Part.l1 k3 bt452.1 bt452.2 y454 (y454.length : Int) 0)) else (none)) else (none))) else (none)) else (none)) else (some (false, 0))) = some (r1, r2) := H; have A40 := am A400; clear A400; revert H; refine spb ?_ ?_
          ·rintro rfl H; obtain ⟨ji42, hji42⟩ : ∃ j_ : Int, (wrap64 ((x13_3.length : Int) - 1)) = j_ := ⟨_, rfl⟩; replace H : (if 0 ≤ (ji42) then (if (ji42) < (x13_3.length : Int) then ((strings_CutSuffix.f t449 (rdOf ByteArray.empty x13_3 (ji42))).bind fun bt452 => (if 1 ≤ (ji42) then (if (ji42) ≤ (x13_3.length : Int) then ((some ((x13_3.take ((ji42) : Int).toNat).drop 1 : List ByteArray)).bind fun y454 => (attr_Part.l1 k3 bt452.1 bt452.2 y454 (y454.length : Int) 0)) else (none)) else (none))) else (none)) else (none)) = some (r1, r2) := by first | (rw [hji42] at H; exact H) | (simp only [hji42] at H ⊢; exact H)
           (try rw [hji42] at A40); have hji42w : (IntKind.i64.wrap ((x13_3.length : Int) - 1)) = ji42 := (i64_w _).trans hji42; revert H; refine spn0 ?_; intro c43b0 H; revert H; refine spn0 ?_; intro c44b0 H; replace H := Option.bind_eq_some_iff.mp H; obtain ⟨⟨t452, t453⟩, A450, H⟩ := H; replace H : (if 1 ≤ (ji42) then (if (ji42) ≤ (x13_3.length : Int) then ((some ((x13_3.take ((ji42) : Int).toNat).drop 1 : List ByteArray)).bind fun y454 => (attr_Part.l1 k3 t452 t453 y454 (y454.length : Int) 0)) else (none)) else (none)) = some (r1, r2) := H; have A45 := am A450; clear A450; by_cases c46 : 1 ≤ (ji42)
           ·rw [if_pos c46] at H; have c46b0 := eq_true c46; have c46b1 := decide_eq_true c46; clear c46; by_cases c47 : (ji42) ≤ (x13_3.length : Int)
            ·rw [if_pos c47] at H; have c47b0 := eq_true c47; have c47b1 := decide_eq_true c47; clear c47; obtain ⟨y454, hy454⟩ : ∃ y_ : List ByteArray, y_ = ((x13_3.take ((ji42) : Int).toNat).drop 1) := ⟨_, rfl⟩; replace H : (attr_Part.l1 k3 t452 t453 y454 (y454.length : Int) 0) = some (r1, r2) := apY hy454 H; have Ny454 := am hy454; clear hy454; have H' := am H; clear H; have p448 : 0 ≤ (0 : Int) := (by omega); have q448 : 0 < (x13_3.length : Int) := apD; obtain ⟨ad448, e448, hx448_0⟩ := Kd.at_string (Kd.R_reads' HO_13.out).2.2 0 p448 q448; cases e448; have qi448 : (0 < x13_3.length) = True := eq_true (by omega); (try rw [show ((0 : Int)).toNat = 0 from rfl] at hx448_0); (try rw [Addr.add_zero'] at hx448_0); replace p448 := eq_true p448; replace q448 := eq_true q448; go_wp2_with (first | ((with_reducible refine gate_callee (f := 34) rfl ?_); refine goesL_ (some 92) rfl rfl Tryz.func34 (by kernel_rfl) rfl #[.string t442, .string (rdOf ByteArray.empty x13_3 0)] rfl ap3 ?_; (with_reducible refine (strings_CutPrefix.calls t442 (rdOf ByteArray.empty x13_3 0) t449 true _ A40.out).mono ?_); rintro e w' ⟨rfl, ⟨nd, rfl⟩⟩; refine ⟨_, rfl, ?_⟩; have p451 : 0 ≤ ((ji42) : Int) := apD; have q451 : (ji42) < (x13_3.length : Int) := apD; obtain ⟨ad451, e451, hx451_0⟩ := Kd.at_string (Kd.R_reads' HO_13.out).2.2 (ji42) p451 q451; obtain rfl : ad448 = ad451 := (by injection e451); replace p451 := eq_true p451; replace q451 := eq_true q451) | ((with_reducible refine gate_callee (f := 35) rfl ?_); refine goesL_ (some 105) rfl rfl Tryz.func35 (by kernel_rfl) rfl #[.string t449, .string (rdOf ByteArray.empty x13_3 (ji42))] rfl (by (try simp only [List.map_toArray, List.map_cons, List.map_nil]); first | done | (simp only [hji42]; rfl) | rfl | (simp only [List.length_drop, List.length_take]; rfl)) ?_; (with_reducible refine (strings_CutSuffix.calls t449 (rdOf ByteArray.empty x13_3 (ji42)) t452 t453 _ A45.out).mono ?_); rintro e w' ⟨rfl, ⟨nd, rfl⟩⟩; refine ⟨_, rfl, ?_⟩; have q48 : ((ji42) : Int) ≤ ((x13_3.length : Int) : Int) := apD; obtain ⟨i048, hi048, _, hsz48, _⟩ := info_parts info9; have hroom48 : x13_3.length ≤ co26 := (Kd.R_reads' HO_13.out).2.1; have hC48 : Kd.C Kd.string _ (some ad448) x13_3.length x13_3 := (Kd.R_reads' HO_13.out).2.2; have ql48 : (1 : Int) ≤ ((ji42) : Int) := apD; have hcut48 := cut_mid (P := Tryz.prog) 31 9 .i64 .i64 Tryz.underlying31 hi048 1 hsz48 (some ad448) x13_3.length co26 1 (ji42) (by omega) ql48 q48 hroom48; have hr48 := Kd.C_mid (lo := (1 : Int).toNat) (hi := ((ji42) : Int).toNat) (c := co26) hC48 (by omega) (by omega) hroom48; obtain ⟨A48, hA48⟩ : ∃ A1, A1 = (if co26 = (1 : Int).toNat then (some ad448) else ((some ad448) : Option Addr).map (·.add ((1 : Int).toNat * 1))) := ⟨_, rfl⟩; obtain ⟨c48, hc48⟩ : ∃ c1, c1 = co26 - (1 : Int).toNat := ⟨_, rfl⟩; have hy48 : y454.length = ((ji42) : Int).toNat - (1 : Int).toNat := (by rw [Ny454.out, List.length_drop, List.length_take] <;> omega); rw [show ((x13_3).take ((ji42) : Int).toNat).drop (1 : Int).toNat = y454 from Ny454.out.symm] at hr48; replace hr48 : Kd.C Kd.string _ A48 y454.length y454 := (by rw [hA48]; exact hr48); rw [← hy48, ← hA48, ← hc48] at hcut48; have HR457 := am hr48; have HC457 := am (show y454.length ≤ c48 from by rw [hy48, hc48]; exact Nat.sub_le_sub_right (Nat.le_trans (by omega) hroom48) _); clear hr48 hC48 hroom48 hi048 hsz48 hc48; have KY48 := am hy48; have KA48 := am hA48; clear hy48 hA48; have KL48 := am (show ((ji42) : Int).toNat ≤ x13_3.length from by omega); have KM48 := am (show 1 ≤ ((ji42) : Int).toNat from by omega); replace q48 := eq_true q48)); go_loopg [15, 21, 114] k3 (fun kq v15 v21 v114 w' => ∃ (x15_4 : ByteArray) (x21_4 : Bool) (x114_4 : Int), v15 = .string x15_4 ∧ v21 = .bool x21_4 ∧ v114 = .int .i64 x114_4 ∧ Aside0 (attr_Part.l1 kq x15_4 x21_4 y454 (y454.length : Int) x114_4 = some (r1, r2)) ∧ Aside0 (kq ≤ k3) ∧ Aside0 (w'.heap[gb437]? = some (.cells #[.string a0_0, .int .i64 a0_1, .bool a0_2] 23 (0, 0))) ∧ Aside0 (Kd.C Kd.string w' A48 y454.length y454) ∧ Aside0 (Below w.heap.size w w')); (case atStart => exact ⟨(t452), (t453), (0), ap2, ap2, ap2, H', ⟨Nat.le_refl _⟩, ⟨by (try simp only [hl13_3]); (with_reducible repeat (first | refine blk_drewN ?_ _ | refine blk_drew ?_ | refine blk_alloc ?_ _)); exact BK437.out⟩, ⟨by repeat (first | (with_reducible exact HR457.out) | (with_reducible refine Kd.C_alloc ?_ _) | (with_reducible refine Kd.C_drewN ?_ _) | (with_reducible refine Kd.C_drew ?_) | exact HR457.out)⟩, ⟨apG1 GE437.out⟩⟩); case round =>
              clear H'; (try clear c1); (try clear c3); (try clear c21); (try clear c23); (try clear c23b0); (try clear c23b1); (try clear c27); (try clear c27b0); (try clear c39); (try clear c39b0); (try clear c39b1); (try clear c41); (try clear c43); (try clear c43b0); (try clear c44); (try clear c44b0); (try clear c46); (try clear c46b0); (try clear c46b1); (try clear c47); (try clear c47b0); (try clear c47b1); (try clear c48); (try clear q48); (try clear hcz24_0); (try clear hcz24_1); (try clear hcz24_2); (try clear hfz24_0); (try clear hfz24_1); (try clear hfz24_2); (try clear hx448_0); (try clear hx451_0); (try clear p448); (try clear p451); (try clear q448); (try clear q451); (try clear q48); obtain ⟨x15_4, x21_4, x114_4, rfl, rfl, rfl, HA, HK4, BK437, HR457, HB⟩ := hrel; cases gk with
              | zero => exact absurd HA.out (by simp [attr_Part.l1])
              | succ k4 =>
               have H := HA.out; clear HA; simp only [attr_Part.l1] at H; revert H; refine spd00 ?_ ?_
               ·intro c49b0 H; revert H; refine spn0 ?_; intro c50b0 H; revert H; refine spn0 ?_; intro c51b0 H; revert H; refine spb ?_ ?_
                ·rintro rfl H; replace H := Option.bind_eq_some_iff.mp H; obtain ⟨⟨t459, t460, t461⟩, A530, H⟩ := H; replace H : (attr_Part.l1 k4 t460 t461 y454 (y454.length : Int) (wrap64 (x114_4 + 1))) = some (r1, r2) := H; have A53 := am A530; clear A530; have H' := am H; clear H; have p458 : 0 ≤ (x114_4 : Int) := apD; have q458 : x114_4 < (y454.length : Int) := apD; obtain ⟨ad458, e458, hx458_0⟩ := Kd.at_string HR457.out x114_4 p458 q458; cases e458; (try replace hx458_0 := (HB.out.cell (World.block_lt_of_cell? w _ hx458_0)).trans hx458_0); replace p458 := eq_true p458; replace q458 := eq_true q458; go_wp2_with (first | ((with_reducible refine gate_callee (f := 36) rfl ?_); refine goesL_ (some 123) rfl rfl Tryz.func36 (by kernel_rfl) rfl #[.string x15_4, .string (rdOf ByteArray.empty y454 x114_4)] rfl ap3 ?_; (with_reducible refine (strings_Cut.calls x15_4 (rdOf ByteArray.empty y454 x114_4) t459 t460 t461 _ ?side1 A53.out).mono ?_); (case side1 => exact apH1 GE437.out); rintro e w54 ⟨rfl, hb⟩; refine ⟨_, rfl, ?_⟩; replace BK437 := am (blk_below (g := gb437) (o := .cells #[.string a0_0, .int .i64 a0_1, .bool a0_2] 23 (0, 0)) (apB BK437.out) hb); replace HR457 := am (Kd.C_below (apC HR457.out) hb); replace HB := am (below_step (apG GE437.out) hb))); go_roundg k4; (case measure => have := HJ6.out; have := HJ14.out; have := HK3.out; have := HK4.out; omega); case rel => exact ⟨(t460), (t461), (wrap64 (x114_4 + 1)), ap2, ap2, ap2, H', ⟨by have := HJ6.out; have := HJ14.out; have := HK3.out; have := HK4.out; omega⟩, ⟨by (try simp only [hl13_3]); (with_reducible repeat (first | refine blk_drewN ?_ _ | refine blk_drew ?_ | refine blk_alloc ?_ _)); exact BK437.out⟩, ⟨by repeat (first | (with_reducible exact HR457.out) | (with_reducible refine Kd.C_alloc ?_ _) | (with_reducible refine Kd.C_drewN ?_ _) | (with_reducible refine Kd.C_drew ?_) | exact HR457.out)⟩, ⟨apG1 GE437.out⟩⟩
                ·rintro rfl H; simp only [Option.some.injEq, Prod.mk.injEq] at H; obtain ⟨rfl, rfl⟩ := H; have p458 : 0 ≤ (x114_4 : Int) := apD; have q458 : x114_4 < (y454.length : Int) := apD; obtain ⟨ad458, e458, hx458_0⟩ := Kd.at_string HR457.out x114_4 p458 q458; cases e458; (try replace hx458_0 := (HB.out.cell (World.block_lt_of_cell? w _ hx458_0)).trans hx458_0); replace p458 := eq_true p458; replace q458 := eq_true q458; go_wp2; go_ret2; exact ⟨by first | rfl | (simp [errW_none, errW_some, bne_nil8, beq_nil8]; done) | (simp [errW_none, errW_some] <;> rfl) | (simp only [← hji42]; first | rfl | (simp [errW_none, errW_some] <;> rfl)) | (simp [*, errW_none, errW_some] <;> rfl), apG1 GE437.out⟩
               ·intro c49b0 H; simp only [Option.some.injEq, Prod.mk.injEq] at H; obtain ⟨rfl, rfl⟩ := H; go_wp2; go_ret2; exact ⟨by first | rfl | (simp [errW_none, errW_some, bne_nil8, beq_nil8]; done) | (simp [errW_none, errW_some] <;> rfl) | (simp only [← hji42]; first | rfl | (simp [errW_none, errW_some] <;> rfl)) | (simp [*, errW_none, errW_some] <;> rfl), apG1 GE437.out⟩
            ·rw [if_neg c47] at H; exact absurd H (by simp)
           ·rw [if_neg c46] at H; exact absurd H (by simp)
          ·rintro rfl H; simp only [Option.some.injEq, Prod.mk.injEq] at H; obtain ⟨rfl, rfl⟩ := H; have p448 : 0 ≤ (0 : Int) := (by omega); have q448 : 0 < (x13_3.length : Int) := apD; obtain ⟨ad448, e448, hx448_0⟩ := Kd.at_string (Kd.R_reads' HO_13.out).2.2 0 p448 q448; cases e448; have qi448 : (0 < x13_3.length) = True := eq_true (by omega); (try rw [show ((0 : Int)).toNat = 0 from rfl] at hx448_0); (try rw [Addr.add_zero'] at hx448_0); replace p448 := eq_true p448; replace q448 := eq_true q448; go_wp2_with (first | ((with_reducible refine gate_callee (f := 34) rfl ?_); refine goesL_ (some 92) rfl rfl Tryz.func34 (by kernel_rfl) rfl #[.string t442, .string (rdOf ByteArray.empty x13_3 0)] rfl ap3 ?_; (with_reducible refine (strings_CutPrefix.calls t442 (rdOf ByteArray.empty x13_3 0) t449 false _ A40.out).mono ?_); rintro e w' ⟨rfl, ⟨nd, rfl⟩⟩; refine ⟨_, rfl, ?_⟩)); go_ret2; exact ⟨ap9, apG1 GE437.out⟩
      ·intro c23 c23b0 c23b1 H; simp only [Option.some.injEq, Prod.mk.injEq] at H; obtain ⟨rfl, rfl⟩ := H; obtain ⟨hcz55_0, hcz55_1, hcz55_2, hfz55_0, hfz55_1, hfz55_2⟩ := bc3 BK437.out; go_wp2_with (first | ((with_reducible refine gate_callee (f := 19) rfl ?_); refine goesL_ (some 60) rfl rfl Tryz.func19 (by kernel_rfl) rfl #[.agg #[.string a0_0, .int .i64 a0_1, .bool a0_2], .string a1] rfl ap3 ?_; (with_reducible refine (attr_Normal.calls kj14 a0_0 a0_1 a0_2 a1 t442 t443 _ ?side1 A22.out).mono ?_); (case side1 => exact apH1 GE437.out); rintro e w56 ⟨rfl, hb⟩; refine ⟨_, rfl, ?_⟩; replace HO_13 := am (Kd.R_below (apAR HO_13.out) hb); replace BK437 := am (blk_below (g := gb437) (o := .cells #[.string a0_0, .int .i64 a0_1, .bool a0_2] 23 (0, 0)) (apB BK437.out) hb); replace HB := am (below_step (apG GE437.out) hb))); go_ret2; exact ⟨ap9, apG1 GE437.out⟩
def L16awake.f (k : Nat)  : Option (Bool) := (attr_Find.f (⟨#[67, 78]⟩ : ByteArray)).bind fun bt462 => ((attr_Find.f (⟨#[117, 105, 100, 110, 117, 109, 98, 101, 114]⟩ : ByteArray)).bind fun bt467 => ((attr_Equal.f k bt462.1 bt462.2.1 bt462.2.2.1 (⟨#[65, 110, 110, 32, 32, 66]⟩ : ByteArray) (⟨#[97, 110, 110, 32, 98]⟩ : ByteArray)).bind fun bt472 => ((attr_Order.f k bt467.1 bt467.2.1 bt467.2.2.1 (⟨#[57]⟩ : ByteArray) (⟨#[49, 48]⟩ : ByteArray)).bind fun bt474 => ((attr_Part.f k bt462.1 bt462.2.1 bt462.2.2.1 (⟨#[65, 110, 110, 97, 98, 101, 108]⟩ : ByteArray) (⟨#[97, 110]⟩ : ByteArray) ([] : List ByteArray) (⟨#[101, 108]⟩ : ByteArray)).bind fun bt476 => (if bt462.2.2.2 = true then (if bt467.2.2.2 = true then (if bt472.1 = true then (if bt472.2 = 0 then (if bt474.1 = (-1) then (if bt474.2 = 0 then (if bt476.1 = true then (some (bt476.2 == 0)) else (some false)) else (some false)) else (some false)) else (some false)) else (some false)) else (some false)) else (some false))))))
theorem L16awake.mono : ∀ k, LeO (L16awake.f k ) (L16awake.f (k + 1) ) := by
 intro  k; unfold L16awake.f; repeat' first
   | (with_reducible exact attr_Equal.mono _ _ _ _ _ _)
   | (with_reducible exact attr_Order.mono _ _ _ _ _ _)
   | (with_reducible exact attr_Part.mono _ _ _ _ _ _ _ _)
   | (with_reducible exact LeO.refl _)
   | (with_reducible exact LeO.none _)
   | (with_reducible refine LeO.ite ?_ ?_)
   | (with_reducible refine LeO.bind ?_ (fun _ => ?_))
set_option maxHeartbeats 8000000 in
set_option maxRecDepth 100000 in
theorem L16awake.le (r : Bool) : ∀ d k, L16awake.f k = some r → L16awake.f (k + d) = some r
 | 0, k, h => h
 | d + 1, k, h => L16awake.mono (k + d) r (L16awake.le r d k h)
theorem L16awake.yes {k : Nat} {r : Bool} (h : L16awake.f k = some r) : r = true := by
 have h1 := L16awake.le r 60 k h; have h2 := L16awake.le true k 60 (by kernel_rfl); rw [Nat.add_comm] at h2; exact Option.some.inj (h1.symm.trans h2)
theorem L16awake.calls (k : Nat)  (r : Bool) (w : World) (hG : Gw w) (h : L16awake.f k  = some r) :
  Calls Tryz.prog 9 #[] w fun e w' => e = .returned (.bool r) ∧ Below w.heap.size w w' := by
 have hu23 := Tryz.underlying23
 have HB := am (Below.refl w.heap.size w)
 have HG := am hG
 clear hG
 have hyes := am (L16awake.yes h)
 have H : ((attr_Find.f (⟨#[67, 78]⟩ : ByteArray)).bind fun bt462 => ((attr_Find.f (⟨#[117, 105, 100, 110, 117, 109, 98, 101, 114]⟩ : ByteArray)).bind fun bt467 => ((attr_Equal.f k bt462.1 bt462.2.1 bt462.2.2.1 (⟨#[65, 110, 110, 32, 32, 66]⟩ : ByteArray) (⟨#[97, 110, 110, 32, 98]⟩ : ByteArray)).bind fun bt472 => ((attr_Order.f k bt467.1 bt467.2.1 bt467.2.2.1 (⟨#[57]⟩ : ByteArray) (⟨#[49, 48]⟩ : ByteArray)).bind fun bt474 => ((attr_Part.f k bt462.1 bt462.2.1 bt462.2.2.1 (⟨#[65, 110, 110, 97, 98, 101, 108]⟩ : ByteArray) (⟨#[97, 110]⟩ : ByteArray) ([] : List ByteArray) (⟨#[101, 108]⟩ : ByteArray)).bind fun bt476 => (if bt462.2.2.2 = true then (if bt467.2.2.2 = true then (if bt472.1 = true then (if bt472.2 = 0 then (if bt474.1 = (-1) then (if bt474.2 = 0 then (if bt476.1 = true then (some (bt476.2 == 0)) else (some false)) else (some false)) else (some false)) else (some false)) else (some false)) else (some false)) else (some false))))))) = some r := h
 clear h
 replace H := Option.bind_eq_some_iff.mp H
 obtain ⟨⟨t462, t463, t464, t465⟩, A10, H⟩ := H
 replace H : ((attr_Find.f (⟨#[117, 105, 100, 110, 117, 109, 98, 101, 114]⟩ : ByteArray)).bind fun bt467 => ((attr_Equal.f k t462 t463 t464 (⟨#[65, 110, 110, 32, 32, 66]⟩ : ByteArray) (⟨#[97, 110, 110, 32, 98]⟩ : ByteArray)).bind fun bt472 => ((attr_Order.f k bt467.1 bt467.2.1 bt467.2.2.1 (⟨#[57]⟩ : ByteArray) (⟨#[49, 48]⟩ : ByteArray)).bind fun bt474 => ((attr_Part.f k t462 t463 t464 (⟨#[65, 110, 110, 97, 98, 101, 108]⟩ : ByteArray) (⟨#[97, 110]⟩ : ByteArray) ([] : List ByteArray) (⟨#[101, 108]⟩ : ByteArray)).bind fun bt476 => (if t465 = true then (if bt467.2.2.2 = true then (if bt472.1 = true then (if bt472.2 = 0 then (if bt474.1 = (-1) then (if bt474.2 = 0 then (if bt476.1 = true then (some (bt476.2 == 0)) else (some false)) else (some false)) else (some false)) else (some false)) else (some false)) else (some false)) else (some false)))))) = some r := H
 have A1 := am A10
 clear A10
 replace H := Option.bind_eq_some_iff.mp H
 obtain ⟨⟨t467, t468, t469, t470⟩, A20, H⟩ := H
 replace H : ((attr_Equal.f k t462 t463 t464 (⟨#[65, 110, 110, 32, 32, 66]⟩ : ByteArray) (⟨#[97, 110, 110, 32, 98]⟩ : ByteArray)).bind fun bt472 => ((attr_Order.f k t467 t468 t469 (⟨#[57]⟩ : ByteArray) (⟨#[49, 48]⟩ : ByteArray)).bind fun bt474 => ((attr_Part.f k t462 t463 t464 (⟨#[65, 110, 110, 97, 98, 101, 108]⟩ : ByteArray) (⟨#[97, 110]⟩ : ByteArray) ([] : List ByteArray) (⟨#[101, 108]⟩ : ByteArray)).bind fun bt476 => (if t465 = true then (if t470 = true then (if bt472.1 = true then (if bt472.2 = 0 then (if bt474.1 = (-1) then (if bt474.2 = 0 then (if bt476.1 = true then (some (bt476.2 == 0)) else (some false)) else (some false)) else (some false)) else (some false)) else (some false)) else (some false)) else (some false))))) = some r := H
 have A2 := am A20
 clear A20
 replace H := Option.bind_eq_some_iff.mp H
 obtain ⟨⟨t472, t473⟩, A30, H⟩ := H
 replace H : ((attr_Order.f k t467 t468 t469 (⟨#[57]⟩ : ByteArray) (⟨#[49, 48]⟩ : ByteArray)).bind fun bt474 => ((attr_Part.f k t462 t463 t464 (⟨#[65, 110, 110, 97, 98, 101, 108]⟩ : ByteArray) (⟨#[97, 110]⟩ : ByteArray) ([] : List ByteArray) (⟨#[101, 108]⟩ : ByteArray)).bind fun bt476 => (if t465 = true then (if t470 = true then (if t472 = true then (if t473 = 0 then (if bt474.1 = (-1) then (if bt474.2 = 0 then (if bt476.1 = true then (some (bt476.2 == 0)) else (some false)) else (some false)) else (some false)) else (some false)) else (some false)) else (some false)) else (some false)))) = some r := H
 have A3 := am A30
 clear A30
 replace H := Option.bind_eq_some_iff.mp H
 obtain ⟨⟨t474, t475⟩, A40, H⟩ := H
 replace H : ((attr_Part.f k t462 t463 t464 (⟨#[65, 110, 110, 97, 98, 101, 108]⟩ : ByteArray) (⟨#[97, 110]⟩ : ByteArray) ([] : List ByteArray) (⟨#[101, 108]⟩ : ByteArray)).bind fun bt476 => (if t465 = true then (if t470 = true then (if t472 = true then (if t473 = 0 then (if t474 = (-1) then (if t475 = 0 then (if bt476.1 = true then (some (bt476.2 == 0)) else (some false)) else (some false)) else (some false)) else (some false)) else (some false)) else (some false)) else (some false))) = some r := H
 have A4 := am A40
 clear A40
 replace H := Option.bind_eq_some_iff.mp H
 obtain ⟨⟨t476, t477⟩, A50, H⟩ := H
 replace H : (if t465 = true then (if t470 = true then (if t472 = true then (if t473 = 0 then (if t474 = (-1) then (if t475 = 0 then (if t476 = true then (some (t477 == 0)) else (some false)) else (some false)) else (some false)) else (some false)) else (some false)) else (some false)) else (some false)) = some r := H
 have A5 := am A50
 clear A50
 revert H
 refine spb ?_ ?_
 ·rintro rfl H; revert H; refine spb ?_ ?_
  ·rintro rfl H; revert H; refine spb ?_ ?_
   ·rintro rfl H; revert H; refine spe01 ?_ ?_
    ·intro c9b0 c9b1 H; revert H; refine spe01 ?_ ?_
     ·intro c10b0 c10b1 H; revert H; refine spe01 ?_ ?_
      ·intro c11b0 c11b1 H; revert H; refine spb ?_ ?_
       ·rintro rfl H; obtain rfl := Option.some.inj H; go_enter Tryz.func9, Tryz.ntmps9; go_wp2_with (first | ((with_reducible refine gate_callee (f := 16) rfl ?_); refine goesL_ (some 12) rfl rfl Tryz.func16 (by kernel_rfl) rfl #[.string (⟨#[67, 78]⟩ : ByteArray)] rfl ap3 ?_; (with_reducible refine (attr_Find.calls (⟨#[67, 78]⟩ : ByteArray) t462 t463 t464 true _ ?side1 A1.out).mono ?_); (case side1 => exact ap6); rintro e w13 ⟨rfl, hb⟩; refine ⟨_, rfl, ?_⟩; replace HB := am (below_step ap1 hb)) | ((with_reducible refine gate_dst (N := 1) rfl ?_); refine box_event ?hg (N := 1) ?hd (cs := #[.string (⟨#[]⟩ : ByteArray), .int .i64 0, .bool false]) (t := 23) ?hr ?_; (case hd => rfl); (case hg => rfl); (case hr => first | (go_simp; done) | (go_simp; rfl)); intro gb466 hg w14 hbox hb; have BK466 := am (hbox); have GW466 := am ((by rw [hg]; exact (below_size ap1) : w.heap.size ≤ gb466)); have GE466 := am ((by rw [hg]; exact (below_size ap1) : w.heap.size ≤ gb466)); replace HB := am (below_step ap1 hb); clear hb hbox hg; obtain ⟨hcz15_0, hcz15_1, hcz15_2, hfz15_0, hfz15_1, hfz15_2⟩ := bc3 BK466.out) | ((with_reducible refine gate_callee (f := 16) rfl ?_); refine goesL_ (some 16) rfl rfl Tryz.func16 (by kernel_rfl) rfl #[.string (⟨#[117, 105, 100, 110, 117, 109, 98, 101, 114]⟩ : ByteArray)] rfl ap3 ?_; (with_reducible refine (attr_Find.calls (⟨#[117, 105, 100, 110, 117, 109, 98, 101, 114]⟩ : ByteArray) t467 t468 t469 true _ ?side1 A2.out).mono ?_); (case side1 => exact apH1 GE466.out); rintro e w16 ⟨rfl, hb⟩; refine ⟨_, rfl, ?_⟩; replace BK466 := am (blk_below (g := gb466) (o := .cells #[.string t462, .int .i64 t463, .bool t464] 23 (0, 0)) (by (with_reducible repeat (first | refine blk_drewN ?_ _ | refine blk_drew ?_ | refine blk_alloc ?_ _)); refine blk_put (cs := #[.string t462, .int .i64 t463, .bool false]) ?_ 2 _ rfl; (with_reducible repeat (first | refine blk_drewN ?_ _ | refine blk_drew ?_ | refine blk_alloc ?_ _)); refine blk_put (cs := #[.string t462, .int .i64 0, .bool false]) ?_ 1 _ rfl; (with_reducible repeat (first | refine blk_drewN ?_ _ | refine blk_drew ?_ | refine blk_alloc ?_ _)); refine blk_put (cs := #[.string (⟨#[]⟩ : ByteArray), .int .i64 0, .bool false]) ?_ 0 _ rfl; (with_reducible repeat (first | refine blk_drewN ?_ _ | refine blk_drew ?_ | refine blk_alloc ?_ _)); exact BK466.out) hb); replace HB := am (below_step (apG GE466.out) hb)) | ((with_reducible refine gate_dst (N := 3) rfl ?_); refine box_event ?hg (N := 3) ?hd (cs := #[.string (⟨#[]⟩ : ByteArray), .int .i64 0, .bool false]) (t := 23) ?hr ?_; (case hd => rfl); (case hg => rfl); (case hr => first | (go_simp; done) | (go_simp; rfl)); intro gb471 hg w17 hbox hb; have n0_ := am (blk_below (g := gb466) (o := .cells #[.string t462, .int .i64 t463, .bool t464] 23 (0, 0)) (apB BK466.out) hb); have n1_ := am (below_step (apG GE466.out) hb); have n2_ := am (hbox); have n3_ := am ((by rw [hg]; exact (below_size (apG GE466.out)) : w.heap.size ≤ gb471)); have n4_ := am ((by rw [hg]; exact (below_size (apG GE466.out)) : w.heap.size ≤ gb471)); have n5_ := am ((by rw [hg]; exact Nat.ne_of_lt (blk_lt (g := gb466) (o := .cells #[.string t462, .int .i64 t463, .bool t464] 23 (0, 0)) (apB BK466.out)) : gb466 ≠ gb471)); have n6_ := am ((by rw [hg]; exact Nat.ne_of_gt (blk_lt (g := gb466) (o := .cells #[.string t462, .int .i64 t463, .bool t464] 23 (0, 0)) (apB BK466.out)) : gb471 ≠ gb466)); clear BK466; clear HB; have BK466 := n0_; have HB := n1_; have BK471 := n2_; have GW471 := n3_; have GE471 := n4_; have NB466_471 := n5_; have NB471_466 := n6_; clear n0_ n1_ n2_ n3_ n4_ n5_ n6_; clear hb hbox hg; have hnb18 := NB471_466.out; have hnc18 := NB466_471.out; obtain ⟨hcz19_0, hcz19_1, hcz19_2, hfz19_0, hfz19_1, hfz19_2⟩ := bc3 BK471.out; obtain ⟨hcz20_0, hcz20_1, hcz20_2, hfz20_0, hfz20_1, hfz20_2⟩ := bc3 BK466.out) | ((with_reducible refine gate_callee (f := 10) rfl ?_); refine goesL_ (some 21) rfl rfl Tryz.func10 (by kernel_rfl) rfl #[.agg #[.string t462, .int .i64 t463, .bool t464], .string (⟨#[65, 110, 110, 32, 32, 66]⟩ : ByteArray), .string (⟨#[97, 110, 110, 32, 98]⟩ : ByteArray)] rfl ap3 ?_; (with_reducible refine (attr_Equal.calls k t462 t463 t464 (⟨#[65, 110, 110, 32, 32, 66]⟩ : ByteArray) (⟨#[97, 110, 110, 32, 98]⟩ : ByteArray) true t473 _ ?side1 A3.out).mono ?_); (case side1 => exact apH2 GE466.out GE471.out); rintro e w21 ⟨rfl, hb⟩; refine ⟨_, rfl, ?_⟩; replace BK466 := am (blk_below (g := gb466) (o := .cells #[.string t462, .int .i64 t463, .bool t464] 23 (0, 0)) (by (with_reducible repeat (first | refine blk_drewN ?_ _ | refine blk_drew ?_ | refine blk_alloc ?_ _)); refine blk_far ?_ NB466_471.out _; (with_reducible repeat (first | refine blk_drewN ?_ _ | refine blk_drew ?_ | refine blk_alloc ?_ _)); refine blk_far ?_ NB466_471.out _; (with_reducible repeat (first | refine blk_drewN ?_ _ | refine blk_drew ?_ | refine blk_alloc ?_ _)); refine blk_far ?_ NB466_471.out _; (with_reducible repeat (first | refine blk_drewN ?_ _ | refine blk_drew ?_ | refine blk_alloc ?_ _)); exact BK466.out) hb); replace BK471 := am (blk_below (g := gb471) (o := .cells #[.string t467, .int .i64 t468, .bool t469] 23 (0, 0)) (by (with_reducible repeat (first | refine blk_drewN ?_ _ | refine blk_drew ?_ | refine blk_alloc ?_ _)); refine blk_put (cs := #[.string t467, .int .i64 t468, .bool false]) ?_ 2 _ rfl; (with_reducible repeat (first | refine blk_drewN ?_ _ | refine blk_drew ?_ | refine blk_alloc ?_ _)); refine blk_put (cs := #[.string t467, .int .i64 0, .bool false]) ?_ 1 _ rfl; (with_reducible repeat (first | refine blk_drewN ?_ _ | refine blk_drew ?_ | refine blk_alloc ?_ _)); refine blk_put (cs := #[.string (⟨#[]⟩ : ByteArray), .int .i64 0, .bool false]) ?_ 0 _ rfl; (with_reducible repeat (first | refine blk_drewN ?_ _ | refine blk_drew ?_ | refine blk_alloc ?_ _)); exact BK471.out) hb); replace HB := am (below_step (apG2 GE466.out GE471.out) hb); obtain ⟨hcz22_0, hcz22_1, hcz22_2, hfz22_0, hfz22_1, hfz22_2⟩ := bc3 BK471.out) | ((with_reducible refine gate_callee (f := 12) rfl ?_); refine goesL_ (some 26) rfl rfl Tryz.func12 (by kernel_rfl) rfl #[.agg #[.string t467, .int .i64 t468, .bool t469], .string (⟨#[57]⟩ : ByteArray), .string (⟨#[49, 48]⟩ : ByteArray)] rfl ap3 ?_; (with_reducible refine (attr_Order.calls k t467 t468 t469 (⟨#[57]⟩ : ByteArray) (⟨#[49, 48]⟩ : ByteArray) t474 t475 _ ?side1 A4.out).mono ?_); (case side1 => exact apH2 GE466.out GE471.out); rintro e w23 ⟨rfl, hb⟩; refine ⟨_, rfl, ?_⟩; replace BK466 := am (blk_below (g := gb466) (o := .cells #[.string t462, .int .i64 t463, .bool t464] 23 (0, 0)) (apB BK466.out) hb); replace BK471 := am (blk_below (g := gb471) (o := .cells #[.string t467, .int .i64 t468, .bool t469] 23 (0, 0)) (apB BK471.out) hb); replace HB := am (below_step (apG2 GE466.out GE471.out) hb); obtain ⟨hcz24_0, hcz24_1, hcz24_2, hfz24_0, hfz24_1, hfz24_2⟩ := bc3 BK466.out) | ((with_reducible refine gate_callee (f := 14) rfl ?_); refine goesL_ (some 31) rfl rfl Tryz.func14 (by kernel_rfl) rfl #[.agg #[.string t462, .int .i64 t463, .bool t464], .string (⟨#[65, 110, 110, 97, 98, 101, 108]⟩ : ByteArray), .string (⟨#[97, 110]⟩ : ByteArray), .slice none 0 0, .string (⟨#[101, 108]⟩ : ByteArray)] rfl ap3 ?_; (refine (attr_Part.calls k t462 t463 t464 (⟨#[65, 110, 110, 97, 98, 101, 108]⟩ : ByteArray) (⟨#[97, 110]⟩ : ByteArray) _ _ ([] : List ByteArray) (⟨#[101, 108]⟩ : ByteArray) true t477 _ ?side1 ?side2 ?side3 A5.out).mono ?_); (case side1 => exact Kd.C_nil _ _); (case side2 => exact Nat.le_refl _); (case side3 => exact apH2 GE466.out GE471.out); rintro e w25 ⟨rfl, hb⟩; refine ⟨_, rfl, ?_⟩; replace BK466 := am (blk_below (g := gb466) (o := .cells #[.string t462, .int .i64 t463, .bool t464] 23 (0, 0)) (apB BK466.out) hb); replace BK471 := am (blk_below (g := gb471) (o := .cells #[.string t467, .int .i64 t468, .bool t469] 23 (0, 0)) (apB BK471.out) hb); replace HB := am (below_step (apG2 GE466.out GE471.out) hb))); go_ret; exact ⟨ap9, apG2 GE466.out GE471.out⟩
       ·rintro rfl H; exact absurd ((Option.some.inj H).trans hyes.out) (by decide)
      ·intro c11 c11b0 c11b1 H; exact absurd ((Option.some.inj H).trans hyes.out) (by decide)
     ·intro c10 c10b0 c10b1 H; exact absurd ((Option.some.inj H).trans hyes.out) (by decide)
    ·intro c9 c9b0 c9b1 H; exact absurd ((Option.some.inj H).trans hyes.out) (by decide)
   ·rintro rfl H; exact absurd ((Option.some.inj H).trans hyes.out) (by decide)
  ·rintro rfl H; exact absurd ((Option.some.inj H).trans hyes.out) (by decide)
 ·rintro rfl H; exact absurd ((Option.some.inj H).trans hyes.out) (by decide)
end Go.Proofs.YtpklcnpmppaaoaaGreatDoor.Print
namespace Go.Proofs.YtpklcnpmppaaoaaGreatDoor.Print
open Go.RowKit Go.Proofs.YtpklcnpmppaaoaaGreatDoorW.PrintWords Go.Proofs.YtpklcnpmppaaoaaGreatDoorW.PrintLast Go.Proofs.YtpklcnpmppaaoaaGreatDoorW.PrintMore Go.Proofs.YtpklcnpmppaaoaaGreatDoor.Pure
set_option linter.unusedVariables false
set_option linter.unusedSimpArgs false
set_option maxRecDepth 100000 in
theorem awake16 : L16awake.f 60 = some true := by kernel_rfl
theorem awake16_ev : Ev (fun k => L16awake.f k) true := ev_mono L16awake.mono 60 awake16
theorem refnum_loop (s : ByteArray) (hs : s.size ≤ 1000000) : ∀ (m i : Nat), s.size - i = m → i ≤ s.size → Ev (fun k => R16Number.l0 k s (i : Int)) (digs ((bl s).drop i)) := by
 intro m; induction m with
 | zero =>
  intro i hm hi; rw [drop_end (by omega)]; refine Ev.step (fun k => by rw [R16Number.l0]) ?_; exact Ev.neg (by omega) Ev.rfl'
 | succ m ih =>
  intro i hm hi; cases hr : (bl s).drop i with
  | nil => have := drop_nil hr; omega
  | cons c r =>
   obtain ⟨h1, h2, h3⟩ := drop_cons hr; have hi2 := ih (i + 1) (by omega) (by omega); rw [h3] at hi2; refine Ev.step (fun k => by rw [R16Number.l0]) ?_; rw [h2, wsucc (p := i) (by omega)]; refine Ev.pos (by omega) (Ev.pos (by omega) ?_); by_cases c1 : c.toNat < 48
   ·refine Ev.pos (by omega) ?_; rw [show digs (c :: r) = false by simp [digs]; intro h; omega]; exact Ev.rfl'
   ·refine Ev.neg (by omega) ?_; by_cases c2 : 57 < c.toNat
    ·refine Ev.pos (by omega) ?_; rw [show digs (c :: r) = false by simp [digs]; intro h; omega]; exact Ev.rfl'
    ·refine Ev.neg (by omega) ?_; rw [show digs (c :: r) = digs r by simp [digs]; omega]; exact hi2
def digOk (d : List UInt8) : Bool := decide (1 ≤ d.length ∧ d.length ≤ 18 ∧ d.head? ≠ some 48) && digs d
theorem refnum_j1 (x : ByteArray) (hs : x.size ≤ 1000000) : Ev (fun k => R16Number.j1 k x) (digOk (bl x)) := by
 have hl := bl_length x; have hj2 : ∀ {b : Bool}, b = !decide (1 ≤ (bl x).length ∧ (bl x).length ≤ 18 ∧ (bl x).head? ≠ some 48) → Ev (fun k => R16Number.j2 k x b) (digOk (bl x)) := by
  intro b hb; unfold digOk; refine Ev.step (fun k => by rw [R16Number.j2]) ?_; cases hd : decide (1 ≤ (bl x).length ∧ (bl x).length ≤ 18 ∧ (bl x).head? ≠ some 48) with
  | true =>
   rw [hd] at hb; exact Ev.neg (by simp [hb]) (refnum_loop x hs _ 0 rfl (by omega))
  | false =>
   rw [hd] at hb; exact Ev.pos (by simp [hb]) Ev.rfl'
 refine Ev.step (fun k => by rw [R16Number.j1]) ?_; by_cases h1 : x.size < 1
 ·refine Ev.pos (by omega) (hj2 ?_); rw [decide_eq_false (by omega)]; rfl
 ·refine Ev.neg (by omega) ?_; by_cases h18 : 18 < x.size
  ·refine Ev.pos (by omega) (hj2 ?_); rw [decide_eq_false (by omega)]; rfl
  ·refine Ev.neg (by omega) (Ev.pos (by omega) (hj2 ?_)); cases hb : bl x with
   | nil => rw [hb] at hl; simp at hl; omega
   | cons c r =>
    rw [bt_zero hb]; have hlr : (c :: r).length = x.size := by rw [← hb]; exact hl
    by_cases h48 : c = 48
    ·subst h48; rw [decide_eq_false (by simp)]; rfl
    ·have h2 : ¬ ((c.toNat : Int) = 48) := fun h => h48 ((eq48 c).1 h)
     rw [decide_eq_true (by refine ⟨by omega, by omega, by simpa using h48⟩)]; simpa using h2
theorem refnumber_ev (s : ByteArray) (hs : s.size ≤ 1000000) : Ev (fun k => R16Number.f k s) (numOk (bl s)) := by
 have hl := bl_length s; have e : numOk (bl s) = (decide (bl s = [48]) || digOk (digitsOf (bl s))) := rfl; unfold R16Number.f; rw [tl_bl, e]; by_cases hz : bl s = [48]
 ·refine Ev.pos hz ?_; rw [decide_eq_true hz]; exact Ev.rfl'
 ·refine Ev.neg hz ?_; rw [decide_eq_false hz, Bool.false_or]; cases hb : bl s with
  | nil =>
   rw [hb] at hl; simp only [List.length_nil] at hl; refine Ev.neg (by omega) (Ev.step (fun k => by rw [R16Number.j0]) (Ev.neg (by simp) ?_)); have := refnum_j1 s hs; rw [hb] at this; exact this
  | cons c r =>
   rw [hb] at hl; simp only [List.length_cons] at hl; refine Ev.pos (by omega) (Ev.pos (by omega) ?_); rw [bt_zero hb]; refine Ev.step (fun k => by rw [R16Number.j0]) ?_; by_cases h45 : c = 45
   ·subst h45; refine Ev.pos rfl (Ev.pos (by omega) ?_); have := refnum_j1 (s.extract 1 s.size) (by rw [ByteArray.size_extract]; omega); rw [ext_from, hb] at this; exact this
   ·have h2 : ¬ ((c.toNat : Int) = 45) := fun h => h45 ((eq45 c).1 h)
    refine Ev.neg (by simpa using h2) ?_; have := refnum_j1 s hs; rw [hb] at this; rw [digitsOf, if_neg h45]; exact this
theorem refname_ev (s : ByteArray) (hs : s.size ≤ 100000) : Ev (fun k => R15Parse.f k s) (nameOf s) := by
 obtain ⟨p1, p2, p3, p4⟩ := refparse_ev s hs; unfold nameOf; by_cases h : 1000 < s.size
 ·rw [if_pos h]; exact p1 h
 ·rw [if_neg h]; by_cases hb : (bl s).dropWhile (· == 32) = []
  ·rw [if_pos hb]; exact p2 (by omega) hb
  ·rw [if_neg hb]; cases hg : ((signs (bl s)).bind fun L => goP L [] [] []) with
   | none => exact p3 (by omega) hb hg
   | some N =>
    obtain ⟨z1, z2, z3⟩ := sz_mk (Nat.le_refl _) (read_short hs hg); exact p4 (by omega) hb N _ hg (refRight_ev (mkN N) z1 z2)
theorem ba_cat (a : List UInt8) (x : ByteArray) : mkB a ++ x = mkB (a ++ bl x) := by
 apply ba_ext; simp [bl, mkB]
theorem refcat_loop (L : List ByteArray) (hL : L.length ≤ 1000) (b : Bool) (hsz : ∀ x ∈ L, x.size ≤ 16384) : ∀ (m i : Nat), L.length - i = m → i ≤ L.length →
  Ev (fun k => R16Normal.l0 k (mkB ((L.take i).map bl).flatten) b L (i : Int)) (if b = true then (mkB (L.map bl).flatten, 0) else (⟨#[]⟩, 4)) := by
 intro m
 induction m with
 | zero =>
  intro i hm hi; obtain rfl : i = L.length := by omega
  rw [List.take_length]; refine Ev.step (fun k => by rw [R16Normal.l0]) (Ev.neg (by omega) ?_); cases b with
  | true => exact Ev.pos rfl (by simpa using Ev.rfl')
  | false => exact Ev.neg (by simp) (by simpa using Ev.rfl')
 | succ m ih =>
  intro i hm hi; cases hr : L.drop i with
  | nil => have := List.drop_eq_nil_iff.1 hr; omega
  | cons x r =>
   have hx : x.size ≤ 16384 := hsz x (by
    have : x ∈ L.drop i := by rw [hr]; simp
    exact List.mem_of_mem_drop this)
   have hl : ((L.take i).map bl).flatten.length ≤ 16384000 := by
    have := flat_len 16384 ((L.take i).map bl) (fun y hy => by
     obtain ⟨z, hz, rfl⟩ := List.mem_map.1 hy; rw [bl_length]; exact hsz z (List.mem_of_mem_take hz))
    rw [List.length_map, List.length_take] at this; have h2 : min i L.length * 16384 ≤ 1000 * 16384 := Nat.mul_le_mul_right _ (by omega); omega
   have hi2 := ih (i + 1) (by omega) (by omega); rw [take_next hr, List.map_append, List.flatten_append] at hi2; refine Ev.step (fun k => by rw [R16Normal.l0]) ?_; rw [rdB_at hr, wsucc (p := i) (by omega), ba_cat]; refine Ev.pos (by omega) (Ev.pos (by omega) (Ev.pos (by rw [mkB_size]; omega) ?_)); simpa using hi2
theorem keysOf_small {n : List (List AvaS)} (hn : nameOk n = true) : ∀ x ∈ keysOf n, x.size ≤ 16384 := by
 obtain ⟨h1, h2⟩ := nameOk_sz hn; intro x hx; obtain ⟨a, ha, rfl⟩ := List.mem_map.1 hx; exact keyOf_len a (h2 a (List.mem_reverse.1 ha))
def endOf (x : ByteArray × Bool) : ByteArray × Int := if x.2 = true then (x.1, 0) else (⟨#[]⟩, 4)
theorem refsome_ev {F : Nat → Option (ByteArray × Int)} {o : Option (List UInt8)} (h : Ev F (ansOf o)) : Ev (fun k => (F k).bind fun bt => if bt.2 = 0 then (if ((bt.1.size : Int) > 0) then some (bt.1, 0) else some (⟨#[]⟩, 4)) else some ((⟨#[]⟩ : ByteArray), (4 : Int))) (endOf (someT o)) := by
 refine Ev.bind h ?_; cases o with
 | none => exact Ev.neg (show ¬ ((19 : Int) = 0) by decide) Ev.rfl'
 | some u =>
  refine Ev.pos (show (0 : Int) = 0 from rfl) ?_; show Ev (fun _ => if ((mkB u).size : Int) > 0 then some (mkB u, 0) else some (⟨#[]⟩, 4)) (if decide (u ≠ []) = true then (mkB u, 0) else (⟨#[]⟩, 4)); rw [mkB_size]; cases u with
  | nil => exact Ev.neg (by simp) Ev.rfl'
  | cons c r => exact Ev.pos (by rw [List.length_cons]; omega) Ev.rfl'
theorem refready_ans (s : ByteArray) (hs : s.size ≤ 100000) (fold : Bool) : Ev (fun k => R13Ready.f k s fold) (ansOf (readyOf fold s)) := by
 have h := refready_ev s (by omega) fold; cases hr : readyOf fold s <;> rw [hr] at h <;> exact h
theorem refform_ev (n : ByteArray) (t : Int) (b : Bool) (s : ByteArray) (hs : s.size ≤ 100000) {q : Bool} (hq : q = decide (t = 1 ∨ t = 2)) : Ev (fun k => R16Normal.j1 k s s true t q n t b) (endOf (formOf t s)) := by
 unfold formOf; refine Ev.step (fun k => by rw [R16Normal.j1]) ?_; by_cases h12 : t = 1 ∨ t = 2
 ·rw [if_pos h12]; exact Ev.pos (by rw [hq]; exact decide_eq_true h12) (refsome_ev (refready_ans s hs _))
 ·rw [if_neg h12]; refine Ev.neg (by rw [hq]; simpa using h12) ?_; by_cases h7 : t = 7
  ·rw [if_pos h7]; exact Ev.neg (by omega) (Ev.neg (by omega) (Ev.neg (by omega) (Ev.pos h7 (refsome_ev (refphone_ev s hs)))))
  ·rw [if_neg h7]; by_cases h4 : t = 4
   ·rw [if_pos h4]; refine Ev.pos h4 (Ev.bind (refnumber_ev s (by omega)) ?_); unfold endOf; cases numOk (bl s) with
    | true => exact Ev.pos rfl Ev.rfl'
    | false => exact Ev.neg (by simp) Ev.rfl'
   ·rw [if_neg h4]; refine Ev.neg h4 ?_; by_cases h5 : t = 5
    ·rw [if_pos h5]; refine Ev.pos h5 ?_; rw [tl_bl]; unfold endOf; by_cases ht : bl s = trueB
     ·refine Ev.pos ht ?_; rw [decide_eq_true (Or.inl ht)]; exact Ev.rfl'
     ·refine Ev.neg ht ?_; by_cases hf : bl s = falseB
      ·refine Ev.pos hf ?_; rw [decide_eq_true (Or.inr hf)]; exact Ev.rfl'
      ·refine Ev.neg hf ?_; rw [decide_eq_false (by simp [ht, hf])]; exact Ev.rfl'
    ·rw [if_neg h5]; refine Ev.neg h5 ?_; by_cases h6 : t = 6
     ·rw [if_pos h6]; obtain ⟨k1, k2, k3⟩ := nameOf_ok s hs; have hk := refKeys_ev (nameOf s).1 k2 k3; rw [if_pos k1] at hk; have hc := refcat_loop (keysOf (nameOf s).1) (by have := (keysOf_join k1).1; omega) ((nameOf s).2 == 0) (keysOf_small k1) _ 0 rfl (Nat.zero_le _); exact Ev.pos h6 (Ev.bind (refname_ev s hs) (Ev.bind hk hc))
     ·rw [if_neg h6]; exact Ev.neg h6 (Ev.neg h7 (Ev.pos rfl Ev.rfl'))
theorem refnormal_ev (n : ByteArray) (t : Int) (b : Bool) (s : ByteArray) : Ev (fun k => R16Normal.f k n t b s) (normOf t s) := by
 have hj : ∀ {q : Bool}, q = decide (t < 1 ∨ 7 < t) → Ev (fun k => R16Normal.j0 k s q n t b) (normOf t s) := by
  intro q hq; unfold normOf; refine Ev.step (fun k => by rw [R16Normal.j0]) ?_; by_cases ht : t < 1 ∨ 7 < t
  ·rw [if_pos ht]; exact Ev.pos (by rw [hq]; exact decide_eq_true ht) Ev.rfl'
  ·rw [if_neg ht]; refine Ev.neg (by rw [hq]; simpa using ht) ?_; by_cases h5 : 1000 < s.size
   ·rw [if_pos h5]; exact Ev.pos (by omega) Ev.rfl'
   ·rw [if_neg h5]; refine Ev.neg (by omega) ?_; by_cases h0 : s.size = 0
    ·rw [if_pos h0]; exact Ev.pos (by omega) Ev.rfl'
    ·rw [if_neg h0]; refine Ev.neg (by omega) ?_; by_cases h1 : t = 1
     ·exact Ev.pos h1 (refform_ev n t b s (by omega) (by rw [decide_eq_true (Or.inl h1), h1]; rfl))
     ·refine Ev.neg h1 (refform_ev n t b s (by omega) ?_); by_cases h2 : t = 2
      ·rw [decide_eq_true (Or.inr h2), h2]; rfl
      ·rw [decide_eq_false (by simp [h1, h2])]; exact beq_eq_false_iff_ne.2 h2
 unfold R16Normal.f; by_cases h : t < 1
 ·exact Ev.pos h (hj (decide_eq_true (Or.inl h)).symm)
 ·exact Ev.neg h (hj (decide_eq_decide.2 (by omega)))
end Go.Proofs.YtpklcnpmppaaoaaGreatDoor.Print
namespace Go.Proofs.YtpklcnpmppaaoaaGreatDoor.Print
open Go.RowKit Go.Proofs.YtpklcnpmppaaoaaGreatDoorW.PrintWords Go.Proofs.YtpklcnpmppaaoaaGreatDoorW.PrintLast Go.Proofs.YtpklcnpmppaaoaaGreatDoorW.PrintMore
attribute [local go_sem] max2_int min2_int max_two min_two max_three min_three max_four min_four
set_option linter.unusedVariables false
set_option linter.unusedSimpArgs false
def L16AttrNormals.f (k : Nat) (a0_0 : ByteArray) (a0_1 : Int) (a0_2 : Bool) (a1 : ByteArray) : Option (Bool) := (L16awake.f k).bind fun t878 => (if t878 = true then (if (a1.size : Int) > 2000 then (some true) else ((attr_Normal.f k a0_0 a0_1 a0_2 a1).bind fun bt879 => ((R16Normal.f k a0_0 a0_1 a0_2 a1).bind fun bt881 => (if bt879.1.toList = bt881.1.toList then (if bt879.2 = bt881.2 then ((attr_Check.f k a0_0 a0_1 a0_2 a1).bind fun t883 => (some (t883 == bt881.2))) else (some false)) else (some false))))) else (some false))
set_option maxHeartbeats 8000000 in
set_option maxRecDepth 100000 in
theorem L16AttrNormals.calls (k : Nat) (a0_0 : ByteArray) (a0_1 : Int) (a0_2 : Bool) (a1 : ByteArray) (r : Bool) (w : World) (hG : Gw w) (h : L16AttrNormals.f k a0_0 a0_1 a0_2 a1 = some r) :
  Calls Tryz.prog 6 #[.agg #[.string a0_0, .int .i64 a0_1, .bool a0_2], .string a1] w fun e w' => e = .returned (.bool r) ∧ Below w.heap.size w w' := by
 have hu23 := Tryz.underlying23
 have HB := am (Below.refl w.heap.size w)
 have HG := am hG
 clear hG
 have H : ((L16awake.f k).bind fun t878 => (if t878 = true then (if (a1.size : Int) > 2000 then (some true) else ((attr_Normal.f k a0_0 a0_1 a0_2 a1).bind fun bt879 => ((R16Normal.f k a0_0 a0_1 a0_2 a1).bind fun bt881 => (if bt879.1.toList = bt881.1.toList then (if bt879.2 = bt881.2 then ((attr_Check.f k a0_0 a0_1 a0_2 a1).bind fun t883 => (some (t883 == bt881.2))) else (some false)) else (some false))))) else (some false))) = some r := h
 clear h
 replace H := Option.bind_eq_some_iff.mp H
 obtain ⟨t878, A30, H⟩ := H
 replace H : (if t878 = true then (if (a1.size : Int) > 2000 then (some true) else ((attr_Normal.f k a0_0 a0_1 a0_2 a1).bind fun bt879 => ((R16Normal.f k a0_0 a0_1 a0_2 a1).bind fun bt881 => (if bt879.1.toList = bt881.1.toList then (if bt879.2 = bt881.2 then ((attr_Check.f k a0_0 a0_1 a0_2 a1).bind fun t883 => (some (t883 == bt881.2))) else (some false)) else (some false))))) else (some false)) = some r := H
 have A3 := am A30
 clear A30
 revert H
 refine spb ?_ ?_
 ·rintro rfl H; revert H; refine spd11 ?_ ?_
  ·intro c5 c5b0 H; have c5b1 : decide (2000 < a1.size) = true := decide_eq_true (by omega); clear c5; obtain rfl := Option.some.inj H; go_enter Tryz.func6, Tryz.ntmps6; go_wp2_with (first | ((with_reducible refine gate_dst (N := 2) rfl ?_); refine box_event ?hg (N := 2) ?hd (cs := #[.string a0_0, .int .i64 a0_1, .bool a0_2]) (t := 23) ?hr ?_; (case hd => rfl); (case hg => rfl); (case hr => first | (go_simp; done) | (go_simp; rfl)); intro gb877 hg w6 hbox hb; have BK877 := am (hbox); have GW877 := am ((by rw [hg]; exact (below_size ap1) : w.heap.size ≤ gb877)); have GE877 := am ((by rw [hg]; exact (below_size ap1) : w.heap.size ≤ gb877)); replace HB := am (below_step ap1 hb); clear hb hbox hg) | ((with_reducible refine gate_callee (f := 9) rfl ?_); refine goesL_ (some 9) rfl rfl Tryz.func9 (by kernel_rfl) rfl #[] rfl ap3 ?_; (with_reducible refine (L16awake.calls k  true _ ?side1 A3.out).mono ?_); (case side1 => exact apH1 GE877.out); rintro e w7 ⟨rfl, hb⟩; refine ⟨_, rfl, ?_⟩; replace BK877 := am (blk_below (g := gb877) (o := .cells #[.string a0_0, .int .i64 a0_1, .bool a0_2] 23 (0, 0)) (apB BK877.out) hb); replace HB := am (below_step (apG GE877.out) hb))); go_ret; exact ⟨ap9, apG1 GE877.out⟩
  ·intro c5 c5b0 H; have c5b1 : decide (2000 < a1.size) = false := decide_eq_false (by omega); clear c5; replace H := Option.bind_eq_some_iff.mp H; obtain ⟨⟨t879, t880⟩, A80, H⟩ := H; replace H : ((R16Normal.f k a0_0 a0_1 a0_2 a1).bind fun bt881 => (if t879.toList = bt881.1.toList then (if t880 = bt881.2 then ((attr_Check.f k a0_0 a0_1 a0_2 a1).bind fun t883 => (some (t883 == bt881.2))) else (some false)) else (some false))) = some r := H; have A8 := am A80; clear A80; replace H := Option.bind_eq_some_iff.mp H; obtain ⟨⟨t881, t882⟩, A90, H⟩ := H; replace H : (if t879.toList = t881.toList then (if t880 = t882 then ((attr_Check.f k a0_0 a0_1 a0_2 a1).bind fun t883 => (some (t883 == t882))) else (some false)) else (some false)) = some r := H; have A9 := am A90; clear A90; revert H; refine spe01 ?_ ?_
   ·intro c10b0 c10b1 H; revert H; refine spe01 ?_ ?_
    ·intro c11b0 c11b1 H; replace H := Option.bind_eq_some_iff.mp H; obtain ⟨t883, A120, H⟩ := H; replace H : (some (t883 == t882)) = some r := H; have A12 := am A120; clear A120; obtain rfl := Option.some.inj H; go_enter Tryz.func6, Tryz.ntmps6; go_wp2_with (first | ((with_reducible refine gate_dst (N := 2) rfl ?_); refine box_event ?hg (N := 2) ?hd (cs := #[.string a0_0, .int .i64 a0_1, .bool a0_2]) (t := 23) ?hr ?_; (case hd => rfl); (case hg => rfl); (case hr => first | (go_simp; done) | (go_simp; rfl)); intro gb877 hg w13 hbox hb; have BK877 := am (hbox); have GW877 := am ((by rw [hg]; exact (below_size ap1) : w.heap.size ≤ gb877)); have GE877 := am ((by rw [hg]; exact (below_size ap1) : w.heap.size ≤ gb877)); replace HB := am (below_step ap1 hb); clear hb hbox hg) | ((with_reducible refine gate_callee (f := 9) rfl ?_); refine goesL_ (some 9) rfl rfl Tryz.func9 (by kernel_rfl) rfl #[] rfl ap3 ?_; (with_reducible refine (L16awake.calls k  true _ ?side1 A3.out).mono ?_); (case side1 => exact apH1 GE877.out); rintro e w14 ⟨rfl, hb⟩; refine ⟨_, rfl, ?_⟩; replace BK877 := am (blk_below (g := gb877) (o := .cells #[.string a0_0, .int .i64 a0_1, .bool a0_2] 23 (0, 0)) (apB BK877.out) hb); replace HB := am (below_step (apG GE877.out) hb); obtain ⟨hcz15_0, hcz15_1, hcz15_2, hfz15_0, hfz15_1, hfz15_2⟩ := bc3 BK877.out) | ((with_reducible refine gate_callee (f := 19) rfl ?_); refine goesL_ (some 17) rfl rfl Tryz.func19 (by kernel_rfl) rfl #[.agg #[.string a0_0, .int .i64 a0_1, .bool a0_2], .string a1] rfl ap3 ?_; (with_reducible refine (attr_Normal.calls k a0_0 a0_1 a0_2 a1 t879 t880 _ ?side1 A8.out).mono ?_); (case side1 => exact apH1 GE877.out); rintro e w16 ⟨rfl, hb⟩; refine ⟨_, rfl, ?_⟩; replace BK877 := am (blk_below (g := gb877) (o := .cells #[.string a0_0, .int .i64 a0_1, .bool a0_2] 23 (0, 0)) (apB BK877.out) hb); replace HB := am (below_step (apG GE877.out) hb); obtain ⟨hcz17_0, hcz17_1, hcz17_2, hfz17_0, hfz17_1, hfz17_2⟩ := bc3 BK877.out) | ((with_reducible refine gate_callee (f := 20) rfl ?_); refine goesL_ (some 23) rfl rfl Tryz.func20 (by kernel_rfl) rfl #[.agg #[.string a0_0, .int .i64 a0_1, .bool a0_2], .string a1] rfl ap3 ?_; (with_reducible refine (R16Normal.calls k a0_0 a0_1 a0_2 a1 t881 t882 _ A9.out).mono ?_); rintro e w18 ⟨rfl, hb⟩; refine ⟨_, rfl, ?_⟩; replace BK877 := am (blk_below (g := gb877) (o := .cells #[.string a0_0, .int .i64 a0_1, .bool a0_2] 23 (0, 0)) (apB BK877.out) hb); replace HB := am (below_step (apG GE877.out) hb); obtain ⟨hcz19_0, hcz19_1, hcz19_2, hfz19_0, hfz19_1, hfz19_2⟩ := bc3 BK877.out) | (go_at_call 21; (with_reducible refine (attr_Check.calls k a0_0 a0_1 a0_2 a1 t883 _ ?side1 A12.out).mono ?_); (case side1 => exact apH1 GE877.out); rintro e w20 ⟨rfl, hb⟩; replace BK877 := am (blk_below (g := gb877) (o := .cells #[.string a0_0, .int .i64 a0_1, .bool a0_2] 23 (0, 0)) (apB BK877.out) hb); replace HB := am (below_step (apG GE877.out) hb))); go_ret; exact ⟨ap9, apG1 GE877.out⟩
    ·intro c11 c11b0 c11b1 H; obtain rfl := Option.some.inj H; go_enter Tryz.func6, Tryz.ntmps6; go_wp2_with (first | ((with_reducible refine gate_dst (N := 2) rfl ?_); refine box_event ?hg (N := 2) ?hd (cs := #[.string a0_0, .int .i64 a0_1, .bool a0_2]) (t := 23) ?hr ?_; (case hd => rfl); (case hg => rfl); (case hr => first | (go_simp; done) | (go_simp; rfl)); intro gb877 hg w21 hbox hb; have BK877 := am (hbox); have GW877 := am ((by rw [hg]; exact (below_size ap1) : w.heap.size ≤ gb877)); have GE877 := am ((by rw [hg]; exact (below_size ap1) : w.heap.size ≤ gb877)); replace HB := am (below_step ap1 hb); clear hb hbox hg) | ((with_reducible refine gate_callee (f := 9) rfl ?_); refine goesL_ (some 9) rfl rfl Tryz.func9 (by kernel_rfl) rfl #[] rfl ap3 ?_; (with_reducible refine (L16awake.calls k  true _ ?side1 A3.out).mono ?_); (case side1 => exact apH1 GE877.out); rintro e w22 ⟨rfl, hb⟩; refine ⟨_, rfl, ?_⟩; replace BK877 := am (blk_below (g := gb877) (o := .cells #[.string a0_0, .int .i64 a0_1, .bool a0_2] 23 (0, 0)) (apB BK877.out) hb); replace HB := am (below_step (apG GE877.out) hb); obtain ⟨hcz23_0, hcz23_1, hcz23_2, hfz23_0, hfz23_1, hfz23_2⟩ := bc3 BK877.out) | ((with_reducible refine gate_callee (f := 19) rfl ?_); refine goesL_ (some 17) rfl rfl Tryz.func19 (by kernel_rfl) rfl #[.agg #[.string a0_0, .int .i64 a0_1, .bool a0_2], .string a1] rfl ap3 ?_; (with_reducible refine (attr_Normal.calls k a0_0 a0_1 a0_2 a1 t879 t880 _ ?side1 A8.out).mono ?_); (case side1 => exact apH1 GE877.out); rintro e w24 ⟨rfl, hb⟩; refine ⟨_, rfl, ?_⟩; replace BK877 := am (blk_below (g := gb877) (o := .cells #[.string a0_0, .int .i64 a0_1, .bool a0_2] 23 (0, 0)) (apB BK877.out) hb); replace HB := am (below_step (apG GE877.out) hb); obtain ⟨hcz25_0, hcz25_1, hcz25_2, hfz25_0, hfz25_1, hfz25_2⟩ := bc3 BK877.out) | ((with_reducible refine gate_callee (f := 20) rfl ?_); refine goesL_ (some 23) rfl rfl Tryz.func20 (by kernel_rfl) rfl #[.agg #[.string a0_0, .int .i64 a0_1, .bool a0_2], .string a1] rfl ap3 ?_; (with_reducible refine (R16Normal.calls k a0_0 a0_1 a0_2 a1 t881 t882 _ A9.out).mono ?_); rintro e w26 ⟨rfl, hb⟩; refine ⟨_, rfl, ?_⟩; replace BK877 := am (blk_below (g := gb877) (o := .cells #[.string a0_0, .int .i64 a0_1, .bool a0_2] 23 (0, 0)) (apB BK877.out) hb); replace HB := am (below_step (apG GE877.out) hb))); go_ret; exact ⟨ap9, apG1 GE877.out⟩
   ·intro c10 c10b0 c10b1 H; obtain rfl := Option.some.inj H; go_enter Tryz.func6, Tryz.ntmps6; go_wp2_with (first | ((with_reducible refine gate_dst (N := 2) rfl ?_); refine box_event ?hg (N := 2) ?hd (cs := #[.string a0_0, .int .i64 a0_1, .bool a0_2]) (t := 23) ?hr ?_; (case hd => rfl); (case hg => rfl); (case hr => first | (go_simp; done) | (go_simp; rfl)); intro gb877 hg w27 hbox hb; have BK877 := am (hbox); have GW877 := am ((by rw [hg]; exact (below_size ap1) : w.heap.size ≤ gb877)); have GE877 := am ((by rw [hg]; exact (below_size ap1) : w.heap.size ≤ gb877)); replace HB := am (below_step ap1 hb); clear hb hbox hg) | ((with_reducible refine gate_callee (f := 9) rfl ?_); refine goesL_ (some 9) rfl rfl Tryz.func9 (by kernel_rfl) rfl #[] rfl ap3 ?_; (with_reducible refine (L16awake.calls k  true _ ?side1 A3.out).mono ?_); (case side1 => exact apH1 GE877.out); rintro e w28 ⟨rfl, hb⟩; refine ⟨_, rfl, ?_⟩; replace BK877 := am (blk_below (g := gb877) (o := .cells #[.string a0_0, .int .i64 a0_1, .bool a0_2] 23 (0, 0)) (apB BK877.out) hb); replace HB := am (below_step (apG GE877.out) hb); obtain ⟨hcz29_0, hcz29_1, hcz29_2, hfz29_0, hfz29_1, hfz29_2⟩ := bc3 BK877.out) | ((with_reducible refine gate_callee (f := 19) rfl ?_); refine goesL_ (some 17) rfl rfl Tryz.func19 (by kernel_rfl) rfl #[.agg #[.string a0_0, .int .i64 a0_1, .bool a0_2], .string a1] rfl ap3 ?_; (with_reducible refine (attr_Normal.calls k a0_0 a0_1 a0_2 a1 t879 t880 _ ?side1 A8.out).mono ?_); (case side1 => exact apH1 GE877.out); rintro e w30 ⟨rfl, hb⟩; refine ⟨_, rfl, ?_⟩; replace BK877 := am (blk_below (g := gb877) (o := .cells #[.string a0_0, .int .i64 a0_1, .bool a0_2] 23 (0, 0)) (apB BK877.out) hb); replace HB := am (below_step (apG GE877.out) hb); obtain ⟨hcz31_0, hcz31_1, hcz31_2, hfz31_0, hfz31_1, hfz31_2⟩ := bc3 BK877.out) | ((with_reducible refine gate_callee (f := 20) rfl ?_); refine goesL_ (some 23) rfl rfl Tryz.func20 (by kernel_rfl) rfl #[.agg #[.string a0_0, .int .i64 a0_1, .bool a0_2], .string a1] rfl ap3 ?_; (with_reducible refine (R16Normal.calls k a0_0 a0_1 a0_2 a1 t881 t882 _ A9.out).mono ?_); rintro e w32 ⟨rfl, hb⟩; refine ⟨_, rfl, ?_⟩; replace BK877 := am (blk_below (g := gb877) (o := .cells #[.string a0_0, .int .i64 a0_1, .bool a0_2] 23 (0, 0)) (apB BK877.out) hb); replace HB := am (below_step (apG GE877.out) hb))); go_ret; exact ⟨ap9, apG1 GE877.out⟩
 ·rintro rfl H; obtain rfl := Option.some.inj H; go_enter Tryz.func6, Tryz.ntmps6; go_wp2_with (first | ((with_reducible refine gate_dst (N := 2) rfl ?_); refine box_event ?hg (N := 2) ?hd (cs := #[.string a0_0, .int .i64 a0_1, .bool a0_2]) (t := 23) ?hr ?_; (case hd => rfl); (case hg => rfl); (case hr => first | (go_simp; done) | (go_simp; rfl)); intro gb877 hg w33 hbox hb; have BK877 := am (hbox); have GW877 := am ((by rw [hg]; exact (below_size ap1) : w.heap.size ≤ gb877)); have GE877 := am ((by rw [hg]; exact (below_size ap1) : w.heap.size ≤ gb877)); replace HB := am (below_step ap1 hb); clear hb hbox hg) | ((with_reducible refine gate_callee (f := 9) rfl ?_); refine goesL_ (some 9) rfl rfl Tryz.func9 (by kernel_rfl) rfl #[] rfl ap3 ?_; (with_reducible refine (L16awake.calls k  false _ ?side1 A3.out).mono ?_); (case side1 => exact apH1 GE877.out); rintro e w34 ⟨rfl, hb⟩; refine ⟨_, rfl, ?_⟩; replace BK877 := am (blk_below (g := gb877) (o := .cells #[.string a0_0, .int .i64 a0_1, .bool a0_2] 23 (0, 0)) (apB BK877.out) hb); replace HB := am (below_step (apG GE877.out) hb))); go_ret; exact ⟨ap9, apG1 GE877.out⟩
end Go.Proofs.YtpklcnpmppaaoaaGreatDoor.Print
namespace Go.Proofs.YtpklcnpmppaaoaaGreatDoor.Print
open Go.RowKit Go.Proofs.YtpklcnpmppaaoaaGreatDoorW.PrintWords Go.Proofs.YtpklcnpmppaaoaaGreatDoorW.PrintLast Go.Proofs.YtpklcnpmppaaoaaGreatDoorW.PrintMore Go.Proofs.YtpklcnpmppaaoaaGreatDoor.Pure
set_option linter.unusedVariables false
set_option linter.unusedSimpArgs false
theorem AttrNormals_main (n : ByteArray) (t : Int) (b : Bool) (s : ByteArray) : ∃ k, L16AttrNormals.f k n t b s = some true := by
 refine Ev.some' ?_; unfold L16AttrNormals.f; refine Ev.bind awake16_ev (Ev.pos rfl ?_); by_cases h : (s.size : Int) > 2000
 ·exact Ev.pos h Ev.rfl'
 refine Ev.neg h (Ev.bind (normal_ev n t b s) (Ev.bind (refnormal_ev n t b s) (Ev.pos rfl (Ev.pos rfl (Ev.bind (check_ev n t b s) ?_))))); simp only [beq_self_eq_true]; exact Ev.rfl'
end Go.Proofs.YtpklcnpmppaaoaaGreatDoor.Print
namespace Go
variable {H : Type} {enc : TypeId × Value → H}
theorem handed_laid {a : Assume} {C : Checked} {os : Os} {f : FuncId} {fn : Func} {s : ChangeSpec} {conds : List PathCond} {apart fresh handsOn again : Bool} {X : World → Array Value → Prop}
  (hX : ∀ (w w' : World) (args : Array Value), w.heap = w'.heap → X w args → X w' args)
  (own : ownKnob C.prog.godebug = none) (started : os.Started) (noInit : C.prog.inits.idxOf? f = none) (hfn : C.prog.funcs[f]? = some fn)
  (witness : ∃ (w : World) (tape : Tape) (i : Input), w.os = os ∧ (w.forCall tape i).Shaped C.prog ∧ i.vars = [] ∧ Input.okWide C.prog (w.forCall tape i) .any w.heap.size f i ∧
   ((s.pre enc C.prog fn conds apart (w.forCall tape i).memory i.args ∧ X (w.forCall tape i).memory i.args) ∧ sizedMet enc C.prog fn (OpenSpec.ofChange s) apart (w.forCall tape i).memory i.args) ∧ a.holds C.prog (lone (Frame.enter C.prog f i.args .normal) [] (w.forCall tape i)))
  (contract : ∀ (W : World) (base : Nat) (args : Array Value) (ds gs : List (DataW H)) (before : List MemPlace),
   (∀ (j : Nat) t v, fn.params[j]? = some t → args[j]? = some v → Value.okWide C.prog W .any base t v) →
   DataW.Whole enc C.prog fn.params.toList s.vars apart W args.toList ds gs before →
   conds.all (PathCond.test C.prog ⟨fn.params.toList, ds, s.plain.varTypes C.prog, gs⟩) = true →
   (DataW.weightsEach C.prog (fn.params.toList ++ s.plain.varTypes C.prog) (ds ++ gs)).all (· ≤ reachBytes) = true → X W args →
   W.ShapedOpen C.prog →
   a.holds C.prog (lone (Frame.enter C.prog f args .normal) [] W) →
   Calls C.prog f args W fun e W' => ∃ v, e = .returned v ∧ s.post enc C.prog fn apart fresh handsOn again W args v W') :
  ReturnsInHanded a C os f .any (fun w args => (s.pre enc C.prog fn conds apart w args ∧ X w args) ∧ sizedMet enc C.prog fn (OpenSpec.ofChange s) apart w args) (s.post enc C.prog fn apart fresh handsOn again) := by
 refine returnsInHanded_of_calls own started noInit witness ?_
 intro w tape i _ hsh _ hok hpre hholds
 obtain ⟨_, _, _, fn', hfn', _, _, _, _, hval⟩ := hok
 have e : fn' = fn := Option.some.inj (hfn'.symm.trans hfn)
 subst e
 obtain ⟨⟨⟨ds, gs, before, hw, hc⟩, hx⟩, hz⟩ := hpre
 have hw' := DataW.Whole.of_heap (w' := w.forCall tape i) (by rfl) hw
 refine (contract (w.forCall tape i) w.heap.size i.args ds gs before hval hw' hc (hz.weights hw) (hX _ _ _ (by rfl) hx) hsh hholds).mono fun e W' ⟨v, he, hp⟩ => ?_
 subst he
 exact ChangeSpec.post_blind hp
end Go
namespace Go.Proofs.YtpklcnpmppaaoaaGreatDoor
open Go.ChangeShapes Go.WideShapes Go.ChangeAt Go.RowKit
open Go.ChangeMaps (open_string shut_string)
set_option maxRecDepth 100000
theorem own : ownKnob Tryz.prog.godebug = none := by kernel_rfl
def laid2 : List (String × DataW Unit) := [("math/bits.deBruijn32tab", Rows.laid_math_bits_deBruijn32tab), ("math/bits.deBruijn64tab", Rows.laid_math_bits_deBruijn64tab), ("internal/strconv.uint64pow10", Rows.laid_internal_strconv_uint64pow10), ("unicode/utf8.acceptRanges", Rows.laid_unicode_utf8_acceptRanges), ("strconv.ErrRange", Rows.laid_strconv_ErrRange), ("strconv.ErrSyntax", Rows.laid_strconv_ErrSyntax), ("rollbook/attr.types", Rows.laid_rollbook_attr_types), ("unicode/utf8.first", Rows.laid_unicode_utf8_first)]
theorem first_is : (Rows.laid_unicode_utf8_first : DataW Unit) = Lib.firstData := by kernel_rfl
theorem accept_is : (Rows.laid_unicode_utf8_acceptRanges : DataW Unit) = Lib.acceptData := by kernel_rfl
def ren : Go.Shelf.Ren := ⟨fun n => n, fun | 5 => 5 | 119 => 181 | 138 => 183 | 139 => 184 | n => n, fun | 3 => 4 | 4 => 5 | n => n⟩
theorem u8types : U8Types Tryz.prog ren := { t5 := Tryz.underlying5, t119 := Tryz.underlying181, t138 := Tryz.underlying183, t139 := Tryz.underlying184 }
theorem u8extra : U8Extra Tryz.prog ren := { n3 := by kernel_rfl, n4 := by kernel_rfl, y3 := by kernel_rfl, y4 := by kernel_rfl, c5 := by kernel_rfl, c119 := by kernel_rfl, c138 := by kernel_rfl }
theorem types_is : (Rows.laid_rollbook_attr_types : DataW Unit) = .agg (Print.attrTab.map fun x => .agg [.lit (.string x.1.data.toList), .lit (.int .i64 x.2.1), .lit (.bool x.2.2)]) := by kernel_rfl
theorem cells23 : Tryz.prog.cellsOf 23 = 3 := by kernel_rfl
theorem attr_row {W : World} {cs : List Value} {fuel : Nat} {p : List MemPlace} {a : List UInt8} {k : Int} {b : Bool} (h : DataW.trod (fun _ : TypeId × Value => ()) Tryz.prog W 0 (fun _ => true) false fuel 23 cs = some (.agg [.lit (.string a), .lit (.int .i64 k), .lit (.bool b)], p)) : cs = [.string ⟨a.toArray⟩, .int .i64 k, .bool b] := by
 obtain ⟨xs, n, rfl, hx, hl, hn, hf⟩ := DataW.trod_struct Tryz.underlying23 h; have k0 := hf 0 _ rfl; have k1 := hf 1 _ rfl; have k2 := hf 2 _ rfl; rw [cells23] at hl; have hn3 : xs.length = 3 := hn; obtain ⟨x0, x1, x2, rfl⟩ : ∃ x0 x1 x2, xs = [x0, x1, x2] := by
  match xs, hn3 with
  | [x0, x1, x2], _ => exact ⟨x0, x1, x2, rfl⟩
 obtain ⟨c0, c1, c2, rfl⟩ : ∃ c0 c1 c2, cs = [c0, c1, c2] := by
  match cs, hl with
  | [c0, c1, c2], _ => exact ⟨c0, c1, c2, rfl⟩
 obtain ⟨s, e0, rfl, _⟩ := DataW.trod_string Tryz.underlying9 k0; obtain ⟨m, e1, rfl, _⟩ := DataW.trod_int Tryz.underlying3 k1; obtain ⟨q, e2, rfl⟩ := DataW.trod_bool Tryz.underlying4 k2; have c9 : Tryz.prog.cellsOf 9 = 1 := by kernel_rfl
 have c3 : Tryz.prog.cellsOf 3 = 1 := by kernel_rfl
 have c4 : Tryz.prog.cellsOf 4 = 1 := by kernel_rfl
 have g0 : c0 = .string s := by simpa [c9] using e0
 have g1 : c1 = .int .i64 m := by simpa [c3] using e1
 have g2 : c2 = .bool q := by simpa [c4] using e2
 simp only [List.map_cons, List.map_nil, Prod.mk.injEq, DataW.agg.injEq, List.cons.injEq, DataW.lit.injEq, Lit.string.injEq, Lit.int.injEq, Lit.bool.injEq, true_and, and_true] at hx; obtain ⟨⟨rfl, rfl, rfl⟩, _⟩ := hx; subst g0; subst g1; subst g2; rfl
theorem types_of {W : World} (h : Lib.VarReads Tryz.prog W "rollbook/attr.types" (Rows.laid_rollbook_attr_types : DataW Unit)) : ∃ t fr, W.heap[0]? = some (.cells Print.attrCells t fr) := by
 obtain ⟨g, t, cs, fuel, p, hg, hty, hvar, hd⟩ := h; obtain rfl := Option.some.inj ((show Tryz.prog.globalNamed "rollbook/attr.types" = some 0 by kernel_rfl).symm.trans hg); obtain rfl := Option.some.inj ((show (Tryz.prog.globals[0]?).map (·.type) = some 63 by kernel_rfl).symm.trans hty); rw [types_is] at hd; obtain ⟨xs, m, rfl, hx, hl, hn, hf⟩ := DataW.trod_array Tryz.underlying63 hd; rw [show Tryz.prog.cellsOf 63 = 60 by kernel_rfl] at hl; rw [cells23] at hf; have hxs : xs.map (·.1) = Print.attrTab.map fun x => (DataW.agg [.lit (.string x.1.data.toList), .lit (.int .i64 x.2.1), .lit (.bool x.2.2)] : DataW Unit) := by
  have := congrArg Prod.fst hx; simpa using this.symm
 have hrow : ∀ i, i < 20 → (cs.toList.drop (i * 3)).take 3 = [.string (Print.attrTab.getD i default).1, .int .i64 (Print.attrTab.getD i default).2.1, .bool (Print.attrTab.getD i default).2.2] := by
  intro i hi; have h1 := hf i hi; rw [List.getElem?_eq_getElem (by omega)] at h1; have h2 : (xs.map (·.1))[i]? = some (xs[i]'(by omega)).1 := by rw [List.getElem?_map, List.getElem?_eq_getElem (by omega)]; rfl
  rw [hxs, List.getElem?_map, List.getElem?_eq_getElem (show i < Print.attrTab.length from hi)] at h2; simp only [Option.map_some, Option.some.injEq] at h2; rw [show xs[i]'(by omega) = ((xs[i]'(by omega)).1, (xs[i]'(by omega)).2) from rfl, ← h2] at h1; have h3 := attr_row h1; rw [h3, List.getD_eq_getElem?_getD, List.getElem?_eq_getElem (show i < Print.attrTab.length from hi)]; rfl
 have hcs : cs = Print.attrCells := by
  apply Array.ext'; apply List.ext_getElem?; intro j; by_cases hj : j < 60
  ·have h1 := congrArg (·[j % 3]?) (hrow (j / 3) (by omega)); simp only [List.getElem?_take, List.getElem?_drop] at h1; rw [if_pos (Nat.mod_lt _ (by omega)), show j / 3 * 3 + j % 3 = j by omega] at h1; rw [h1]; have h2 : ∀ q r, q < 20 → r < 3 → ([Value.string (Print.attrTab.getD q default).1, .int .i64 (Print.attrTab.getD q default).2.1, .bool (Print.attrTab.getD q default).2.2] : List Value)[r]? = Print.attrCells.toList[q * 3 + r]? := by
    intro q r hq hr; match q, hq with
    | 0, _ | 1, _ | 2, _ | 3, _ | 4, _ | 5, _ | 6, _ | 7, _ | 8, _ | 9, _ | 10, _ | 11, _ | 12, _ | 13, _ | 14, _ | 15, _ | 16, _ | 17, _ | 18, _ | 19, _ =>
     match r, hr with
     | 0, _ | 1, _ | 2, _ => rfl
     | r + 3, h => exact absurd h (by omega)
    | q + 20, h => exact absurd h (by omega)
   rw [h2 (j / 3) (j % 3) (by omega) (Nat.mod_lt _ (by omega)), show j / 3 * 3 + j % 3 = j by omega]
  ·rw [List.getElem?_eq_none (by omega), List.getElem?_eq_none (show Print.attrCells.toList.length ≤ j by show 60 ≤ j; omega)]
 unfold World.var? at hvar; rw [hg, Option.bind_some] at hvar; split at hvar
 ·rename_i c e fr hc; injection hvar with hvar; subst hvar; subst hcs; exact ⟨e, fr, hc⟩
 ·cases hvar
theorem gw_of {W : World} (hsh : W.ShapedOpen Tryz.prog) (hL : laidMetH Tryz.prog laid2 W) : Print.Gw W := by
 rw [MakeChecks.laidMetH_plain _ _ _ (by kernel_rfl)] at hL; refine ⟨cell_of_shapedOpen_int (zero := #[.int .i64 0]) (t := 3) hsh (of_decide_eq_true (by kernel_rfl)) (by kernel_rfl) rfl (by kernel_rfl) (by kernel_rfl) Tryz.underlying3, ?_, ?_⟩
 ·refine utf8Tabs_of_readsT u8types u8extra ?_ ?_
  ·rw [← first_is]; exact Lib.laidMet.reads hL (by simp [laid2])
  ·rw [← accept_is]; exact Lib.laidMet.reads hL (by simp [laid2])
 ·exact types_of (Lib.laidMet.reads hL (by simp [laid2]))
end Go.Proofs.YtpklcnpmppaaoaaGreatDoor
