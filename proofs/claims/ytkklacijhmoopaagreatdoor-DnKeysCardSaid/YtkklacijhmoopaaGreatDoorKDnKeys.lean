/- Whatever the two names, the program's dn.Keys, dn.Key, dn.Under and dn.Same answer as the document's Keys, Key and Under (names up to 30 relative names of 30 pairs of 600 bytes are compared). Condition: none beyond the card's (the listed tables of unicode/utf8 read as the program's text lays them). -/
import Derived.Test.YtkklacijhmoopaaGreatDoorADnKeys5
namespace Go.Proofs.YtkklacijhmoopaaGreatDoor
open Go.ChangeShapes Go.WideShapes Go.ChangeAt Go.RowKit
open Go.ChangeMaps (open_string shut_string)
set_option linter.unusedVariables false
open Go.Proofs.YtkklacijhmoopaaGreatDoorW.PrintWords
theorem laidOut : laidOutB Tryz.prog = true := by kernel_rfl
theorem opensAva : Opens.Opens Tryz.prog 40 Print.k40 :=
  Opens.opens_iso _ (fun x => ⟨x.1, x.2⟩) (fun _ => rfl) (Opens.opens_two Tryz.underlying40 rfl (by kernel_rfl) (by kernel_rfl) (Opens.opens_string Tryz.underlying9) (Opens.opens_string Tryz.underlying9))
theorem opensName : Opens.Opens Tryz.prog 22 (Kd.slice 35 (Kd.slice 40 Print.k40)) :=
  Opens.opens_slice Tryz.underlying22 (by kernel_rfl) (Opens.opens_slice Tryz.underlying35 (by kernel_rfl) opensAva)
namespace DnKeysRow
set_option maxRecDepth 100000 in
theorem lifted (os : Os) (started : os.Started) (H : Type) (enc : TypeId × Value → H) :
    ReturnsInHanded {} Tryz.checked os 4 .any (fun w args => (Rows.dnKeysSpec.pre enc Tryz.prog Tryz.f4 Rows.dnKeysRow.domain false w args ∧ laidMetH Tryz.prog laid2 w) ∧ sizedMet enc Tryz.prog Tryz.f4 (OpenSpec.ofChange Rows.dnKeysSpec) false w args)
      (Rows.dnKeysSpec.post enc Tryz.prog Tryz.f4 false true false false) := by
  refine handed_laid (C := Tryz.checked) (X := fun w _ => laidMetH Tryz.prog laid2 w) (fun _ _ _ hh h => h.of_heap hh) own started (by kernel_rfl) Tryz.func4
    (ChangeSpec.witness_shaped (enc := enc) (C := Tryz.checked) (os := os) (X := fun w _ => laidMetH Tryz.prog laid2 w) false (World.laidAll Tryz.prog os laid2) #[.slice none 0 0, .slice none 0 0] 8 (World.laidAll_os _ _ _)
      (World.shaped_of_ZipB (by kernel_rfl) (by kernel_rfl)) (by kernel_rfl) (by kernel_rfl) (by kernel_rfl)
      (by rw [MakeChecks.laidMetH_plain _ _ _ (by kernel_rfl)]; exact laidMet_laidAll _ (by kernel_rfl) (by kernel_rfl))) ?_
  intro W base args ds gs before hval0 hW _ hsz0 hL hsh _
  have hsz : (DataW.weightsEach Tryz.prog (Tryz.f4.params.toList ++ Rows.dnKeysSpec.plain.varTypes Tryz.prog) (ds ++ gs)).all (· ≤ reachBytes) = true := hsz0
  have hval : ∀ (j : Nat) t v, Tryz.f4.params[j]? = some t → args[j]? = some v → Value.okWide Tryz.prog W .any base t v := hval0
  have hW' := hW
  obtain ⟨p, q, hA0, hV, rfl, hfz, hnd⟩ := hW
  have hA : DataW.TrodAll enc Tryz.prog W 0 (fun _ => true) true Tryz.f4.params.toList args.toList ds p := hA0
  rw [Tryz.params4] at hA hval hsz
  obtain ⟨v0, vs0, d0, ds0, p0, q0, hargs, rfl, rfl, h0, r0⟩ := trodAll_cons hA
  obtain ⟨v1, vs1, d1, ds1, p1, q1, rfl, rfl, rfl, h1, r1⟩ := trodAll_cons r0
  obtain ⟨rfl, rfl, rfl⟩ := trodAll_nil r1
  obtain rfl : args = #[v0, v1] := by cases args; simp_all
  obtain ⟨rfl, rfl⟩ := trodVars_none hV
  obtain ⟨a0, len0, cap0, rfl⟩ := okWide_slice Tryz.underlying22 (hval 0 22 v0 rfl rfl)
  obtain ⟨a1, len1, cap1, rfl⟩ := okWide_slice Tryz.underlying22 (hval 1 22 v1 rfl rfl)
  have k1 := h1
  have lt1 : ∀ x ∈ p1, x.block < W.heap.size := by obtain ⟨m, hm⟩ := k1; exact DataW.trod_lt m _ _ _ hm
  have k0 := h0
  have lt0 : ∀ x ∈ p0, x.block < W.heap.size := by obtain ⟨m, hm⟩ := k0; exact DataW.trod_lt m _ _ _ hm
  obtain ⟨l0, A1, c1, hcs, hc0, hr0⟩ : ∃ l, (Kd.slice 35 (Kd.slice 40 Print.k40)).K W l [.slice a0 len0 cap0] := by
    obtain ⟨fuel, hf⟩ := h0
    exact opensName enc W 0 _ _ fuel _ _ hf
  obtain ⟨rfl, rfl, rfl⟩ : a0 = A1 ∧ len0 = l0.length ∧ cap0 = c1 := by simpa using hcs
  obtain ⟨l1, A2, c2, hcs1, hc1, hr1⟩ : ∃ l, (Kd.slice 35 (Kd.slice 40 Print.k40)).K W l [.slice a1 len1 cap1] := by
    obtain ⟨fuel, hf⟩ := h1
    exact opensName enc W 0 _ _ fuel _ _ hf
  obtain ⟨rfl, rfl, rfl⟩ : a1 = A2 ∧ len1 = l1.length ∧ cap1 = c2 := by simpa using hcs1
  have hG := gw_of hsh hL
  clear hA0 hval0 hsz0 hsz
  obtain ⟨k, hk⟩ := Print.DnKeys_main l0 l1
  refine (Print.L15DnKeys.calls k a0 cap0 l0 a1 cap1 l1 true W hr0 hc0 hr1 hc1 hG hk).mono fun e W' ⟨he, bel⟩ => ?_
  subst he
  exact ⟨_, rfl, _, _, _, [], _, [], hW', trodAll_mk1 (shut_bool Tryz.underlying4 _), (trodAll_cons_mk (Below.trod laidOut (by kernel_rfl) (of_decide_eq_true (by kernel_rfl)) k0 bel lt0) (trodAll_cons_mk (Below.trod laidOut (by kernel_rfl) (of_decide_eq_true (by kernel_rfl)) k1 bel lt1) trodAll_mk0)), rfl, bel.frame _, fun h => by cases h⟩
theorem over : Rows.DnKeysSaid :=
  OpenClaim.holds_of_wide 4 Tryz.f4 rfl rfl rfl rfl rfl rfl rfl ⟨rfl, rfl, rfl, rfl, rfl⟩ rfl rfl rfl rfl rfl (by kernel_rfl) Tryz.func4 (by kernel_rfl)
    (of_decide_eq_true (by kernel_rfl)) (by unfold Func.isWrapper; first | (rw [if_pos (by decide +kernel)]; kernel_rfl) | (rw [if_neg (by decide +kernel)]; exact ⟨rfl, rfl⟩))
    (fun os started H enc _ => lifted os started H enc)
end DnKeysRow
theorem dnKeys_holds : Rows.DnKeysCardSaid :=
  Claim7.holds_tied_plain_at .later [] [.data, .pinned] true (true, "94a97b81216322cff15a4edceedf55267b7620635ae890013a9db36db79e403d") false DnKeysRow.over (fun _ h => by cases h) (by kernel_rfl) (fun _ h => by cases h) dnKeys_row_tie rfl ⟨rfl, rfl⟩ (by kernel_rfl) rfl
    (fun f fn hf hfn => by
      obtain rfl : f = 4 := Option.some.inj ((show Tryz.prog.funcNamed "rollbook/rollbooklaw15.DnKeys" = some 4 by kernel_rfl).symm.trans hf) |>.symm
      obtain rfl : fn = Tryz.f4 := (Option.some.inj (Tryz.func4.symm.trans hfn)).symm
      exact ⟨by kernel_rfl, fun j t ht => by
        rw [Tryz.params4] at ht
        have hm : t ∈ [22, 22] := by simpa using Array.mem_of_getElem? ht
        have hall : ([22, 22].all fun u => !Tryz.prog.wantsStandIn u) = true := by kernel_rfl
        exact (show Tryz.prog.wantsStandIn t = false by simpa using List.all_eq_true.1 hall t hm)⟩)
    (by kernel_rfl)
#print axioms dnKeys_holds
end Go.Proofs.YtkklacijhmoopaaGreatDoor
