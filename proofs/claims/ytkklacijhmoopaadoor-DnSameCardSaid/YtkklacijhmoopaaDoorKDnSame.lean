/- Whatever the name and the order of the pairs within its relative names, the text that the law writes of it (types in capitals, blanks around signs, semicolons) is read by dn.Parse as the same name, and dn.Same and dn.Under say so. Condition: none beyond the card's (the two listed tables of unicode/utf8 read as the program's text lays them). -/
import Derived.Test.YtkklacijhmoopaaDoorADnSame4
namespace Go.Proofs.YtkklacijhmoopaaDoor
open Go.ChangeShapes Go.WideShapes Go.ChangeAt Go.RowKit
open Go.ChangeMaps (open_string shut_string)
set_option linter.unusedVariables false
open Go.Proofs.YtkklacijhmoopaaDoorW.PrintWords
theorem laidOut : laidOutB Tryd.prog = true := by kernel_rfl
theorem opensAva : Opens.Opens Tryd.prog 40 Print.k40 :=
  Opens.opens_iso _ (fun x => ⟨x.1, x.2⟩) (fun _ => rfl) (Opens.opens_two Tryd.underlying40 rfl (by kernel_rfl) (by kernel_rfl) (Opens.opens_string Tryd.underlying9) (Opens.opens_string Tryd.underlying9))
theorem opensName : Opens.Opens Tryd.prog 29 (Kd.slice 37 (Kd.slice 40 Print.k40)) :=
  Opens.opens_slice Tryd.underlying29 (by kernel_rfl) (Opens.opens_slice Tryd.underlying37 (by kernel_rfl) opensAva)
namespace DnSameRow
set_option maxRecDepth 100000 in
theorem lifted (os : Os) (started : os.Started) (H : Type) (enc : TypeId × Value → H) :
    ReturnsInHanded {} Tryd.checked os 6 .any (fun w args => (Rows.dnSameSpec.pre enc Tryd.prog Tryd.f6 Rows.dnSameRow.domain false w args ∧ laidMetH Tryd.prog laid2 w) ∧ sizedMet enc Tryd.prog Tryd.f6 (OpenSpec.ofChange Rows.dnSameSpec) false w args)
      (Rows.dnSameSpec.post enc Tryd.prog Tryd.f6 false true false false) := by
  refine handed_laid (C := Tryd.checked) (X := fun w _ => laidMetH Tryd.prog laid2 w) (fun _ _ _ hh h => h.of_heap hh) own started (by kernel_rfl) Tryd.func6
    (ChangeSpec.witness_shaped (enc := enc) (C := Tryd.checked) (os := os) (X := fun w _ => laidMetH Tryd.prog laid2 w) false (World.laidAll Tryd.prog os laid2) #[.slice none 0 0, .bool false] 8 (World.laidAll_os _ _ _)
      (World.shaped_of_ZipB (by kernel_rfl) (by kernel_rfl)) (by kernel_rfl) (by kernel_rfl) (by kernel_rfl)
      (by rw [MakeChecks.laidMetH_plain _ _ _ (by kernel_rfl)]; exact laidMet_laidAll _ (by kernel_rfl) (by kernel_rfl))) ?_
  intro W base args ds gs before hval0 hW _ hsz0 hL hsh _
  have hsz : (DataW.weightsEach Tryd.prog (Tryd.f6.params.toList ++ Rows.dnSameSpec.plain.varTypes Tryd.prog) (ds ++ gs)).all (· ≤ reachBytes) = true := hsz0
  have hval : ∀ (j : Nat) t v, Tryd.f6.params[j]? = some t → args[j]? = some v → Value.okWide Tryd.prog W .any base t v := hval0
  have hW' := hW
  obtain ⟨p, q, hA0, hV, rfl, hfz, hnd⟩ := hW
  have hA : DataW.TrodAll enc Tryd.prog W 0 (fun _ => true) true Tryd.f6.params.toList args.toList ds p := hA0
  rw [Tryd.params6] at hA hval hsz
  obtain ⟨v0, vs0, d0, ds0, p0, q0, hargs, rfl, rfl, h0, r0⟩ := trodAll_cons hA
  obtain ⟨v1, vs1, d1, ds1, p1, q1, rfl, rfl, rfl, h1, r1⟩ := trodAll_cons r0
  obtain ⟨rfl, rfl, rfl⟩ := trodAll_nil r1
  obtain rfl : args = #[v0, v1] := by cases args; simp_all
  obtain ⟨rfl, rfl⟩ := trodVars_none hV
  obtain ⟨a0, len0, cap0, rfl⟩ := okWide_slice Tryd.underlying29 (hval 0 29 v0 rfl rfl)
  obtain ⟨b1, rfl⟩ := okWide_bool Tryd.underlying4 (hval 1 4 v1 rfl rfl)
  have k1 := h1
  have lt1 : ∀ x ∈ p1, x.block < W.heap.size := by obtain ⟨m, hm⟩ := k1; exact DataW.trod_lt m _ _ _ hm
  have k0 := h0
  have lt0 : ∀ x ∈ p0, x.block < W.heap.size := by obtain ⟨m, hm⟩ := k0; exact DataW.trod_lt m _ _ _ hm
  obtain ⟨l0, A1, c1, hcs, hc0, hr0⟩ : ∃ l, (Kd.slice 37 (Kd.slice 40 Print.k40)).K W l [.slice a0 len0 cap0] := by
    obtain ⟨fuel, hf⟩ := h0
    exact opensName enc W 0 _ _ fuel _ _ hf
  obtain ⟨rfl, rfl, rfl⟩ : a0 = A1 ∧ len0 = l0.length ∧ cap0 = c1 := by simpa using hcs
  have hG := gw_of hsh hL
  clear hA0 hval0 hsz0 hsz
  obtain ⟨k, hk⟩ := Print.DnSame_main l0 b1
  refine (Print.L15DnSame.calls k a0 cap0 l0 b1 true W hr0 hc0 hG hk).mono fun e W' ⟨he, bel⟩ => ?_
  subst he
  exact ⟨_, rfl, _, _, _, [], _, [], hW', trodAll_mk1 (shut_bool Tryd.underlying4 _), (trodAll_cons_mk (Below.trod laidOut (by kernel_rfl) (of_decide_eq_true (by kernel_rfl)) k0 bel lt0) (trodAll_cons_mk (Below.trod laidOut (by kernel_rfl) (of_decide_eq_true (by kernel_rfl)) k1 bel lt1) trodAll_mk0)), rfl, bel.frame _, fun h => by cases h⟩
theorem over : Rows.DnSameSaid :=
  OpenClaim.holds_of_wide 6 Tryd.f6 rfl rfl rfl rfl rfl rfl rfl ⟨rfl, rfl, rfl, rfl, rfl⟩ rfl rfl rfl rfl rfl (by kernel_rfl) Tryd.func6 (by kernel_rfl)
    (of_decide_eq_true (by kernel_rfl)) (by unfold Func.isWrapper; first | (rw [if_pos (by decide +kernel)]; kernel_rfl) | (rw [if_neg (by decide +kernel)]; exact ⟨rfl, rfl⟩))
    (fun os started H enc _ => lifted os started H enc)
end DnSameRow
theorem dnSame_holds : Rows.DnSameCardSaid :=
  Claim7.holds_tied_plain_at .later [] [.data, .pinned] true (true, "09e7cc77a129377073d45e7d7c44e952365f4cf8ae97344b01907a11b6535608") false DnSameRow.over (fun _ h => by cases h) (by kernel_rfl) (fun _ h => by cases h) dnSame_row_tie rfl ⟨rfl, rfl⟩ (by kernel_rfl) rfl
    (fun f fn hf hfn => by
      obtain rfl : f = 6 := Option.some.inj ((show Tryd.prog.funcNamed "rollbook/rollbooklaw15.DnSame" = some 6 by kernel_rfl).symm.trans hf) |>.symm
      obtain rfl : fn = Tryd.f6 := (Option.some.inj (Tryd.func6.symm.trans hfn)).symm
      exact ⟨by kernel_rfl, fun j t ht => by
        rw [Tryd.params6] at ht
        have hm : t ∈ [29, 4] := by simpa using Array.mem_of_getElem? ht
        have hall : ([29, 4].all fun u => !Tryd.prog.wantsStandIn u) = true := by kernel_rfl
        exact (show Tryd.prog.wantsStandIn t = false by simpa using List.all_eq_true.1 hall t hm)⟩)
    (by kernel_rfl)
#print axioms dnSame_holds
end Go.Proofs.YtkklacijhmoopaaDoor
