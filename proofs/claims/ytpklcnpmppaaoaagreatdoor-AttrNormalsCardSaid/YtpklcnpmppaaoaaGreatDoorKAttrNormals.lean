/- Whatever the attribute's type and the value (up to 2000 bytes), the program's normal form of the value, or its refusal, is the document's. Condition: none beyond the card's (the listed variables read as the program's text lays them). -/
import Derived.Test.YtpklcnpmppaaoaaGreatDoorAAttrNormals5
namespace Go.Proofs.YtpklcnpmppaaoaaGreatDoor
open Go.ChangeShapes Go.WideShapes Go.ChangeAt Go.RowKit
open Go.ChangeMaps (open_string shut_string)
open Go.Joins (open_agg2 open_agg3)
set_option linter.unusedVariables false
set_option linter.unusedSimpArgs false
open Go.Proofs.YtpklcnpmppaaoaaGreatDoorW.PrintWords
theorem laidOut : laidOutB Tryz.prog = true := by kernel_rfl
namespace AttrNormalsRow
set_option maxRecDepth 100000 in
theorem lifted (os : Os) (started : os.Started) (H : Type) (enc : TypeId × Value → H) :
    ReturnsInHanded {} Tryz.checked os 6 .any (fun w args => (Rows.attrNormalsSpec.pre enc Tryz.prog Tryz.f6 Rows.attrNormalsRow.domain false w args ∧ laidMetH Tryz.prog laid2 w) ∧ sizedMet enc Tryz.prog Tryz.f6 (OpenSpec.ofChange Rows.attrNormalsSpec) false w args)
      (Rows.attrNormalsSpec.post enc Tryz.prog Tryz.f6 false true false false) := by
  refine handed_laid (C := Tryz.checked) (X := fun w _ => laidMetH Tryz.prog laid2 w) (fun _ _ _ hh h => h.of_heap hh) own started (by kernel_rfl) Tryz.func6
    (ChangeSpec.witness_shaped (enc := enc) (C := Tryz.checked) (os := os) (X := fun w _ => laidMetH Tryz.prog laid2 w) false (World.laidAll Tryz.prog os laid2) #[.agg #[.string ⟨#[]⟩, .int .i64 0, .bool false], .string ⟨#[]⟩] 8 (World.laidAll_os _ _ _)
      (World.shaped_of_ZipB (by kernel_rfl) (by kernel_rfl)) (by kernel_rfl) (by kernel_rfl) (by kernel_rfl)
      (by rw [MakeChecks.laidMetH_plain _ _ _ (by kernel_rfl)]; exact laidMet_laidAll _ (by kernel_rfl) (by kernel_rfl))) ?_
  intro W base args ds gs before hval0 hW _ hsz0 hL hsh _
  have hval : ∀ (j : Nat) t v, Tryz.f6.params[j]? = some t → args[j]? = some v → Value.okWide Tryz.prog W .any base t v := hval0
  have hW' := hW
  obtain ⟨p, q, hA0, hV, rfl, hfz, hnd⟩ := hW
  have hA : DataW.TrodAll enc Tryz.prog W 0 (fun _ => true) true Tryz.f6.params.toList args.toList ds p := hA0
  rw [Tryz.params6] at hA hval
  obtain ⟨v0, vs0, d0, ds0, p0, q0, hargs, rfl, rfl, h0, r0⟩ := trodAll_cons hA
  obtain ⟨v1, vs1, d1, ds1, p1, q1, rfl, rfl, rfl, h1, r1⟩ := trodAll_cons r0
  obtain ⟨rfl, rfl, rfl⟩ := trodAll_nil r1
  obtain rfl : args = #[v0, v1] := by cases args; simp_all
  obtain ⟨rfl, rfl⟩ := trodVars_none hV
  have k0 := h0
  have lt0 : ∀ x ∈ p0, x.block < W.heap.size := by obtain ⟨m, hm⟩ := k0; exact DataW.trod_lt m _ _ _ hm
  obtain ⟨n0, m0, b0, hv0⟩ : ∃ n m b, v0 = .agg #[.string n, .int .i64 m, .bool b] := by
    obtain ⟨x0, x1, x2, y0, y1, y2, n, h, _, _, t0, t1, t2⟩ := open_agg3 Tryz.underlying23 (by kernel_rfl) (by kernel_rfl) (hval 0 23 v0 rfl rfl) h0
    obtain ⟨s, e0, _⟩ := DataW.trod_string Tryz.underlying9 t0
    obtain ⟨m, e1, _⟩ := DataW.trod_int Tryz.underlying3 t1
    obtain ⟨b, e2, _⟩ := DataW.trod_bool Tryz.underlying4 t2
    injection e0 with e0 _
    injection e1 with e1 _
    injection e2 with e2 _
    exact ⟨s, m, b, by rw [h, e0, e1, e2]⟩
  subst hv0
  have k1 := h1
  have lt1 : ∀ x ∈ p1, x.block < W.heap.size := by obtain ⟨m, hm⟩ := k1; exact DataW.trod_lt m _ _ _ hm
  obtain ⟨s1, hv1⟩ : ∃ s, v1 = .string s := by obtain ⟨s, h, _⟩ := open_string Tryz.underlying9 (hval 1 9 v1 rfl rfl) h1; exact ⟨s, h⟩
  subst hv1
  have hG := gw_of hsh hL
  clear hA0 hval0 hsz0
  obtain ⟨k, hk⟩ := Print.AttrNormals_main n0 m0 b0 s1
  refine (Print.L16AttrNormals.calls k n0 m0 b0 s1 true W  hG hk).mono fun e W' ⟨he, bel⟩ => ?_
  subst he
  exact ⟨_, rfl, _, _, _, [], _, [], hW', trodAll_mk1 (shut_bool Tryz.underlying4 _), (trodAll_cons_mk (Below.trod laidOut (by kernel_rfl) (of_decide_eq_true (by kernel_rfl)) k0 bel lt0) (trodAll_cons_mk (Below.trod laidOut (by kernel_rfl) (of_decide_eq_true (by kernel_rfl)) k1 bel lt1) trodAll_mk0)), rfl, bel.frame _, fun h => by cases h⟩
theorem over : Rows.AttrNormalsSaid :=
  OpenClaim.holds_of_wide 6 Tryz.f6 rfl rfl rfl rfl rfl rfl rfl ⟨rfl, rfl, rfl, rfl, rfl⟩ rfl rfl rfl rfl rfl (by kernel_rfl) Tryz.func6 (by kernel_rfl)
    (of_decide_eq_true (by kernel_rfl)) (by unfold Func.isWrapper; first | (rw [if_pos (by decide +kernel)]; kernel_rfl) | (rw [if_neg (by decide +kernel)]; exact ⟨rfl, rfl⟩))
    (fun os started H enc _ => lifted os started H enc)
end AttrNormalsRow
theorem attrNormals_holds : Rows.AttrNormalsCardSaid :=
  Claim7.holds_tied_plain_at .later [] [.data, .data, .data, .data, .sentinel, .sentinel, .data, .pinned] true (true, "3e73a1051b54d5615e4126e7d57c5b0d9d10a2c5200b59b9563f0ec0643d0e1f") true AttrNormalsRow.over (fun _ h => by cases h) (by kernel_rfl) (fun _ h => by cases h) attrNormals_row_tie rfl ⟨rfl, rfl⟩ (by kernel_rfl) rfl
    (fun f fn hf hfn => by
      obtain rfl : f = 6 := Option.some.inj ((show Tryz.prog.funcNamed "rollbook/rollbooklaw16.AttrNormals" = some 6 by kernel_rfl).symm.trans hf) |>.symm
      obtain rfl : fn = Tryz.f6 := (Option.some.inj (Tryz.func6.symm.trans hfn)).symm
      exact ⟨by kernel_rfl, fun j t ht => by
        rw [Tryz.params6] at ht
        have hm : t ∈ [23, 9] := by simpa using Array.mem_of_getElem? ht
        have hall : ([23, 9].all fun u => !Tryz.prog.wantsStandIn u) = true := by kernel_rfl
        exact (show Tryz.prog.wantsStandIn t = false by simpa using List.all_eq_true.1 hall t hm)⟩)
    (by kernel_rfl)
#print axioms attrNormals_holds
end Go.Proofs.YtpklcnpmppaaoaaGreatDoor
