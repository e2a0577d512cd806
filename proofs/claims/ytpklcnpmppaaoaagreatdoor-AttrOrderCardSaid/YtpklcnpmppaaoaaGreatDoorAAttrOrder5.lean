-- laid together by pack.py (a program of this session)
import Derived.Test.YtpklcnpmppaaoaaGreatDoorAAttrOrder4
namespace Go
variable {H : Type} {enc : TypeId × Value → H}
theorem handed_laid {a : Assume} {C : Checked} {os : Os} {f : FuncId} {fn : Func} {s : ChangeSpec} {conds : List PathCond} {apart fresh handsOn again : Bool} {X : World → Array Value → Prop}
    (hX : ∀ (w w' : World) (args : Array Value), w.heap = w'.heap → X w args → X w' args)
    (own : ownKnob C.prog.godebug = none) (started : os.Started) (noInit : C.prog.inits.idxOf? f = none) (hfn : C.prog.funcs[f]? = some fn)
    (witness : ∃ (w : World) (tape : Tape) (i : Input), w.os = os ∧ (w.forCall tape i).Shaped C.prog ∧ i.vars = [] ∧ Input.okWide C.prog (w.forCall tape i) .any w.heap.size f i ∧
      ((s.pre enc C.prog fn conds apart (w.forCall tape i).memory i.args ∧ X (w.forCall tape i).memory i.args) ∧ sizedMet enc C.prog fn (OpenSpec.ofChange s) apart (w.forCall tape i).memory i.args) ∧ a.holds C.prog (lone (Frame.enter C.prog f i.args .normal) [] (w.forCall tape i)))
    (contract : ∀ (W : World) (base : Nat) (args : Array Value) (ds gs : List (DataW H)) (before : List MemPlace),
      (∀ (j : Nat) t v, fn.params[j]? = some t → args[j]? = some v → Value.okWide C.prog W .any base t v) →
      DataW.Whole enc C.prog fn.params.toList s.vars apart W args.toList ds gs before →
      conds.all (PathCond.test C.prog ⟨fn.params.toList, ds, s.plain.varTypes C.prog, gs⟩) = true →
      (DataW.weightsEach C.prog (fn.params.toList ++ s.plain.varTypes C.prog) (ds ++ gs)).all (· ≤ reachBytes) = true → X W args →
      W.ShapedOpen C.prog →
      a.holds C.prog (lone (Frame.enter C.prog f args .normal) [] W) →
      Calls C.prog f args W fun e W' => ∃ v, e = .returned v ∧ s.post enc C.prog fn apart fresh handsOn again W args v W') :
    ReturnsInHanded a C os f .any (fun w args => (s.pre enc C.prog fn conds apart w args ∧ X w args) ∧ sizedMet enc C.prog fn (OpenSpec.ofChange s) apart w args) (s.post enc C.prog fn apart fresh handsOn again) := by
  refine returnsInHanded_of_calls own started noInit witness ?_
  intro w tape i _ hsh _ hok hpre hholds
  obtain ⟨_, _, _, fn', hfn', _, _, _, _, hval⟩ := hok
  have e : fn' = fn := Option.some.inj (hfn'.symm.trans hfn)
  subst e
  obtain ⟨⟨⟨ds, gs, before, hw, hc⟩, hx⟩, hz⟩ := hpre
  have hw' := DataW.Whole.of_heap (w' := w.forCall tape i) (by rfl) hw
  refine (contract (w.forCall tape i) w.heap.size i.args ds gs before hval hw' hc (hz.weights hw) (hX _ _ _ (by rfl) hx) hsh hholds).mono fun e W' ⟨v, he, hp⟩ => ?_
  subst he
  exact ChangeSpec.post_blind hp
end Go
namespace Go.Proofs.YtpklcnpmppaaoaaGreatDoor
open Go.ChangeShapes Go.WideShapes Go.ChangeAt Go.RowKit
open Go.ChangeMaps (open_string shut_string)
set_option maxRecDepth 100000
theorem own : ownKnob Tryz.prog.godebug = none := by kernel_rfl
def laid2 : List (String × DataW Unit) := [("math/bits.deBruijn32tab", Rows.laid_math_bits_deBruijn32tab), ("math/bits.deBruijn64tab", Rows.laid_math_bits_deBruijn64tab), ("internal/strconv.uint64pow10", Rows.laid_internal_strconv_uint64pow10), ("unicode/utf8.acceptRanges", Rows.laid_unicode_utf8_acceptRanges), ("strconv.ErrRange", Rows.laid_strconv_ErrRange), ("strconv.ErrSyntax", Rows.laid_strconv_ErrSyntax), ("rollbook/attr.types", Rows.laid_rollbook_attr_types), ("unicode/utf8.first", Rows.laid_unicode_utf8_first)]
theorem first_is : (Rows.laid_unicode_utf8_first : DataW Unit) = Lib.firstData := by kernel_rfl
theorem accept_is : (Rows.laid_unicode_utf8_acceptRanges : DataW Unit) = Lib.acceptData := by kernel_rfl
def ren : Go.Shelf.Ren := ⟨fun n => n, fun | 5 => 5 | 119 => 181 | 138 => 183 | 139 => 184 | n => n, fun | 3 => 4 | 4 => 5 | n => n⟩
theorem u8types : U8Types Tryz.prog ren := { t5 := Tryz.underlying5, t119 := Tryz.underlying181, t138 := Tryz.underlying183, t139 := Tryz.underlying184 }
theorem u8extra : U8Extra Tryz.prog ren := { n3 := by kernel_rfl, n4 := by kernel_rfl, y3 := by kernel_rfl, y4 := by kernel_rfl, c5 := by kernel_rfl, c119 := by kernel_rfl, c138 := by kernel_rfl }
theorem types_is : (Rows.laid_rollbook_attr_types : DataW Unit) = .agg (Print.attrTab.map fun x => .agg [.lit (.string x.1.data.toList), .lit (.int .i64 x.2.1), .lit (.bool x.2.2)]) := by kernel_rfl
theorem cells23 : Tryz.prog.cellsOf 23 = 3 := by kernel_rfl
theorem attr_row {W : World} {cs : List Value} {fuel : Nat} {p : List MemPlace} {a : List UInt8} {k : Int} {b : Bool} (h : DataW.trod (fun _ : TypeId × Value => ()) Tryz.prog W 0 (fun _ => true) false fuel 23 cs = some (.agg [.lit (.string a), .lit (.int .i64 k), .lit (.bool b)], p)) : cs = [.string ⟨a.toArray⟩, .int .i64 k, .bool b] := by
  obtain ⟨xs, n, rfl, hx, hl, hn, hf⟩ := DataW.trod_struct Tryz.underlying23 h
  have k0 := hf 0 _ rfl
  have k1 := hf 1 _ rfl
  have k2 := hf 2 _ rfl
  rw [cells23] at hl
  have hn3 : xs.length = 3 := hn
  obtain ⟨x0, x1, x2, rfl⟩ : ∃ x0 x1 x2, xs = [x0, x1, x2] := by
    match xs, hn3 with
    | [x0, x1, x2], _ => exact ⟨x0, x1, x2, rfl⟩
  obtain ⟨c0, c1, c2, rfl⟩ : ∃ c0 c1 c2, cs = [c0, c1, c2] := by
    match cs, hl with
    | [c0, c1, c2], _ => exact ⟨c0, c1, c2, rfl⟩
  obtain ⟨s, e0, rfl, _⟩ := DataW.trod_string Tryz.underlying9 k0
  obtain ⟨m, e1, rfl, _⟩ := DataW.trod_int Tryz.underlying3 k1
  obtain ⟨q, e2, rfl⟩ := DataW.trod_bool Tryz.underlying4 k2
  have c9 : Tryz.prog.cellsOf 9 = 1 := by kernel_rfl
  have c3 : Tryz.prog.cellsOf 3 = 1 := by kernel_rfl
  have c4 : Tryz.prog.cellsOf 4 = 1 := by kernel_rfl
  have g0 : c0 = .string s := by simpa [c9] using e0
  have g1 : c1 = .int .i64 m := by simpa [c3] using e1
  have g2 : c2 = .bool q := by simpa [c4] using e2
  simp only [List.map_cons, List.map_nil, Prod.mk.injEq, DataW.agg.injEq, List.cons.injEq, DataW.lit.injEq, Lit.string.injEq, Lit.int.injEq, Lit.bool.injEq, true_and, and_true] at hx
  obtain ⟨⟨rfl, rfl, rfl⟩, _⟩ := hx
  subst g0; subst g1; subst g2
  rfl
theorem types_of {W : World} (h : Lib.VarReads Tryz.prog W "rollbook/attr.types" (Rows.laid_rollbook_attr_types : DataW Unit)) : ∃ t fr, W.heap[0]? = some (.cells Print.attrCells t fr) := by
  obtain ⟨g, t, cs, fuel, p, hg, hty, hvar, hd⟩ := h
  obtain rfl := Option.some.inj ((show Tryz.prog.globalNamed "rollbook/attr.types" = some 0 by kernel_rfl).symm.trans hg)
  obtain rfl := Option.some.inj ((show (Tryz.prog.globals[0]?).map (·.type) = some 63 by kernel_rfl).symm.trans hty)
  rw [types_is] at hd
  obtain ⟨xs, m, rfl, hx, hl, hn, hf⟩ := DataW.trod_array Tryz.underlying63 hd
  rw [show Tryz.prog.cellsOf 63 = 60 by kernel_rfl] at hl
  rw [cells23] at hf
  have hxs : xs.map (·.1) = Print.attrTab.map fun x => (DataW.agg [.lit (.string x.1.data.toList), .lit (.int .i64 x.2.1), .lit (.bool x.2.2)] : DataW Unit) := by
    have := congrArg Prod.fst hx
    simpa using this.symm
  have hrow : ∀ i, i < 20 → (cs.toList.drop (i * 3)).take 3 = [.string (Print.attrTab.getD i default).1, .int .i64 (Print.attrTab.getD i default).2.1, .bool (Print.attrTab.getD i default).2.2] := by
    intro i hi
    have h1 := hf i hi
    rw [List.getElem?_eq_getElem (by omega)] at h1
    have h2 : (xs.map (·.1))[i]? = some (xs[i]'(by omega)).1 := by rw [List.getElem?_map, List.getElem?_eq_getElem (by omega)]; rfl
    rw [hxs, List.getElem?_map, List.getElem?_eq_getElem (show i < Print.attrTab.length from hi)] at h2
    simp only [Option.map_some, Option.some.injEq] at h2
    rw [show xs[i]'(by omega) = ((xs[i]'(by omega)).1, (xs[i]'(by omega)).2) from rfl, ← h2] at h1
    have h3 := attr_row h1
    rw [h3, List.getD_eq_getElem?_getD, List.getElem?_eq_getElem (show i < Print.attrTab.length from hi)]; rfl
  have hcs : cs = Print.attrCells := by
    apply Array.ext'
    apply List.ext_getElem?
    intro j
    by_cases hj : j < 60
    · have h1 := congrArg (·[j % 3]?) (hrow (j / 3) (by omega))
      simp only [List.getElem?_take, List.getElem?_drop] at h1
      rw [if_pos (Nat.mod_lt _ (by omega)), show j / 3 * 3 + j % 3 = j by omega] at h1
      rw [h1]
      have h2 : ∀ q r, q < 20 → r < 3 → ([Value.string (Print.attrTab.getD q default).1, .int .i64 (Print.attrTab.getD q default).2.1, .bool (Print.attrTab.getD q default).2.2] : List Value)[r]? = Print.attrCells.toList[q * 3 + r]? := by
        intro q r hq hr
        match q, hq with
        | 0, _ | 1, _ | 2, _ | 3, _ | 4, _ | 5, _ | 6, _ | 7, _ | 8, _ | 9, _ | 10, _ | 11, _ | 12, _ | 13, _ | 14, _ | 15, _ | 16, _ | 17, _ | 18, _ | 19, _ =>
          match r, hr with
          | 0, _ | 1, _ | 2, _ => rfl
          | r + 3, h => exact absurd h (by omega)
        | q + 20, h => exact absurd h (by omega)
      rw [h2 (j / 3) (j % 3) (by omega) (Nat.mod_lt _ (by omega)), show j / 3 * 3 + j % 3 = j by omega]
    · rw [List.getElem?_eq_none (by omega), List.getElem?_eq_none (show Print.attrCells.toList.length ≤ j by show 60 ≤ j; omega)]
  unfold World.var? at hvar
  rw [hg, Option.bind_some] at hvar
  split at hvar
  · rename_i c e fr hc
    injection hvar with hvar
    subst hvar; subst hcs
    exact ⟨e, fr, hc⟩
  · cases hvar
theorem gw_of {W : World} (hsh : W.ShapedOpen Tryz.prog) (hL : laidMetH Tryz.prog laid2 W) : Print.Gw W := by
  rw [MakeChecks.laidMetH_plain _ _ _ (by kernel_rfl)] at hL
  refine ⟨cell_of_shapedOpen_int (zero := #[.int .i64 0]) (t := 3) hsh (of_decide_eq_true (by kernel_rfl)) (by kernel_rfl) rfl (by kernel_rfl) (by kernel_rfl) Tryz.underlying3, ?_, ?_⟩
  · refine utf8Tabs_of_readsT u8types u8extra ?_ ?_
    · rw [← first_is]; exact Lib.laidMet.reads hL (by simp [laid2])
    · rw [← accept_is]; exact Lib.laidMet.reads hL (by simp [laid2])
  · exact types_of (Lib.laidMet.reads hL (by simp [laid2]))
end Go.Proofs.YtpklcnpmppaaoaaGreatDoor
