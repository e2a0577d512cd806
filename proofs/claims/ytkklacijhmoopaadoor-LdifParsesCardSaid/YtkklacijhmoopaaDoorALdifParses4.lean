-- laid together by pack.py (a program of this session)
import Derived.Test.YtkklacijhmoopaaDoorALdifParses3
namespace Go.Proofs.YtkklacijhmoopaaDoor.Print
open Go.RowKit Go.Proofs.YtkklacijhmoopaaDoorW.PrintWords Go.Proofs.YtkklacijhmoopaaDoorW.PrintLast Go.Proofs.YtkklacijhmoopaaDoorW.PrintMore
set_option linter.unusedVariables false
set_option linter.unusedSimpArgs false
namespace B64
def tailOk : Option Nat → List RowS → Prop
  | none, tail => tail = []
  | some N, tail => ∃ t Y, tail = t :: Y ∧ t.f2 = true ∧ t.f1 = (N : Int)
def Opn (op : Bool) (rows : List Rw) : Prop := (op = true → ∃ ys y, rows = ys ++ [y] ∧ y.1 ≠ []) ∧ (op = false → rows = [] ∨ ∃ ys y, rows = ys ++ [y] ∧ y.1 = [])
theorem rows_ev (s : ByteArray) (hs : s.size ≤ 1000000) : ∀ (n at_ no : Nat) (rows : List Rw) (op : Bool), s.size - at_ < n → at_ ≤ s.size + 1 → no ≤ at_ → rows.length ≤ no → (∀ r ∈ rows, r.1.length ≤ at_) → Opn op rows →
    ∃ tail, Ev (fun k => R21Rows.l0 k s (rows.map mkL) (no : Int) (at_ : Int)) ((linesR n ((bl s).drop at_) rows op no).1.map mkL ++ tail) ∧ tailOk (linesR n ((bl s).drop at_) rows op no).2 tail := by
  intro n
  induction n with
  | zero => intro at_ no rows op h; omega
  | succ n ih =>
    intro at_ no rows op hn hat hno hrl hsz hop
    rw [linesR]
    by_cases hend : s.size ≤ at_
    · rw [if_pos (List.drop_eq_nil_of_le (by rw [bl_length]; exact hend))]
      refine ⟨[], ?_, rfl⟩
      rw [List.append_nil]
      exact rows_end s _ no at_ hend
    · have hne : (bl s).drop at_ ≠ [] := fun h => by have := nil_at h; omega
      rw [if_neg hne]
      obtain ⟨hrest, hal⟩ := rest_drop s at_ (by omega)
      have hle := line_le s at_ (by omega)
      have ihn := fun rows' op' => ih (at_ + (cutR 10 ((bl s).drop at_)).1.length + 1) (no + 1) rows' op' (by omega) (by omega) (by omega)
      rw [hrest] at ihn
      have hgo := fun (o : List RowS) => rline s hs (rows.map mkL) no at_ (by omega) (by omega) (o := o)
      have hml : (rows.map mkL).length = rows.length := List.length_map _
      have hlost := rows_lost s hs
      generalize lineOf ((bl s).drop at_) = t at *
      generalize restOf ((bl s).drop at_) = rr at *
      generalize (cutR 10 ((bl s).drop at_)).1.length = w at *
      cases hh : headIs 32 t with
      | false =>
        rw [hh] at hgo
        rw [if_neg (by simp)]
        obtain ⟨tail, h1, h2⟩ := ihn (rows ++ [(t, no + 1)]) (!t.isEmpty) (by simp; omega) (by
          intro y hy
          rcases List.mem_append.1 hy with hy | hy
          · have := hsz y hy; omega
          · simp only [List.mem_singleton] at hy
            subst hy
            show t.length ≤ _
            omega) (by
          constructor
          · intro h
            exact ⟨rows, (t, no + 1), rfl, by intro h0; rw [show (t, no + 1).1 = t from rfl] at h0; rw [h0] at h; cases h⟩
          · intro h
            refine .inr ⟨rows, (t, no + 1), rfl, ?_⟩
            cases t with
            | nil => rfl
            | cons c r => cases h)
        refine ⟨tail, hgo _ ?_, h2⟩
        refine row_push s _ (no + 1) _ t (by omega) ?_
        rw [List.map_append] at h1
        exact h1
      | true =>
        rw [hh] at hgo
        rw [if_pos rfl]
        cases op with
        | true =>
          rw [if_pos rfl]
          obtain ⟨ys, y, hr, hy0⟩ := hop.1 rfl
          subst hr
          have hys := hsz y (by simp)
          have hysl : ys.length + 1 ≤ no := by simpa using hrl
          have ht1 := head32 hh
          obtain ⟨tail, h1, h2⟩ := ihn (addLast (ys ++ [y]) t.tail) true (by rw [addLast_snoc]; simp; omega) (by
            rw [addLast_snoc]
            intro z hz
            rcases List.mem_append.1 hz with hz | hz
            · have := hsz z (by simp [hz]); omega
            · simp only [List.mem_singleton] at hz
              subst hz
              show (y.1 ++ t.tail).length ≤ _
              rw [List.length_append, List.length_tail]; omega) (by
            rw [addLast_snoc]
            exact ⟨fun _ => ⟨ys, _, rfl, by simp [hy0]⟩, fun h => by cases h⟩)
          rw [addLast_snoc] at h1 h2 ⊢
          refine ⟨tail, hgo _ ?_, h2⟩
          rw [List.map_append, show [y].map mkL = [mkL y] from rfl]
          have hfs : (mkL y).f0.size = y.1.length := mkB_size _
          refine row_app s (ys.map mkL) (mkL y) (no + 1) _ t (by rw [List.length_map]; omega) ht1 (by omega) (by omega) hy0 rfl ?_
          rw [List.map_append] at h1
          exact h1
        | false =>
          rw [if_neg (by simp)]
          obtain ⟨Y, hY⟩ := hlost (rows.map mkL) ⟨mkB t, ((no + 1 : Nat) : Int), true⟩ rfl (s.size + 1) (at_ + w + 1) (no + 1) [] (by omega) (by omega) (by omega) (by rw [hml]; simp; omega) (by simp)
          refine ⟨⟨mkB t, ((no + 1 : Nat) : Int), true⟩ :: Y, hgo _ ?_, _, Y, rfl, rfl, rfl⟩
          refine row_lose s _ (no + 1) _ t (by omega) ?_ hY
          rcases hop.2 rfl with hr | ⟨ys, y, hr, hy0⟩
          · exact .inl (by rw [hr]; rfl)
          · exact .inr ⟨ys.map mkL, mkL y, by rw [hr, List.map_append]; rfl, .inl hy0⟩
theorem refrows_ev (s : ByteArray) (hs : s.size ≤ 1000000) : ∃ tail, Ev (fun k => R21Rows.f k s) ((linesR (s.size + 1) (bl s) [] false 0).1.map mkL ++ tail) ∧ tailOk (linesR (s.size + 1) (bl s) [] false 0).2 tail := by
  unfold R21Rows.f
  have := rows_ev s hs (s.size + 1) 0 0 [] false (by omega) (by omega) (by omega) (by simp) (by simp) ⟨fun h => (by cases h), fun _ => .inl rfl⟩
  rw [List.drop_zero] at this
  exact this
theorem lines_sz : ∀ (n : Nat) (l : List UInt8) (rows : List Rw) (op : Bool) (no B : Nat), rows.length ≤ no → no + l.length ≤ B → (∀ r ∈ rows, r.1.length + l.length ≤ B) → (linesR n l rows op no).1.length ≤ B ∧ ∀ r ∈ (linesR n l rows op no).1, r.1.length ≤ B
  | 0, l, rows, op, no, B, h1, h2, h3 => by
    rw [linesR]
    exact ⟨by show rows.length ≤ B; omega, fun r hr => by have := h3 r hr; omega⟩
  | n + 1, l, rows, op, no, B, h1, h2, h3 => by
    rw [linesR]
    by_cases hl : l = []
    · rw [if_pos hl]
      exact ⟨by show rows.length ≤ B; omega, fun r hr => by have := h3 r hr; omega⟩
    · rw [if_neg hl]
      obtain ⟨q1, q2⟩ := line_len l hl
      split
      · split
        · refine lines_sz n _ _ _ _ B ?_ (by omega) ?_
          · rcases List.eq_nil_or_concat rows with hb | ⟨ys, y, hb⟩
            · rw [hb]; simp [addLast]
            · rw [List.concat_eq_append] at hb
              rw [hb] at h1 ⊢
              rw [addLast_snoc]; simp at h1 ⊢; omega
          · rcases List.eq_nil_or_concat rows with hb | ⟨ys, y, hb⟩
            · rw [hb]; intro r hr; simp [addLast] at hr
            · rw [List.concat_eq_append] at hb
              rw [hb, addLast_snoc]
              rw [hb] at h3
              intro r hr
              rcases List.mem_append.1 hr with hr | hr
              · have := h3 r (by simp [hr]); omega
              · simp only [List.mem_singleton] at hr
                subst hr
                have := h3 y (by simp)
                show (y.1 ++ (lineOf l).tail).length + _ ≤ _
                rw [List.length_append, List.length_tail]; omega
        · exact ⟨by show rows.length ≤ B; omega, fun r hr => by have := h3 r hr; omega⟩
      · refine lines_sz n _ _ _ _ B (by simp; omega) (by omega) ?_
        intro r hr
        rcases List.mem_append.1 hr with hr | hr
        · have := h3 r hr; omega
        · simp only [List.mem_singleton] at hr
          subst hr
          show (lineOf l).length + _ ≤ _
          omega
end B64
end Go.Proofs.YtkklacijhmoopaaDoor.Print
namespace Go.Proofs.YtkklacijhmoopaaDoor.Print
open Go.RowKit Go.Proofs.YtkklacijhmoopaaDoorW.PrintWords Go.Proofs.YtkklacijhmoopaaDoorW.PrintLast Go.Proofs.YtkklacijhmoopaaDoorW.PrintMore
attribute [local go_sem] max2_int min2_int max_two min_two max_three min_three max_four min_four
set_option linter.unusedVariables false
set_option linter.unusedSimpArgs false
theorem eqA40 (d : Nat) (w : World) (x0 y0 : ByteArray) (x1 y1 : ByteArray) :
  (Op.equalIn (d + 2) 40 (.agg #[.string x0, .string x1]) (.agg #[.string y0, .string y1])).run Tryd.prog w = .ok (x0.toList == y0.toList && (x1.toList == y1.toList)) w := by
 refine eqA_of Tryd.underlying40 (by kernel_rfl) ?_
 refine eqf_cons (by rfl) (by go_simp; rfl) (by go_simp; rfl) (by go_simp) ?_
 exact eqf_last (by rfl) (by go_simp; rfl) (by go_simp; rfl) (by go_simp)
end Go.Proofs.YtkklacijhmoopaaDoor.Print
namespace Go.Proofs.YtkklacijhmoopaaDoor.Print
open Go.RowKit Go.Proofs.YtkklacijhmoopaaDoorW.PrintWords Go.Proofs.YtkklacijhmoopaaDoorW.PrintLast Go.Proofs.YtkklacijhmoopaaDoorW.PrintMore
attribute [local go_sem] max2_int min2_int max_two min_two max_three min_three max_four min_four
set_option linter.unusedVariables false
set_option linter.unusedSimpArgs false
attribute [local go_sem high] eqA40
def L21awake.f (k : Nat)  : Option (Bool) := (ldif_Parse.f k (⟨#[100, 110, 58, 32, 99, 110, 61, 97, 10, 99, 110, 58, 32, 97, 10, 10]⟩ : ByteArray)).bind fun bt171 => (if bt171.2.2 = 0 then (if bt171.2.1 = 0 then (if (bt171.1.length : Int) = 1 then (if 0 < (bt171.1.length : Int) then (if ((rd_T43 bt171.1 0).f0).toList = ([99, 110, 61, 97] : List UInt8) then (if (((rd_T43 bt171.1 0).f1).length : Int) = 1 then (if 0 < (((rd_T43 bt171.1 0).f1).length : Int) then (some ((((rd_T40 ((rd_T43 bt171.1 0).f1) 0).f0).toList) == ([99, 110] : List UInt8) && ((((rd_T40 ((rd_T43 bt171.1 0).f1) 0).f1).toList) == ([97] : List UInt8)))) else (none)) else (some false)) else (some false)) else (none)) else (some false)) else (some false)) else (some false))
set_option maxHeartbeats 8000000 in
set_option maxRecDepth 100000 in
theorem L21awake.calls (k : Nat)  (r : Bool) (w : World) (hG : Gw w) (h : L21awake.f k  = some r) :
  Calls Tryd.prog 7 #[] w fun e w' => e = .returned (.bool r) ∧ Below w.heap.size w w' := by
 have hu40 := Tryd.underlying40
 have HB := Aside0.mk (Below.refl w.heap.size w)
 have HG := Aside0.mk hG
 clear hG
 have H : ((ldif_Parse.f k (⟨#[100, 110, 58, 32, 99, 110, 61, 97, 10, 99, 110, 58, 32, 97, 10, 10]⟩ : ByteArray)).bind fun bt171 => (if bt171.2.2 = 0 then (if bt171.2.1 = 0 then (if (bt171.1.length : Int) = 1 then (if 0 < (bt171.1.length : Int) then (if ((rd_T43 bt171.1 0).f0).toList = ([99, 110, 61, 97] : List UInt8) then (if (((rd_T43 bt171.1 0).f1).length : Int) = 1 then (if 0 < (((rd_T43 bt171.1 0).f1).length : Int) then (some ((((rd_T40 ((rd_T43 bt171.1 0).f1) 0).f0).toList) == ([99, 110] : List UInt8) && ((((rd_T40 ((rd_T43 bt171.1 0).f1) 0).f1).toList) == ([97] : List UInt8)))) else (none)) else (some false)) else (some false)) else (none)) else (some false)) else (some false)) else (some false))) = some r := h
 clear h
 replace H := Option.bind_eq_some_iff.mp H
 obtain ⟨⟨t171, t172, t173⟩, A10, H⟩ := H
 replace H : (if t173 = 0 then (if t172 = 0 then (if (t171.length : Int) = 1 then (if 0 < (t171.length : Int) then (if ((rd_T43 t171 0).f0).toList = ([99, 110, 61, 97] : List UInt8) then (if (((rd_T43 t171 0).f1).length : Int) = 1 then (if 0 < (((rd_T43 t171 0).f1).length : Int) then (some ((((rd_T40 ((rd_T43 t171 0).f1) 0).f0).toList) == ([99, 110] : List UInt8) && ((((rd_T40 ((rd_T43 t171 0).f1) 0).f1).toList) == ([97] : List UInt8)))) else (none)) else (some false)) else (some false)) else (none)) else (some false)) else (some false)) else (some false)) = some r := H
 have A1 := Aside0.mk A10
 clear A10
 by_cases c2 : t173 = 0
 ·
  rw [if_pos c2] at H
  have c2b0 : (t173 == 0) = true := beq_iff_eq.mpr c2
  have c2b1 : (t173 != 0) = false := bne_eq_false_iff_eq.mpr c2
  clear c2
  by_cases c3 : t172 = 0
  ·
   rw [if_pos c3] at H
   have c3b0 : (t172 == 0) = true := beq_iff_eq.mpr c3
   have c3b1 : (t172 != 0) = false := bne_eq_false_iff_eq.mpr c3
   clear c3
   by_cases c4 : (t171.length : Int) = 1
   ·
    rw [if_pos c4] at H
    have c4b0 : ((t171.length : Int) == 1) = true := beq_iff_eq.mpr c4
    have c4b1 : ((t171.length : Int) != 1) = false := bne_eq_false_iff_eq.mpr c4
    clear c4
    by_cases c5 : 0 < (t171.length : Int)
    ·
     rw [if_pos c5] at H
     have c5b0 := decide_eq_true c5
     have c5b1 : decide (0 < t171.length) = true := decide_eq_true (by omega)
     clear c5
     by_cases c6 : ((rd_T43 t171 0).f0).toList = ([99, 110, 61, 97] : List UInt8)
     ·
      rw [if_pos c6] at H
      have c6b0 : (((rd_T43 t171 0).f0).toList == ([99, 110, 61, 97] : List UInt8)) = true := beq_iff_eq.mpr c6
      have c6b1 : (((rd_T43 t171 0).f0).toList != ([99, 110, 61, 97] : List UInt8)) = false := bne_eq_false_iff_eq.mpr c6
      clear c6
      by_cases c7 : (((rd_T43 t171 0).f1).length : Int) = 1
      ·
       rw [if_pos c7] at H
       have c7b0 : ((((rd_T43 t171 0).f1).length : Int) == 1) = true := beq_iff_eq.mpr c7
       have c7b1 : ((((rd_T43 t171 0).f1).length : Int) != 1) = false := bne_eq_false_iff_eq.mpr c7
       clear c7
       by_cases c8 : 0 < (((rd_T43 t171 0).f1).length : Int)
       ·
        rw [if_pos c8] at H
        have c8b0 := decide_eq_true c8
        have c8b1 : decide (0 < ((rd_T43 t171 0).f1).length) = true := decide_eq_true (by omega)
        clear c8
        obtain rfl := Option.some.inj H
        go_enter Tryd.func7, Tryd.ntmps7
        go_wp2_with (first | ((with_reducible refine gate_callee (f := 8) rfl ?_); refine goesL_ (some 5) rfl rfl Tryd.func8 (by kernel_rfl) rfl #[.string (⟨#[100, 110, 58, 32, 99, 110, 61, 97, 10, 99, 110, 58, 32, 97, 10, 10]⟩ : ByteArray)] rfl ap3 ?_; (with_reducible refine (ldif_Parse.calls k (⟨#[100, 110, 58, 32, 99, 110, 61, 97, 10, 99, 110, 58, 32, 97, 10, 10]⟩ : ByteArray) t171 t172 t173 _ ?side1 A1.out).mono ?_); (case side1 => exact ap6); rintro e w9 ⟨v174, rfl, ho0, hb⟩; refine ⟨_, rfl, ?_⟩; have n0_ := Aside0.mk (Kd.S_lower ho0 (below_size ap1)); have n1_ := Aside0.mk (below_step ap1 hb); clear HB; have HO175 := n0_; have HB := n1_; clear n0_ n1_; (try clear hb); (try clear hb2); (try clear hk); (try clear hi); (try clear ho0); obtain ⟨Ao10, co10, eo10⟩ := Kd.S_slice HO175.out; subst eo10; have p176 : 0 ≤ (0 : Int) := (by omega); have q176 : 0 < (t171.length : Int) := of_decide_eq_true ap0; obtain ⟨ad176, A176_1, c176_1, e176, hx176_0, hx176_1, hl176_1, hi176_1⟩ := at_T43 (Kd.S_reads' HO175.out).2.2 0 p176 q176; cases e176; obtain ⟨ce176, hce176, hMe176, hcc176⟩ := Kd.S_get HO175.out z43 0 p176 (by first | exact q176 | exact of_decide_eq_true ap0 | (have e_ := (Kd.S_reads' HO175.out).1; omega)); obtain ⟨ve176_1, rfl, ge176_1⟩ := k43_openM hMe176; have hv176_1 := hcc176 1 _ rfl; rw [add_field _ _ 1 (by omega)] at hv176_1; replace hv176_1 := Option.some.inj (hv176_1.symm.trans hx176_1); rw [hv176_1] at ge176_1; have HL176_1 := Aside0.mk (show Kd.R k40 40 _ _ _ _ ((rd_T43 t171 0).f1) from ge176_1); clear hv176_1 ge176_1; clear hcc176 hce176; have qi176 : (0 < t171.length) = True := eq_true (by omega); (try rw [show ((0 : Int)).toNat = 0 from rfl] at hx176_0); (try rw [show 0 * 2 = 0 from rfl] at hx176_0); (try rw [Addr.add_zero'] at hx176_0); (try rw [show ((0 : Int)).toNat = 0 from rfl] at hx176_1); (try rw [show 0 * 2 = 0 from rfl] at hx176_1); (try rw [Addr.add_zero'] at hx176_1); have HR176_1 := Aside0.mk hi176_1; have HC176_1 := Aside0.mk hl176_1; clear hi176_1 hl176_1; replace p176 := eq_true p176; replace q176 := eq_true q176; have p177 : 0 ≤ (0 : Int) := (by omega); have q177 : 0 < (t171.length : Int) := of_decide_eq_true ap0; obtain ⟨ad177, A177_1, c177_1, e177, hx177_0, hx177_1, hl177_1, hi177_1⟩ := at_T43 (Kd.S_reads' HO175.out).2.2 0 p177 q177; obtain rfl : ad176 = ad177 := (by injection e177); obtain ⟨ce177, hce177, hMe177, hcc177⟩ := Kd.S_get HO175.out z43 0 p177 (by first | exact q177 | exact of_decide_eq_true ap0 | (have e_ := (Kd.S_reads' HO175.out).1; omega)); obtain ⟨ve177_1, rfl, ge177_1⟩ := k43_openM hMe177; have hv177_1 := hcc177 1 _ rfl; rw [add_field _ _ 1 (by omega)] at hv177_1; replace hv177_1 := Option.some.inj (hv177_1.symm.trans hx177_1); rw [hv177_1] at ge177_1; have HL177_1 := Aside0.mk (show Kd.R k40 40 _ _ _ _ ((rd_T43 t171 0).f1) from ge177_1); clear hv177_1 ge177_1; clear hcc177 hce177; have qi177 : (0 < t171.length) = True := eq_true (by omega); (try rw [show ((0 : Int)).toNat = 0 from rfl] at hx177_0); (try rw [show 0 * 2 = 0 from rfl] at hx177_0); (try rw [Addr.add_zero'] at hx177_0); (try rw [show ((0 : Int)).toNat = 0 from rfl] at hx177_1); (try rw [show 0 * 2 = 0 from rfl] at hx177_1); (try rw [Addr.add_zero'] at hx177_1); have HR177_1 := Aside0.mk hi177_1; have HC177_1 := Aside0.mk hl177_1; clear hi177_1 hl177_1; replace p177 := eq_true p177; replace q177 := eq_true q177; have ea_ := Option.some.inj (hx176_1.symm.trans hx177_1); injection ea_ with ea_ en_ ec_; subst ea_; subst ec_; clear en_; have p178 : 0 ≤ (0 : Int) := (by omega); have q178 : 0 < (t171.length : Int) := of_decide_eq_true ap0; obtain ⟨ad178, A178_1, c178_1, e178, hx178_0, hx178_1, hl178_1, hi178_1⟩ := at_T43 (Kd.S_reads' HO175.out).2.2 0 p178 q178; obtain rfl : ad176 = ad178 := (by injection e178); obtain ⟨ce178, hce178, hMe178, hcc178⟩ := Kd.S_get HO175.out z43 0 p178 (by first | exact q178 | exact of_decide_eq_true ap0 | (have e_ := (Kd.S_reads' HO175.out).1; omega)); obtain ⟨ve178_1, rfl, ge178_1⟩ := k43_openM hMe178; have hv178_1 := hcc178 1 _ rfl; rw [add_field _ _ 1 (by omega)] at hv178_1; replace hv178_1 := Option.some.inj (hv178_1.symm.trans hx178_1); rw [hv178_1] at ge178_1; have HL178_1 := Aside0.mk (show Kd.R k40 40 _ _ _ _ ((rd_T43 t171 0).f1) from ge178_1); clear hv178_1 ge178_1; clear hcc178 hce178; have qi178 : (0 < t171.length) = True := eq_true (by omega); (try rw [show ((0 : Int)).toNat = 0 from rfl] at hx178_0); (try rw [show 0 * 2 = 0 from rfl] at hx178_0); (try rw [Addr.add_zero'] at hx178_0); (try rw [show ((0 : Int)).toNat = 0 from rfl] at hx178_1); (try rw [show 0 * 2 = 0 from rfl] at hx178_1); (try rw [Addr.add_zero'] at hx178_1); have HR178_1 := Aside0.mk hi178_1; have HC178_1 := Aside0.mk hl178_1; clear hi178_1 hl178_1; replace p178 := eq_true p178; replace q178 := eq_true q178; have ea_ := Option.some.inj (hx176_1.symm.trans hx178_1); injection ea_ with ea_ en_ ec_; subst ea_; subst ec_; clear en_; have p179 : 0 ≤ (0 : Int) := (by omega); have q179 : 0 < (((rd_T43 t171 0).f1).length : Int) := of_decide_eq_true ap0; obtain ⟨ad179, e179, hx179_0, hx179_1⟩ := at_T40 (apC HR178_1.out) 0 p179 q179; cases e179; have qi179 : (0 < ((rd_T43 t171 0).f1).length) = True := eq_true (by omega); (try rw [show ((0 : Int)).toNat = 0 from rfl] at hx179_0); (try rw [show 0 * 2 = 0 from rfl] at hx179_0); (try rw [Addr.add_zero'] at hx179_0); (try rw [show ((0 : Int)).toNat = 0 from rfl] at hx179_1); (try rw [show 0 * 2 = 0 from rfl] at hx179_1); (try rw [Addr.add_zero'] at hx179_1); replace p179 := eq_true p179; replace q179 := eq_true q179))
        go_ret
        exact ⟨by first | rfl | (simp [errW_none, errW_some, bne_nil8, beq_nil8]; done) | (simp [errW_none, errW_some] <;> rfl) | (simp [*, errW_none, errW_some] <;> rfl), by repeat (first | (with_reducible first | exact HB.out | apply below_alloc | apply pw_below_drewN | apply below_drew1) | exact HB.out)⟩
       ·
        rw [if_neg c8] at H
        exact absurd H (by simp)
      ·
       rw [if_neg c7] at H
       have c7b0 : ((((rd_T43 t171 0).f1).length : Int) == 1) = false := beq_eq_false_iff_ne.mpr c7
       have c7b1 : ((((rd_T43 t171 0).f1).length : Int) != 1) = true := bne_iff_ne.mpr c7
       obtain rfl := Option.some.inj H
       go_enter Tryd.func7, Tryd.ntmps7
       go_wp2_with (first | ((with_reducible refine gate_callee (f := 8) rfl ?_); refine goesL_ (some 5) rfl rfl Tryd.func8 (by kernel_rfl) rfl #[.string (⟨#[100, 110, 58, 32, 99, 110, 61, 97, 10, 99, 110, 58, 32, 97, 10, 10]⟩ : ByteArray)] rfl ap3 ?_; (with_reducible refine (ldif_Parse.calls k (⟨#[100, 110, 58, 32, 99, 110, 61, 97, 10, 99, 110, 58, 32, 97, 10, 10]⟩ : ByteArray) t171 t172 t173 _ ?side1 A1.out).mono ?_); (case side1 => exact ap6); rintro e w11 ⟨v174, rfl, ho0, hb⟩; refine ⟨_, rfl, ?_⟩; have n0_ := Aside0.mk (Kd.S_lower ho0 (below_size ap1)); have n1_ := Aside0.mk (below_step ap1 hb); clear HB; have HO175 := n0_; have HB := n1_; clear n0_ n1_; (try clear hb); (try clear hb2); (try clear hk); (try clear hi); (try clear ho0); obtain ⟨Ao12, co12, eo12⟩ := Kd.S_slice HO175.out; subst eo12; have p176 : 0 ≤ (0 : Int) := (by omega); have q176 : 0 < (t171.length : Int) := of_decide_eq_true ap0; obtain ⟨ad176, A176_1, c176_1, e176, hx176_0, hx176_1, hl176_1, hi176_1⟩ := at_T43 (Kd.S_reads' HO175.out).2.2 0 p176 q176; cases e176; obtain ⟨ce176, hce176, hMe176, hcc176⟩ := Kd.S_get HO175.out z43 0 p176 (by first | exact q176 | exact of_decide_eq_true ap0 | (have e_ := (Kd.S_reads' HO175.out).1; omega)); obtain ⟨ve176_1, rfl, ge176_1⟩ := k43_openM hMe176; have hv176_1 := hcc176 1 _ rfl; rw [add_field _ _ 1 (by omega)] at hv176_1; replace hv176_1 := Option.some.inj (hv176_1.symm.trans hx176_1); rw [hv176_1] at ge176_1; have HL176_1 := Aside0.mk (show Kd.R k40 40 _ _ _ _ ((rd_T43 t171 0).f1) from ge176_1); clear hv176_1 ge176_1; clear hcc176 hce176; have qi176 : (0 < t171.length) = True := eq_true (by omega); (try rw [show ((0 : Int)).toNat = 0 from rfl] at hx176_0); (try rw [show 0 * 2 = 0 from rfl] at hx176_0); (try rw [Addr.add_zero'] at hx176_0); (try rw [show ((0 : Int)).toNat = 0 from rfl] at hx176_1); (try rw [show 0 * 2 = 0 from rfl] at hx176_1); (try rw [Addr.add_zero'] at hx176_1); have HR176_1 := Aside0.mk hi176_1; have HC176_1 := Aside0.mk hl176_1; clear hi176_1 hl176_1; replace p176 := eq_true p176; replace q176 := eq_true q176; have p177 : 0 ≤ (0 : Int) := (by omega); have q177 : 0 < (t171.length : Int) := of_decide_eq_true ap0; obtain ⟨ad177, A177_1, c177_1, e177, hx177_0, hx177_1, hl177_1, hi177_1⟩ := at_T43 (Kd.S_reads' HO175.out).2.2 0 p177 q177; obtain rfl : ad176 = ad177 := (by injection e177); obtain ⟨ce177, hce177, hMe177, hcc177⟩ := Kd.S_get HO175.out z43 0 p177 (by first | exact q177 | exact of_decide_eq_true ap0 | (have e_ := (Kd.S_reads' HO175.out).1; omega)); obtain ⟨ve177_1, rfl, ge177_1⟩ := k43_openM hMe177; have hv177_1 := hcc177 1 _ rfl; rw [add_field _ _ 1 (by omega)] at hv177_1; replace hv177_1 := Option.some.inj (hv177_1.symm.trans hx177_1); rw [hv177_1] at ge177_1; have HL177_1 := Aside0.mk (show Kd.R k40 40 _ _ _ _ ((rd_T43 t171 0).f1) from ge177_1); clear hv177_1 ge177_1; clear hcc177 hce177; have qi177 : (0 < t171.length) = True := eq_true (by omega); (try rw [show ((0 : Int)).toNat = 0 from rfl] at hx177_0); (try rw [show 0 * 2 = 0 from rfl] at hx177_0); (try rw [Addr.add_zero'] at hx177_0); (try rw [show ((0 : Int)).toNat = 0 from rfl] at hx177_1); (try rw [show 0 * 2 = 0 from rfl] at hx177_1); (try rw [Addr.add_zero'] at hx177_1); have HR177_1 := Aside0.mk hi177_1; have HC177_1 := Aside0.mk hl177_1; clear hi177_1 hl177_1; replace p177 := eq_true p177; replace q177 := eq_true q177; have ea_ := Option.some.inj (hx176_1.symm.trans hx177_1); injection ea_ with ea_ en_ ec_; subst ea_; subst ec_; clear en_))
       go_ret
       exact ⟨by first | rfl | (simp [errW_none, errW_some, bne_nil8, beq_nil8]; done) | (simp [errW_none, errW_some] <;> rfl) | (simp [*, errW_none, errW_some] <;> rfl), by repeat (first | (with_reducible first | exact HB.out | apply below_alloc | apply pw_below_drewN | apply below_drew1) | exact HB.out)⟩
     ·
      rw [if_neg c6] at H
      have c6b0 : (((rd_T43 t171 0).f0).toList == ([99, 110, 61, 97] : List UInt8)) = false := beq_eq_false_iff_ne.mpr c6
      have c6b1 : (((rd_T43 t171 0).f0).toList != ([99, 110, 61, 97] : List UInt8)) = true := bne_iff_ne.mpr c6
      obtain rfl := Option.some.inj H
      go_enter Tryd.func7, Tryd.ntmps7
      go_wp2_with (first | ((with_reducible refine gate_callee (f := 8) rfl ?_); refine goesL_ (some 5) rfl rfl Tryd.func8 (by kernel_rfl) rfl #[.string (⟨#[100, 110, 58, 32, 99, 110, 61, 97, 10, 99, 110, 58, 32, 97, 10, 10]⟩ : ByteArray)] rfl ap3 ?_; (with_reducible refine (ldif_Parse.calls k (⟨#[100, 110, 58, 32, 99, 110, 61, 97, 10, 99, 110, 58, 32, 97, 10, 10]⟩ : ByteArray) t171 t172 t173 _ ?side1 A1.out).mono ?_); (case side1 => exact ap6); rintro e w13 ⟨v174, rfl, ho0, hb⟩; refine ⟨_, rfl, ?_⟩; have n0_ := Aside0.mk (Kd.S_lower ho0 (below_size ap1)); have n1_ := Aside0.mk (below_step ap1 hb); clear HB; have HO175 := n0_; have HB := n1_; clear n0_ n1_; (try clear hb); (try clear hb2); (try clear hk); (try clear hi); (try clear ho0); obtain ⟨Ao14, co14, eo14⟩ := Kd.S_slice HO175.out; subst eo14; have p176 : 0 ≤ (0 : Int) := (by omega); have q176 : 0 < (t171.length : Int) := of_decide_eq_true ap0; obtain ⟨ad176, A176_1, c176_1, e176, hx176_0, hx176_1, hl176_1, hi176_1⟩ := at_T43 (Kd.S_reads' HO175.out).2.2 0 p176 q176; cases e176; obtain ⟨ce176, hce176, hMe176, hcc176⟩ := Kd.S_get HO175.out z43 0 p176 (by first | exact q176 | exact of_decide_eq_true ap0 | (have e_ := (Kd.S_reads' HO175.out).1; omega)); obtain ⟨ve176_1, rfl, ge176_1⟩ := k43_openM hMe176; have hv176_1 := hcc176 1 _ rfl; rw [add_field _ _ 1 (by omega)] at hv176_1; replace hv176_1 := Option.some.inj (hv176_1.symm.trans hx176_1); rw [hv176_1] at ge176_1; have HL176_1 := Aside0.mk (show Kd.R k40 40 _ _ _ _ ((rd_T43 t171 0).f1) from ge176_1); clear hv176_1 ge176_1; clear hcc176 hce176; have qi176 : (0 < t171.length) = True := eq_true (by omega); (try rw [show ((0 : Int)).toNat = 0 from rfl] at hx176_0); (try rw [show 0 * 2 = 0 from rfl] at hx176_0); (try rw [Addr.add_zero'] at hx176_0); (try rw [show ((0 : Int)).toNat = 0 from rfl] at hx176_1); (try rw [show 0 * 2 = 0 from rfl] at hx176_1); (try rw [Addr.add_zero'] at hx176_1); have HR176_1 := Aside0.mk hi176_1; have HC176_1 := Aside0.mk hl176_1; clear hi176_1 hl176_1; replace p176 := eq_true p176; replace q176 := eq_true q176))
      go_ret
      exact ⟨by first | rfl | (simp [errW_none, errW_some, bne_nil8, beq_nil8]; done) | (simp [errW_none, errW_some] <;> rfl) | (simp [*, errW_none, errW_some] <;> rfl), by repeat (first | (with_reducible first | exact HB.out | apply below_alloc | apply pw_below_drewN | apply below_drew1) | exact HB.out)⟩
    ·
     rw [if_neg c5] at H
     exact absurd H (by simp)
   ·
    rw [if_neg c4] at H
    have c4b0 : ((t171.length : Int) == 1) = false := beq_eq_false_iff_ne.mpr c4
    have c4b1 : ((t171.length : Int) != 1) = true := bne_iff_ne.mpr c4
    obtain rfl := Option.some.inj H
    go_enter Tryd.func7, Tryd.ntmps7
    go_wp2_with (first | ((with_reducible refine gate_callee (f := 8) rfl ?_); refine goesL_ (some 5) rfl rfl Tryd.func8 (by kernel_rfl) rfl #[.string (⟨#[100, 110, 58, 32, 99, 110, 61, 97, 10, 99, 110, 58, 32, 97, 10, 10]⟩ : ByteArray)] rfl ap3 ?_; (with_reducible refine (ldif_Parse.calls k (⟨#[100, 110, 58, 32, 99, 110, 61, 97, 10, 99, 110, 58, 32, 97, 10, 10]⟩ : ByteArray) t171 t172 t173 _ ?side1 A1.out).mono ?_); (case side1 => exact ap6); rintro e w15 ⟨v174, rfl, ho0, hb⟩; refine ⟨_, rfl, ?_⟩; have n0_ := Aside0.mk (Kd.S_lower ho0 (below_size ap1)); have n1_ := Aside0.mk (below_step ap1 hb); clear HB; have HO175 := n0_; have HB := n1_; clear n0_ n1_; (try clear hb); (try clear hb2); (try clear hk); (try clear hi); (try clear ho0); obtain ⟨Ao16, co16, eo16⟩ := Kd.S_slice HO175.out; subst eo16))
    go_ret
    exact ⟨by first | rfl | (simp [errW_none, errW_some, bne_nil8, beq_nil8]; done) | (simp [errW_none, errW_some] <;> rfl) | (simp [*, errW_none, errW_some] <;> rfl), by repeat (first | (with_reducible first | exact HB.out | apply below_alloc | apply pw_below_drewN | apply below_drew1) | exact HB.out)⟩
  ·
   rw [if_neg c3] at H
   have c3b0 : (t172 == 0) = false := beq_eq_false_iff_ne.mpr c3
   have c3b1 : (t172 != 0) = true := bne_iff_ne.mpr c3
   obtain rfl := Option.some.inj H
   go_enter Tryd.func7, Tryd.ntmps7
   go_wp2_with (first | ((with_reducible refine gate_callee (f := 8) rfl ?_); refine goesL_ (some 5) rfl rfl Tryd.func8 (by kernel_rfl) rfl #[.string (⟨#[100, 110, 58, 32, 99, 110, 61, 97, 10, 99, 110, 58, 32, 97, 10, 10]⟩ : ByteArray)] rfl ap3 ?_; (with_reducible refine (ldif_Parse.calls k (⟨#[100, 110, 58, 32, 99, 110, 61, 97, 10, 99, 110, 58, 32, 97, 10, 10]⟩ : ByteArray) t171 t172 t173 _ ?side1 A1.out).mono ?_); (case side1 => exact ap6); rintro e w17 ⟨v174, rfl, ho0, hb⟩; refine ⟨_, rfl, ?_⟩; have n0_ := Aside0.mk (Kd.S_lower ho0 (below_size ap1)); have n1_ := Aside0.mk (below_step ap1 hb); clear HB; have HO175 := n0_; have HB := n1_; clear n0_ n1_; (try clear hb); (try clear hb2); (try clear hk); (try clear hi); (try clear ho0)))
   go_ret
   exact ⟨by first | rfl | (simp [errW_none, errW_some, bne_nil8, beq_nil8]; done) | (simp [errW_none, errW_some] <;> rfl) | (simp [*, errW_none, errW_some] <;> rfl), by repeat (first | (with_reducible first | exact HB.out | apply below_alloc | apply pw_below_drewN | apply below_drew1) | exact HB.out)⟩
 ·
  rw [if_neg c2] at H
  have c2b0 : (t173 == 0) = false := beq_eq_false_iff_ne.mpr c2
  have c2b1 : (t173 != 0) = true := bne_iff_ne.mpr c2
  obtain rfl := Option.some.inj H
  go_enter Tryd.func7, Tryd.ntmps7
  go_wp2_with (first | ((with_reducible refine gate_callee (f := 8) rfl ?_); refine goesL_ (some 5) rfl rfl Tryd.func8 (by kernel_rfl) rfl #[.string (⟨#[100, 110, 58, 32, 99, 110, 61, 97, 10, 99, 110, 58, 32, 97, 10, 10]⟩ : ByteArray)] rfl ap3 ?_; (with_reducible refine (ldif_Parse.calls k (⟨#[100, 110, 58, 32, 99, 110, 61, 97, 10, 99, 110, 58, 32, 97, 10, 10]⟩ : ByteArray) t171 t172 t173 _ ?side1 A1.out).mono ?_); (case side1 => exact ap6); rintro e w18 ⟨v174, rfl, ho0, hb⟩; refine ⟨_, rfl, ?_⟩; have n0_ := Aside0.mk (Kd.S_lower ho0 (below_size ap1)); have n1_ := Aside0.mk (below_step ap1 hb); clear HB; have HO175 := n0_; have HB := n1_; clear n0_ n1_; (try clear hb); (try clear hb2); (try clear hk); (try clear hi); (try clear ho0)))
  go_ret
  exact ⟨by first | rfl | (simp [errW_none, errW_some, bne_nil8, beq_nil8]; done) | (simp [errW_none, errW_some] <;> rfl) | (simp [*, errW_none, errW_some] <;> rfl), by repeat (first | (with_reducible first | exact HB.out | apply below_alloc | apply pw_below_drewN | apply below_drew1) | exact HB.out)⟩
mutual
def R21Same.l0 : Nat → List (S43) → List (S43) → Int → Option (Bool)
 | 0, _, _, _ => none
 | k + 1, x0, x1, x5 => if x5 < (x0.length : Int) then (if 0 ≤ x5 then (if x5 < (x1.length : Int) then (if ((rd_T43 x0 x5).f0).toList = ((rd_T43 x1 x5).f0).toList then (R21Same.j1 k x0 x1 x5 ((((rd_T43 x0 x5).f1).length : Int) != (((rd_T43 x1 x5).f1).length : Int))) else (R21Same.j1 k x0 x1 x5 true)) else (none)) else (none)) else (some true)
def R21Same.j1 : Nat → List (S43) → List (S43) → Int → Bool → Option (Bool)
 | 0, _, _, _, _ => none
 | k + 1, x0, x1, x5, x43 => if x43 = true then (some false) else (R21Same.l1 k x0 x1 x5 0)
def R21Same.l1 : Nat → List (S43) → List (S43) → Int → Int → Option (Bool)
 | 0, _, _, _, _ => none
 | k + 1, x0, x1, x5, x6 => if 0 ≤ x5 then (if x5 < (x0.length : Int) then (if x6 < (((rd_T43 x0 x5).f1).length : Int) then (if 0 ≤ x6 then (if x5 < (x1.length : Int) then (if x6 < (((rd_T43 x1 x5).f1).length : Int) then (if (!((((rd_T40 ((rd_T43 x0 x5).f1) x6).f0).toList) == (((rd_T40 ((rd_T43 x1 x5).f1) x6).f0).toList)) || (!((((rd_T40 ((rd_T43 x0 x5).f1) x6).f1).toList) == (((rd_T40 ((rd_T43 x1 x5).f1) x6).f1).toList)))) = true then (some false) else (R21Same.l1 k x0 x1 x5 (wrap64 (x6 + 1)))) else (none)) else (none)) else (none)) else (R21Same.l0 k x0 x1 (wrap64 (x5 + 1)))) else (none)) else (none)
end
def R21Same.f (k : Nat) (l0 : List (S43)) (l1 : List (S43)) : Option (Bool) := if (l0.length : Int) = (l1.length : Int) then (R21Same.l0 k l0 l1 0) else (some false)
set_option maxHeartbeats 8000000 in
set_option maxRecDepth 100000 in
theorem R21Same.calls (k : Nat) (A0 : Option Addr) (c0 : Nat) (l0 : List (S43)) (A1 : Option Addr) (c1 : Nat) (l1 : List (S43)) (r : Bool) (w : World) (hr0 : Kd.C k43 w A0 l0.length l0) (hc0 : l0.length ≤ c0) (hr1 : Kd.C k43 w A1 l1.length l1) (hc1 : l1.length ≤ c1) (h : R21Same.f k l0 l1 = some r) :
  Calls Tryd.prog 10 #[.slice A0 l0.length c0, .slice A1 l1.length c1] w fun e w' => e = .returned (.bool r) ∧ Drawn0 w w' := by
 have hu40 := Tryd.underlying40
 have HR0 := Aside0.mk hr0
 have HC0 := Aside0.mk hc0
 clear hr0 hc0
 have HR1 := Aside0.mk hr1
 have HC1 := Aside0.mk hc1
 clear hr1 hc1
 have H : (if (l0.length : Int) = (l1.length : Int) then (R21Same.l0 k l0 l1 0) else (some false)) = some r := h
 clear h
 by_cases c3 : (l0.length : Int) = (l1.length : Int)
 ·
  rw [if_pos c3] at H
  have c3b0 : ((l0.length : Int) == (l1.length : Int)) = true := beq_iff_eq.mpr c3
  have c3b1 : ((l0.length : Int) != (l1.length : Int)) = false := bne_eq_false_iff_eq.mpr c3
  have c3b2 : (l0.length == l1.length) = true := by first | simpa using c3 | (simp at c3 ⊢; omega)
  clear c3
  have H' := Aside0.mk H
  clear H
  go_enter Tryd.func10, Tryd.ntmps10
  go_wp2
  repeat (go_quiet (fail); try go_wp2)
  go_loopg [5] k (fun kq v5 w' => ∃ (x5_1 : Int), v5 = .int .i64 x5_1 ∧ Aside0 (R21Same.l0 kq l0 l1 x5_1 = some r) ∧ Aside0 (kq ≤ k) ∧ Drawn0 w w')
  case atStart => exact ⟨(0), ap2, H', ⟨Nat.le_refl _⟩, by repeat (first | exact Drawn0.refl _ | apply Drawn0.step)⟩
  case round =>
   clear H'
   try clear c1
   try clear p2
   try clear c3
   try clear c3b0
   try clear c3b1
   try clear c3b2
   obtain ⟨x5_1, rfl, HA, HK1, ⟨m1, rfl⟩⟩ := hrel
   cases gk with
   | zero => exact absurd HA.out (by simp [R21Same.l0])
   | succ k1 =>
    have H := HA.out
    clear HA
    simp only [R21Same.l0] at H
    by_cases c4 : x5_1 < (l0.length : Int)
    ·
     rw [if_pos c4] at H
     have c4b0 := decide_eq_true c4
     clear c4
     have HC5 := Aside0.mk H
     clear H
     go_upto_region 6 with (fail)
     repeat (go_quiet (fail); go_upto_region 6 with (fail))
     go_cut [43] (fun v43 wc => ∃ (kq : Nat) (x43_4 : Bool), v43 = .bool x43_4 ∧ Aside0 (R21Same.j1 kq l0 l1 x5_1 x43_4 = some r) ∧ Aside0 (kq ≤ k1) ∧ Drawn0 w wc)
     case first =>
      have H := HC5.out
      clear HC5
      by_cases c6 : 0 ≤ x5_1
      ·
       rw [if_pos c6] at H
       have c6b0 := decide_eq_true c6
       clear c6
       (first | rw [c6b0] | (simp only [i64_w, i32_w]; rw [c6b0]) | skip)
       by_cases c7 : x5_1 < (l1.length : Int)
       ·
        rw [if_pos c7] at H
        have c7b0 := decide_eq_true c7
        clear c7
        by_cases c8 : ((rd_T43 l0 x5_1).f0).toList = ((rd_T43 l1 x5_1).f0).toList
        ·
         rw [if_pos c8] at H
         have c8b0 : (((rd_T43 l0 x5_1).f0).toList == ((rd_T43 l1 x5_1).f0).toList) = true := beq_iff_eq.mpr c8
         have c8b1 : (((rd_T43 l0 x5_1).f0).toList != ((rd_T43 l1 x5_1).f0).toList) = false := bne_eq_false_iff_eq.mpr c8
         clear c8
         have H' := Aside0.mk H
         clear H
         have p260 : 0 ≤ (x5_1 : Int) := of_decide_eq_true ap0
         have q260 : x5_1 < (l0.length : Int) := of_decide_eq_true ap0
         obtain ⟨ad260, A260_1, c260_1, e260, hx260_0, hx260_1, hl260_1, hi260_1⟩ := at_T43 HR0.out x5_1 p260 q260
         cases e260
         have HR260_1 := Aside0.mk hi260_1
         have HC260_1 := Aside0.mk hl260_1
         clear hi260_1 hl260_1
         replace p260 := eq_true p260
         replace q260 := eq_true q260
         have p261 : 0 ≤ (x5_1 : Int) := of_decide_eq_true ap0
         have q261 : x5_1 < (l1.length : Int) := of_decide_eq_true ap0
         obtain ⟨ad261, A261_1, c261_1, e261, hx261_0, hx261_1, hl261_1, hi261_1⟩ := at_T43 HR1.out x5_1 p261 q261
         cases e261
         have HR261_1 := Aside0.mk hi261_1
         have HC261_1 := Aside0.mk hl261_1
         clear hi261_1 hl261_1
         replace p261 := eq_true p261
         replace q261 := eq_true q261
         have p262 : 0 ≤ (x5_1 : Int) := of_decide_eq_true ap0
         have q262 : x5_1 < (l0.length : Int) := of_decide_eq_true ap0
         obtain ⟨ad262, A262_1, c262_1, e262, hx262_0, hx262_1, hl262_1, hi262_1⟩ := at_T43 HR0.out x5_1 p262 q262
         obtain rfl : ad260 = ad262 := (by injection e262)
         have HR262_1 := Aside0.mk hi262_1
         have HC262_1 := Aside0.mk hl262_1
         clear hi262_1 hl262_1
         replace p262 := eq_true p262
         replace q262 := eq_true q262
         have ea_ := Option.some.inj (hx260_1.symm.trans hx262_1)
         injection ea_ with ea_ en_ ec_
         subst ea_
         subst ec_
         clear en_
         have p263 : 0 ≤ (x5_1 : Int) := of_decide_eq_true ap0
         have q263 : x5_1 < (l1.length : Int) := of_decide_eq_true ap0
         obtain ⟨ad263, A263_1, c263_1, e263, hx263_0, hx263_1, hl263_1, hi263_1⟩ := at_T43 HR1.out x5_1 p263 q263
         obtain rfl : ad261 = ad263 := (by injection e263)
         have HR263_1 := Aside0.mk hi263_1
         have HC263_1 := Aside0.mk hl263_1
         clear hi263_1 hl263_1
         replace p263 := eq_true p263
         replace q263 := eq_true q263
         have ea_ := Option.some.inj (hx261_1.symm.trans hx263_1)
         injection ea_ with ea_ en_ ec_
         subst ea_
         subst ec_
         clear en_
         go_wp2
         repeat (go_quiet (fail); try go_wp2)
         first | go_meet | (simp only [c8b0] at *; go_meet) | (simp only [c3b0] at *; go_meet)
         case rel => exact ⟨_, (((((rd_T43 l0 x5_1).f1).length : Int) != (((rd_T43 l1 x5_1).f1).length : Int))), ap2, H', ⟨by have := HK1.out; first | omega | exact Nat.le_refl _⟩, by repeat (first | exact Drawn0.refl _ | apply Drawn0.step)⟩
        ·
         rw [if_neg c8] at H
         have c8b0 : (((rd_T43 l0 x5_1).f0).toList == ((rd_T43 l1 x5_1).f0).toList) = false := beq_eq_false_iff_ne.mpr c8
         have c8b1 : (((rd_T43 l0 x5_1).f0).toList != ((rd_T43 l1 x5_1).f0).toList) = true := bne_iff_ne.mpr c8
         have H' := Aside0.mk H
         clear H
         have p260 : 0 ≤ (x5_1 : Int) := of_decide_eq_true ap0
         have q260 : x5_1 < (l0.length : Int) := of_decide_eq_true ap0
         obtain ⟨ad260, A260_1, c260_1, e260, hx260_0, hx260_1, hl260_1, hi260_1⟩ := at_T43 HR0.out x5_1 p260 q260
         cases e260
         have HR260_1 := Aside0.mk hi260_1
         have HC260_1 := Aside0.mk hl260_1
         clear hi260_1 hl260_1
         replace p260 := eq_true p260
         replace q260 := eq_true q260
         have p261 : 0 ≤ (x5_1 : Int) := of_decide_eq_true ap0
         have q261 : x5_1 < (l1.length : Int) := of_decide_eq_true ap0
         obtain ⟨ad261, A261_1, c261_1, e261, hx261_0, hx261_1, hl261_1, hi261_1⟩ := at_T43 HR1.out x5_1 p261 q261
         cases e261
         have HR261_1 := Aside0.mk hi261_1
         have HC261_1 := Aside0.mk hl261_1
         clear hi261_1 hl261_1
         replace p261 := eq_true p261
         replace q261 := eq_true q261
         go_wp2
         repeat (go_quiet (fail); try go_wp2)
         first | go_meet | (simp only [c8b0] at *; go_meet) | (simp only [c8b0] at *; go_meet) | (simp only [c3b0] at *; go_meet)
         case rel => exact ⟨_, (true), ap2, H', ⟨by have := HK1.out; first | omega | exact Nat.le_refl _⟩, by repeat (first | exact Drawn0.refl _ | apply Drawn0.step)⟩
       ·
        rw [if_neg c7] at H
        exact absurd H (by simp)
      ·
       rw [if_neg c6] at H
       exact absurd H (by simp)
     case rest =>
      clear HC5
      try clear c1
      try clear c2
      try clear p2
      try clear q2
      try clear hx2
      try clear c3
      try clear c3b0
      try clear c3b1
      try clear c3b2
      try clear c4
      try clear c4b0
      try clear c6
      try clear c6b0
      try clear c7
      try clear c7b0
      try clear c8
      try clear c8b0
      try clear c8b1
      try clear hx260_0
      try clear hx260_1
      try clear hx261_0
      try clear hx261_1
      try clear hx262_0
      try clear hx262_1
      try clear hx263_0
      try clear hx263_1
      try clear p2
      try clear p260
      try clear p261
      try clear p262
      try clear p263
      try clear q260
      try clear q261
      try clear q262
      try clear q263
      obtain ⟨kq, x43_4, rfl, HA, HJ4, ⟨mc4, rfl⟩⟩ := hcut
      cases kq with
      | zero => exact absurd HA.out (by simp [R21Same.j1])
      | succ kj4 =>
       have H := HA.out
       clear HA
       simp only [R21Same.j1] at H
       by_cases c9 : x43_4 = true
       ·
        subst c9
        rw [if_pos rfl] at H
        obtain rfl := Option.some.inj H
        go_wp2
        repeat (go_quiet (fail); try go_wp2)
        go_ret
        exact ⟨ap2, ap7⟩
       ·
        replace c9 := Bool.eq_false_iff.mpr c9
        subst c9
        rw [if_neg (show ¬ (false = true) by decide)] at H
        have H' := Aside0.mk H
        clear H
        go_wp2
        repeat (go_quiet (fail); try go_wp2)
        go_loopg [6] kj4 (fun kq v6 w' => ∃ (x6_3 : Int), v6 = .int .i64 x6_3 ∧ Aside0 (R21Same.l1 kq l0 l1 x5_1 x6_3 = some r) ∧ Aside0 (kq ≤ kj4) ∧ Drawn0 w w')
        case atStart => exact ⟨(0), ap2, H', ⟨Nat.le_refl _⟩, by repeat (first | exact Drawn0.refl _ | apply Drawn0.step)⟩
        case round =>
         clear H'
         try clear c1
         try clear c2
         try clear p2
         try clear q2
         try clear hx2
         try clear c3
         try clear c3b0
         try clear c3b1
         try clear c3b2
         try clear c4
         try clear c4b0
         try clear c6
         try clear c6b0
         try clear c7
         try clear c7b0
         try clear c8
         try clear c8b0
         try clear c8b1
         try clear c9
         try clear hx260_0
         try clear hx260_1
         try clear hx261_0
         try clear hx261_1
         try clear hx262_0
         try clear hx262_1
         try clear hx263_0
         try clear hx263_1
         try clear p2
         try clear p260
         try clear p261
         try clear p262
         try clear p263
         try clear q2
         try clear q260
         try clear q261
         try clear q262
         try clear q263
         obtain ⟨x6_3, rfl, HA, HK3, ⟨m3, rfl⟩⟩ := hrel
         cases gk with
         | zero => exact absurd HA.out (by simp [R21Same.l1])
         | succ k3 =>
          have H := HA.out
          clear HA
          simp only [R21Same.l1] at H
          by_cases c10 : 0 ≤ x5_1
          ·
           rw [if_pos c10] at H
           have c10b0 := decide_eq_true c10
           clear c10
           by_cases c11 : x5_1 < (l0.length : Int)
           ·
            rw [if_pos c11] at H
            have c11b0 := decide_eq_true c11
            clear c11
            by_cases c12 : x6_3 < (((rd_T43 l0 x5_1).f1).length : Int)
            ·
             rw [if_pos c12] at H
             have c12b0 := decide_eq_true c12
             clear c12
             by_cases c13 : 0 ≤ x6_3
             ·
              rw [if_pos c13] at H
              have c13b0 := decide_eq_true c13
              clear c13
              by_cases c14 : x5_1 < (l1.length : Int)
              ·
               rw [if_pos c14] at H
               have c14b0 := decide_eq_true c14
               clear c14
               by_cases c15 : x6_3 < (((rd_T43 l1 x5_1).f1).length : Int)
               ·
                rw [if_pos c15] at H
                have c15b0 := decide_eq_true c15
                clear c15
                by_cases c16 : (!((((rd_T40 ((rd_T43 l0 x5_1).f1) x6_3).f0).toList) == (((rd_T40 ((rd_T43 l1 x5_1).f1) x6_3).f0).toList)) || (!((((rd_T40 ((rd_T43 l0 x5_1).f1) x6_3).f1).toList) == (((rd_T40 ((rd_T43 l1 x5_1).f1) x6_3).f1).toList)))) = true
                ·
                 rw [if_pos c16] at H
                 have c16b0 : (!((((rd_T40 ((rd_T43 l0 x5_1).f1) x6_3).f0).toList) == (((rd_T40 ((rd_T43 l1 x5_1).f1) x6_3).f0).toList)) || (!((((rd_T40 ((rd_T43 l0 x5_1).f1) x6_3).f1).toList) == (((rd_T40 ((rd_T43 l1 x5_1).f1) x6_3).f1).toList)))) = true := c16
                 clear c16
                 obtain rfl := Option.some.inj H
                 have p264 : 0 ≤ (x5_1 : Int) := of_decide_eq_true ap0
                 have q264 : x5_1 < (l0.length : Int) := of_decide_eq_true ap0
                 obtain ⟨ad264, A264_1, c264_1, e264, hx264_0, hx264_1, hl264_1, hi264_1⟩ := at_T43 HR0.out x5_1 p264 q264
                 cases e264
                 have HR264_1 := Aside0.mk hi264_1
                 have HC264_1 := Aside0.mk hl264_1
                 clear hi264_1 hl264_1
                 replace p264 := eq_true p264
                 replace q264 := eq_true q264
                 have p265 : 0 ≤ (x5_1 : Int) := of_decide_eq_true ap0
                 have q265 : x5_1 < (l0.length : Int) := of_decide_eq_true ap0
                 obtain ⟨ad265, A265_1, c265_1, e265, hx265_0, hx265_1, hl265_1, hi265_1⟩ := at_T43 HR0.out x5_1 p265 q265
                 obtain rfl : ad264 = ad265 := (by injection e265)
                 have HR265_1 := Aside0.mk hi265_1
                 have HC265_1 := Aside0.mk hl265_1
                 clear hi265_1 hl265_1
                 replace p265 := eq_true p265
                 replace q265 := eq_true q265
                 have ea_ := Option.some.inj (hx264_1.symm.trans hx265_1)
                 injection ea_ with ea_ en_ ec_
                 subst ea_
                 subst ec_
                 clear en_
                 have p266 : 0 ≤ (x6_3 : Int) := of_decide_eq_true ap0
                 have q266 : x6_3 < (((rd_T43 l0 x5_1).f1).length : Int) := of_decide_eq_true ap0
                 obtain ⟨ad266, e266, hx266_0, hx266_1⟩ := at_T40 HR265_1.out x6_3 p266 q266
                 cases e266
                 replace p266 := eq_true p266
                 replace q266 := eq_true q266
                 have p267 : 0 ≤ (x5_1 : Int) := of_decide_eq_true ap0
                 have q267 : x5_1 < (l1.length : Int) := of_decide_eq_true ap0
                 obtain ⟨ad267, A267_1, c267_1, e267, hx267_0, hx267_1, hl267_1, hi267_1⟩ := at_T43 HR1.out x5_1 p267 q267
                 cases e267
                 have HR267_1 := Aside0.mk hi267_1
                 have HC267_1 := Aside0.mk hl267_1
                 clear hi267_1 hl267_1
                 replace p267 := eq_true p267
                 replace q267 := eq_true q267
                 have p268 : 0 ≤ (x6_3 : Int) := of_decide_eq_true ap0
                 have q268 : x6_3 < (((rd_T43 l1 x5_1).f1).length : Int) := of_decide_eq_true ap0
                 obtain ⟨ad268, e268, hx268_0, hx268_1⟩ := at_T40 HR267_1.out x6_3 p268 q268
                 cases e268
                 replace p268 := eq_true p268
                 replace q268 := eq_true q268
                 go_wp2
                 repeat (go_quiet (fail); try go_wp2)
                 go_ret
                 exact ⟨ap2, ap7⟩
                ·
                 rw [if_neg c16] at H
                 have c16b0 : (!((((rd_T40 ((rd_T43 l0 x5_1).f1) x6_3).f0).toList) == (((rd_T40 ((rd_T43 l1 x5_1).f1) x6_3).f0).toList)) || (!((((rd_T40 ((rd_T43 l0 x5_1).f1) x6_3).f1).toList) == (((rd_T40 ((rd_T43 l1 x5_1).f1) x6_3).f1).toList)))) = false := by simpa using c16
                 clear c16
                 have H' := Aside0.mk H
                 clear H
                 have p264 : 0 ≤ (x5_1 : Int) := of_decide_eq_true ap0
                 have q264 : x5_1 < (l0.length : Int) := of_decide_eq_true ap0
                 obtain ⟨ad264, A264_1, c264_1, e264, hx264_0, hx264_1, hl264_1, hi264_1⟩ := at_T43 HR0.out x5_1 p264 q264
                 cases e264
                 have HR264_1 := Aside0.mk hi264_1
                 have HC264_1 := Aside0.mk hl264_1
                 clear hi264_1 hl264_1
                 replace p264 := eq_true p264
                 replace q264 := eq_true q264
                 have p265 : 0 ≤ (x5_1 : Int) := of_decide_eq_true ap0
                 have q265 : x5_1 < (l0.length : Int) := of_decide_eq_true ap0
                 obtain ⟨ad265, A265_1, c265_1, e265, hx265_0, hx265_1, hl265_1, hi265_1⟩ := at_T43 HR0.out x5_1 p265 q265
                 obtain rfl : ad264 = ad265 := (by injection e265)
                 have HR265_1 := Aside0.mk hi265_1
                 have HC265_1 := Aside0.mk hl265_1
                 clear hi265_1 hl265_1
                 replace p265 := eq_true p265
                 replace q265 := eq_true q265
                 have ea_ := Option.some.inj (hx264_1.symm.trans hx265_1)
                 injection ea_ with ea_ en_ ec_
                 subst ea_
                 subst ec_
                 clear en_
                 have p266 : 0 ≤ (x6_3 : Int) := of_decide_eq_true ap0
                 have q266 : x6_3 < (((rd_T43 l0 x5_1).f1).length : Int) := of_decide_eq_true ap0
                 obtain ⟨ad266, e266, hx266_0, hx266_1⟩ := at_T40 HR265_1.out x6_3 p266 q266
                 cases e266
                 replace p266 := eq_true p266
                 replace q266 := eq_true q266
                 have p267 : 0 ≤ (x5_1 : Int) := of_decide_eq_true ap0
                 have q267 : x5_1 < (l1.length : Int) := of_decide_eq_true ap0
                 obtain ⟨ad267, A267_1, c267_1, e267, hx267_0, hx267_1, hl267_1, hi267_1⟩ := at_T43 HR1.out x5_1 p267 q267
                 cases e267
                 have HR267_1 := Aside0.mk hi267_1
                 have HC267_1 := Aside0.mk hl267_1
                 clear hi267_1 hl267_1
                 replace p267 := eq_true p267
                 replace q267 := eq_true q267
                 have p268 : 0 ≤ (x6_3 : Int) := of_decide_eq_true ap0
                 have q268 : x6_3 < (((rd_T43 l1 x5_1).f1).length : Int) := of_decide_eq_true ap0
                 obtain ⟨ad268, e268, hx268_0, hx268_1⟩ := at_T40 HR267_1.out x6_3 p268 q268
                 cases e268
                 replace p268 := eq_true p268
                 replace q268 := eq_true q268
                 go_wp2
                 repeat (go_quiet (fail); try go_wp2)
                 go_roundg k3
                 case measure => have := HK1.out; have := HJ4.out; have := HK3.out; omega
                 case rel => exact ⟨(wrap64 (x6_3 + 1)), ap2, H', ⟨by have := HK1.out; have := HJ4.out; have := HK3.out; omega⟩, by repeat (first | exact Drawn0.refl _ | apply Drawn0.step)⟩
               ·
                rw [if_neg c15] at H
                exact absurd H (by simp)
              ·
               rw [if_neg c14] at H
               exact absurd H (by simp)
             ·
              rw [if_neg c13] at H
              exact absurd H (by simp)
            ·
             rw [if_neg c12] at H
             have c12b0 := decide_eq_false c12
             clear c12
             have H' := Aside0.mk H
             clear H
             have p264 : 0 ≤ (x5_1 : Int) := of_decide_eq_true ap0
             have q264 : x5_1 < (l0.length : Int) := of_decide_eq_true ap0
             obtain ⟨ad264, A264_1, c264_1, e264, hx264_0, hx264_1, hl264_1, hi264_1⟩ := at_T43 HR0.out x5_1 p264 q264
             cases e264
             have HR264_1 := Aside0.mk hi264_1
             have HC264_1 := Aside0.mk hl264_1
             clear hi264_1 hl264_1
             replace p264 := eq_true p264
             replace q264 := eq_true q264
             go_wp2
             repeat (go_quiet (fail); try go_wp2)
             go_roundg k3
             case measure => have := HK1.out; have := HJ4.out; have := HK3.out; omega
             case rel => exact ⟨(wrap64 (x5_1 + 1)), ap2, H', ⟨by have := HK1.out; have := HJ4.out; have := HK3.out; omega⟩, by repeat (first | exact Drawn0.refl _ | apply Drawn0.step)⟩
           ·
            rw [if_neg c11] at H
            exact absurd H (by simp)
          ·
           rw [if_neg c10] at H
           exact absurd H (by simp)
    ·
     rw [if_neg c4] at H
     have c4b0 := decide_eq_false c4
     clear c4
     obtain rfl := Option.some.inj H
     go_wp2
     repeat (go_quiet (fail); try go_wp2)
     go_ret
     exact ⟨ap2, ap7⟩
 ·
  rw [if_neg c3] at H
  have c3b0 : ((l0.length : Int) == (l1.length : Int)) = false := beq_eq_false_iff_ne.mpr c3
  have c3b1 : ((l0.length : Int) != (l1.length : Int)) = true := bne_iff_ne.mpr c3
  have c3b2 : (l0.length == l1.length) = false := by first | simpa using c3 | (simp at c3 ⊢; omega)
  obtain rfl := Option.some.inj H
  go_enter Tryd.func10, Tryd.ntmps10
  go_wp2
  repeat (go_quiet (fail); try go_wp2)
  go_ret
  exact ⟨ap2, ap7⟩
end Go.Proofs.YtkklacijhmoopaaDoor.Print
namespace Go.Proofs.YtkklacijhmoopaaDoor.Print
open Go.RowKit Go.Proofs.YtkklacijhmoopaaDoorW.PrintWords Go.Proofs.YtkklacijhmoopaaDoorW.PrintLast Go.Proofs.YtkklacijhmoopaaDoorW.PrintMore
attribute [local go_sem] max2_int min2_int max_two min_two max_three min_three max_four min_four
set_option linter.unusedVariables false
set_option linter.unusedSimpArgs false
def L21LdifParses.f (k : Nat) (a0 : ByteArray) : Option (Bool) := (L21awake.f k).bind fun t269 => (if t269 = true then (if (a0.size : Int) > 20000 then (some true) else ((ldif_Parse.f k a0).bind fun bt270 => ((R21Parse.f k a0).bind fun bt275 => (if bt270.2.1 = bt275.2.1 then (if bt270.2.2 = bt275.2.2 then ((R21Same.f k bt270.1 bt275.1).bind fun t280 => (some t280)) else (some false)) else (some false))))) else (some false))
set_option maxHeartbeats 8000000 in
set_option maxRecDepth 100000 in
theorem L21LdifParses.calls (k : Nat) (a0 : ByteArray) (r : Bool) (w : World) (hG : Gw w) (h : L21LdifParses.f k a0 = some r) :
  Calls Tryd.prog 3 #[.string a0] w fun e w' => e = .returned (.bool r) ∧ Below w.heap.size w w' := by
 have HB := Aside0.mk (Below.refl w.heap.size w)
 have HG := Aside0.mk hG
 clear hG
 have H : ((L21awake.f k).bind fun t269 => (if t269 = true then (if (a0.size : Int) > 20000 then (some true) else ((ldif_Parse.f k a0).bind fun bt270 => ((R21Parse.f k a0).bind fun bt275 => (if bt270.2.1 = bt275.2.1 then (if bt270.2.2 = bt275.2.2 then ((R21Same.f k bt270.1 bt275.1).bind fun t280 => (some t280)) else (some false)) else (some false))))) else (some false))) = some r := h
 clear h
 replace H := Option.bind_eq_some_iff.mp H
 obtain ⟨t269, A20, H⟩ := H
 replace H : (if t269 = true then (if (a0.size : Int) > 20000 then (some true) else ((ldif_Parse.f k a0).bind fun bt270 => ((R21Parse.f k a0).bind fun bt275 => (if bt270.2.1 = bt275.2.1 then (if bt270.2.2 = bt275.2.2 then ((R21Same.f k bt270.1 bt275.1).bind fun t280 => (some t280)) else (some false)) else (some false))))) else (some false)) = some r := H
 have A2 := Aside0.mk A20
 clear A20
 by_cases c3 : t269 = true
 ·
  subst c3
  rw [if_pos rfl] at H
  by_cases c4 : (a0.size : Int) > 20000
  ·
   rw [if_pos c4] at H
   have c4b0 := decide_eq_true c4
   have c4b1 : decide (20000 < a0.size) = true := decide_eq_true (by omega)
   clear c4
   obtain rfl := Option.some.inj H
   go_enter Tryd.func3, Tryd.ntmps3
   go_wp2_with (first | ((with_reducible refine gate_callee (f := 7) rfl ?_); refine goesL_ (some 9) rfl rfl Tryd.func7 (by kernel_rfl) rfl #[] rfl ap3 ?_; (with_reducible refine (L21awake.calls k  true _ ?side1 A2.out).mono ?_); (case side1 => exact ap6); rintro e w5 ⟨rfl, hb⟩; refine ⟨_, rfl, ?_⟩; have n0_ := Aside0.mk (below_step ap1 hb); clear HB; have HB := n0_; clear n0_; (try clear hb); (try clear hb2); (try clear hk); (try clear hi)))
   go_ret
   exact ⟨by first | rfl | (simp [errW_none, errW_some, bne_nil8, beq_nil8]; done) | (simp [errW_none, errW_some] <;> rfl) | (simp [*, errW_none, errW_some] <;> rfl), by repeat (first | (with_reducible first | exact HB.out | apply below_alloc | apply pw_below_drewN | apply below_drew1) | exact HB.out)⟩
  ·
   rw [if_neg c4] at H
   have c4b0 := decide_eq_false c4
   have c4b1 : decide (20000 < a0.size) = false := decide_eq_false (by omega)
   clear c4
   replace H := Option.bind_eq_some_iff.mp H
   obtain ⟨⟨t270, t271, t272⟩, A60, H⟩ := H
   replace H : ((R21Parse.f k a0).bind fun bt275 => (if t271 = bt275.2.1 then (if t272 = bt275.2.2 then ((R21Same.f k t270 bt275.1).bind fun t280 => (some t280)) else (some false)) else (some false))) = some r := H
   have A6 := Aside0.mk A60
   clear A60
   replace H := Option.bind_eq_some_iff.mp H
   obtain ⟨⟨t275, t276, t277⟩, A70, H⟩ := H
   replace H : (if t271 = t276 then (if t272 = t277 then ((R21Same.f k t270 t275).bind fun t280 => (some t280)) else (some false)) else (some false)) = some r := H
   have A7 := Aside0.mk A70
   clear A70
   by_cases c8 : t271 = t276
   ·
    rw [if_pos c8] at H
    have c8b0 : (t271 == t276) = true := beq_iff_eq.mpr c8
    have c8b1 : (t271 != t276) = false := bne_eq_false_iff_eq.mpr c8
    clear c8
    by_cases c9 : t272 = t277
    ·
     rw [if_pos c9] at H
     have c9b0 : (t272 == t277) = true := beq_iff_eq.mpr c9
     have c9b1 : (t272 != t277) = false := bne_eq_false_iff_eq.mpr c9
     clear c9
     replace H := Option.bind_eq_some_iff.mp H
     obtain ⟨t280, A100, H⟩ := H
     replace H : (some t280) = some r := H
     have A10 := Aside0.mk A100
     clear A100
     obtain rfl := Option.some.inj H
     go_enter Tryd.func3, Tryd.ntmps3
     go_wp2_with (first | ((with_reducible refine gate_callee (f := 7) rfl ?_); refine goesL_ (some 9) rfl rfl Tryd.func7 (by kernel_rfl) rfl #[] rfl ap3 ?_; (with_reducible refine (L21awake.calls k  true _ ?side1 A2.out).mono ?_); (case side1 => exact ap6); rintro e w11 ⟨rfl, hb⟩; refine ⟨_, rfl, ?_⟩; have n0_ := Aside0.mk (below_step ap1 hb); clear HB; have HB := n0_; clear n0_; (try clear hb); (try clear hb2); (try clear hk); (try clear hi)) | ((with_reducible refine gate_callee (f := 8) rfl ?_); refine goesL_ (some 16) rfl rfl Tryd.func8 (by kernel_rfl) rfl #[.string a0] rfl ap3 ?_; (with_reducible refine (ldif_Parse.calls k a0 t270 t271 t272 _ ?side1 A6.out).mono ?_); (case side1 => exact ap6); rintro e w12 ⟨v273, rfl, ho0, hb⟩; refine ⟨_, rfl, ?_⟩; have n0_ := Aside0.mk (Kd.S_lower ho0 (below_size ap1)); have n1_ := Aside0.mk (below_step ap1 hb); clear HB; have HO274 := n0_; have HB := n1_; clear n0_ n1_; (try clear hb); (try clear hb2); (try clear hk); (try clear hi); (try clear ho0)) | ((with_reducible refine gate_callee (f := 9) rfl ?_); refine goesL_ (some 22) rfl rfl Tryd.func9 (by kernel_rfl) rfl #[.string a0] rfl ap3 ?_; (with_reducible refine (R21Parse.calls k a0 t275 t276 t277 _ A7.out).mono ?_); rintro e w13 ⟨v278, rfl, ho0, hb⟩; refine ⟨_, rfl, ?_⟩; have n0_ := Aside0.mk (Kd.S_elder' (apAS HO274.out) (Kd.S_base ho0) hb); have n1_ := Aside0.mk (Kd.S_lower (Kd.S_new' ho0 (Kd.S_lt (apAS HO274.out))) (below_size ap1)); have n2_ := Aside0.mk (below_step ap1 hb); clear HO274; clear HB; have HO274 := n0_; have HO279 := n1_; have HB := n2_; clear n0_ n1_ n2_; (try clear hb); (try clear hb2); (try clear hk); (try clear hi); (try clear ho0); obtain ⟨Ao14, co14, eo14⟩ := Kd.S_slice HO274.out; subst eo14; obtain ⟨Ao15, co15, eo15⟩ := Kd.S_slice HO279.out; subst eo15) | (go_at_call 10; (with_reducible refine (R21Same.calls k _ _ t270 _ _ t275 t280 _ ?side1 ?side2 ?side3 ?side4 A10.out).mono ?_); (case side1 => repeat (first | exact (Kd.S_reads' HO274.out).2.2 | (with_reducible refine Kd.C_alloc ?_ _) | (with_reducible refine Kd.C_drewN ?_ _) | (with_reducible refine Kd.C_drew ?_))); (case side2 => exact (Kd.S_reads' HO274.out).2.1); (case side3 => repeat (first | exact (Kd.S_reads' HO279.out).2.2 | (with_reducible refine Kd.C_alloc ?_ _) | (with_reducible refine Kd.C_drewN ?_ _) | (with_reducible refine Kd.C_drew ?_))); (case side4 => exact (Kd.S_reads' HO279.out).2.1); rintro e w' ⟨rfl, ⟨nd, rfl⟩⟩))
     go_ret
     exact ⟨by first | rfl | (simp [errW_none, errW_some, bne_nil8, beq_nil8]; done) | (simp [errW_none, errW_some] <;> rfl) | (simp [*, errW_none, errW_some] <;> rfl), by repeat (first | (with_reducible first | exact HB.out | apply below_alloc | apply pw_below_drewN | apply below_drew1) | exact HB.out)⟩
    ·
     rw [if_neg c9] at H
     have c9b0 : (t272 == t277) = false := beq_eq_false_iff_ne.mpr c9
     have c9b1 : (t272 != t277) = true := bne_iff_ne.mpr c9
     obtain rfl := Option.some.inj H
     go_enter Tryd.func3, Tryd.ntmps3
     go_wp2_with (first | ((with_reducible refine gate_callee (f := 7) rfl ?_); refine goesL_ (some 9) rfl rfl Tryd.func7 (by kernel_rfl) rfl #[] rfl ap3 ?_; (with_reducible refine (L21awake.calls k  true _ ?side1 A2.out).mono ?_); (case side1 => exact ap6); rintro e w16 ⟨rfl, hb⟩; refine ⟨_, rfl, ?_⟩; have n0_ := Aside0.mk (below_step ap1 hb); clear HB; have HB := n0_; clear n0_; (try clear hb); (try clear hb2); (try clear hk); (try clear hi)) | ((with_reducible refine gate_callee (f := 8) rfl ?_); refine goesL_ (some 16) rfl rfl Tryd.func8 (by kernel_rfl) rfl #[.string a0] rfl ap3 ?_; (with_reducible refine (ldif_Parse.calls k a0 t270 t271 t272 _ ?side1 A6.out).mono ?_); (case side1 => exact ap6); rintro e w17 ⟨v273, rfl, ho0, hb⟩; refine ⟨_, rfl, ?_⟩; have n0_ := Aside0.mk (Kd.S_lower ho0 (below_size ap1)); have n1_ := Aside0.mk (below_step ap1 hb); clear HB; have HO274 := n0_; have HB := n1_; clear n0_ n1_; (try clear hb); (try clear hb2); (try clear hk); (try clear hi); (try clear ho0)) | ((with_reducible refine gate_callee (f := 9) rfl ?_); refine goesL_ (some 22) rfl rfl Tryd.func9 (by kernel_rfl) rfl #[.string a0] rfl ap3 ?_; (with_reducible refine (R21Parse.calls k a0 t275 t276 t277 _ A7.out).mono ?_); rintro e w18 ⟨v278, rfl, ho0, hb⟩; refine ⟨_, rfl, ?_⟩; have n0_ := Aside0.mk (Kd.S_elder' (apAS HO274.out) (Kd.S_base ho0) hb); have n1_ := Aside0.mk (Kd.S_lower (Kd.S_new' ho0 (Kd.S_lt (apAS HO274.out))) (below_size ap1)); have n2_ := Aside0.mk (below_step ap1 hb); clear HO274; clear HB; have HO274 := n0_; have HO279 := n1_; have HB := n2_; clear n0_ n1_ n2_; (try clear hb); (try clear hb2); (try clear hk); (try clear hi); (try clear ho0)))
     go_ret
     exact ⟨by first | rfl | (simp [errW_none, errW_some, bne_nil8, beq_nil8]; done) | (simp [errW_none, errW_some] <;> rfl) | (simp [*, errW_none, errW_some] <;> rfl), by repeat (first | (with_reducible first | exact HB.out | apply below_alloc | apply pw_below_drewN | apply below_drew1) | exact HB.out)⟩
   ·
    rw [if_neg c8] at H
    have c8b0 : (t271 == t276) = false := beq_eq_false_iff_ne.mpr c8
    have c8b1 : (t271 != t276) = true := bne_iff_ne.mpr c8
    obtain rfl := Option.some.inj H
    go_enter Tryd.func3, Tryd.ntmps3
    go_wp2_with (first | ((with_reducible refine gate_callee (f := 7) rfl ?_); refine goesL_ (some 9) rfl rfl Tryd.func7 (by kernel_rfl) rfl #[] rfl ap3 ?_; (with_reducible refine (L21awake.calls k  true _ ?side1 A2.out).mono ?_); (case side1 => exact ap6); rintro e w19 ⟨rfl, hb⟩; refine ⟨_, rfl, ?_⟩; have n0_ := Aside0.mk (below_step ap1 hb); clear HB; have HB := n0_; clear n0_; (try clear hb); (try clear hb2); (try clear hk); (try clear hi)) | ((with_reducible refine gate_callee (f := 8) rfl ?_); refine goesL_ (some 16) rfl rfl Tryd.func8 (by kernel_rfl) rfl #[.string a0] rfl ap3 ?_; (with_reducible refine (ldif_Parse.calls k a0 t270 t271 t272 _ ?side1 A6.out).mono ?_); (case side1 => exact ap6); rintro e w20 ⟨v273, rfl, ho0, hb⟩; refine ⟨_, rfl, ?_⟩; have n0_ := Aside0.mk (Kd.S_lower ho0 (below_size ap1)); have n1_ := Aside0.mk (below_step ap1 hb); clear HB; have HO274 := n0_; have HB := n1_; clear n0_ n1_; (try clear hb); (try clear hb2); (try clear hk); (try clear hi); (try clear ho0)) | ((with_reducible refine gate_callee (f := 9) rfl ?_); refine goesL_ (some 22) rfl rfl Tryd.func9 (by kernel_rfl) rfl #[.string a0] rfl ap3 ?_; (with_reducible refine (R21Parse.calls k a0 t275 t276 t277 _ A7.out).mono ?_); rintro e w21 ⟨v278, rfl, ho0, hb⟩; refine ⟨_, rfl, ?_⟩; have n0_ := Aside0.mk (Kd.S_elder' (apAS HO274.out) (Kd.S_base ho0) hb); have n1_ := Aside0.mk (Kd.S_lower (Kd.S_new' ho0 (Kd.S_lt (apAS HO274.out))) (below_size ap1)); have n2_ := Aside0.mk (below_step ap1 hb); clear HO274; clear HB; have HO274 := n0_; have HO279 := n1_; have HB := n2_; clear n0_ n1_ n2_; (try clear hb); (try clear hb2); (try clear hk); (try clear hi); (try clear ho0)))
    go_ret
    exact ⟨by first | rfl | (simp [errW_none, errW_some, bne_nil8, beq_nil8]; done) | (simp [errW_none, errW_some] <;> rfl) | (simp [*, errW_none, errW_some] <;> rfl), by repeat (first | (with_reducible first | exact HB.out | apply below_alloc | apply pw_below_drewN | apply below_drew1) | exact HB.out)⟩
 ·
  replace c3 := Bool.eq_false_iff.mpr c3
  subst c3
  rw [if_neg (show ¬ (false = true) by decide)] at H
  obtain rfl := Option.some.inj H
  go_enter Tryd.func3, Tryd.ntmps3
  go_wp2_with (first | ((with_reducible refine gate_callee (f := 7) rfl ?_); refine goesL_ (some 9) rfl rfl Tryd.func7 (by kernel_rfl) rfl #[] rfl ap3 ?_; (with_reducible refine (L21awake.calls k  false _ ?side1 A2.out).mono ?_); (case side1 => exact ap6); rintro e w22 ⟨rfl, hb⟩; refine ⟨_, rfl, ?_⟩; have n0_ := Aside0.mk (below_step ap1 hb); clear HB; have HB := n0_; clear n0_; (try clear hb); (try clear hb2); (try clear hk); (try clear hi)))
  go_ret
  exact ⟨by first | rfl | (simp [errW_none, errW_some, bne_nil8, beq_nil8]; done) | (simp [errW_none, errW_some] <;> rfl) | (simp [*, errW_none, errW_some] <;> rfl), by repeat (first | (with_reducible first | exact HB.out | apply below_alloc | apply pw_below_drewN | apply below_drew1) | exact HB.out)⟩
def L21LdifParses.Pure : Prop := ∀ (a0 : ByteArray), a0.size ≤ 140737488351232 → ∃ k, L21LdifParses.f k a0 = some true
theorem L21LdifParses.walk (P : L21LdifParses.Pure) (a0 : ByteArray) (w : World) (hG : Gw w) (w0 : a0.size ≤ 140737488351232) :
  Calls Tryd.prog 3 #[.string a0] w fun e w' => e = .returned (.bool true) ∧ Below w.heap.size w w' := by
 obtain ⟨k, h⟩ := P a0 w0
 refine (L21LdifParses.calls k a0 true w hG h).mono ?_
 rintro e w' ⟨rfl, hd⟩
 exact ⟨rfl, hd⟩
end Go.Proofs.YtkklacijhmoopaaDoor.Print
namespace Go.Proofs.YtkklacijhmoopaaDoor.Print
open Go.RowKit Go.Proofs.YtkklacijhmoopaaDoorW.PrintWords Go.Proofs.YtkklacijhmoopaaDoorW.PrintLast Go.Proofs.YtkklacijhmoopaaDoorW.PrintMore
set_option linter.unusedVariables false
set_option linter.unusedSimpArgs false
namespace B64
def topOut (bad : Option Nat) : Except Nat (List RecS) → List RecS × Int × Int
  | .error n => ([], (n : Int), 4)
  | .ok recs => match bad with
    | none => (recs, 0, 0)
    | some N => ([], (N : Int), 4)
def topR (l : List UInt8) : List RecS × Int × Int := topOut (linesR (l.length + 1) l [] false 0).2 (parseR 0 (linesR (l.length + 1) l [] false 0).1 [] false)
theorem lines_no : ∀ (n : Nat) (l : List UInt8) (rows : List Rw) (op : Bool) (no : Nat), (∀ r ∈ rows, 1 ≤ r.2) → ∀ r ∈ (linesR n l rows op no).1, 1 ≤ r.2
  | 0, l, rows, op, no, h => by rw [linesR]; exact h
  | n + 1, l, rows, op, no, h => by
    rw [linesR]
    split
    · exact h
    · split
      · split
        · refine lines_no n _ _ _ _ ?_
          rcases List.eq_nil_or_concat rows with hb | ⟨ys, y, hb⟩
          · rw [hb]; intro r hr; simp [addLast] at hr
          · rw [List.concat_eq_append] at hb
            rw [hb, addLast_snoc]
            rw [hb] at h
            intro r hr
            rcases List.mem_append.1 hr with hr | hr
            · exact h r (by simp [hr])
            · simp only [List.mem_singleton] at hr
              subst hr
              exact h y (by simp)
        · exact h
      · refine lines_no n _ _ _ _ ?_
        intro r hr
        rcases List.mem_append.1 hr with hr | hr
        · exact h r hr
        · simp only [List.mem_singleton] at hr
          subst hr
          exact Nat.succ_le_succ (Nat.zero_le _)
theorem parse_no : ∀ (rows : List Rw) (i : Nat) (recs : List RecS) (op : Bool) (n : Nat), (∀ r ∈ rows, 1 ≤ r.2) → parseR i rows recs op = .error n → 1 ≤ n
  | [], i, recs, op, n, h, e => by rw [parseR] at e; cases e
  | x :: r, i, recs, op, n, h, e => by
    have hr : ∀ y ∈ r, 1 ≤ y.2 := fun y hy => h y (by simp [hy])
    rw [parseR] at e
    split at e
    · exact parse_no r _ _ _ n hr e
    · split at e
      · exact parse_no r _ _ _ n hr e
      · split at e
        · injection e with e
          rw [← e]; exact h x (by simp)
        · split at e
          · exact parse_no r _ _ _ n hr e
          · exact parse_no r _ _ _ n hr e
theorem parse_sz (B : Nat) : ∀ (rows : List Rw) (i : Nat) (recs R : List RecS) (op : Bool), parseR i rows recs op = .ok R → recs.length + rows.length ≤ B → (∀ x ∈ recs, x.f1.length + rows.length ≤ B) → R.length ≤ B ∧ ∀ x ∈ R, x.f1.length ≤ B
  | [], i, recs, R, op, e, h1, h2 => by
    rw [parseR] at e
    injection e with e
    subst e
    exact ⟨by simpa using h1, fun x hx => by simpa using h2 x hx⟩
  | x :: r, i, recs, R, op, e, h1, h2 => by
    simp only [List.length_cons] at h1 h2
    rw [parseR] at e
    split at e
    · exact parse_sz B r _ _ R _ e (by omega) (fun y hy => by have := h2 y hy; omega)
    · split at e
      · exact parse_sz B r _ _ R _ e (by omega) (fun y hy => by have := h2 y hy; omega)
      · split at e
        · cases e
        · split at e
          · refine parse_sz B r _ _ R _ e ?_ ?_
            · rcases List.eq_nil_or_concat recs with hb | ⟨ys, y, hb⟩
              · rw [hb]; simp [addPair]; omega
              · rw [List.concat_eq_append] at hb
                rw [hb] at h1 ⊢
                rw [addPair_snoc]; simp at h1 ⊢; omega
            · rcases List.eq_nil_or_concat recs with hb | ⟨ys, y, hb⟩
              · rw [hb]; intro z hz; simp [addPair] at hz
              · rw [List.concat_eq_append] at hb
                rw [hb] at h2 ⊢
                rw [addPair_snoc]
                intro z hz
                rcases List.mem_append.1 hz with hz | hz
                · have := h2 z (by simp [hz]); omega
                · simp only [List.mem_singleton] at hz
                  subst hz
                  have := h2 y (by simp)
                  simp only [List.length_append, List.length_cons, List.length_nil]; omega
          · refine parse_sz B r _ _ R _ e (by simp; omega) ?_
            intro z hz
            rcases List.mem_append.1 hz with hz | hz
            · have := h2 z hz; omega
            · simp only [List.mem_singleton] at hz
              subst hz
              simp only [List.length_nil]; omega
theorem top_sz (l : List UInt8) : (topR l).1.length ≤ l.length ∧ ∀ x ∈ (topR l).1, x.f1.length ≤ l.length := by
  have h1 := (lines_sz (l.length + 1) l [] false 0 l.length (by simp) (by omega) (by simp)).1
  unfold topR
  cases hp : parseR 0 (linesR (l.length + 1) l [] false 0).1 [] false with
  | error n => exact ⟨Nat.zero_le _, fun x hx => by simp [topOut] at hx⟩
  | ok recs =>
    cases (linesR (l.length + 1) l [] false 0).2 with
    | some N => exact ⟨Nat.zero_le _, fun x hx => by simp [topOut] at hx⟩
    | none => exact parse_sz l.length _ 0 [] recs false hp (by simpa using h1) (by simp)
theorem prog_top (s : ByteArray) (hs : s.size ≤ 100000) : Ev (fun k => ldif_Parse.f k s) (topR (bl s)) := by
  have hl := bl_length s
  unfold ldif_Parse.f
  refine Ev.neg (by omega) (Ev.bind (lines_f s (by omega)) ?_)
  unfold topR
  rw [hl]
  obtain ⟨z1, z2⟩ := lines_sz (s.size + 1) (bl s) [] false 0 s.size (by simp) (by omega) (by simp)
  have z3 := lines_no (s.size + 1) (bl s) [] false 0 (by simp)
  cases hlr : linesR (s.size + 1) (bl s) [] false 0 with
  | mk rows bad =>
    rw [hlr] at z1 z2 z3
    dsimp only at z1 z2 z3
    have hrecs := recs_prog rows (by omega) (fun r hr => by have := z2 r hr; omega) _ 0 [] false rfl (Nat.zero_le _) (by simp) (by simp) (by simp)
    have hrecs0 := recs_prog0 rows (by omega) (fun r hr => by have := z2 r hr; omega) _ 0 [] false rfl (Nat.zero_le _) (by simp) (by simp) (by simp)
    rw [List.drop_zero] at hrecs hrecs0
    cases bad with
    | none =>
      have e : ∀ x, outR x = topOut none x := fun x => by cases x <;> rfl
      rw [e] at hrecs
      have hml : (((rows.map mkW).length : Nat) : Int) = (rows.length : Int) := by simp
      show Ev (fun k => if true = true then _ else _) _
      refine Ev.pos rfl ?_
      show Ev (fun k => ldif_Parse.l0 k [] false (rows.map mkW) (((rows.map mkW).length : Nat) : Int) 0) _
      rw [hml]
      exact hrecs
    | some N =>
      obtain ⟨hN, p, r, hpre, hlp, _⟩ := fail_pre (s.size + 1) (bl s) [] rows false 0 N (by omega) hlr
      have happ := pre_app _ _ _ _ hpre
      have hpl : p.length ≤ s.size := by
        have := congrArg List.length happ
        rw [hl, List.length_append] at this; omega
      have hNs : N ≤ s.size + 1 := by
        have : ∀ (m : Nat) (l p r : List UInt8), Pre m l p r → m ≤ l.length := by
          intro m
          induction m with
          | zero => intro l p r _; omega
          | succ m ih =>
            intro l p r h
            obtain ⟨a, b, p', rfl, _, _, h⟩ := h
            have := ih b p' r h
            simp; omega
        have := this _ _ _ _ hpre
        omega
      have hlp2 : linesR (p.length + 1) p [] false 0 = (rows, none) := by
        rw [← hlp]; exact linesR_fuel _ _ p [] false 0 (by omega) (by omega)
      have hP0 : Ev (fun k => ldif_Parse0.f k (mkB p)) (outR (parseR 0 rows [] false)) := by
        unfold ldif_Parse0.f
        refine Ev.neg (by rw [mkB_size]; omega) ?_
        have hlf := lines_f (mkB p) (by rw [mkB_size]; omega)
        rw [mkB_size, show bl (mkB p) = p from rfl, hlp2] at hlf
        refine Ev.bind hlf ?_
        have hml : (((rows.map mkW).length : Nat) : Int) = (rows.length : Int) := by simp
        show Ev (fun k => if true = true then _ else _) _
        refine Ev.pos rfl ?_
        show Ev (fun k => ldif_Parse0.l0 k [] false (rows.map mkW) (((rows.map mkW).length : Nat) : Int) 0) _
        rw [hml]
        exact hrecs0
      have hext : s.extract 0 (0 + p.length) = mkB p := by
        apply mk_ext
        rw [Nat.zero_add, ext_to, happ]
        exact List.take_left' rfl
      have hfirst : Ev (fun k => ldif_first.f k [] s (N : Int)) (match parseR 0 rows [] false with | .ok _ => 0 | .error n => (n : Int)) := by
        unfold ldif_first.f
        rw [show wrap64 ((N : Int) - 1) = ((N - 1 : Nat) : Int) by unfold wrap64; omega]
        refine first_loop s (by omega) (N - 1) (by omega) (N - 1) 0 0 p r (by omega) (by omega) (Nat.zero_le _) (by rw [List.drop_zero]; exact hpre) ?_
        rw [hext]
        refine Ev.bind hP0 ?_
        cases parseR 0 rows [] false with
        | ok recs => exact Ev.pos rfl Ev.rfl'
        | error n => exact Ev.neg (show ¬ ((4 : Int) = 0) by decide) Ev.rfl'
      show Ev (fun k => if false = true then _ else _) _
      refine Ev.neg (by simp) (Ev.bind hfirst ?_)
      cases hp : parseR 0 rows [] false with
      | ok recs => exact Ev.neg (by simp) Ev.rfl'
      | error n =>
        have := parse_no rows 0 [] false n z3 hp
        exact Ev.pos (show (n : Int) > 0 by omega) Ev.rfl'
theorem ref_top (s : ByteArray) (hs : s.size ≤ 100000) : Ev (fun k => R21Parse.f k s) (topR (bl s)) := by
  have hl := bl_length s
  unfold R21Parse.f
  obtain ⟨tail, h1, h2⟩ := refrows_ev s (by omega)
  refine Ev.neg (by omega) (Ev.bind h1 ?_)
  unfold topR
  rw [hl]
  obtain ⟨z1, z2⟩ := lines_sz (s.size + 1) (bl s) [] false 0 s.size (by simp) (by omega) (by simp)
  cases hlr : linesR (s.size + 1) (bl s) [] false 0 with
  | mk rows bad =>
    rw [hlr] at z1 z2 h2
    dsimp only at z1 z2 h2
    have htl : tail = [] ∨ ∃ t junk, tail = t :: junk ∧ t.f2 = true := by
      cases bad with
      | none => exact .inl h2
      | some N =>
        obtain ⟨t, Y, e1, e2, _⟩ := h2
        exact .inr ⟨t, Y, e1, e2⟩
    have := recs_ref rows tail (by omega) htl (fun r hr => by have := z2 r hr; omega) _ 0 [] false rfl (Nat.zero_le _) (by simp) (by simp) (by simp)
    rw [List.drop_zero] at this
    have e : outT tail (parseR 0 rows [] false) = topOut bad (parseR 0 rows [] false) := by
      cases parseR 0 rows [] false with
      | error n => rfl
      | ok recs =>
        cases bad with
        | none => rw [show tail = [] from h2]; rfl
        | some N =>
          obtain ⟨t, Y, e1, _, e3⟩ := h2
          rw [e1]
          show (([] : List RecS), t.f1, (4 : Int)) = ([], (N : Int), 4)
          rw [e3]
    rw [e] at this
    exact this
end B64
end Go.Proofs.YtkklacijhmoopaaDoor.Print
namespace Go.Proofs.YtkklacijhmoopaaDoor.Print
open Go.RowKit Go.Proofs.YtkklacijhmoopaaDoorW.PrintWords Go.Proofs.YtkklacijhmoopaaDoorW.PrintLast Go.Proofs.YtkklacijhmoopaaDoorW.PrintMore
set_option linter.unusedVariables false
set_option linter.unusedSimpArgs false
namespace B64
theorem rdRec_at {X : List RecS} {i : Nat} {x : RecS} {r : List RecS} (h : X.drop i = x :: r) : rd_T43 X (i : Int) = x := by
  have h0 : X[i]? = some x := by
    have := congrArg List.head? h
    rw [List.head?_drop] at this; simpa using this
  unfold rd_T43
  rw [Int.toNat_natCast, List.getD_eq_getElem?_getD, h0]; rfl
theorem same_l1 (R : List RecS) (hR : R.length ≤ 1000000) (i : Nat) (x : RecS) (r : List RecS) (hr : R.drop i = x :: r) (hx : x.f1.length ≤ 1000000) (hnext : Ev (fun k => R21Same.l0 k R R ((i + 1 : Nat) : Int)) true) :
    ∀ (m j : Nat), x.f1.length - j = m → j ≤ x.f1.length → Ev (fun k => R21Same.l1 k R R (i : Int) (j : Int)) true := by
  have hi : i < R.length := by
    rcases Nat.lt_or_ge i R.length with h | h
    · exact h
    · rw [List.drop_eq_nil_of_le h] at hr; cases hr
  have g2 := rdRec_at hr
  intro m
  induction m with
  | zero =>
    intro j hm hj
    refine Ev.step (fun k => by rw [R21Same.l1]) ?_
    rw [g2, show wrap64 ((i : Int) + 1) = ((i + 1 : Nat) : Int) by unfold wrap64; omega]
    exact Ev.pos (by omega) (Ev.pos (by omega) (Ev.neg (by omega) hnext))
  | succ m ih =>
    intro j hm hj
    have hi2 := ih (j + 1) (by omega) (by omega)
    refine Ev.step (fun k => by rw [R21Same.l1]) ?_
    rw [g2, show wrap64 ((j : Int) + 1) = ((j + 1 : Nat) : Int) by unfold wrap64; omega]
    refine Ev.pos (by omega) (Ev.pos (by omega) (Ev.pos (by omega) (Ev.pos (by omega) (Ev.pos (by omega) (Ev.pos (by omega) (Ev.neg ?_ hi2))))))
    simp
theorem same_l0 (R : List RecS) (hR : R.length ≤ 1000000) (hx : ∀ x ∈ R, x.f1.length ≤ 1000000) : ∀ (m i : Nat), R.length - i = m → i ≤ R.length → Ev (fun k => R21Same.l0 k R R (i : Int)) true := by
  intro m
  induction m with
  | zero =>
    intro i hm hi
    refine Ev.step (fun k => by rw [R21Same.l0]) ?_
    exact Ev.neg (by omega) Ev.rfl'
  | succ m ih =>
    intro i hm hi
    cases hr : R.drop i with
    | nil => have := List.drop_eq_nil_iff.1 hr; omega
    | cons x r =>
      have g2 := rdRec_at hr
      have hxm : x ∈ R := List.mem_of_mem_drop (show x ∈ R.drop i by rw [hr]; simp)
      have h1 := same_l1 R hR i x r hr (hx x hxm) (ih (i + 1) (by omega) (by omega)) _ 0 rfl (Nat.zero_le _)
      refine Ev.step (fun k => by rw [R21Same.l0]) ?_
      rw [g2]
      refine Ev.pos (by omega) (Ev.pos (by omega) (Ev.pos (by omega) (Ev.pos rfl ?_)))
      rw [show ((x.f1.length : Int) != (x.f1.length : Int)) = false by simp]
      refine Ev.step (fun k => by rw [R21Same.j1]) ?_
      exact Ev.neg (by simp) h1
theorem same_ev (R : List RecS) (hR : R.length ≤ 1000000) (hx : ∀ x ∈ R, x.f1.length ≤ 1000000) : Ev (fun k => R21Same.f k R R) true := by
  unfold R21Same.f
  exact Ev.pos rfl (same_l0 R hR hx _ 0 rfl (Nat.zero_le _))
theorem ex_top : topR [100, 110, 58, 32, 99, 110, 61, 97, 10, 99, 110, 58, 32, 97, 10, 10] = ([⟨mkB [99, 110, 61, 97], [⟨mkB [99, 110], mkB [97]⟩]⟩], 0, 0) := by kernel_rfl
theorem awake21_ev : Ev (fun k => L21awake.f k) true := by
  unfold L21awake.f
  have h := prog_top (⟨#[100, 110, 58, 32, 99, 110, 61, 97, 10, 99, 110, 58, 32, 97, 10, 10]⟩ : ByteArray) (by decide)
  rw [show bl (⟨#[100, 110, 58, 32, 99, 110, 61, 97, 10, 99, 110, 58, 32, 97, 10, 10]⟩ : ByteArray) = [100, 110, 58, 32, 99, 110, 61, 97, 10, 99, 110, 58, 32, 97, 10, 10] from rfl, ex_top] at h
  refine Ev.bind h ?_
  refine Ev.pos rfl (Ev.pos rfl (Ev.pos rfl (Ev.pos (by decide) (Ev.pos (by rw [Lib.toList_data]; rfl) (Ev.pos rfl (Ev.pos (by decide) ?_))))))
  refine Ev.const fun _ => ?_
  show some (((mkB [99, 110]).toList == [99, 110]) && ((mkB [97]).toList == [97])) = some true
  rw [Lib.toList_data, Lib.toList_data]; rfl
theorem LdifParses_main (s : ByteArray) : ∃ k, L21LdifParses.f k s = some true := by
  refine Ev.some' ?_
  unfold L21LdifParses.f
  refine Ev.bind awake21_ev (Ev.pos rfl ?_)
  by_cases h : 20000 < s.size
  · exact Ev.pos (by omega) Ev.rfl'
  · obtain ⟨z1, z2⟩ := top_sz (bl s)
    rw [bl_length] at z1 z2
    refine Ev.neg (by omega) (Ev.bind (prog_top s (by omega)) (Ev.bind (ref_top s (by omega)) (Ev.pos rfl (Ev.pos rfl ?_))))
    exact Ev.bind (same_ev _ (by omega) (fun x hx => by have := z2 x hx; omega)) Ev.rfl'
end B64
theorem LdifParses : L21LdifParses.Pure := by
  intro a0 _
  exact B64.LdifParses_main a0
end Go.Proofs.YtkklacijhmoopaaDoor.Print
namespace Go
variable {H : Type} {enc : TypeId × Value → H}
theorem handed_laid {a : Assume} {C : Checked} {os : Os} {f : FuncId} {fn : Func} {s : ChangeSpec} {conds : List PathCond} {apart fresh handsOn again : Bool} {X : World → Array Value → Prop}
    (hX : ∀ (w w' : World) (args : Array Value), w.heap = w'.heap → X w args → X w' args)
    (own : ownKnob C.prog.godebug = none) (started : os.Started) (noInit : C.prog.inits.idxOf? f = none) (hfn : C.prog.funcs[f]? = some fn)
    (witness : ∃ (w : World) (tape : Tape) (i : Input), w.os = os ∧ (w.forCall tape i).Shaped C.prog ∧ i.vars = [] ∧ Input.okWide C.prog (w.forCall tape i) .any w.heap.size f i ∧
      ((s.pre enc C.prog fn conds apart (w.forCall tape i).memory i.args ∧ X (w.forCall tape i).memory i.args) ∧ sizedMet enc C.prog fn (OpenSpec.ofChange s) apart (w.forCall tape i).memory i.args) ∧ a.holds C.prog (lone (Frame.enter C.prog f i.args .normal) [] (w.forCall tape i)))
    (contract : ∀ (W : World) (base : Nat) (args : Array Value) (ds gs : List (DataW H)) (before : List MemPlace),
      (∀ (j : Nat) t v, fn.params[j]? = some t → args[j]? = some v → Value.okWide C.prog W .any base t v) →
      DataW.Whole enc C.prog fn.params.toList s.vars apart W args.toList ds gs before →
      conds.all (PathCond.test C.prog ⟨fn.params.toList, ds, s.plain.varTypes C.prog, gs⟩) = true →
      (DataW.weightsEach C.prog (fn.params.toList ++ s.plain.varTypes C.prog) (ds ++ gs)).all (· ≤ reachBytes) = true → X W args →
      W.ShapedOpen C.prog →
      a.holds C.prog (lone (Frame.enter C.prog f args .normal) [] W) →
      Calls C.prog f args W fun e W' => ∃ v, e = .returned v ∧ s.post enc C.prog fn apart fresh handsOn again W args v W') :
    ReturnsInHanded a C os f .any (fun w args => (s.pre enc C.prog fn conds apart w args ∧ X w args) ∧ sizedMet enc C.prog fn (OpenSpec.ofChange s) apart w args) (s.post enc C.prog fn apart fresh handsOn again) := by
  refine returnsInHanded_of_calls own started noInit witness ?_
  intro w tape i _ hsh _ hok hpre hholds
  obtain ⟨_, _, _, fn', hfn', _, _, _, _, hval⟩ := hok
  have e : fn' = fn := Option.some.inj (hfn'.symm.trans hfn)
  subst e
  obtain ⟨⟨⟨ds, gs, before, hw, hc⟩, hx⟩, hz⟩ := hpre
  have hw' := DataW.Whole.of_heap (w' := w.forCall tape i) (by rfl) hw
  refine (contract (w.forCall tape i) w.heap.size i.args ds gs before hval hw' hc (hz.weights hw) (hX _ _ _ (by rfl) hx) hsh hholds).mono fun e W' ⟨v, he, hp⟩ => ?_
  subst he
  exact ChangeSpec.post_blind hp
end Go
namespace Go.Proofs.YtkklacijhmoopaaDoor
open Go.ChangeShapes Go.WideShapes Go.ChangeAt Go.RowKit
open Go.ChangeMaps (open_string shut_string)
set_option maxRecDepth 100000
theorem own : ownKnob Tryd.prog.godebug = none := by kernel_rfl
def laid2 : List (String × DataW Unit) := [("unicode/utf8.acceptRanges", Rows.laid_unicode_utf8_acceptRanges), ("unicode/utf8.first", Rows.laid_unicode_utf8_first)]
theorem first_is : (Rows.laid_unicode_utf8_first : DataW Unit) = Lib.firstData := by kernel_rfl
theorem accept_is : (Rows.laid_unicode_utf8_acceptRanges : DataW Unit) = Lib.acceptData := by kernel_rfl
def ren : Go.Shelf.Ren := ⟨fun n => n, fun | 5 => 5 | 119 => 158 | 138 => 160 | 139 => 161 | n => n, fun | 3 => 1 | 4 => 2 | n => n⟩
theorem u8types : U8Types Tryd.prog ren := { t5 := Tryd.underlying5, t119 := Tryd.underlying158, t138 := Tryd.underlying160, t139 := Tryd.underlying161 }
theorem u8extra : U8Extra Tryd.prog ren := { n3 := by kernel_rfl, n4 := by kernel_rfl, y3 := by kernel_rfl, y4 := by kernel_rfl, c5 := by kernel_rfl, c119 := by kernel_rfl, c138 := by kernel_rfl }
theorem gw_of {W : World} (hsh : W.ShapedOpen Tryd.prog) (hL : laidMetH Tryd.prog laid2 W) : Print.Gw W := by
  rw [MakeChecks.laidMetH_plain _ _ _ (by kernel_rfl)] at hL
  refine ⟨cell_of_shapedOpen_int (zero := #[.int .i64 0]) (t := 3) hsh (of_decide_eq_true (by kernel_rfl)) (by kernel_rfl) rfl (by kernel_rfl) (by kernel_rfl) Tryd.underlying3, ?_⟩
  refine utf8Tabs_of_readsT u8types u8extra ?_ ?_
  · rw [← first_is]; exact Lib.laidMet.reads hL (by simp [laid2])
  · rw [← accept_is]; exact Lib.laidMet.reads hL (by simp [laid2])
end Go.Proofs.YtkklacijhmoopaaDoor
