-- laid together by pack.py (a program of this session)
import Derived.Test.YtkklacijhmoopaaGreatDoorADnKeys4
namespace Go.Proofs.YtkklacijhmoopaaGreatDoor.Print
open Go.RowKit Go.Proofs.YtkklacijhmoopaaGreatDoorW.PrintWords Go.Proofs.YtkklacijhmoopaaGreatDoorW.PrintLast Go.Proofs.YtkklacijhmoopaaGreatDoorW.PrintMore Go.Proofs.YtkklacijhmoopaaGreatDoor.Pure
set_option linter.unusedVariables false
set_option linter.unusedSimpArgs false
theorem key_cat (ps : List ByteArray) (hps : ps.length ≤ 1000) (hsz : ∀ x ∈ ps, x.size ≤ 4096) : ∀ (m j : Nat), ps.length - j = m → j ≤ ps.length →
    Ev (fun k => R15Key.l2 k ps (mkB ((ps.take j).map bl).flatten) (j : Int)) (mkB (ps.map bl).flatten, 0) := by
  intro m
  induction m with
  | zero =>
    intro j hm hj
    rw [List.take_of_length_le (by omega)]
    refine Ev.step (fun k => by rw [R15Key.l2]) ?_
    exact Ev.neg (by omega) Ev.rfl'
  | succ m ih =>
    intro j hm hj
    cases hr : ps.drop j with
    | nil => have := List.drop_eq_nil_iff.1 hr; omega
    | cons x r =>
      have g2 := rdB_at hr
      have hxm : x ∈ ps := List.mem_of_mem_drop (show x ∈ ps.drop j by rw [hr]; simp)
      have hi2 := ih (j + 1) (by omega) (by omega)
      rw [take_next hr, List.map_append, List.flatten_append] at hi2
      have e : mkB ((ps.take j).map bl).flatten ++ x = mkB (((ps.take j).map bl).flatten ++ (List.map bl [x]).flatten) := by
        rw [ba_app']; simp
      have hB := flat_len 4096 ((ps.take j).map bl) (fun y hy => by
        obtain ⟨z, hz, rfl⟩ := List.mem_map.1 hy
        rw [bl_length]; exact hsz z (List.mem_of_mem_take hz))
      rw [List.length_map, List.length_take] at hB
      have hB2 : min j ps.length * 4096 ≤ 1000 * 4096 := Nat.mul_le_mul_right _ (by omega)
      have hxs := hsz x hxm
      refine Ev.step (fun k => by rw [R15Key.l2]) ?_
      rw [g2, wsucc (by omega), e]
      exact Ev.pos (by omega) (Ev.pos (by omega) (Ev.pos (by rw [mkB_size]; omega) hi2))
theorem runesN_len (s : ByteArray) : ∀ (n p : Nat) (l : List Int), runesN s n p = some l → l.length ≤ n
  | 0, p, l, h => by simp [runesN] at h; subst h; simp
  | n + 1, p, l, h => by
    rw [runesN] at h
    split at h
    · split at h
      · cases h
      · obtain ⟨l', hl', rfl⟩ := Option.map_eq_some_iff.1 h
        have := runesN_len s n _ l' hl'
        rw [List.length_cons]; omega
    · simp at h; subst h; simp
theorem readyB_len (s : ByteArray) (h : s.size ≤ 255) : (readyB s).size ≤ 1020 := by
  unfold readyB
  cases hr : readyOf true s with
  | none => show (mkB []).size ≤ 1020; rw [mkB_size]; simp
  | some t =>
    show (mkB t).size ≤ 1020
    rw [mkB_size]
    unfold readyOf at hr
    obtain ⟨l, hl, rfl⟩ := Option.map_eq_some_iff.1 hr
    have h1 := runesN_len s _ _ l hl
    have h2 := encAll_length (sq (l.filterMap (mapRune true)) false)
    have h3 := sq_len (l.filterMap (mapRune true)) false
    have h4 := List.length_filterMap_le (mapRune true) l
    omega
theorem tup2_len {a : AvaS} (h1 : a.f0.size ≤ 32) (h2 : a.f1.size ≤ 255) : (tupOf [a.f0, readyB a.f1]).length ≤ 4096 := by
  have h3 := readyB_len a.f1 h2
  have k1 := swapZ_len 0 [0, 255] 2 (by omega) (by simp) a.f0.data.toList
  have k2 := swapZ_len 0 [0, 255] 2 (by omega) (by simp) (readyB a.f1).data.toList
  have l1 : a.f0.data.toList.length = a.f0.size := bl_length a.f0
  have l2 : (readyB a.f1).data.toList.length = (readyB a.f1).size := bl_length (readyB a.f1)
  unfold tupOf
  simp only [List.flatMap_cons, List.flatMap_nil, List.length_append, List.length_nil, part1, List.length_cons]
  omega
theorem tupV_is {a : AvaS} (h1 : a.f0.size ≤ 32) (h2 : a.f1.size ≤ 255) : tupV a = ⟨(tupOf [a.f0, readyB a.f1]).toArray⟩ := by
  have h3 := readyB_len a.f1 h2
  have h4 := tup2_len h1 h2
  unfold tupV tupB
  rw [if_neg (by simp), if_neg (by simp; omega), if_neg (by omega)]
theorem refready_ev' (s : ByteArray) (hs : s.size ≤ 100000) : ∃ e, Ev (fun k => R13Ready.f k s true) (readyB s, e) := by
  have h := refready_ev s hs true
  unfold readyB
  cases hr : readyOf true s with
  | none => rw [hr] at h; exact ⟨_, h⟩
  | some t => rw [hr] at h; exact ⟨_, h⟩
theorem tupV_len (a : AvaS) : (tupV a).size ≤ 4096 := tupB_len _
theorem refkey_loop (l : List AvaS) (hl : l.length ≤ 1000) (hs : ∀ a ∈ l, a.f0.size ≤ 32 ∧ a.f1.size ≤ 255) : ∀ (m i : Nat) (ps : List ByteArray), l.length - i = m → i ≤ l.length → Srt ps → ps.Perm ((l.take i).map tupV) → Ev (fun k => R15Key.l0 k l ps (i : Int)) (keyOf l, 0) := by
  intro m
  induction m with
  | zero =>
    intro i ps hm hi hS hp
    rw [List.take_of_length_le (by omega)] at hp
    have e := sorted_is hS hp
    have hlen : ps.length ≤ 1000 := by rw [hp.length_eq, List.length_map]; exact hl
    have hsz : ∀ x ∈ ps, x.size ≤ 4096 := fun x hx => by
      obtain ⟨a, _, rfl⟩ := List.mem_map.1 (hp.mem_iff.1 hx)
      exact tupV_len a
    have := key_cat ps hlen hsz _ 0 rfl (Nat.zero_le _)
    refine Ev.step (fun k => by rw [R15Key.l0]) ?_
    refine Ev.neg (by omega) ?_
    have e2 : keyOf l = mkB (ps.map bl).flatten := by rw [e]; rfl
    rw [e2]
    exact this
  | succ m ih =>
    intro i ps hm hi hS hp
    cases hr : l.drop i with
    | nil => have := List.drop_eq_nil_iff.1 hr; omega
    | cons a r =>
      have g1 := (getD_at (d := a) hr).1
      have g2 := rdA_at hr
      have ha := hs a (List.mem_of_mem_drop (show a ∈ l.drop i by rw [hr]; simp))
      obtain ⟨e, he⟩ := refready_ev' a.f1 (by omega)
      have hT := refTup_ev [a.f0, readyB a.f1] (by simp) (tup2_len ha.1 ha.2)
      rw [← tupV_is ha.1 ha.2] at hT
      have hlen : ps.length ≤ 1000 := by rw [hp.length_eq, List.length_map, List.length_take]; omega
      have hsz : ∀ x ∈ ps, x.size ≤ 4096 := fun x hx => by
        obtain ⟨a, _, rfl⟩ := List.mem_map.1 (hp.mem_iff.1 hx)
        exact tupV_len a
      refine Ev.step (fun k => by rw [R15Key.l0]) ?_
      rw [g2]
      refine Ev.pos (by omega) (Ev.pos (by omega) (Ev.bind he ?_))
      refine Ev.bind hT ?_
      exact key_ins l hl i ps hlen hsz (tupV a) (tupV_len a) hS (by omega) (fun ps' hS' hp' => ih (i + 1) ps' (by omega) (by omega) hS' (by
        rw [take_next hr, List.map_append]
        exact hp'.trans (hp.append_right _))) _ 0 rfl (Nat.zero_le _) (by simp)
def keyR (l : List AvaS) : ByteArray × Int := if rdnOk l = true then (keyOf l, 0) else (⟨#[]⟩, 4)
theorem rdnIn_small : ∀ (l pre : List AvaS), rdnIn pre l = true → ∀ a ∈ l, a.f0.size ≤ 32 ∧ a.f1.size ≤ 255
  | [], _, _, a, ha => by simp at ha
  | x :: l, pre, h, a, ha => by
    rw [rdnIn] at h
    simp only [Bool.and_eq_true] at h
    rcases List.mem_cons.1 ha with rfl | ha
    · refine ⟨?_, ?_⟩
      · have h1 := h.1.1.1
        rw [← bl_length]
        unfold typeOk at h1
        cases hc : bl a.f0 with
        | nil => simp
        | cons c t =>
          rw [hc] at h1
          simp only [Bool.and_eq_true] at h1
          exact of_decide_eq_true h1.2
      · have h2 := h.1.1.2
        unfold valueOk at h2
        cases hr : readyOf true a.f1 with
        | none => rw [hr] at h2; cases h2
        | some t =>
          rw [hr] at h2
          simp only [Bool.and_eq_true, decide_eq_true_eq] at h2
          exact h2.1
    · exact rdnIn_small l _ h.2 a ha
theorem rdnOk_small {l : List AvaS} (h : rdnOk l = true) : l.length ≤ 4 ∧ ∀ a ∈ l, a.f0.size ≤ 32 ∧ a.f1.size ≤ 255 := by
  unfold rdnOk at h
  rw [Bool.and_eq_true] at h
  exact ⟨(of_decide_eq_true h.1).2, rdnIn_small l [] h.2⟩
theorem refKey_ev (l : List AvaS) (hl : l.length ≤ 1000000) (hs : ∀ a ∈ l, szA a) : Ev (fun k => R15Key.f k l) (keyR l) := by
  unfold R15Key.f keyR
  refine Ev.bind (refRdn_ev l hl hs) ?_
  cases h : rdnOk l with
  | true =>
    rw [if_pos rfl]
    obtain ⟨h1, h2⟩ := rdnOk_small h
    exact Ev.pos rfl (refkey_loop l (by omega) h2 _ 0 [] rfl (Nat.zero_le _) (by unfold Srt; simp) (by simp))
  | false => exact Ev.neg (by simp) (by simpa using Ev.rfl')
theorem dnKey_ev (l : List AvaS) (hs : ∀ a ∈ l, szA a) : Ev (fun k => dn_Key.f k l) (keyR l) := by
  unfold dn_Key.f keyR
  refine Ev.bind (rightRdn_ev l hs) ?_
  cases h : rdnOk l with
  | true =>
    rw [if_pos rfl]
    have h1 := (rdnOk_small h).1
    exact Ev.pos rfl (Ev.bind (key_ev l (by omega) hs) Ev.rfl')
  | false => exact Ev.neg (by simp) (by simpa using Ev.rfl')
theorem nameOk_rdn {n : List (List AvaS)} (h : nameOk n = true) : ∀ l ∈ n, rdnOk l = true := by
  unfold nameOk at h
  rw [Bool.and_eq_true] at h
  exact fun l hl => List.all_eq_true.1 h.2 l hl
theorem refkeys_loop (n : List (List AvaS)) (hn : n.length ≤ 1000) (hok : ∀ l ∈ n, rdnOk l = true) (hs : ∀ l ∈ n, l.length ≤ 1000000 ∧ ∀ a ∈ l, szA a) : ∀ (m i : Nat), n.length - i = m → i ≤ n.length →
    Ev (fun k => R15Keys.l0 k n ((n.reverse.take i).map keyOf) (((n.length : Nat) : Int) - 1 - (i : Int))) (keysOf n, 0) := by
  intro m
  induction m with
  | zero =>
    intro i hm hi
    rw [List.take_of_length_le (by rw [List.length_reverse]; omega)]
    refine Ev.step (fun k => by rw [R15Keys.l0]) ?_
    exact Ev.neg (by omega) Ev.rfl'
  | succ m ih =>
    intro i hm hi
    have hi2 := ih (i + 1) (by omega) (by omega)
    have hj : n.length - 1 - i < n.length := by omega
    have hr : n.reverse.drop i = n[n.length - 1 - i] :: n.reverse.drop (i + 1) := by
      rw [List.drop_eq_getElem_cons (by rw [List.length_reverse]; omega), List.getElem_reverse]
    rw [take_next hr, List.map_append] at hi2
    have hmem : n[n.length - 1 - i] ∈ n := List.getElem_mem _
    obtain ⟨z1, z2⟩ := hs _ hmem
    have hk := refKey_ev _ z1 z2
    unfold keyR at hk
    rw [if_pos (hok _ hmem)] at hk
    have e1 : ((n.length : Nat) : Int) - 1 - (i : Int) = ((n.length - 1 - i : Nat) : Int) := by omega
    have e2 : wrap64 (((n.length - 1 - i : Nat) : Int) - 1) = ((n.length : Nat) : Int) - 1 - ((i + 1 : Nat) : Int) := by unfold wrap64; omega
    have hg : rd_L8 n ((n.length - 1 - i : Nat) : Int) = n[n.length - 1 - i] := rdR_get hj
    refine Ev.step (fun k => by rw [R15Keys.l0]) ?_
    rw [e1, e2, hg]
    refine Ev.pos (by omega) (Ev.pos (by omega) (Ev.pos (by omega) (Ev.bind hk ?_)))
    exact Ev.pos (by rw [List.length_map, List.length_take]; omega) hi2
theorem refKeys_ev (n : List (List AvaS)) (hl : n.length ≤ 1000000) (h : szN n) : Ev (fun k => R15Keys.f k n) (if nameOk n = true then (keysOf n, 0) else ([], 4)) := by
  unfold R15Keys.f
  refine Ev.bind (refRight_ev n hl h) ?_
  cases hn : nameOk n with
  | false => exact Ev.neg (by simp) (by simpa using Ev.rfl')
  | true =>
    rw [if_pos rfl]
    have h12 := (nameOk_sz hn).1
    have := refkeys_loop n (by omega) (nameOk_rdn hn) h _ 0 rfl (Nat.zero_le _)
    refine Ev.pos rfl ?_
    rw [show wrap64 ((n.length : Int) - 1) = ((n.length : Nat) : Int) - 1 - ((0 : Nat) : Int) by unfold wrap64; omega]
    exact this
theorem refsame_loop (L M : List ByteArray) (hL : L.length ≤ 1000000) (hM : M.length = L.length) : ∀ (m i : Nat), L.length - i = m → i ≤ L.length → Ev (fun k => R01Same.l0 k L M (i : Int)) (decide (L.drop i = M.drop i)) := by
  intro m
  induction m with
  | zero =>
    intro i hm hi
    rw [List.drop_eq_nil_of_le (by omega), List.drop_eq_nil_of_le (show M.length ≤ i by omega)]
    show Ev _ true
    exact Ev.step (fun k => by rw [R01Same.l0]) (Ev.neg (by omega) Ev.rfl')
  | succ m ih =>
    intro i hm hi
    cases hr : L.drop i with
    | nil => have := List.drop_eq_nil_iff.1 hr; omega
    | cons x r =>
      cases hq : M.drop i with
      | nil => have := List.drop_eq_nil_iff.1 hq; omega
      | cons y q =>
        obtain ⟨g1, _, g3⟩ := getD_at (d := x) hr
        obtain ⟨k1, _, k3⟩ := getD_at (d := x) hq
        have hi2 := ih (i + 1) (by omega) (by omega)
        rw [g3, k3] at hi2
        refine Ev.step (fun k => by rw [R01Same.l0]) ?_
        rw [rdB_at hr, rdB_at hq, wsucc (by omega)]
        refine Ev.pos (by omega) (Ev.pos (by omega) (Ev.pos (by omega) ?_))
        by_cases e : x = y
        · subst e
          refine Ev.pos rfl ?_
          rw [show decide (x :: r = x :: q) = decide (r = q) by simp]
          exact hi2
        · rw [show decide (x :: r = y :: q) = false by simp [e]]
          exact Ev.neg (fun h => e (ba_list.1 h)) Ev.rfl'
theorem refSame_ev (L M : List ByteArray) (hL : L.length ≤ 1000000) : Ev (fun k => R01Same.f k L M) (decide (L = M)) := by
  unfold R01Same.f
  by_cases h : L.length = M.length
  · refine Ev.pos (by omega) ?_
    have := refsame_loop L M hL h.symm _ 0 rfl (Nat.zero_le _)
    rw [List.drop_zero, List.drop_zero] at this; exact this
  · rw [show decide (L = M) = false from decide_eq_false fun e => h (by rw [e])]
    exact Ev.neg (by omega) Ev.rfl'
theorem refUnder_ev (n m : List (List AvaS)) (hn : n.length ≤ 1000000) (hm : m.length ≤ 1000000) (zn : szN n) (zm : szN m) : Ev (fun k => R15Under.f k n m) (underB n m) := by
  unfold R15Under.f underB
  refine Ev.bind (refKeys_ev n hn zn) (Ev.bind (refKeys_ev m hm zm) ?_)
  cases h1 : nameOk n with
  | false => exact Ev.neg (show ¬ ((4 : Int) = 0) by decide) (by simpa using Ev.rfl')
  | true =>
    refine Ev.pos rfl ?_
    cases h2 : nameOk m with
    | false => exact Ev.neg (show ¬ ((4 : Int) = 0) by decide) (by simpa using Ev.rfl')
    | true =>
      refine Ev.pos rfl ?_
      simp only [if_true, keysOf_len, Bool.and_self, Bool.true_and]
      by_cases h3 : m.length ≤ n.length
      · rw [decide_eq_true h3, Bool.true_and]
        refine Ev.pos (by omega) (Ev.pos (by omega) ?_)
        rw [Int.toNat_natCast]
        exact Ev.bind (refSame_ev _ _ (by rw [List.length_take]; omega)) Ev.rfl'
      · rw [decide_eq_false h3, Bool.false_and]
        exact Ev.neg (by omega) Ev.rfl'
theorem dnkeys_l0 (n : List (List AvaS)) (hn : n.length ≤ 1000000) (h : szN n) : ∀ (m i : Nat), n.length - i = m → i ≤ n.length → Ev (fun k => L15DnKeys.l0 k n (i : Int)) true := by
  intro m
  induction m with
  | zero =>
    intro i hm hi
    exact Ev.step (fun k => by rw [L15DnKeys.l0]) (Ev.neg (by omega) Ev.rfl')
  | succ m ih =>
    intro i hm hi
    cases hr : n.drop i with
    | nil => have := List.drop_eq_nil_iff.1 hr; omega
    | cons l r =>
      obtain ⟨z1, z2⟩ := h l (List.mem_of_mem_drop (show l ∈ n.drop i by rw [hr]; simp))
      have g2 := rdR_at hr
      refine Ev.step (fun k => by rw [L15DnKeys.l0]) ?_
      rw [g2, wsucc (by omega)]
      exact Ev.pos (by omega) (Ev.pos (by omega) (Ev.bind (dnKey_ev l z2) (Ev.bind (refKey_ev l z1 z2) (Ev.pos rfl (Ev.pos rfl (ih (i + 1) (by omega) (by omega)))))))
theorem sz_of {n : List (List AvaS)} (h : okLs n n) : n.length ≤ 1000000 ∧ szN n := by
  have := sz_short (short_of h)
  rw [mk_of n] at this
  exact ⟨this.1, this.2.1⟩
theorem DnKeys_main (n b : List (List AvaS)) : ∃ k, L15DnKeys.f k n b = some true := by
  refine Ev.some' ?_
  unfold L15DnKeys.f
  refine Ev.bind awake15_ev (Ev.pos rfl ?_)
  obtain ⟨c, hc, hc2⟩ := long_ev n
  obtain ⟨d, hd, hd2⟩ := long_ev b
  refine Ev.bind hc ?_
  cases c with
  | true => exact Ev.pos rfl (Ev.step (fun k => by rw [L15DnKeys.j0]) (Ev.pos rfl Ev.rfl'))
  | false =>
    refine Ev.neg (by simp) (Ev.bind hd ?_)
    refine Ev.step (fun k => by rw [L15DnKeys.j0]) ?_
    cases d with
    | true => exact Ev.pos rfl Ev.rfl'
    | false =>
      refine Ev.neg (by simp) ?_
      obtain ⟨z1, z2⟩ := sz_of (hc2 rfl)
      obtain ⟨y1, y2⟩ := sz_of (hd2 rfl)
      have hlen : (if nameOk n = true then (keysOf n, (0 : Int)) else ([], 4)).1.length ≤ 1000000 := by
        split
        · rw [keysOf_len]; exact z1
        · simp
      refine Ev.bind (keys_ev n z1 z2) (Ev.bind (refKeys_ev n z1 z2) (Ev.pos rfl ?_))
      refine Ev.bind (refSame_ev _ _ hlen) ?_
      refine Ev.pos (by simp) (Ev.bind (under_ev n b z1 y1 z2 y2) (Ev.bind (refUnder_ev n b z1 y1 z2 y2) ?_))
      rw [show (underB n b != underB n b) = false by simp]
      refine Ev.step (fun k => by rw [L15DnKeys.j1]) ?_
      refine Ev.neg (by simp) (Ev.bind (same_ev n b z1 y1 z2 y2) ?_)
      have hend : Ev (fun k => L15DnKeys.j2 k n false) true := by
        refine Ev.step (fun k => by rw [L15DnKeys.j2]) ?_
        exact Ev.neg (by simp) (dnkeys_l0 n z1 z2 _ 0 rfl (Nat.zero_le _))
      by_cases he : n.length = b.length
      · refine Ev.pos (by omega) (Ev.bind (refUnder_ev n b z1 y1 z2 y2) ?_)
        rw [decide_eq_true he, Bool.true_and, show (underB n b != underB n b) = false by simp]
        exact hend
      · refine Ev.neg (by omega) ?_
        rw [decide_eq_false he, Bool.false_and, show (false != false) = false from rfl]
        exact hend
end Go.Proofs.YtkklacijhmoopaaGreatDoor.Print
namespace Go
variable {H : Type} {enc : TypeId × Value → H}
theorem handed_laid {a : Assume} {C : Checked} {os : Os} {f : FuncId} {fn : Func} {s : ChangeSpec} {conds : List PathCond} {apart fresh handsOn again : Bool} {X : World → Array Value → Prop}
    (hX : ∀ (w w' : World) (args : Array Value), w.heap = w'.heap → X w args → X w' args)
    (own : ownKnob C.prog.godebug = none) (started : os.Started) (noInit : C.prog.inits.idxOf? f = none) (hfn : C.prog.funcs[f]? = some fn)
    (witness : ∃ (w : World) (tape : Tape) (i : Input), w.os = os ∧ (w.forCall tape i).Shaped C.prog ∧ i.vars = [] ∧ Input.okWide C.prog (w.forCall tape i) .any w.heap.size f i ∧
      ((s.pre enc C.prog fn conds apart (w.forCall tape i).memory i.args ∧ X (w.forCall tape i).memory i.args) ∧ sizedMet enc C.prog fn (OpenSpec.ofChange s) apart (w.forCall tape i).memory i.args) ∧ a.holds C.prog (lone (Frame.enter C.prog f i.args .normal) [] (w.forCall tape i)))
    (contract : ∀ (W : World) (base : Nat) (args : Array Value) (ds gs : List (DataW H)) (before : List MemPlace),
      (∀ (j : Nat) t v, fn.params[j]? = some t → args[j]? = some v → Value.okWide C.prog W .any base t v) →
      DataW.Whole enc C.prog fn.params.toList s.vars apart W args.toList ds gs before →
      conds.all (PathCond.test C.prog ⟨fn.params.toList, ds, s.plain.varTypes C.prog, gs⟩) = true →
      (DataW.weightsEach C.prog (fn.params.toList ++ s.plain.varTypes C.prog) (ds ++ gs)).all (· ≤ reachBytes) = true → X W args →
      W.ShapedOpen C.prog →
      a.holds C.prog (lone (Frame.enter C.prog f args .normal) [] W) →
      Calls C.prog f args W fun e W' => ∃ v, e = .returned v ∧ s.post enc C.prog fn apart fresh handsOn again W args v W') :
    ReturnsInHanded a C os f .any (fun w args => (s.pre enc C.prog fn conds apart w args ∧ X w args) ∧ sizedMet enc C.prog fn (OpenSpec.ofChange s) apart w args) (s.post enc C.prog fn apart fresh handsOn again) := by
  refine returnsInHanded_of_calls own started noInit witness ?_
  intro w tape i _ hsh _ hok hpre hholds
  obtain ⟨_, _, _, fn', hfn', _, _, _, _, hval⟩ := hok
  have e : fn' = fn := Option.some.inj (hfn'.symm.trans hfn)
  subst e
  obtain ⟨⟨⟨ds, gs, before, hw, hc⟩, hx⟩, hz⟩ := hpre
  have hw' := DataW.Whole.of_heap (w' := w.forCall tape i) (by rfl) hw
  refine (contract (w.forCall tape i) w.heap.size i.args ds gs before hval hw' hc (hz.weights hw) (hX _ _ _ (by rfl) hx) hsh hholds).mono fun e W' ⟨v, he, hp⟩ => ?_
  subst he
  exact ChangeSpec.post_blind hp
end Go
namespace Go.Proofs.YtkklacijhmoopaaGreatDoor
open Go.ChangeShapes Go.WideShapes Go.ChangeAt Go.RowKit
open Go.ChangeMaps (open_string shut_string)
set_option maxRecDepth 100000
theorem own : ownKnob Tryz.prog.godebug = none := by kernel_rfl
def laid2 : List (String × DataW Unit) := [("unicode/utf8.acceptRanges", Rows.laid_unicode_utf8_acceptRanges), ("unicode/utf8.first", Rows.laid_unicode_utf8_first)]
theorem first_is : (Rows.laid_unicode_utf8_first : DataW Unit) = Lib.firstData := by kernel_rfl
theorem accept_is : (Rows.laid_unicode_utf8_acceptRanges : DataW Unit) = Lib.acceptData := by kernel_rfl
def ren : Go.Shelf.Ren := ⟨fun n => n, fun | 5 => 5 | 119 => 124 | 138 => 126 | 139 => 127 | n => n, fun | 3 => 1 | 4 => 2 | n => n⟩
theorem u8types : U8Types Tryz.prog ren := { t5 := Tryz.underlying5, t119 := Tryz.underlying124, t138 := Tryz.underlying126, t139 := Tryz.underlying127 }
theorem u8extra : U8Extra Tryz.prog ren := { n3 := by kernel_rfl, n4 := by kernel_rfl, y3 := by kernel_rfl, y4 := by kernel_rfl, c5 := by kernel_rfl, c119 := by kernel_rfl, c138 := by kernel_rfl }
theorem gw_of {W : World} (hsh : W.ShapedOpen Tryz.prog) (hL : laidMetH Tryz.prog laid2 W) : Print.Gw W := by
  rw [MakeChecks.laidMetH_plain _ _ _ (by kernel_rfl)] at hL
  refine ⟨cell_of_shapedOpen_int (zero := #[.int .i64 0]) (t := 3) hsh (of_decide_eq_true (by kernel_rfl)) (by kernel_rfl) rfl (by kernel_rfl) (by kernel_rfl) Tryz.underlying3, ?_⟩
  refine utf8Tabs_of_readsT u8types u8extra ?_ ?_
  · rw [← first_is]; exact Lib.laidMet.reads hL (by simp [laid2])
  · rw [← accept_is]; exact Lib.laidMet.reads hL (by simp [laid2])
end Go.Proofs.YtkklacijhmoopaaGreatDoor
namespace Go.Proofs.YtkklacijhmoopaaGreatDoor.Opens
open Go.RowKit Go.Proofs.YtkklacijhmoopaaGreatDoorW.PrintWords
set_option linter.unusedVariables false
def Opens (P : Program) {α : Type} (t : TypeId) (d : Kd α) : Prop :=
  ∀ {H : Type} (enc : TypeId × Value → H) (w : World) (base : Nat) (spare : Nat → Bool) (held : Bool) (fuel : Nat) (cs : List Value) (x : DataW H × List MemPlace), DataW.trod enc P w base spare held fuel t cs = some x → ∃ a, d.K w a cs
theorem opens_string {P : Program} {t : TypeId} (h : P.underlying t = some .string) : Opens P t Kd.string := by
  intro H enc w base spare held fuel cs x hx
  obtain ⟨s, rfl, _⟩ := DataW.trod_string h hx
  exact ⟨s, rfl⟩
theorem opens_iso {P : Program} {α β : Type} {t : TypeId} {d : Kd α} (f : β → α) (g : α → β) (hg : ∀ a, f (g a) = a) (h : Opens P t d) : Opens P t (Kd.iso d f) := by
  intro H enc w base spare held fuel cs x hx
  obtain ⟨a, ha⟩ := h enc w base spare held fuel cs x hx
  exact ⟨g a, by show d.K w (f (g a)) cs; rw [hg]; exact ha⟩
theorem opens_two {P : Program} {α β : Type} {t : TypeId} {f0 f1 : Field} {d0 : Kd α} {d1 : Kd β} (h : P.underlying t = some (.struct #[f0, f1])) (o0 : f0.offset = 0) (o1 : f1.offset = P.cellsOf f0.type) (hc : P.cellsOf t = P.cellsOf f0.type + P.cellsOf f1.type)
    (h0 : Opens P f0.type d0) (h1 : Opens P f1.type d1) : Opens P t (Kd.pair d0 d1) := by
  intro H enc w base spare held fuel cs x hx
  obtain ⟨xs, n, _, _, hl, hn, hf⟩ := DataW.trod_struct h hx
  have k0 := hf 0 f0 rfl
  have k1 := hf 1 f1 rfl
  have hn2 : xs.length = 2 := hn
  rw [List.getElem?_eq_getElem (by omega)] at k0 k1
  rw [o0, List.drop_zero] at k0
  rw [o1] at k1
  obtain ⟨a, ha⟩ := h0 enc w base spare held n _ _ k0
  obtain ⟨b, hb⟩ := h1 enc w base spare held n _ _ k1
  refine ⟨(a, b), _, _, ?_, ha, hb⟩
  conv => lhs; rw [← List.take_append_drop (P.cellsOf f0.type) cs]
  congr 1
  rw [List.take_of_length_le]
  rw [List.length_drop]; omega
theorem cells_at {w : World} {base : Nat} {a : Addr} {n : Nat} {cs : List Value} (h : w.cells? base a n = some cs) : cs.length = n ∧ ∀ i u, cs[i]? = some u → w.cell? (a.add i) = some u := by
  obtain ⟨_, hl, hc⟩ := World.cells?_some h
  exact ⟨hl, fun i u hu => by rw [hc i (by rw [← hl]; exact (List.getElem?_eq_some_iff.1 hu).1)]; exact hu⟩
theorem choose_list {α : Type} {p : Nat → α → Prop} : ∀ n : Nat, (∀ i, i < n → ∃ a, p i a) → ∃ l : List α, l.length = n ∧ ∀ i a, l[i]? = some a → p i a
  | 0, _ => ⟨[], rfl, fun i a h => by simp at h⟩
  | n + 1, h => by
    obtain ⟨l, hl, hp⟩ := choose_list n fun i hi => h i (by omega)
    obtain ⟨a, ha⟩ := h n (by omega)
    refine ⟨l ++ [a], by simp [hl], fun i b hb => ?_⟩
    by_cases hi : i < l.length
    · rw [List.getElem?_append_left hi] at hb; exact hp i b hb
    · rw [List.getElem?_append_right (by omega)] at hb
      have : i = n := by
        have := (List.getElem?_eq_some_iff.1 hb).1
        simp at this; omega
      subst this
      rw [hl, Nat.sub_self] at hb
      simp at hb; subst hb; exact ha
theorem opens_slice {P : Program} {α : Type} {t e : TypeId} {d : Kd α} (h : P.underlying t = some (.slice e)) (hc : P.cellsOf e = d.sz) (hd : Opens P e d) : Opens P t (Kd.slice e d) := by
  intro H enc w base spare held fuel cs x hx
  rcases DataW.trod_slice h hx with ⟨rfl, _⟩ | ⟨a, len, cap, elems, rest, n, _, rfl, _, _, hl, hm, hlen, hel, _, _⟩
  · exact ⟨[], none, 0, rfl, Nat.le_refl _, rfl, by simp, fun h => absurd h (by simp)⟩
  · obtain ⟨xs, hxl, hxs⟩ := choose_list (p := fun i y => ∃ c, c.length = d.sz ∧ d.K w y c ∧ ∀ j u, c[j]? = some u → w.cell? (a.add (i * d.sz + j)) = some u) len (fun i hi => by
      have := hel i hi
      rw [List.getElem?_eq_getElem (by omega)] at this
      obtain ⟨c, h1, h2⟩ := Option.bind_eq_some_iff.1 this
      obtain ⟨y, hy⟩ := hd enc w base spare held n _ _ h2
      obtain ⟨hcl, hcc⟩ := cells_at h1
      refine ⟨y, c, by omega, hy, fun j u hj => ?_⟩
      have := hcc j u hj
      rw [← this, hc, ← Go.Deep.add_add])
    refine ⟨xs, some a, cap, by rw [hxl], by omega, rfl, by have : maxLen = 9223372036854775807 := rfl; omega, fun _ => ⟨a, rfl, hxs⟩⟩
end Go.Proofs.YtkklacijhmoopaaGreatDoor.Opens
