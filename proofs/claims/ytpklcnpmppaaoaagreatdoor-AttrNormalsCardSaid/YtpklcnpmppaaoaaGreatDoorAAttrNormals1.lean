-- laid together by pack.py (a program of this session)
import Derived.Test.YtpklcnpmppaaoaaGreatDoorAAttrNormals0
import Derived.Test.YtpklcnpmppaaoaaGreatDoorProg
import Derived.Shelf.Unicode.DecodeSlow
import Derived.Shelf.Strings.Builder1
import Derived.Shelf.Strings.Builder2
import Derived.Shelf.Strings.OnBuilder
import Derived.Shelf.Small.Utf8
import Derived.Shelf.Small.Bits
import Derived.Shelf.Small.Strs
import Derived.Shelf.Strings.BuilderF
import Derived.Shelf.Strings.BuilderK
import Derived.Shelf.Strings.BuilderRune
import Derived.Shelf.Strings.Builder2Cap
import Derived.Shelf.Strconv.Atoi
import Derived.Shelf.Strconv.Itoa0
import Derived.Shelf.Strconv.AtoiErrFast
import Derived.Shelf.Strconv.ParseIntEmpty
import Derived.Shelf.Strconv.AtoiFail
import Derived.Shelf.LaysM
import Derived.Shelf.Strconv.Clone
import Derived.Shelf.Strconv.SyntaxError
import Derived.Shelf.LaysC
import Derived.Shelf.Strconv.ToError
import Derived.Shelf.Strconv.Lower
import Derived.Shelf.Strconv.ParseUint10
import Derived.Shelf.Strconv.ParseUint10Empty
import Derived.Shelf.Strconv.ParseUint10Any
import Derived.Shelf.Strconv.RangeError
import Derived.Shelf.Strconv.ToErrorRange
import Derived.Shelf.Strings.Search1
import Derived.Shelf.Strings.Search2
import Derived.Shelf.Strings.Search3
import Derived.Shelf.Strings.Cut
import Derived.Shelf.Strings.Count
import Derived.Shelf.Strings.Shaped
import Derived.Shelf.Sort.Plain
import Derived.Shelf.Strings.Split
import Derived.Shelf.Strings.Replace
import Derived.Shelf.Strings.SplitShaped
import Derived.Shelf.Unicode.DecodeAny
import Derived.Shelf.Strings.MapAny
import Derived.Shelf.Strings.BuilderCap
import Derived.Shelf.Strings.MapGrows
import Derived.Shelf.Slices.In.SortNone
import Derived.StillTailTactics
import Derived.Lib.OthersKept
import Derived.Lib.RuneCount
import Derived.Lib.DecodeN
import Derived.Lib.Strings
import Derived.WalkSmall
import Derived.Laws.RangeAny
import Derived.Lib.RuneBytes
import Derived.Lib.FrozenHead2
import Derived.Lib.UnsafeStr
import Derived.BigCall
import Derived.Lib.SplitLaws
import Derived.Lib.IndexBytes
import Derived.Sort.OwnSorted
import Derived.Shelf.Strconv.ParseInt10
import Derived.Shelf.Strconv.AtoiLong
import Derived.Shelf.Strconv.AtoiInnerAll
import Derived.Shelf.Strconv.AtoiAll
import Derived.Shelf.Abstract
import Derived.Laws.Append
import Derived.Test.YtpklcnpmppaaoaaGreatDoorTie
import Derived.Test.YtpklcnpmppaaoaaGreatDoorCards
import Derived.Lib.LaidU8T
import Derived.HandedShaped
import Derived.Handed
import Derived.Lay
import Derived.LaidMore
import Derived.Shelf.Vars
import Derived.ProofKit
import Derived.OpenShut
import Derived.ShutString
import Derived.ChangeOld
import Derived.Stop.Joined
import Derived.SevenTiedAt
import Derived.Deep.Slices
import Derived.Lib.SmallJoins
namespace Go.Proofs.YtpklcnpmppaaoaaGreatDoor.Print
def Ev {α : Type} (F : Nat → Option α) (v : α) : Prop := ∃ K, ∀ k, K ≤ k → F k = some v
namespace Ev
variable {α β γ : Type}
theorem const {F : Nat → Option α} {v : α} (h : ∀ k, F k = some v) : Ev F v := ⟨0, fun k _ => h k⟩
theorem step {F G : Nat → Option α} {v : α} (h : ∀ k, F (k + 1) = G k) (hG : Ev G v) : Ev F v := by
 obtain ⟨K, hK⟩ := hG; refine ⟨K + 1, fun k hk => ?_⟩; obtain ⟨k', rfl⟩ : ∃ k', k = k' + 1 := ⟨k - 1, by omega⟩; rw [h]; exact hK k' (by omega)
theorem congr {F G : Nat → Option α} {v : α} (h : ∀ k, F k = G k) (hG : Ev G v) : Ev F v := by
 obtain ⟨K, hK⟩ := hG; exact ⟨K, fun k hk => by rw [h]; exact hK k hk⟩
theorem bind {F : Nat → Option α} {G : Nat → α → Option β} {u : α} {v : β} (hF : Ev F u) (hG : Ev (fun k => G k u) v) : Ev (fun k => (F k).bind (G k)) v := by
 obtain ⟨K, hK⟩ := hF; obtain ⟨L, hL⟩ := hG; refine ⟨K + L, fun k hk => ?_⟩; show (F k).bind (G k) = some v; rw [hK k (by omega)]; exact hL k (by omega)
theorem bindc {o : Option α} {G : Nat → α → Option β} {u : α} {v : β} (hF : o = some u) (hG : Ev (fun k => G k u) v) : Ev (fun k => o.bind (G k)) v := by
 subst hF; exact hG
theorem pos {p : Prop} [Decidable p] {F G : Nat → Option α} {v : α} (hp : p) (h : Ev F v) : Ev (fun k => if p then F k else G k) v := congr (fun k => if_pos hp) h
theorem neg {p : Prop} [Decidable p] {F G : Nat → Option α} {v : α} (hp : ¬ p) (h : Ev G v) : Ev (fun k => if p then F k else G k) v := congr (fun k => if_neg hp) h
theorem some' {F : Nat → Option α} {v : α} (h : Ev F v) : ∃ k, F k = some v := by
 obtain ⟨K, hK⟩ := h; exact ⟨K, hK K (Nat.le_refl _)⟩
theorem rfl' {v : α} : Ev (fun _ => some v) v := const fun _ => rfl
end Ev
end Go.Proofs.YtpklcnpmppaaoaaGreatDoor.Print
namespace Go.Proofs.YtpklcnpmppaaoaaGreatDoor.Pure
abbrev Sg := UInt8 × Bool
def special (c : UInt8) : Bool := c == 34 || c == 43 || c == 44 || c == 59 || c == 60 || c == 61 || c == 62 || c == 92
def isEsc (c : UInt8) : Bool := special c || c == 35 || c == 32
def hexv (c : UInt8) : Option Nat :=
 if 48 ≤ c.toNat ∧ c.toNat ≤ 57 then some (c.toNat - 48) else if 97 ≤ c.toNat ∧ c.toNat ≤ 102 then some (c.toNat - 87) else if 65 ≤ c.toNat ∧ c.toNat ≤ 70 then some (c.toNat - 55) else none
def hex2 (a b : UInt8) : Option UInt8 := (hexv a).bind fun x => (hexv b).map fun y => (16 * x + y).toUInt8
def esc : List UInt8 → Option (UInt8 × List UInt8)
 | [] => none
 | a :: r => if isEsc a then some (a, r) else match r with
  | [] => none
  | b :: r' => (hex2 a b).map fun x => (x, r')
theorem esc_lt {r r' : List UInt8} {x : UInt8} (h : esc r = some (x, r')) : r'.length < r.length := by
 cases r with
 | nil => simp [esc] at h
 | cons a r =>
  simp only [esc] at h; split at h
  ·simp at h; simp [← h.2]
  ·cases r with
   | nil => simp at h
   | cons b r2 =>
    simp only [Option.map_eq_some_iff] at h; obtain ⟨_, _, h⟩ := h; simp at h; simp [← h.2]; omega
def signsN : Nat → List UInt8 → Option (List Sg)
 | 0, _ => none
 | _ + 1, [] => some []
 | n + 1, c :: r => if c = 92 then (esc r).bind fun x => (signsN n x.2).map ((x.1, false) :: ·) else (signsN n r).map ((c, true) :: ·)
def signs (r : List UInt8) : Option (List Sg) := signsN (r.length + 1) r
theorem signsN_eq : ∀ (n m : Nat) (r : List UInt8), r.length < n → r.length < m → signsN n r = signsN m r := by
 intro n; induction n with
 | zero => intro m r h; omega
 | succ n ih =>
  intro m r h h'; obtain ⟨m, rfl⟩ : ∃ m', m = m' + 1 := ⟨m - 1, by omega⟩; cases r with
  | nil => rfl
  | cons c r =>
   simp only [List.length_cons] at h h'; simp only [signsN]; split
   ·cases he : esc r with
    | none => rfl
    | some x =>
     have := esc_lt (x := x.1) (r' := x.2) he; simp only [Option.bind_some]; rw [ih m x.2 (by omega) (by omega)]
   ·rw [ih m r (by omega) (by omega)]
theorem signs_nil : signs [] = some [] := rfl
theorem signs_cons (c : UInt8) (r : List UInt8) : signs (c :: r) = if c = 92 then (esc r).bind fun x => (signs x.2).map ((x.1, false) :: ·) else (signs r).map ((c, true) :: ·) := by
 unfold signs; rw [signsN]; split
 ·cases he : esc r with
  | none => rfl
  | some x =>
   have := esc_lt (x := x.1) (r' := x.2) he; simp only [Option.bind_some]; rw [signsN_eq _ (x.2.length + 1) x.2 (by simp; omega) (by omega)]
 ·rfl
theorem signs_bare {c : UInt8} (hc : c ≠ 92) (r : List UInt8) : signs (c :: r) = (signs r).map ((c, true) :: ·) := by rw [signs_cons, if_neg hc]
theorem signs_esc (r : List UInt8) : signs (92 :: r) = (esc r).bind fun x => (signs x.2).map ((x.1, false) :: ·) := by rw [signs_cons, if_pos rfl]
def bare (l : List UInt8) : List Sg := l.map fun c => (c, true)
theorem signs_app : ∀ (p r : List UInt8), (∀ c ∈ p, c ≠ 92) → signs (p ++ r) = (signs r).map (bare p ++ ·)
 | [], r, _ => by simp [bare]
 | c :: p, r, h => by
  rw [List.cons_append, signs_bare (h c (by simp)), signs_app p r (fun x hx => h x (by simp [hx]))]
  cases signs r <;> simp [bare]
theorem signs_front {c : UInt8} {r : List UInt8} {L : List Sg} (h : signs r = some ((c, true) :: L)) : ∃ r', r = c :: r' ∧ c ≠ 92 ∧ signs r' = some L := by
 cases r with
 | nil => simp [signs_nil] at h
 | cons d r =>
  rw [signs_cons] at h; split at h
  ·cases he : esc r with
   | none => rw [he] at h; simp at h
   | some x =>
    rw [he] at h; simp only [Option.bind_some, Option.map_eq_some_iff] at h; obtain ⟨_, _, h⟩ := h; simp at h
  ·simp only [Option.map_eq_some_iff] at h; obtain ⟨L', h1, h⟩ := h; simp at h; obtain ⟨rfl, rfl⟩ := h; exact ⟨r, rfl, by assumption, h1⟩
theorem signs_fronts : ∀ (p : List UInt8) {r : List UInt8} {L : List Sg}, signs r = some (bare p ++ L) → ∃ r', r = p ++ r' ∧ (∀ c ∈ p, c ≠ 92) ∧ signs r' = some L
 | [], r, L, h => ⟨r, rfl, by simp, h⟩
 | c :: p, r, L, h => by
  obtain ⟨r1, rfl, hc, h1⟩ := signs_front (L := bare p ++ L) h
  obtain ⟨r2, rfl, hp, h2⟩ := signs_fronts p h1
  exact ⟨r2, rfl, by simpa [hc] using hp, h2⟩
def sep (x : Sg) : Bool := x.2 && (x.1 == 44 || x.1 == 59 || x.1 == 43)
def isBlank (x : Sg) : Bool := x.2 && x.1 == 32
def isEq (x : Sg) : Bool := x.2 && x.1 == 61
def trimL (l : List Sg) : List Sg := l.dropWhile isBlank
def trimR (l : List Sg) : List Sg := (l.reverse.dropWhile isBlank).reverse
def trim (l : List Sg) : List Sg := trimR (trimL l)
def lowB (c : UInt8) : UInt8 := if 65 ≤ c.toNat ∧ c.toNat ≤ 90 then c + 32 else c
def typeB (c : UInt8) : Bool := (97 ≤ c.toNat && c.toNat ≤ 122) || (48 ≤ c.toNat && c.toNat ≤ 57) || c == 45
def typeOk (l : List UInt8) : Bool := match l with
 | [] => false
 | c :: _ => decide (97 ≤ c.toNat ∧ c.toNat ≤ 122) && l.all typeB && decide (l.length ≤ 32)
def badV (x : Sg) : Bool := x.2 && (x.1 == 34 || x.1 == 60 || x.1 == 62)
def valOk (l : List Sg) : Bool := !(l.any badV) && (match l with | [] => true | x :: _ => !(x.2 && x.1 == 35))
abbrev Pr := List UInt8 × List UInt8
def pairOf (x y : List Sg) : Option Pr :=
 if (trim x).all (·.2) && typeOk ((trim x).map fun s => lowB s.1) && valOk (trim y) then some ((trim x).map fun s => lowB s.1, (trim y).map (·.1)) else none
def pair (l : List Sg) : Option Pr := match l.dropWhile (fun s => !isEq s) with
 | [] => none
 | _ :: y => pairOf (l.takeWhile (fun s => !isEq s)) y
def goP : List Sg → List Sg → List Pr → List (List Pr) → Option (List (List Pr))
 | [], cur, rdn, n => (pair cur).map fun a => n ++ [rdn ++ [a]]
 | c :: l, cur, rdn, n => if sep c then (pair cur).bind fun a => if c.1 = 43 then goP l [] (rdn ++ [a]) n else goP l [] [] (n ++ [rdn ++ [a]]) else goP l (cur ++ [c]) rdn n
theorem goP_app : ∀ (x y cur : List Sg) (rdn : List Pr) (n : List (List Pr)), (∀ s ∈ x, sep s = false) → goP (x ++ y) cur rdn n = goP y (cur ++ x) rdn n
 | [], y, cur, rdn, n, _ => by simp
 | c :: x, y, cur, rdn, n, h => by
  rw [List.cons_append, goP, if_neg (by simp [h c]), goP_app x y _ rdn n (fun s hs => h s (by simp [hs]))]
  simp
def tyB (c : UInt8) : Bool := c != 61 && c != 32
def kindB (r : List UInt8) : Option (List UInt8 × List UInt8) :=
 match ((r.dropWhile (· == 32)).dropWhile tyB).dropWhile (· == 32) with
 | [] => none
 | c :: r3 => if c = 61 ∧ typeOk (((r.dropWhile (· == 32)).takeWhile tyB).map lowB) = true then some (((r.dropWhile (· == 32)).takeWhile tyB).map lowB, r3) else none
def scanN : Nat → List UInt8 → List UInt8 → Nat → Option (List UInt8 × List UInt8)
 | 0, _, _, _ => none
 | _ + 1, [], b, kept => some (b.take kept, [])
 | n + 1, c :: r, b, kept =>
  if c = 44 ∨ c = 59 ∨ c = 43 then some (b.take kept, c :: r)
  else if c = 34 ∨ c = 60 ∨ c = 62 then none
  else if c = 92 then (esc r).bind fun x => scanN n x.2 (b ++ [x.1]) (b.length + 1)
  else scanN n r (b ++ [c]) (if c = 32 then kept else b.length + 1)
def valueB (r : List UInt8) : Option (List UInt8 × List UInt8) :=
 match r.dropWhile (· == 32) with
 | [] => some ([], [])
 | c :: r1 => if c = 35 then none else scanN (r1.length + 2) (c :: r1) [] 0
def goB : Nat → List UInt8 → List Pr → List (List Pr) → Option (List (List Pr))
 | 0, _, _, _ => none
 | n + 1, r, rdn, l => (kindB r).bind fun x => (valueB x.2).bind fun y => match y.2 with
  | [] => some (l ++ [rdn ++ [(x.1, y.1)]])
  | c :: r3 => if c = 43 then goB n r3 (rdn ++ [(x.1, y.1)]) l else goB n r3 [] (l ++ [rdn ++ [(x.1, y.1)]])
theorem dw_app {α : Type} {p : α → Bool} : ∀ {a : List α} (b : List α), (∀ x ∈ a, p x = true) → (a ++ b).dropWhile p = b.dropWhile p
 | [], b, _ => rfl
 | x :: a, b, h => by rw [List.cons_append, List.dropWhile_cons_of_pos (h x (by simp)), dw_app b (fun y hy => h y (by simp [hy]))]
theorem tw_app {α : Type} {p : α → Bool} : ∀ {a : List α} (b : List α), (∀ x ∈ a, p x = true) → (a ++ b).takeWhile p = a ++ b.takeWhile p
 | [], b, _ => rfl
 | x :: a, b, h => by rw [List.cons_append, List.takeWhile_cons_of_pos (h x (by simp)), tw_app b (fun y hy => h y (by simp [hy]))]; rfl
theorem tw_all {α : Type} {p : α → Bool} : ∀ (l : List α), ∀ x ∈ l.takeWhile p, p x = true
 | [], x, h => by simp at h
 | a :: l, x, h => by
  by_cases ha : p a = true
  ·
   rw [List.takeWhile_cons_of_pos ha] at h
   rcases List.mem_cons.1 h with rfl | h
   ·
    exact ha
   ·
    exact tw_all l x h
  ·
   rw [List.takeWhile_cons_of_neg ha] at h; simp at h
theorem dw_head {α : Type} {p : α → Bool} : ∀ {l : List α} {c : α} {r : List α}, l.dropWhile p = c :: r → p c = false
 | [], c, r, h => by simp at h
 | a :: l, c, r, h => by
  by_cases ha : p a = true
  ·
   rw [List.dropWhile_cons_of_pos ha] at h; exact dw_head h
  ·
   rw [List.dropWhile_cons_of_neg ha] at h; simp at h; rw [← h.1]; simpa using ha
theorem dw_nil {α : Type} {p : α → Bool} : ∀ {l : List α}, l.dropWhile p = [] → ∀ x ∈ l, p x = true
 | [], _, x, hx => by simp at hx
 | a :: l, h, x, hx => by
  by_cases ha : p a = true
  ·
   rw [List.dropWhile_cons_of_pos ha] at h
   rcases List.mem_cons.1 hx with rfl | hx
   ·
    exact ha
   ·
    exact dw_nil h x hx
  ·
   rw [List.dropWhile_cons_of_neg ha] at h; simp at h
theorem split_dw {α : Type} (p : α → Bool) (l : List α) : l = l.takeWhile p ++ l.dropWhile p := (List.takeWhile_append_dropWhile).symm
theorem trimR_snoc (l : List Sg) (s : Sg) : trimR (l ++ [s]) = if isBlank s then trimR l else l ++ [s] := by
 unfold trimR; rw [List.reverse_append, List.reverse_singleton, List.singleton_append]; by_cases h : isBlank s = true
 ·rw [List.dropWhile_cons_of_pos h, if_pos h]
 ·rw [List.dropWhile_cons_of_neg h, if_neg h]; simp
theorem trimR_split (l : List Sg) : ∃ b, l = trimR l ++ b ∧ ∀ s ∈ b, isBlank s = true := by
 refine ⟨(l.reverse.takeWhile isBlank).reverse, ?_, ?_⟩
 ·unfold trimR; rw [← List.reverse_append, List.takeWhile_append_dropWhile, List.reverse_reverse]
 ·intro s hs; exact tw_all _ s (List.mem_reverse.1 hs)
theorem trim_split (l : List Sg) : ∃ b1 b2, l = b1 ++ (trim l ++ b2) ∧ (∀ s ∈ b1, isBlank s = true) ∧ ∀ s ∈ b2, isBlank s = true := by
 obtain ⟨b2, h2, hb2⟩ := trimR_split (trimL l); refine ⟨l.takeWhile isBlank, b2, ?_, tw_all _, hb2⟩; show l = l.takeWhile isBlank ++ (trimR (trimL l) ++ b2); rw [← h2]; exact split_dw _ _
theorem trimR_app_blank (a : List Sg) : ∀ (b : List Sg), (∀ s ∈ b, isBlank s = true) → trimR (a ++ b) = trimR a := by
 intro b h; unfold trimR; rw [List.reverse_append, dw_app _ (fun s hs => h s (List.mem_reverse.1 hs))]
theorem trimL_app_blank (a b : List Sg) (h : ∀ s ∈ a, isBlank s = true) : trimL (a ++ b) = trimL b := dw_app b h
theorem trimR_id {a : List Sg} {s : Sg} (h : isBlank s = false) : trimR (a ++ [s]) = a ++ [s] := by rw [trimR_snoc]; simp [h]
theorem trimR_cons {s : Sg} (h : isBlank s = false) (z : List Sg) : trimR (s :: z) = s :: trimR z := by
 unfold trimR; rw [List.reverse_cons]; obtain ⟨b, hz, hb⟩ := trimR_split z; by_cases he : z.reverse.dropWhile isBlank = []
 ·rw [he, dw_app _ (dw_nil he), List.dropWhile_cons_of_neg (by simp [h])]; rfl
 ·obtain ⟨c, r, hc⟩ := List.exists_cons_of_ne_nil he; have hh : z.reverse = z.reverse.takeWhile isBlank ++ c :: r := by rw [← hc]; exact split_dw _ _
  rw [hc]; have h2 : (z.reverse ++ [s]).dropWhile isBlank = c :: r ++ [s] := by
   rw [hh, List.append_assoc, dw_app _ (tw_all _)]; rw [List.cons_append, List.dropWhile_cons_of_neg (by simp [dw_head hc])]
  rw [h2]; simp
theorem trimR_all_nonblank : ∀ (m : List Sg), (∀ s ∈ m, isBlank s = false) → trimR m = m
 | [], _ => rfl
 | s :: m, h => by rw [trimR_cons (h s (by simp)), trimR_all_nonblank m (fun x hx => h x (by simp [hx]))]
theorem trimL_all_nonblank {m : List Sg} (h : ∀ s ∈ m, isBlank s = false) (b : List Sg) (hm : m ≠ []) : trimL (m ++ b) = m ++ b := by
 cases m with
 | nil => exact absurd rfl hm
 | cons s m => exact List.dropWhile_cons_of_neg (by simp [h s (by simp)])
theorem trim_mid {b1 m b2 : List Sg} (h1 : ∀ s ∈ b1, isBlank s = true) (hm : ∀ s ∈ m, isBlank s = false) (hn : m ≠ []) (h2 : ∀ s ∈ b2, isBlank s = true) : trim (b1 ++ (m ++ b2)) = m := by
 unfold trim; rw [trimL_app_blank _ _ h1, trimL_all_nonblank hm _ hn, trimR_app_blank _ _ h2, trimR_all_nonblank m hm]
theorem any_trim (x : List Sg) : (trim x).any badV = x.any badV := by
 obtain ⟨b1, b2, h, h1, h2⟩ := trim_split x; have hb : ∀ b : List Sg, (∀ s ∈ b, isBlank s = true) → b.any badV = false := by
  intro b hb; rw [List.any_eq_false]; intro s hs; have := hb s hs; simp only [isBlank, Bool.and_eq_true, beq_iff_eq] at this; simp [badV, this.2]
 rw [h, List.any_append, List.any_append, hb _ h1, hb _ h2, ← h]; simp
theorem blank_eq {s : Sg} (h : isBlank s = true) : s = (32, true) := by
 obtain ⟨a, b⟩ := s; simp only [isBlank, Bool.and_eq_true, beq_iff_eq] at h; rw [h.1, h.2]
theorem bare_of : ∀ {l : List Sg}, (∀ s ∈ l, s.2 = true) → l = bare (l.map (·.1))
 | [], _ => rfl
 | (a, b) :: l, h => by
  have hb : b = true := h (a, b) (by simp)
  have ih := bare_of (l := l) fun s hs => h s (by simp [hs])
  subst hb
  show (a, true) :: l = (a, true) :: bare (l.map (·.1))
  rw [← ih]
theorem bare_mem {l : List UInt8} {s : Sg} : s ∈ bare l ↔ s.2 = true ∧ s.1 ∈ l := by
 unfold bare; simp only [List.mem_map]; constructor
 ·rintro ⟨c, hc, rfl⟩; exact ⟨rfl, hc⟩
 ·rintro ⟨h, hc⟩; exact ⟨s.1, hc, by obtain ⟨a, b⟩ := s; simp at h; subst h; rfl⟩
theorem bare_app (a b : List UInt8) : bare (a ++ b) = bare a ++ bare b := by simp [bare]
theorem bare_ne {l : List UInt8} (h : l ≠ []) : bare l ≠ [] := by cases l <;> simp_all [bare]
theorem typeB_low {c : UInt8} (h : typeB (lowB c) = true) : c ≠ 92 ∧ c ≠ 61 ∧ c ≠ 32 ∧ c ≠ 44 ∧ c ≠ 59 ∧ c ≠ 43 := by
 refine ⟨?_, ?_, ?_, ?_, ?_, ?_⟩ <;> (rintro rfl; revert h; decide)
theorem typeOk_all {l : List UInt8} (h : typeOk l = true) : l ≠ [] ∧ ∀ c ∈ l, typeB c = true := by
 cases l with
 | nil => simp [typeOk] at h
 | cons c l =>
  simp only [typeOk, Bool.and_eq_true, List.all_eq_true] at h; exact ⟨by simp, h.1.2⟩
theorem typeOk_low {l : List UInt8} (h : typeOk (l.map lowB) = true) : l ≠ [] ∧ ∀ c ∈ l, c ≠ 92 ∧ c ≠ 61 ∧ c ≠ 32 ∧ c ≠ 44 ∧ c ≠ 59 ∧ c ≠ 43 := by
 obtain ⟨h1, h2⟩ := typeOk_all h; exact ⟨by simpa using h1, fun c hc => typeB_low (h2 _ (List.mem_map_of_mem hc))⟩
theorem kind_make {b1 t b2 r' : List UInt8} (h1 : ∀ c ∈ b1, c = 32) (ht : typeOk (t.map lowB) = true) (h2 : ∀ c ∈ b2, c = 32) :
  kindB (b1 ++ (t ++ (b2 ++ 61 :: r'))) = some (t.map lowB, r') := by
 obtain ⟨hn, hm⟩ := typeOk_low ht
 have e1 : (b1 ++ (t ++ (b2 ++ 61 :: r'))).dropWhile (· == 32) = t ++ (b2 ++ 61 :: r') := by
  rw [dw_app _ (fun c hc => by simp [h1 c hc])]; cases t with
  | nil => exact absurd rfl hn
  | cons c t => exact List.dropWhile_cons_of_neg (by simp [(hm c (by simp)).2.2.1])
 have htb : ∀ c ∈ t, tyB c = true := fun c hc => by have := hm c hc; simp [tyB, this]
 have hne : ∀ (z : List UInt8), (b2 ++ 61 :: z).takeWhile tyB = [] ∧ (b2 ++ 61 :: z).dropWhile tyB = b2 ++ 61 :: z := by
  intro z; cases b2 with
  | nil => exact ⟨rfl, rfl⟩
  | cons c b2 =>
   obtain rfl := h2 c (by simp); exact ⟨rfl, rfl⟩
 have e2 : (t ++ (b2 ++ 61 :: r')).takeWhile tyB = t := by rw [tw_app _ htb, (hne r').1]; simp
 have e3 : (t ++ (b2 ++ 61 :: r')).dropWhile tyB = b2 ++ 61 :: r' := by rw [dw_app _ htb, (hne r').2]
 unfold kindB
 rw [e1, e2, e3, dw_app _ (fun c hc => by simp [h2 c hc])]
 show (if (61 : UInt8) = 61 ∧ _ then _ else _) = _
 rw [if_pos ⟨rfl, ht⟩]
theorem kind_yes {r t r' : List UInt8} (h : kindB r = some (t, r')) :
  ∃ b1 t0 b2, r = b1 ++ (t0 ++ (b2 ++ 61 :: r')) ∧ (∀ c ∈ b1, c = 32) ∧ typeOk (t0.map lowB) = true ∧ (∀ c ∈ b2, c = 32) ∧ t = t0.map lowB := by
 unfold kindB at h
 cases h3 : ((r.dropWhile (· == 32)).dropWhile tyB).dropWhile (· == 32) with
 | nil => rw [h3] at h; simp at h
 | cons c r3 =>
  rw [h3] at h; dsimp only at h; split at h
  ·rename_i hc; obtain ⟨rfl, ht⟩ := hc; simp only [Option.some.injEq, Prod.mk.injEq] at h; obtain ⟨rfl, rfl⟩ := h; refine ⟨r.takeWhile (· == 32), (r.dropWhile (· == 32)).takeWhile tyB, ((r.dropWhile (· == 32)).dropWhile tyB).takeWhile (· == 32), ?_, ?_, ht, ?_, rfl⟩
   ·rw [← h3, ← split_dw, ← split_dw, ← split_dw]
   ·intro c hc; simpa using tw_all _ c hc
   ·intro c hc; simpa using tw_all _ c hc
  ·cases h
theorem left_make {b1 t b2 : List UInt8} (h1 : ∀ c ∈ b1, c = 32) (ht : typeOk (t.map lowB) = true) (h2 : ∀ c ∈ b2, c = 32) : trim (bare (b1 ++ (t ++ b2))) = bare t := by
 obtain ⟨hn, hm⟩ := typeOk_low ht; rw [bare_app, bare_app]; refine trim_mid ?_ ?_ (bare_ne hn) ?_
 ·intro s hs; obtain ⟨a, b⟩ := bare_mem.1 hs; simp [isBlank, a, h1 _ b]
 ·intro s hs; obtain ⟨a, b⟩ := bare_mem.1 hs; simp [isBlank, (hm _ b).2.2.1]
 ·intro s hs; obtain ⟨a, b⟩ := bare_mem.1 hs; simp [isBlank, a, h2 _ b]
theorem pair_make {b1 t b2 : List UInt8} (y : List Sg) (h1 : ∀ c ∈ b1, c = 32) (ht : typeOk (t.map lowB) = true) (h2 : ∀ c ∈ b2, c = 32) :
  pair (bare (b1 ++ (t ++ b2)) ++ (61, true) :: y) = if valOk (trim y) then some (t.map lowB, (trim y).map (·.1)) else none := by
 obtain ⟨hn, hm⟩ := typeOk_low ht
 have hq : ∀ s ∈ bare (b1 ++ (t ++ b2)), (fun s => !isEq s) s = true := by
  intro s hs; obtain ⟨a, b⟩ := bare_mem.1 hs; have : s.1 ≠ 61 := by
   rcases List.mem_append.1 b with b | b
   ·rw [h1 _ b]; decide
   ·rcases List.mem_append.1 b with b | b
    ·exact (hm _ b).2.1
    ·rw [h2 _ b]; decide
  simp [isEq, this]
 unfold pair
 rw [dw_app _ hq, tw_app _ hq]
 show pairOf (bare (b1 ++ (t ++ b2)) ++ []) y = _
 rw [List.append_nil]
 unfold pairOf
 rw [left_make h1 ht h2]
 have ha : (bare t).all (·.2) = true := by rw [List.all_eq_true]; intro s hs; exact (bare_mem.1 hs).1
 have hb : (bare t).map (fun s => lowB s.1) = t.map lowB := by unfold bare; rw [List.map_map]; rfl
 rw [ha, hb, ht]; simp
theorem pair_yes {x : List Sg} {a : Pr} (h : pair x = some a) :
  ∃ b1 t b2 y, x = bare (b1 ++ (t ++ b2)) ++ (61, true) :: y ∧ (∀ c ∈ b1, c = 32) ∧ typeOk (t.map lowB) = true ∧ (∀ c ∈ b2, c = 32) := by
 unfold pair at h
 cases hd : x.dropWhile (fun s => !isEq s) with
 | nil => rw [hd] at h; simp at h
 | cons e y =>
  rw [hd] at h; dsimp only at h; have he : e = (61, true) := by
   have := dw_head hd; obtain ⟨e1, e2⟩ := e; simp only [isEq, Bool.not_eq_false', Bool.and_eq_true, beq_iff_eq] at this; rw [this.1, this.2]
  subst he; unfold pairOf at h; split at h
  ·rename_i hc; simp only [Bool.and_eq_true] at hc; obtain ⟨⟨ha, ht⟩, hv⟩ := hc; obtain ⟨c1, c2, hs, h1, h2⟩ := trim_split (x.takeWhile fun s => !isEq s); rw [List.all_eq_true] at ha; have k1 : c1 = bare (c1.map (·.1)) := bare_of fun s hs => by rw [blank_eq (h1 s hs)]
   have k2 : c2 = bare (c2.map (·.1)) := bare_of fun s hs => by rw [blank_eq (h2 s hs)]
   have k3 := bare_of ha; refine ⟨c1.map (·.1), (trim (x.takeWhile fun s => !isEq s)).map (·.1), c2.map (·.1), y, ?_, ?_, ?_, ?_⟩
   ·rw [bare_app, bare_app, ← k1, ← k2, ← k3, ← hs, ← hd]; exact split_dw _ _
   ·intro c hc; obtain ⟨s, hs, rfl⟩ := List.mem_map.1 hc; rw [blank_eq (h1 s hs)]
   ·rw [List.map_map]; exact ht
   ·intro c hc; obtain ⟨s, hs, rfl⟩ := List.mem_map.1 hc; rw [blank_eq (h2 s hs)]
  ·cases h
def sepB (c : UInt8) : Prop := c = 44 ∨ c = 59 ∨ c = 43
def atEnd (r : List UInt8) : Prop := r = [] ∨ ∃ c r2, r = c :: r2 ∧ sepB c
theorem sep_true {c : UInt8} (h : sepB c) : sep (c, true) = true := by rcases h with rfl | rfl | rfl <;> rfl
theorem sep_false {c : UInt8} (h : ¬ sepB c) (b : Bool) : sep (c, b) = false := by
 unfold sepB at h; simp only [not_or] at h; simp [sep, h]
theorem esc_app {r r2 : List UInt8} {x : UInt8} (h : esc r = some (x, r2)) : ∃ u, r = u ++ r2 ∧ ∀ t, esc (u ++ t) = some (x, t) := by
 cases r with
 | nil => simp [esc] at h
 | cons a r =>
  simp only [esc] at h; split at h
  ·rename_i ha; simp only [Option.some.injEq, Prod.mk.injEq] at h; obtain ⟨rfl, rfl⟩ := h; exact ⟨[a], rfl, fun t => by simp [esc, ha]⟩
  ·rename_i ha; cases r with
   | nil => simp at h
   | cons b r3 =>
    simp only [Option.map_eq_some_iff] at h; obtain ⟨y, hy, h⟩ := h; simp only [Prod.mk.injEq] at h; obtain ⟨rfl, rfl⟩ := h; exact ⟨[a, b], rfl, fun t => by simp [esc, ha, hy]⟩
theorem kept_take (acc : List Sg) : (acc.map (·.1)).take (trimR acc).length = (trimR acc).map (·.1) := by
 obtain ⟨z, hz, _⟩ := trimR_split acc; have h2 := congrArg (List.take (trimR acc).length) hz; rw [List.take_left' rfl] at h2; rw [← List.map_take, h2]
theorem scan_yes : ∀ (n : Nat) (r b : List UInt8) (kept : Nat) (acc : List Sg) (v r' : List UInt8), b = acc.map (·.1) → kept = (trimR acc).length → scanN n r b kept = some (v, r') →
  ∃ u x, r = u ++ r' ∧ (∀ s ∈ x, sep s = false) ∧ x.any badV = false ∧ (∀ t, signs (u ++ t) = (signs t).map (x ++ ·)) ∧ atEnd r' ∧ v = (trimR (acc ++ x)).map (·.1)
 | 0, r, b, kept, acc, v, r', _, _, h => by simp [scanN] at h
 | n + 1, [], b, kept, acc, v, r', hb, hk, h => by
  simp only [scanN, Option.some.injEq, Prod.mk.injEq] at h
  obtain ⟨rfl, rfl⟩ := h
  exact ⟨[], [], rfl, by simp, rfl, by simp, .inl rfl, by rw [List.append_nil, hb, hk, kept_take]⟩
 | n + 1, c :: r, b, kept, acc, v, r', hb, hk, h => by
  simp only [scanN] at h
  split at h
  ·rename_i hc
   simp only [Option.some.injEq, Prod.mk.injEq] at h
   obtain ⟨rfl, rfl⟩ := h
   exact ⟨[], [], rfl, by simp, rfl, by simp, .inr ⟨c, r, rfl, hc⟩, by rw [List.append_nil, hb, hk, kept_take]⟩
  ·rename_i hc
   split at h
   ·cases h
   ·rename_i hd
    split at h
    ·rename_i he
     subst he
     cases hx : esc r with
     | none => rw [hx] at h; simp at h
     | some x =>
      rw [hx] at h
      simp only [Option.bind_some] at h
      obtain ⟨u0, hu0, hu1⟩ := esc_app (x := x.1) (r2 := x.2) hx
      obtain ⟨u, y, h0, h1, h2, h3, h4, h5⟩ := scan_yes n x.2 (b ++ [x.1]) (b.length + 1) (acc ++ [(x.1, false)]) v r' (by simp [hb]) (by rw [trimR_id (by simp [isBlank]), hb]; simp) h
      refine ⟨92 :: (u0 ++ u), (x.1, false) :: y, by rw [hu0, h0]; simp, ?_, ?_, ?_, h4, ?_⟩
      ·intro s hs
       rcases List.mem_cons.1 hs with rfl | hs
       ·rfl
       ·exact h1 s hs
      ·rw [List.any_cons, h2]; rfl
      ·intro t
       rw [List.cons_append, List.append_assoc, signs_esc, hu1]
       simp only [Option.bind_some]
       rw [h3]; cases signs t <;> simp
      ·rw [h5]; simp
    ·rename_i he
     have hk' : (if c = 32 then kept else b.length + 1) = (trimR (acc ++ [(c, true)])).length := by
      rw [trimR_snoc]; by_cases h32 : c = 32
      ·subst h32; simp [isBlank, hk]
      ·have : isBlank (c, true) = false := by simp [isBlank, h32]
       rw [if_neg h32, this, hb]; simp
     obtain ⟨u, y, h0, h1, h2, h3, h4, h5⟩ := scan_yes n r (b ++ [c]) _ (acc ++ [(c, true)]) v r' (by simp [hb]) hk' h; refine ⟨c :: u, (c, true) :: y, by rw [h0]; rfl, ?_, ?_, ?_, h4, ?_⟩
     ·intro s hs; rcases List.mem_cons.1 hs with rfl | hs
      ·exact sep_false hc _
      ·exact h1 s hs
     ·rw [List.any_cons, h2]; simp only [not_or] at hd; simp [badV, hd]
     ·intro t; rw [List.cons_append, signs_bare he, h3]; cases signs t <;> simp
     ·rw [h5]; simp
theorem scan_no : ∀ (n : Nat) (r b : List UInt8) (kept : Nat), r.length < n → scanN n r b kept = none → ∀ L, signs r = some L → ∃ x y, L = x ++ y ∧ (∀ s ∈ x, sep s = false) ∧ x.any badV = true
 | 0, r, b, kept, hn, _, L, hL => by omega
 | n + 1, [], b, kept, hn, h, L, hL => by simp [scanN] at h
 | n + 1, c :: r, b, kept, hn, h, L, hL => by
  simp only [scanN] at h
  simp only [List.length_cons] at hn
  split at h
  ·
   cases h
  ·
   rename_i hc
   split at h
   ·
    rename_i hd
    have hd92 : c ≠ 92 := by rintro rfl; revert hd; decide
    rw [signs_bare hd92] at hL
    obtain ⟨L', hL', rfl⟩ := Option.map_eq_some_iff.1 hL
    refine ⟨[(c, true)], L', rfl, ?_, ?_⟩
    ·
     intro s hs; simp only [List.mem_singleton] at hs; subst hs; exact sep_false hc _
    ·
     rcases hd with rfl | rfl | rfl <;> rfl
   ·
    split at h
    ·
     rename_i he
     subst he
     rw [signs_esc] at hL
     cases hx : esc r with
     | none => rw [hx] at hL; simp at hL
     | some x =>
      rw [hx] at h hL
      simp only [Option.bind_some] at h hL
      have := esc_lt (x := x.1) (r' := x.2) hx
      obtain ⟨L', hL', rfl⟩ := Option.map_eq_some_iff.1 hL
      obtain ⟨y, z, h1, h2, h3⟩ := scan_no n x.2 _ _ (by omega) h L' hL'
      refine ⟨(x.1, false) :: y, z, by rw [h1]; rfl, ?_, by rw [List.any_cons, h3]; simp⟩
      intro s hs
      rcases List.mem_cons.1 hs with rfl | hs
      ·
       rfl
      ·
       exact h2 s hs
    ·
     rename_i he
     rw [signs_bare he] at hL
     obtain ⟨L', hL', rfl⟩ := Option.map_eq_some_iff.1 hL
     obtain ⟨y, z, h1, h2, h3⟩ := scan_no n r _ _ (by omega) h L' hL'
     refine ⟨(c, true) :: y, z, by rw [h1]; rfl, ?_, by rw [List.any_cons, h3]; simp⟩
     intro s hs
     rcases List.mem_cons.1 hs with rfl | hs
     ·
      exact sep_false hc _
     ·
      exact h2 s hs
theorem blanks_of (r : List UInt8) : ∀ c ∈ r.takeWhile (· == 32), c = 32 := fun c hc => by simpa using tw_all _ c hc
theorem signs_blanks (r : List UInt8) : signs r = (signs (r.dropWhile (· == 32))).map (bare (r.takeWhile (· == 32)) ++ ·) := by
 (conv => lhs; rw [split_dw (· == 32) r]); exact signs_app _ _ fun c hc => by rw [blanks_of r c hc]; decide
theorem blank_bare {b : List UInt8} (h : ∀ c ∈ b, c = 32) : ∀ s ∈ bare b, isBlank s = true := by
 intro s hs; obtain ⟨a, d⟩ := bare_mem.1 hs; simp [isBlank, a, h _ d]
theorem nosep_blank {b : List UInt8} (h : ∀ c ∈ b, c = 32) : ∀ s ∈ bare b, sep s = false := by
 intro s hs; obtain ⟨a, d⟩ := bare_mem.1 hs; simp [sep, h _ d]
theorem valOk_cons {s : Sg} {z : List Sg} (h : isBlank s = false) : valOk (trim (s :: z)) = (!((s :: z).any badV) && !(s.2 && s.1 == 35)) := by
 have e : trim (s :: z) = s :: trimR z := by
  unfold trim trimL; rw [List.dropWhile_cons_of_neg (by simp [h]), trimR_cons h]
 have e2 := any_trim (s :: z); unfold valOk; rw [e2, e]
theorem trim_blanks {b : List Sg} (z : List Sg) (h : ∀ s ∈ b, isBlank s = true) : trim (b ++ z) = trim z := by
 unfold trim; rw [trimL_app_blank _ _ h]
theorem signs_head {c : UInt8} {u : List UInt8} {s : Sg} {x : List Sg} (h : signs (c :: u) = some (s :: x)) (h32 : c ≠ 32) (h35 : c ≠ 35) : isBlank s = false ∧ (s.2 && s.1 == 35) = false := by
 rw [signs_cons] at h; split at h
 ·cases hx : esc u with
  | none => rw [hx] at h; simp at h
  | some y =>
   rw [hx] at h; simp only [Option.bind_some, Option.map_eq_some_iff, List.cons.injEq] at h; obtain ⟨_, _, h, _⟩ := h; rw [← h]; exact ⟨rfl, rfl⟩
 ·simp only [Option.map_eq_some_iff, List.cons.injEq] at h; obtain ⟨_, _, h, _⟩ := h; rw [← h]; simp [isBlank, h32, h35]
theorem trim_head {s : Sg} {z : List Sg} (h : isBlank s = false) : trim (s :: z) = trimR (s :: z) := by
 unfold trim trimL; rw [List.dropWhile_cons_of_neg (by simp [h])]
theorem value_yes {r v r' : List UInt8} (h : valueB r = some (v, r')) :
  ∃ u x, r = u ++ r' ∧ (∀ s ∈ x, sep s = false) ∧ (∀ t, signs (u ++ t) = (signs t).map (x ++ ·)) ∧ atEnd r' ∧ valOk (trim x) = true ∧ v = (trim x).map (·.1) := by
 unfold valueB at h
 have hbl := blank_bare (blanks_of r)
 have hns := nosep_blank (blanks_of r)
 have hsp := split_dw (· == 32) r
 have hsg : ∀ t, signs (r.takeWhile (· == 32) ++ t) = (signs t).map (bare (r.takeWhile (· == 32)) ++ ·) := fun t => signs_app _ _ fun c hc => by rw [blanks_of r c hc]; decide
 generalize r.takeWhile (· == 32) = bl at *
 cases hr : r.dropWhile (· == 32) with
 | nil =>
  rw [hr] at h hsp; simp only [Option.some.injEq, Prod.mk.injEq] at h; obtain ⟨rfl, rfl⟩ := h; have e : trim (bare bl) = [] := by have := trim_blanks [] hbl; rwa [List.append_nil] at this
  exact ⟨bl, bare bl, hsp, hns, hsg, .inl rfl, by rw [e]; rfl, by rw [e]; rfl⟩
 | cons c r1 =>
  rw [hr] at h hsp; dsimp only at h; split at h
  ·cases h
  ·rename_i h35; obtain ⟨u, x, h0, h1, h2, h3, h4, h5⟩ := scan_yes _ _ _ _ [] v r' rfl rfl h; have h32 : c ≠ 32 := by have := dw_head hr; simpa using this
   refine ⟨bl ++ u, bare bl ++ x, by rw [hsp, h0]; simp, ?_, ?_, h4, ?_⟩
   ·intro s hs; rcases List.mem_append.1 hs with hs | hs
    ·exact hns s hs
    ·exact h1 s hs
   ·intro t; rw [List.append_assoc, hsg, h3]; cases signs t <;> simp
   ·rw [trim_blanks _ hbl, h5]; cases x with
    | nil => exact ⟨rfl, rfl⟩
    | cons s x =>
     have hs : isBlank s = false ∧ (s.2 && s.1 == 35) = false := by
      have h30 := h3 []; rw [List.append_nil, signs_nil] at h30; cases u with
      | nil => simp [signs_nil] at h30
      | cons d u =>
       have : d = c := by simp at h0; exact h0.1.symm
       subst this; exact signs_head (x := x) (by simpa using h30) h32 h35
     rw [valOk_cons hs.1, h2, hs.2, trim_head hs.1]; exact ⟨rfl, rfl⟩
theorem seg_app {x : List Sg} (y : List Sg) (h : ∀ s ∈ x, sep s = false) : (x ++ y).takeWhile (fun s => !sep s) = x ++ y.takeWhile (fun s => !sep s) := tw_app y fun s hs => by simp [h s hs]
theorem value_no {r : List UInt8} (h : valueB r = none) (L : List Sg) (hL : signs r = some L) : valOk (trim (L.takeWhile fun s => !sep s)) = false := by
 unfold valueB at h; have hbl := blank_bare (blanks_of r); have hns := nosep_blank (blanks_of r); rw [signs_blanks r] at hL; generalize r.takeWhile (· == 32) = bl at *; cases hr : r.dropWhile (· == 32) with
 | nil => rw [hr] at h; simp at h
 | cons c r1 =>
  rw [hr] at h hL; dsimp only at h; obtain ⟨L', hL', rfl⟩ := Option.map_eq_some_iff.1 hL; rw [seg_app _ hns, trim_blanks _ hbl]; split at h
  ·rename_i h35; subst h35; rw [signs_bare (by decide)] at hL'; obtain ⟨L2, hL2, rfl⟩ := Option.map_eq_some_iff.1 hL'; rw [List.takeWhile_cons_of_pos (by rfl), valOk_cons rfl]; simp
  ·obtain ⟨x, y, rfl, h2, h3⟩ := scan_no _ _ _ _ (by simp) h L' hL'; rw [seg_app _ h2]; have h4 : (x ++ y.takeWhile fun s => !sep s).any badV = true := by rw [List.any_append, h3]; rfl
   unfold valOk; rw [any_trim, h4]; rfl
theorem kind_no {r : List UInt8} (h : kindB r = none) (L : List Sg) (hL : signs r = some L) : pair (L.takeWhile fun s => !sep s) = none := by
 cases hp : pair (L.takeWhile fun s => !sep s) with
 | none => rfl
 | some a =>
  exfalso; obtain ⟨b1, t, b2, y, hx, h1, ht, h2⟩ := pair_yes hp; have e : L = bare (b1 ++ (t ++ b2)) ++ (bare [61] ++ (y ++ L.dropWhile fun s => !sep s)) := by
   (conv => lhs; rw [split_dw (fun s => !sep s) L, hx]); simp [bare]
  rw [e, ← List.append_assoc, ← bare_app] at hL; obtain ⟨r', hr, _, _⟩ := signs_fronts _ hL; have := kind_make (r' := r') h1 ht h2; rw [hr] at h; simp only [List.append_assoc, List.singleton_append] at h; rw [this] at h; cases h
theorem pair_seg {b1 t b2 : List UInt8} (y : List Sg) (h1 : ∀ c ∈ b1, c = 32) (ht : typeOk (t.map lowB) = true) (h2 : ∀ c ∈ b2, c = 32) :
  (bare (b1 ++ (t ++ b2)) ++ (61, true) :: y).takeWhile (fun s => !sep s) = bare (b1 ++ (t ++ b2)) ++ (61, true) :: y.takeWhile (fun s => !sep s) := by
 obtain ⟨hn, hm⟩ := typeOk_low ht
 have hq : ∀ s ∈ bare (b1 ++ (t ++ b2)), sep s = false := by
  intro s hs; obtain ⟨a, b⟩ := bare_mem.1 hs; have : s.1 ≠ 44 ∧ s.1 ≠ 59 ∧ s.1 ≠ 43 := by
   rcases List.mem_append.1 b with b | b
   ·rw [h1 _ b]; decide
   ·rcases List.mem_append.1 b with b | b
    ·exact (hm _ b).2.2.2
    ·rw [h2 _ b]; decide
  simp [sep, this]
 rw [seg_app _ hq, List.takeWhile_cons_of_pos (by rfl)]
theorem signs_kind {b1 t b2 : List UInt8} (r' : List UInt8) (h1 : ∀ c ∈ b1, c = 32) (ht : typeOk (t.map lowB) = true) (h2 : ∀ c ∈ b2, c = 32) :
  signs (b1 ++ (t ++ (b2 ++ 61 :: r'))) = (signs r').map fun L => bare (b1 ++ (t ++ b2)) ++ (61, true) :: L := by
 obtain ⟨hn, hm⟩ := typeOk_low ht
 have := signs_app (b1 ++ (t ++ b2)) (61 :: r') (by
  intro c b; rcases List.mem_append.1 b with b | b
  ·rw [h1 _ b]; decide
  ·rcases List.mem_append.1 b with b | b
   ·exact (hm _ b).1
   ·rw [h2 _ b]; decide)
 rw [signs_bare (by decide)] at this
 simp only [List.append_assoc] at this ⊢
 rw [this]; cases signs r' <;> rfl
theorem goP_seg (L : List Sg) (rdn : List Pr) (n : List (List Pr)) : goP L [] rdn n = goP (L.dropWhile fun s => !sep s) (L.takeWhile fun s => !sep s) rdn n := by
 (conv => lhs; rw [split_dw (fun s => !sep s) L]); rw [goP_app _ _ _ _ _ (fun s hs => by have := tw_all _ s hs; simpa using this)]; rfl
theorem goP_none (L : List Sg) (rdn : List Pr) (n : List (List Pr)) (h : pair (L.takeWhile fun s => !sep s) = none) : goP L [] rdn n = none := by
 rw [goP_seg]; cases hd : L.dropWhile (fun s => !sep s) with
 | nil => rw [goP, h]; rfl
 | cons c l =>
  have := dw_head hd; simp only [Bool.not_eq_false'] at this; rw [goP, if_pos this, h]; rfl
theorem goB_eq : ∀ (n : Nat) (r : List UInt8) (rdn : List Pr) (l : List (List Pr)), r.length < n → goB n r rdn l = (signs r).bind fun L => goP L [] rdn l
 | 0, r, rdn, l, h => by omega
 | n + 1, r, rdn, l, hn => by
  rw [goB]
  cases hk : kindB r with
  | none =>
   cases hs : signs r with
   | none => rfl
   | some L => exact (goP_none L rdn l (kind_no hk L hs)).symm
  | some x =>
   obtain ⟨t, r'⟩ := x
   obtain ⟨b1, t0, b2, rfl, h1, ht, h2, rfl⟩ := kind_yes hk
   rw [signs_kind r' h1 ht h2]
   simp only [Option.bind_some]
   have hlen : r'.length < n := by simp at hn; omega
   cases hv : valueB r' with
   | none =>
    cases hs : signs r' with
    | none => rfl
    | some L =>
     refine (goP_none _ rdn l ?_).symm
     rw [pair_seg _ h1 ht h2, pair_make _ h1 ht h2, value_no hv L hs]; rfl
   | some y =>
    obtain ⟨v, r2⟩ := y
    obtain ⟨u, x, rfl, hns, hsg, hend, hval, rfl⟩ := value_yes hv
    simp only [Option.bind_some]
    rw [hsg]
    have hp : pair (bare (b1 ++ (t0 ++ b2)) ++ (61, true) :: x) = some (t0.map lowB, (trim x).map (·.1)) := by
     rw [pair_make _ h1 ht h2, hval]; rfl
    have hq : ∀ s ∈ bare (b1 ++ (t0 ++ b2)) ++ (61, true) :: x, sep s = false := by
     have := pair_seg x h1 ht h2; have e : x.takeWhile (fun s => !sep s) = x := by have := seg_app [] hns; simpa using this
     rw [e] at this; intro s hs; rw [← this] at hs; have := tw_all _ s hs; simpa using this
    rcases hend with rfl | ⟨c, r3, rfl, hc⟩
    ·simp only [signs_nil, Option.map_some, Option.bind_some, List.append_nil]; have := goP_app _ [] [] rdn l hq; rw [List.append_nil] at this; rw [this, goP, List.nil_append, hp]; rfl
    ·have hc92 : c ≠ 92 := by rcases hc with rfl | rfl | rfl <;> decide
     rw [signs_bare hc92]; have hr3 : r3.length < n := by simp at hlen; omega
     cases hs : signs r3 with
     | none =>
      simp only [Option.map_none, Option.bind_none]; split
      ·rw [goB_eq n r3 _ _ hr3, hs]; rfl
      ·rw [goB_eq n r3 _ _ hr3, hs]; rfl
     | some L =>
      simp only [Option.map_some, Option.bind_some]; have e : bare (b1 ++ (t0 ++ b2)) ++ (61, true) :: (x ++ (c, true) :: L) = (bare (b1 ++ (t0 ++ b2)) ++ (61, true) :: x) ++ (c, true) :: L := by simp
      rw [e, goP_app _ _ _ _ _ hq, goP, if_pos (sep_true hc), List.nil_append, hp]; simp only [Option.bind_some]; split
      ·rw [goB_eq n r3 _ _ hr3, hs]; rfl
      ·rw [goB_eq n r3 _ _ hr3, hs]; rfl
end Go.Proofs.YtpklcnpmppaaoaaGreatDoor.Pure
namespace Go.Proofs.YtpklcnpmppaaoaaGreatDoor.Print
open Go.RowKit Go.Proofs.YtpklcnpmppaaoaaGreatDoorW.PrintWords Go.Proofs.YtpklcnpmppaaoaaGreatDoorW.PrintLast Go.Proofs.YtpklcnpmppaaoaaGreatDoorW.PrintMore
theorem ap0 {p : Prop} (h : p := by first | (with_reducible assumption) | assumption) : p := h
theorem ap2 {p : Prop} (h : p := by first | rfl | (simp; done) | (simp [bne_nil8, beq_nil8]; done) | (simp [*]; done)) : p := h
theorem ap7 {p : Prop} (h : p := by repeat (first | exact Drawn0.refl _ | apply Drawn0.step)) : p := h
theorem spd00 {p : Prop} [Decidable p] {α : Type} {a b r : α} {G : Prop} (f : decide p = true → a = r → G) (g : decide p = false → b = r → G) (H : (if p then a else b) = r) : G := by
 by_cases c : p
 · exact f (decide_eq_true c) ((if_pos c).symm.trans H)
 · exact g (decide_eq_false c) ((if_neg c).symm.trans H)
theorem spn0 {p : Prop} [Decidable p] {α : Type} {a : Option α} {r : α} {G : Prop} (f : decide p = true → a = some r → G) (H : (if p then a else none) = some r) : G := by
 by_cases c : p
 · exact f (decide_eq_true c) ((if_pos c).symm.trans H)
 · rw [if_neg c] at H; cases H
theorem spe01 {β : Type} [BEq β] [LawfulBEq β] {x y : β} [Decidable (x = y)] {α : Type} {a b r : α} {G : Prop} (f : (x == y) = true → (x != y) = false → a = r → G) (g : ¬ x = y → (x == y) = false → (x != y) = true → b = r → G) (H : (if x = y then a else b) = r) : G := by
 by_cases c : x = y
 · exact f (beq_iff_eq.mpr c) (bne_eq_false_iff_eq.mpr c) ((if_pos c).symm.trans H)
 · exact g c (beq_eq_false_iff_ne.mpr c) (bne_iff_ne.mpr c) ((if_neg c).symm.trans H)
theorem apD {p : Prop} [Decidable p] (h : decide p = true := by first | (with_reducible assumption) | assumption) : p := of_decide_eq_true h
theorem am {p : Prop} (h : p) : Aside0 p := ⟨h⟩
theorem ap9 {p : Prop} (h : p := by first | rfl | (simp [errW_none, errW_some, bne_nil8, beq_nil8]; done) | (simp [errW_none, errW_some] <;> rfl) | (simp [*, errW_none, errW_some] <;> rfl)) : p := h
theorem ap5 {p : Prop} (h : p := by repeat (first | (with_reducible first | exact HK.out | apply KeepBut.set_ | apply keep_drewN | apply keep_drew | apply keep_alloc) | exact HK.out)) : p := h
theorem apG1 {p q0 : Prop} (a0 : q0) (h : q0 → p := by intro a0_; repeat (first | (with_reducible first | exact HB.out | apply below_alloc | apply pw_below_drewN | apply below_drew1 | refine below_set ?_ a0_) | exact HB.out)) : p := h a0
theorem apI120 {p q : Prop} (a : p) (h : p → q := by intro a_; repeat (first | (with_reducible first | exact a_ | apply IsS120.alloc | apply IsS120.drewN | apply IsS120.drew | apply IsS120.set_0 | apply IsS120.set_1) | exact a_)) : q := h a
theorem apN {p : Prop} (h : p := by first | omega | exact Nat.le_refl _) : p := h
theorem spb {x : Bool} {α : Type} {a b r : α} {G : Prop} (f : x = true → a = r → G) (g : x = false → b = r → G) (H : (if x = true then a else b) = r) : G := by
 cases x
 · exact g rfl ((if_neg (by decide)).symm.trans H)
 · exact f rfl ((if_pos rfl).symm.trans H)
theorem spd11 {p : Prop} [Decidable p] {α : Type} {a b r : α} {G : Prop} (f : p → decide p = true → a = r → G) (g : ¬ p → decide p = false → b = r → G) (H : (if p then a else b) = r) : G := by
 by_cases c : p
 · exact f c (decide_eq_true c) ((if_pos c).symm.trans H)
 · exact g c (decide_eq_false c) ((if_neg c).symm.trans H)
theorem ap3 {p : Prop} (h : p := by (try simp only [List.map_toArray, List.map_cons, List.map_nil]); first | done | rfl | (simp only [List.length_drop, List.length_take]; rfl)) : p := h
theorem ap1 {p : Prop} (h : p := by repeat (first | (with_reducible first | exact HB.out | apply below_alloc | apply pw_below_drewN | apply below_drew1) | exact HB.out)) : p := h
theorem ap6 {p : Prop} (h : p := by first | exact HG.out | (refine Gw.below HG.out ?_; repeat (first | (with_reducible first | exact HB.out | apply below_alloc | apply pw_below_drewN | apply below_drew1) | exact HB.out))) : p := h
theorem apAR {p q : Prop} (a : p) (h : p → q := by intro a_; (with_reducible repeat (first | apply Kd.R_alloc | apply Kd.R_drewN | apply Kd.R_drew)); exact a_) : q := h a
theorem apY {α : Type} {a b : α} {p q : Prop} (e : a = b) (H : p) (h : a = b → p → q := by intro e_ H_; first | (rw [e_]; with_reducible exact H_) | (have H2_ := (Option.bind_some _ _).symm.trans H_; rw [e_]; with_reducible exact H2_) | (have H2_ := (Option.bind_some _ _).symm.trans H_; with_reducible exact H2_) | with_reducible exact H_ | (rw [e_]; exact H_) | exact H_) : q := h e H
theorem ap4 {p : Prop} (h : p := by first | exact ⟨rfl, _, World.drewN_drewN _ _ _⟩ | exact ⟨rfl, _, Eq.trans (World.drewN_drewN _ _ _) (congrArg (World.drewN _) (Nat.add_assoc _ _ _))⟩) : p := h
theorem apS120 {p q : Prop} (a : p) (h : p → q := by intro a_; repeat (first | (with_reducible first | exact HB.out | apply below_alloc | apply pw_below_drewN | apply below_drew1 | refine below_set ?_ (IsS120.ge a_)) | exact HB.out)) : q := h a
theorem spe11 {β : Type} [BEq β] [LawfulBEq β] {x y : β} [Decidable (x = y)] {α : Type} {a b r : α} {G : Prop} (f : x = y → (x == y) = true → (x != y) = false → a = r → G) (g : ¬ x = y → (x == y) = false → (x != y) = true → b = r → G) (H : (if x = y then a else b) = r) : G := by
 by_cases c : x = y
 · exact f c (beq_iff_eq.mpr c) (bne_eq_false_iff_eq.mpr c) ((if_pos c).symm.trans H)
 · exact g c (beq_eq_false_iff_ne.mpr c) (bne_iff_ne.mpr c) ((if_neg c).symm.trans H)
theorem spn1 {p : Prop} [Decidable p] {α : Type} {a : Option α} {r : α} {G : Prop} (f : p → decide p = true → a = some r → G) (H : (if p then a else none) = some r) : G := by
 by_cases c : p
 · exact f c (decide_eq_true c) ((if_pos c).symm.trans H)
 · rw [if_neg c] at H; cases H
theorem apC {p q : Prop} (a : p) (h : p → q := by intro a_; repeat (first | (with_reducible exact a_) | (with_reducible refine Kd.C_alloc ?_ _) | (with_reducible refine Kd.C_drewN ?_ _) | (with_reducible refine Kd.C_drew ?_) | exact a_)) : q := h a
theorem apAS {p q : Prop} (a : p) (h : p → q := by intro a_; (with_reducible repeat (first | apply Kd.S_alloc | apply Kd.S_drewN | apply Kd.S_drew)); exact a_) : q := h a
theorem apH1 {p q0 : Prop} (a0 : q0) (h : q0 → p := by intro a0_; first | exact HG.out | (refine Gw.below HG.out ?_; repeat (first | (with_reducible first | exact HB.out | apply below_alloc | apply pw_below_drewN | apply below_drew1 | refine below_set ?_ a0_) | exact HB.out))) : p := h a0
theorem apAV {p q : Prop} (a : p) (h : p → q := by intro a_; (with_reducible repeat (first | apply Kd.V_alloc | apply Kd.V_drewN | apply Kd.V_drew)); exact a_) : q := h a
theorem apG {p q : Prop} (a : p) (h : p → q := by intro a_; repeat (first | (with_reducible first | exact HB.out | apply below_alloc | apply pw_below_drewN | apply below_drew1 | refine below_set ?_ a_) | exact HB.out)) : q := h a
theorem apB {p q : Prop} (a : p) (h : p → q := by intro a_; (with_reducible repeat (first | refine blk_drewN ?_ _ | refine blk_drew ?_ | refine blk_alloc ?_ _)); exact a_) : q := h a
theorem bc2 {w : World} {g : Nat} {t : TypeId} {x0 x1 : Value} (h : w.heap[g]? = some (.cells #[x0, x1] t (0, 0))) : w.cell? ⟨g, 0, none⟩ = some x0 ∧ w.cell? ⟨g, 1, none⟩ = some x1 ∧ w.frozen? ⟨g, 0, none⟩ = false ∧ w.frozen? ⟨g, 1, none⟩ = false := ⟨(blk_cell h 0).trans rfl, (blk_cell h 1).trans rfl, blk_frozen h 0, blk_frozen h 1⟩
theorem bc3 {w : World} {g : Nat} {t : TypeId} {x0 x1 x2 : Value} (h : w.heap[g]? = some (.cells #[x0, x1, x2] t (0, 0))) : w.cell? ⟨g, 0, none⟩ = some x0 ∧ w.cell? ⟨g, 1, none⟩ = some x1 ∧ w.cell? ⟨g, 2, none⟩ = some x2 ∧ w.frozen? ⟨g, 0, none⟩ = false ∧ w.frozen? ⟨g, 1, none⟩ = false ∧ w.frozen? ⟨g, 2, none⟩ = false := ⟨(blk_cell h 0).trans rfl, (blk_cell h 1).trans rfl, (blk_cell h 2).trans rfl, blk_frozen h 0, blk_frozen h 1, blk_frozen h 2⟩
theorem spd01 {p : Prop} [Decidable p] {α : Type} {a b r : α} {G : Prop} (f : decide p = true → a = r → G) (g : ¬ p → decide p = false → b = r → G) (H : (if p then a else b) = r) : G := by
 by_cases c : p
 · exact f (decide_eq_true c) ((if_pos c).symm.trans H)
 · exact g c (decide_eq_false c) ((if_neg c).symm.trans H)
theorem apG2 {p q0 q1 : Prop} (a0 : q0) (a1 : q1) (h : q0 → q1 → p := by intro a0_ a1_; repeat (first | (with_reducible first | exact HB.out | apply below_alloc | apply pw_below_drewN | apply below_drew1 | refine below_set ?_ a0_ | refine below_set ?_ a1_) | exact HB.out)) : p := h a0 a1
theorem apH2 {p q0 q1 : Prop} (a0 : q0) (a1 : q1) (h : q0 → q1 → p := by intro a0_ a1_; first | exact HG.out | (refine Gw.below HG.out ?_; repeat (first | (with_reducible first | exact HB.out | apply below_alloc | apply pw_below_drewN | apply below_drew1 | refine below_set ?_ a0_ | refine below_set ?_ a1_) | exact HB.out))) : p := h a0 a1
end Go.Proofs.YtpklcnpmppaaoaaGreatDoor.Print
namespace Go.Proofs.YtpklcnpmppaaoaaGreatDoor.Print
open Go.RowKit Go.Proofs.YtpklcnpmppaaoaaGreatDoorW.PrintWords Go.Proofs.YtpklcnpmppaaoaaGreatDoorW.PrintLast Go.Proofs.YtpklcnpmppaaoaaGreatDoorW.PrintMore
attribute [local go_sem] max2_int min2_int max_two min_two max_three min_three max_four min_four
set_option linter.unusedVariables false
set_option linter.unusedSimpArgs false
def errW : Option Int → Value
 | none => .nilIface
 | some c => .iface 101 (.int .i64 c)
theorem errW_none : errW none = .nilIface := rfl
theorem errW_some (c : Int) : errW (some c) = .iface 101 (.int .i64 c) := rfl
theorem bne_nil8 (l : List UInt8) : (l != []) = !l.isEmpty := by cases l <;> rfl
theorem beq_nil8 (l : List UInt8) : (l == []) = l.isEmpty := by cases l <;> rfl
theorem ite_some {α : Type} {c : Prop} [Decidable c] {x : Option α} {r : α} (h : (if c then x else none) = some r) : c ∧ x = some r := by
 by_cases q : c
 ·rw [if_pos q] at h; exact ⟨q, h⟩
 ·rw [if_neg q] at h; cases h
theorem info5 : (Tryz.prog.info? 5).map (fun i => (i.zero, i.size, i.bytes)) = some (some (.int .u8 0), 1, 1) := by kernel_rfl
theorem info9 : (Tryz.prog.info? 9).map (fun i => (i.zero, i.size, i.bytes)) = some (some (.string ⟨#[]⟩), 1, 16) := by kernel_rfl
theorem info21 : (Tryz.prog.info? 21).map (fun i => (i.zero, i.size, i.bytes)) = some (some (.int .i32 0), 1, 4) := by kernel_rfl
theorem info92 : (Tryz.prog.info? 92).map (fun i => (i.zero, i.size, i.bytes)) = some (some (.slice none 0 0), 1, 24) := by kernel_rfl
theorem info94 : (Tryz.prog.info? 94).map (fun i => (i.zero, i.size, i.bytes)) = some (some (.agg #[(.int .u8 0), (.bool false)]), 2, 2) := by kernel_rfl
theorem info96 : (Tryz.prog.info? 96).map (fun i => (i.zero, i.size, i.bytes)) = some (some (.agg #[(.string ⟨#[]⟩), (.string ⟨#[]⟩)]), 2, 32) := by kernel_rfl
structure S96 where
 f0 : ByteArray
 f1 : ByteArray
def z96 : S96 := ⟨(⟨#[]⟩ : ByteArray), (⟨#[]⟩ : ByteArray)⟩
def k96 : Kd S96 := Kd.iso (Kd.pair Kd.string Kd.string) (fun x : S96 => (x.f0, x.f1))
theorem k96_open {w : World} {x : S96} {cs : List Value} (h : k96.K w x cs) : cs = [.string x.f0, .string x.f1] := by
 obtain ⟨_, _, rfl, rfl, rfl⟩ := h; exact rfl
theorem k96_mkM (w : World) (base : Nat) (ok : Nat → Prop) (x : S96)  : k96.M w base ok x [.string x.f0, .string x.f1] := ⟨[.string x.f0], [.string x.f1], rfl, rfl, rfl⟩
def rd_T96 (xs : List S96) (i : Int) : S96 := xs.getD i.toNat z96
theorem at_T96 {w : World} {A : Option Addr} {n : Nat} {xs : List S96} (h : Kd.C k96 w A n xs) (i : Int) (h0 : 0 ≤ i) (h1 : i < n) : ∃ ad , A = some ad ∧ w.cell? (ad.add (i.toNat * 2)) = some (.string (rd_T96 xs i).f0) ∧ w.cell? ⟨(ad.add (i.toNat * 2)).block, (ad.add (i.toNat * 2)).off + 1, none⟩ = some (.string (rd_T96 xs i).f1) := by
 obtain ⟨ad, c, e, _, hK, hc0⟩ := Kd.C_get h z96 i h0 h1; have hc : ∀ j u, c[j]? = some u → w.cell? (ad.add (i.toNat * 2 + j)) = some u := hc0; obtain rfl := k96_open hK; exact ⟨ad, e, hc 0 _ rfl, by rw [← add_field _ _ 1 (by omega)]; exact hc 1 _ rfl⟩
def rd_L8 (xs : List (List S96)) (i : Int) : (List S96) := xs.getD i.toNat ([] : List S96)
theorem at_L8 {w : World} {A : Option Addr} {n : Nat} {xs : List (List S96)} (h : Kd.C (Kd.slice 96 k96) w A n xs) (i : Int) (h0 : 0 ≤ i) (h1 : i < n) : ∃ ad A0 c0, A = some ad ∧ w.cell? (ad.add i.toNat) = some (.slice A0 (rd_L8 xs i).length c0) ∧ (rd_L8 xs i).length ≤ c0 ∧ k96.C w A0 (rd_L8 xs i).length (rd_L8 xs i) := by
 obtain ⟨ad, c, e, _, hK, hc0⟩ := Kd.C_get h ([] : List S96) i h0 h1; have hc : ∀ j u, c[j]? = some u → w.cell? (ad.add (i.toNat * 1 + j)) = some u := hc0; obtain ⟨A0, c0, rfl, l0, g0⟩ := hK; exact ⟨ad, A0, c0, e, by have hq := hc 0 _ rfl; rwa [Nat.mul_one, Nat.add_zero] at hq, l0, g0⟩
structure S94 where
 f0 : Int
 f1 : Bool
def z94 : S94 := ⟨(0 : Int), false⟩
def k94 : Kd S94 := Kd.iso (Kd.pair (Kd.int .u8) Kd.bool) (fun x : S94 => (x.f0, x.f1))
theorem k94_heap : Kd.Heap k94 := Kd.heap_iso _ (Kd.heap_pair (Kd.heap_int .u8) Kd.heap_bool)
theorem k94_open {w : World} {x : S94} {cs : List Value} (h : k94.K w x cs) : cs = [.int .u8 x.f0, .bool x.f1] := by
 obtain ⟨_, _, rfl, rfl, rfl⟩ := h; exact rfl
theorem k94_mkM (w : World) (base : Nat) (ok : Nat → Prop) (x : S94)  : k94.M w base ok x [.int .u8 x.f0, .bool x.f1] := ⟨[.int .u8 x.f0], [.bool x.f1], rfl, rfl, rfl⟩
def rd_T94 (xs : List S94) (i : Int) : S94 := xs.getD i.toNat z94
theorem at_T94 {w : World} {A : Option Addr} {n : Nat} {xs : List S94} (h : Kd.C k94 w A n xs) (i : Int) (h0 : 0 ≤ i) (h1 : i < n) : ∃ ad , A = some ad ∧ w.cell? (ad.add (i.toNat * 2)) = some (.int .u8 (rd_T94 xs i).f0) ∧ w.cell? ⟨(ad.add (i.toNat * 2)).block, (ad.add (i.toNat * 2)).off + 1, none⟩ = some (.bool (rd_T94 xs i).f1) := by
 obtain ⟨ad, c, e, _, hK, hc0⟩ := Kd.C_get h z94 i h0 h1; have hc : ∀ j u, c[j]? = some u → w.cell? (ad.add (i.toNat * 2 + j)) = some u := hc0; obtain rfl := k94_open hK; exact ⟨ad, e, hc 0 _ rfl, by rw [← add_field _ _ 1 (by omega)]; exact hc 1 _ rfl⟩
def dn_rightType.l0 : Nat → ByteArray → Int → Int → Option (Bool)
 | 0, _, _, _ => none
 | k + 1, x0, x7, x8 => if x8 < x7 then (if 0 ≤ x8 then (if x8 < (x0.size : Int) then (if (bt x0 x8) ≥ 97 then (if ((bt x0 x8) ≤ 122) then (dn_rightType.l0 k x0 x7 (wrap64 (x8 + 1))) else (if x8 = 0 then (some false) else (if (bt x0 x8) = 45 then (dn_rightType.l0 k x0 x7 (wrap64 (x8 + 1))) else (if (bt x0 x8) < 48 then (some false) else (if (bt x0 x8) > 57 then (some false) else (dn_rightType.l0 k x0 x7 (wrap64 (x8 + 1)))))))) else (if x8 = 0 then (some false) else (if (bt x0 x8) = 45 then (dn_rightType.l0 k x0 x7 (wrap64 (x8 + 1))) else (if (bt x0 x8) < 48 then (some false) else (if (bt x0 x8) > 57 then (some false) else (dn_rightType.l0 k x0 x7 (wrap64 (x8 + 1)))))))) else (none)) else (none)) else (if x0.toList = ([] : List UInt8) then (some false) else (some (decide ((x0.size : Int) ≤ 32))))
def dn_rightType.f (k : Nat) (a0 : ByteArray) : Option (Bool) := dn_rightType.l0 k a0 (a0.size : Int) 0
theorem dn_rightType.mono_l : ∀ k, (∀ y0 y1 y2, LeO (dn_rightType.l0 k y0 y1 y2) (dn_rightType.l0 (k + 1) y0 y1 y2))
 | 0 => fun _ _ _ r h => by simp [dn_rightType.l0] at h
 | k + 1 => by
  have ih0 := dn_rightType.mono_l k
  ·
   intro y0 y1 y2
   unfold dn_rightType.l0
   repeat' first
   | (with_reducible exact ih0 _ _ _)
   | (with_reducible exact LeO.refl _)
   | (with_reducible exact LeO.none _)
   | (with_reducible refine LeO.ite ?_ ?_)
   | (with_reducible refine LeO.bind ?_ (fun _ => ?_))
theorem dn_rightType.mono : ∀ a0 k, LeO (dn_rightType.f k a0) (dn_rightType.f (k + 1) a0) := by
 intro a0 k; have ih0 := dn_rightType.mono_l k; unfold dn_rightType.f; repeat' first
   | (with_reducible exact ih0 _ _ _)
   | (with_reducible exact LeO.refl _)
   | (with_reducible exact LeO.none _)
   | (with_reducible refine LeO.ite ?_ ?_)
   | (with_reducible refine LeO.bind ?_ (fun _ => ?_))
set_option maxHeartbeats 8000000 in
set_option maxRecDepth 100000 in
theorem dn_rightType.calls (k : Nat) (a0 : ByteArray) (r : Bool) (w : World) (h : dn_rightType.f k a0 = some r) :
  Calls Tryz.prog 123 #[.string a0] w fun e w' => e = .returned (.bool r) ∧ Drawn0 w w' := by
 have H : (dn_rightType.l0 k a0 (a0.size : Int) 0) = some r := h
 clear h
 have H' := am H
 clear H
 go_enter Tryz.func123, Tryz.ntmps123
 go_wp2
 go_loopg [8] k (fun kq v8 w' => ∃ (x8_1 : Int), v8 = .int .i64 x8_1 ∧ Aside0 (dn_rightType.l0 kq a0 (a0.size : Int) x8_1 = some r) ∧ Aside0 (kq ≤ k) ∧ Drawn0 w w')
 case atStart => exact ⟨(0), ap2, H', ⟨Nat.le_refl _⟩, ap7⟩
 case round =>
  clear H'; obtain ⟨x8_1, rfl, HA, HK1, ⟨m1, rfl⟩⟩ := hrel; cases gk with
  | zero => exact absurd HA.out (by simp [dn_rightType.l0])
  | succ k1 =>
   have H := HA.out; clear HA; simp only [dn_rightType.l0] at H; revert H; refine spd00 ?_ ?_
   ·intro c2b0 H; revert H; refine spn0 ?_; intro c3b0 H; revert H; refine spn0 ?_; intro c4b0 H; revert H; refine spd00 ?_ ?_
    ·intro c6b0 H; revert H; refine spd00 ?_ ?_
     ·intro c7b0 H; have H' := am H; clear H; have p5 : 0 ≤ (x8_1 : Int) := apD; have q5 : x8_1 < (a0.size : Int) := apD; have hx5 := bt_at a0 x8_1; replace p5 := eq_true p5; replace q5 := eq_true q5; go_wp2; go_roundg k1; (case measure => have := HK1.out; omega); case rel => exact ⟨(wrap64 (x8_1 + 1)), ap2, H', ⟨by have := HK1.out; omega⟩, ap7⟩
     ·intro c7b0 H; revert H; refine spe01 ?_ ?_
      ·intro c8b0 c8b1 H; obtain rfl := Option.some.inj H; have p5 : 0 ≤ (x8_1 : Int) := apD; have q5 : x8_1 < (a0.size : Int) := apD; have hx5 := bt_at a0 x8_1; replace p5 := eq_true p5; replace q5 := eq_true q5; go_wp2; go_ret; exact ⟨ap2, ap7⟩
      ·intro c8 c8b0 c8b1 H; revert H; refine spe01 ?_ ?_
       ·intro c9b0 c9b1 H; have H' := am H; clear H; have p5 : 0 ≤ (x8_1 : Int) := apD; have q5 : x8_1 < (a0.size : Int) := apD; have hx5 := bt_at a0 x8_1; replace p5 := eq_true p5; replace q5 := eq_true q5; go_wp2; go_roundg k1; (case measure => have := HK1.out; omega); case rel => exact ⟨(wrap64 (x8_1 + 1)), ap2, H', ⟨by have := HK1.out; omega⟩, ap7⟩
       ·intro c9 c9b0 c9b1 H; revert H; refine spd00 ?_ ?_
        ·intro c10b0 H; obtain rfl := Option.some.inj H; have p5 : 0 ≤ (x8_1 : Int) := apD; have q5 : x8_1 < (a0.size : Int) := apD; have hx5 := bt_at a0 x8_1; replace p5 := eq_true p5; replace q5 := eq_true q5; go_wp2; go_ret; exact ⟨ap2, ap7⟩
        ·intro c10b0 H; revert H; refine spd00 ?_ ?_
         ·intro c11b0 H; obtain rfl := Option.some.inj H; have p5 : 0 ≤ (x8_1 : Int) := apD; have q5 : x8_1 < (a0.size : Int) := apD; have hx5 := bt_at a0 x8_1; replace p5 := eq_true p5; replace q5 := eq_true q5; go_wp2; go_ret; exact ⟨ap2, ap7⟩
         ·intro c11b0 H; have H' := am H; clear H; have p5 : 0 ≤ (x8_1 : Int) := apD; have q5 : x8_1 < (a0.size : Int) := apD; have hx5 := bt_at a0 x8_1; replace p5 := eq_true p5; replace q5 := eq_true q5; go_wp2; go_roundg k1; (case measure => have := HK1.out; omega); case rel => exact ⟨(wrap64 (x8_1 + 1)), ap2, H', ⟨by have := HK1.out; omega⟩, ap7⟩
    ·intro c6b0 H; revert H; refine spe01 ?_ ?_
     ·intro c12b0 c12b1 H; obtain rfl := Option.some.inj H; have p5 : 0 ≤ (x8_1 : Int) := apD; have q5 : x8_1 < (a0.size : Int) := apD; have hx5 := bt_at a0 x8_1; replace p5 := eq_true p5; replace q5 := eq_true q5; go_wp2; go_ret; exact ⟨ap2, ap7⟩
     ·intro c12 c12b0 c12b1 H; revert H; refine spe01 ?_ ?_
      ·intro c13b0 c13b1 H; have H' := am H; clear H; have p5 : 0 ≤ (x8_1 : Int) := apD; have q5 : x8_1 < (a0.size : Int) := apD; have hx5 := bt_at a0 x8_1; replace p5 := eq_true p5; replace q5 := eq_true q5; go_wp2; go_roundg k1; (case measure => have := HK1.out; omega); case rel => exact ⟨(wrap64 (x8_1 + 1)), ap2, H', ⟨by have := HK1.out; omega⟩, ap7⟩
      ·intro c13 c13b0 c13b1 H; revert H; refine spd00 ?_ ?_
       ·intro c14b0 H; obtain rfl := Option.some.inj H; have p5 : 0 ≤ (x8_1 : Int) := apD; have q5 : x8_1 < (a0.size : Int) := apD; have hx5 := bt_at a0 x8_1; replace p5 := eq_true p5; replace q5 := eq_true q5; go_wp2; go_ret; exact ⟨ap2, ap7⟩
       ·intro c14b0 H; revert H; refine spd00 ?_ ?_
        ·intro c15b0 H; obtain rfl := Option.some.inj H; have p5 : 0 ≤ (x8_1 : Int) := apD; have q5 : x8_1 < (a0.size : Int) := apD; have hx5 := bt_at a0 x8_1; replace p5 := eq_true p5; replace q5 := eq_true q5; go_wp2; go_ret; exact ⟨ap2, ap7⟩
        ·intro c15b0 H; have H' := am H; clear H; have p5 : 0 ≤ (x8_1 : Int) := apD; have q5 : x8_1 < (a0.size : Int) := apD; have hx5 := bt_at a0 x8_1; replace p5 := eq_true p5; replace q5 := eq_true q5; go_wp2; go_roundg k1; (case measure => have := HK1.out; omega); case rel => exact ⟨(wrap64 (x8_1 + 1)), ap2, H', ⟨by have := HK1.out; omega⟩, ap7⟩
   ·intro c2b0 H; revert H; refine spe01 ?_ ?_
    ·intro c16b0 c16b1 H; obtain rfl := Option.some.inj H; go_wp2; go_ret; exact ⟨ap2, ap7⟩
    ·intro c16 c16b0 c16b1 H; obtain rfl := Option.some.inj H; go_wp2; go_ret; exact ⟨ap2, ap7⟩
def IsS120 (w0 W : World) (g : Nat) (f0 : ByteArray) (f1 : Int) : Prop := W.heap[g]? = some (.cells #[.string f0, .int .i64 f1] 120 (0, 0)) ∧ w0.heap.size ≤ g
theorem IsS120.grown {w0 W : World} {g : Nat} {f0 : ByteArray} {f1 : Int} {W1 : World} {row : Option Nat} (h : IsS120 w0 W g f0 f1) (hw : W.grownBy W1 row) (hne : some g ≠ row) : IsS120 w0 W1 g f0 f1 := by
 obtain ⟨hb, hg⟩ := h; exact ⟨blk_grown hb hw hne, hg⟩
theorem IsS120.fresh {w0 W : World} {g : Nat} {f0 : ByteArray} {f1 : Int} (h : IsS120 w0 W g f0 f1) : ∀ k, W.heap.size ≤ k → k ≠ g := by
 obtain ⟨hb, hg⟩ := h; exact Kd.freshB hb
theorem IsS120.kept {w0 W : World} {g : Nat} {f0 : ByteArray} {f1 : Int} {W1 : World} {S : Nat → Prop} (h : IsS120 w0 W g f0 f1) (hk : Kept W W1 S) (hne : ¬ S g) : IsS120 w0 W1 g f0 f1 := by
 obtain ⟨hb, hg⟩ := h; exact ⟨blk_kept hb hk hne, hg⟩
theorem IsS120.below {w0 W : World} {g : Nat} {f0 : ByteArray} {f1 : Int} {W1 : World} (h : IsS120 w0 W g f0 f1) (hw : Below W.heap.size W W1) : IsS120 w0 W1 g f0 f1 := h.grown (grown_of_below hw none) (by simp)
theorem IsS120.alloc {w0 W : World} {g : Nat} {f0 : ByteArray} {f1 : Int} (h : IsS120 w0 W g f0 f1) (o : Obj) : IsS120 w0 (W.alloc o) g f0 f1 := h.below (below_alloc (Below.refl _ _) o)
theorem IsS120.drewN {w0 W : World} {g : Nat} {f0 : ByteArray} {f1 : Int} (h : IsS120 w0 W g f0 f1) (m : Nat) : IsS120 w0 (W.drewN m) g f0 f1 := h
theorem IsS120.drew {w0 W : World} {g : Nat} {f0 : ByteArray} {f1 : Int} (h : IsS120 w0 W g f0 f1) : IsS120 w0 W.drew g f0 f1 := h
theorem IsS120.at_ {w0 W : World} {g : Nat} {f0 : ByteArray} {f1 : Int} {w' : World} {m : Nat} (hq : W.drewN m = w') (h : IsS120 w0 W g f0 f1) : IsS120 w0 w' g f0 f1 := by subst hq; exact IsS120.drewN h m
theorem IsS120.apart {w0 W : World} {g : Nat} {f0 : ByteArray} {f1 : Int} {α : Type} {d : Kd α} {e : Nat} {base : Nat} {ok : Nat → Prop} {v : Value} {xs : List α} (h : IsS120 w0 W g f0 f1) (ho : d.R e W base ok v xs) (ht : ∀ q, q ∈ e :: d.E → q ≠ 120) : d.R e W base (fun k => ok k ∧ k ≠ g) v xs := by
 obtain ⟨hb, hg⟩ := h; exact Kd.R_types ho hb ht
theorem IsS120.own_ne {w0 W : World} {g : Nat} {f0 : ByteArray} {f1 : Int} {α : Type} {d : Kd α} {e : Nat} {base : Nat} {ok : Nat → Prop} {v : Value} {xs : List α} (h : IsS120 w0 W g f0 f1) (ho : d.R e W base ok v xs) (ht : e ≠ 120) : some g ≠ v.ownBlock := by
 obtain ⟨hb, hg⟩ := h; exact Kd.R_ne ho hb ht
theorem IsS120.apartS {w0 W : World} {g : Nat} {f0 : ByteArray} {f1 : Int} {α : Type} {d : Kd α} {e : Nat} {base : Nat} {ok : Nat → Prop} {v : Value} {xs : List α} (h : IsS120 w0 W g f0 f1) (ho : d.S e W base ok v xs) (ht : ∀ q, q ∈ e :: d.E → q ≠ 120) : d.S e W base (fun k => ok k ∧ k ≠ g) v xs := by
 obtain ⟨hb, hg⟩ := h; exact Kd.S_types ho hb ht
theorem IsS120.own_neS {w0 W : World} {g : Nat} {f0 : ByteArray} {f1 : Int} {α : Type} {d : Kd α} {e : Nat} {base : Nat} {ok : Nat → Prop} {v : Value} {xs : List α} (h : IsS120 w0 W g f0 f1) (ho : d.S e W base ok v xs) (ht : e ≠ 120) : some g ≠ v.ownBlock := by
 obtain ⟨hb, hg⟩ := h; exact Kd.S_ne ho hb ht
theorem IsS120.lt {w0 W : World} {g : Nat} {f0 : ByteArray} {f1 : Int} (h : IsS120 w0 W g f0 f1) : g < W.heap.size := by
 obtain ⟨hb, hg⟩ := h; exact blk_lt hb
theorem IsS120.ge {w0 W : World} {g : Nat} {f0 : ByteArray} {f1 : Int} (h : IsS120 w0 W g f0 f1) : w0.heap.size ≤ g := by
 obtain ⟨hb, hg⟩ := h; exact hg
theorem cellS120_0 {W : World} {g : Nat} {f0 : ByteArray} {f1 : Int} (h : W.heap[g]? = some (.cells #[.string f0, .int .i64 f1] 120 (0, 0))) : W.cell? ⟨g, 0, none⟩ = some (.string f0) := (blk_cell h 0).trans rfl
theorem IsS120.set_0 {w0 W : World} {g : Nat} {f0 : ByteArray} {f1 : Int} (h : IsS120 w0 W g f0 f1) (x : ByteArray) : IsS120 w0 (W.setCell ⟨g, 0, none⟩ (.string x)) g x f1 := by
 obtain ⟨hb, hg⟩ := h; exact ⟨by simpa using blk_set hb 0 (.string x), hg⟩
theorem cellS120_1 {W : World} {g : Nat} {f0 : ByteArray} {f1 : Int} (h : W.heap[g]? = some (.cells #[.string f0, .int .i64 f1] 120 (0, 0))) : W.cell? ⟨g, 1, none⟩ = some (.int .i64 f1) := (blk_cell h 1).trans rfl
theorem IsS120.set_1 {w0 W : World} {g : Nat} {f0 : ByteArray} {f1 : Int} (h : IsS120 w0 W g f0 f1) (x : Int) : IsS120 w0 (W.setCell ⟨g, 1, none⟩ (.int .i64 x)) g f0 x := by
 obtain ⟨hb, hg⟩ := h; exact ⟨by simpa using blk_set hb 1 (.int .i64 x), hg⟩
theorem IsS120.new (w0 W : World) (f0 : ByteArray) (f1 : Int) (hB : Below w0.heap.size w0 W) : IsS120 w0 (W.alloc (.cells #[.string f0, .int .i64 f1] 120)) W.heap.size f0 f1 := ⟨by simpa using heap_alloc_new W _, hB.size⟩
def Dxblanks.l0 : Nat → ByteArray → Int → Option (ByteArray × Int)
 | 0, _, _ => none
 | k + 1, x1000, x1001 => if x1001 < (x1000.size : Int) then (if 0 ≤ x1001 then (if (bt x1000 x1001) = 32 then (Dxblanks.l0 k x1000 (wrap64 (x1001 + 1))) else (some (x1000, x1001))) else (none)) else (some (x1000, x1001))
def Dxblanks.f (k : Nat) (s0_0 : ByteArray) (s0_1 : Int) : Option (ByteArray × Int) := Dxblanks.l0 k s0_0 s0_1
theorem Dxblanks.mono_l : ∀ k, (∀ y0 y1, LeO (Dxblanks.l0 k y0 y1) (Dxblanks.l0 (k + 1) y0 y1))
 | 0 => fun _ _ r h => by simp [Dxblanks.l0] at h
 | k + 1 => by
  have ih0 := Dxblanks.mono_l k
  ·
   intro y0 y1
   unfold Dxblanks.l0
   repeat' first
   | (with_reducible exact ih0 _ _)
   | (with_reducible exact LeO.refl _)
   | (with_reducible exact LeO.none _)
   | (with_reducible refine LeO.ite ?_ ?_)
   | (with_reducible refine LeO.bind ?_ (fun _ => ?_))
theorem Dxblanks.mono : ∀ a0 a1 k, LeO (Dxblanks.f k a0 a1) (Dxblanks.f (k + 1) a0 a1) := by
 intro a0 a1 k; have ih0 := Dxblanks.mono_l k; unfold Dxblanks.f; repeat' first
   | (with_reducible exact ih0 _ _)
   | (with_reducible exact LeO.refl _)
   | (with_reducible exact LeO.none _)
   | (with_reducible refine LeO.ite ?_ ?_)
   | (with_reducible refine LeO.bind ?_ (fun _ => ?_))
set_option maxHeartbeats 8000000 in
set_option maxRecDepth 100000 in
theorem Dxblanks.calls (k : Nat) (g : Nat) (s0_0 : ByteArray) (s0_1 : Int) (r1 : ByteArray) (r2 : Int) (w0 w : World) (hI : IsS120 w0 w g s0_0 s0_1) (hB : Below w0.heap.size w0 w) (h : Dxblanks.f k s0_0 s0_1 = some (r1, r2)) :
  Calls Tryz.prog 96 #[.pointer (some ⟨g, 0, none⟩)] w fun e w' => e = .returned (.tuple #[]) ∧ IsS120 w0 w' g r1 r2 ∧ Below w0.heap.size w0 w' ∧ KeepBut w w' g none := by
 have HI0 := am hI
 have HK := am (KeepBut.refl w g none)
 have HL := am hB.size
 clear hI
 have HW0 := am hB.size
 have HB := am hB
 clear hB
 have H : (Dxblanks.l0 k s0_0 s0_1) = some (r1, r2) := h
 clear h
 have H' := am H
 clear H
 go_enter Tryz.func96, Tryz.ntmps96
 go_wp2
 repeat (go_quiet (fail); try go_wp2)
 go_loopg [] k (fun kq w' => ∃ (x1001_1 : Int), Aside0 (Dxblanks.l0 kq s0_0 x1001_1 = some (r1, r2)) ∧ Aside0 (kq ≤ k) ∧ Aside0 (IsS120 w0 w' g s0_0 x1001_1) ∧ Aside0 (KeepBut w w' g none) ∧ Aside0 (Below w0.heap.size w0 w'))
 case atStart => exact ⟨(s0_1), H', ⟨Nat.le_refl _⟩, ⟨apI120 HI0.out⟩, ⟨ap5⟩, ⟨apG1 (IsS120.ge HI0.out)⟩⟩
 case round =>
  clear H'; obtain ⟨x1001_1, HA, HK1, HI0, HK, HB⟩ := hrel; cases gk with
  | zero => exact absurd HA.out (by simp [Dxblanks.l0])
  | succ k1 =>
   have H := HA.out; clear HA; simp only [Dxblanks.l0] at H; revert H; refine spd00 ?_ ?_
   ·intro c2b0 H; revert H; refine spn0 ?_; intro c3b0 H; revert H; refine spe01 ?_ ?_
    ·intro c5b0 c5b1 H; have H' := am H; clear H; obtain ⟨HGz6, hgz6⟩ := HI0.out; have hcz6_0 := cellS120_0 HGz6; have hcz6_1 := cellS120_1 HGz6; have hfz6_0 := blk_frozen HGz6 0; have hfz6_1 := blk_frozen HGz6 1; clear HGz6 hgz6; have p4 : 0 ≤ (x1001_1 : Int) := apD; have q4 : x1001_1 < (s0_0.size : Int) := apD; have hx4 := bt_at s0_0 x1001_1; replace p4 := eq_true p4; replace q4 := eq_true q4; go_wp2; (repeat (go_quiet (fail); try go_wp2)); go_roundg k1; (case measure => have := HK1.out; omega); case rel => exact ⟨(wrap64 (x1001_1 + 1)), H', ⟨by have := HK1.out; omega⟩, ⟨apI120 HI0.out⟩, ⟨ap5⟩, ⟨apG1 (IsS120.ge HI0.out)⟩⟩
    ·intro c5 c5b0 c5b1 H; simp only [Option.some.injEq, Prod.mk.injEq] at H; obtain ⟨rfl, rfl⟩ := H; obtain ⟨HGz7, hgz7⟩ := HI0.out; have hcz7_0 := cellS120_0 HGz7; have hcz7_1 := cellS120_1 HGz7; have hfz7_0 := blk_frozen HGz7 0; have hfz7_1 := blk_frozen HGz7 1; clear HGz7 hgz7; have p4 : 0 ≤ (x1001_1 : Int) := apD; have q4 : x1001_1 < (s0_0.size : Int) := apD; have hx4 := bt_at s0_0 x1001_1; replace p4 := eq_true p4; replace q4 := eq_true q4; go_wp2; (repeat (go_quiet (fail); try go_wp2)); (first | go_end0 | ((try simp only [Exit.inBlock, Exit.then]); refine bodyPost_ret (results_none rfl _ _ _) rfl ?_)); exact ⟨ap9, apI120 HI0.out, apG1 (IsS120.ge HI0.out), ap5⟩
   ·intro c2b0 H; simp only [Option.some.injEq, Prod.mk.injEq] at H; obtain ⟨rfl, rfl⟩ := H; obtain ⟨HGz8, hgz8⟩ := HI0.out; have hcz8_0 := cellS120_0 HGz8; have hcz8_1 := cellS120_1 HGz8; have hfz8_0 := blk_frozen HGz8 0; have hfz8_1 := blk_frozen HGz8 1; clear HGz8 hgz8; go_wp2; (repeat (go_quiet (fail); try go_wp2)); (first | go_end0 | ((try simp only [Exit.inBlock, Exit.then]); refine bodyPost_ret (results_none rfl _ _ _) rfl ?_)); exact ⟨ap9, apI120 HI0.out, apG1 (IsS120.ge HI0.out), ap5⟩
end Go.Proofs.YtpklcnpmppaaoaaGreatDoor.Print
namespace Go.Proofs.YtpklcnpmppaaoaaGreatDoor.Print
open Go.RowKit Go.Proofs.YtpklcnpmppaaoaaGreatDoorW.PrintWords
def attrTab : List (ByteArray × Int × Bool) := [(⟨#[99, 110]⟩, 1, false), (⟨#[100, 99]⟩, 1, false), (⟨#[100, 101, 115, 99, 114, 105, 112, 116, 105, 111, 110]⟩, 1, false), (⟨#[101, 110, 97, 98, 108, 101, 100]⟩, 5, true), (⟨#[108]⟩, 1, false), (⟨#[108, 105, 109, 105, 116]⟩, 4, false), (⟨#[109, 97, 105, 108]⟩, 1, false), (⟨#[109, 101, 109, 98, 101, 114]⟩, 6, false), (⟨#[111]⟩, 1, false), (⟨#[111, 98, 106, 101, 99, 116, 99, 108, 97, 115, 115]⟩, 1, false), (⟨#[111, 117]⟩, 1, false), (⟨#[112, 104, 111, 116, 111]⟩, 3, false), (⟨#[115, 101, 101, 97, 108, 115, 111]⟩, 6, false), (⟨#[115, 101, 114, 105, 97, 108, 110, 117, 109, 98, 101, 114]⟩, 2, false), (⟨#[115, 110]⟩, 1, false), (⟨#[116, 101, 108, 101, 112, 104, 111, 110, 101, 110, 117, 109, 98, 101, 114]⟩, 7, false), (⟨#[116, 105, 116, 108, 101]⟩, 1, false), (⟨#[117, 105, 100]⟩, 1, false), (⟨#[117, 105, 100, 110, 117, 109, 98, 101, 114]⟩, 4, true), (⟨#[117, 115, 101, 114, 112, 97, 115, 115, 119, 111, 114, 100]⟩, 3, false)]
def attrCells : Array Value := (attrTab.flatMap fun x => [Value.string x.1, Value.int .i64 x.2.1, Value.bool x.2.2]).toArray
structure Gw (w : World) : Prop where
 maxLen : ∃ m : Int, w.cell? ⟨1, 0, none⟩ = some (.int .i64 m)
 tabs : Lib.Utf8Tabs 4 5 w
 types : ∃ t fr, w.heap[0]? = some (.cells attrCells t fr)
theorem Gw.below {w W : World} (h : Gw w) (hb : Below w.heap.size w W) : Gw W := by
 obtain ⟨m, hm⟩ := h.maxLen; obtain ⟨t, fr, ht⟩ := h.types; exact ⟨⟨m, (hb.cell (World.block_lt_of_cell? w _ hm)).trans hm⟩, Utf8Tabs_below h.tabs hb, t, fr, (hb.block _ (blk_lt ht)).trans ht⟩
theorem Gw.drawn {w W : World} (h : Gw w) (hb : Drawn0 w W) : Gw W := h.below hb.below
theorem Gw.drewN {w : World} (h : Gw w) (n : Nat) : Gw (w.drewN n) := h.drawn ⟨⟨n, rfl⟩⟩
theorem Gw.alloc {w : World} (h : Gw w) (o : Obj) : Gw (w.alloc o) := h.below (below_alloc (Below.refl _ _) o)
end Go.Proofs.YtpklcnpmppaaoaaGreatDoor.Print
namespace Go.Proofs
open Go.Shelf
def Tryz.lays145_ren : Go.Shelf.Ren := ⟨fun | 145 => 36 | 220 => 60 | 219 => 92 | 217 => 116 | 225 => 117 | 224 => 118 | 267 => 119 | 266 => 138 | 314 => 139 | n => n, fun | 9 => 9 | 4 => 4 | 59 => 59 | 3 => 3 | 5 => 5 | 46 => 68 | 146 => 153 | 51 => 152 | n => n, fun | 1 => 1 | n => n⟩
theorem Tryz.lays145 : Go.Proofs.Lays.n145 Tryz.prog Tryz.lays145_ren := {
  mixed := by kernel_rfl
  f145 := Tryz.func36.trans (congrArg some (by kernel_rfl))
  f217 := Tryz.func116.trans (congrArg some (by kernel_rfl))
  f219 := Tryz.func92.trans (congrArg some (by kernel_rfl))
  f220 := Tryz.func60.trans (congrArg some (by kernel_rfl))
  f224 := Tryz.func118.trans (congrArg some (by kernel_rfl))
  f225 := Tryz.func117.trans (congrArg some (by kernel_rfl))
  f266 := Tryz.func138.trans (congrArg some (by kernel_rfl))
  f267 := Tryz.func119.trans (congrArg some (by kernel_rfl))
  f314 := Tryz.func139.trans (congrArg some (by kernel_rfl))
  t3 := Tryz.underlying3
  a3 := Tryz.isAgg3
  z3 := Tryz.sizeOf3
  v3 := Tryz.zeroValue3
  t4 := Tryz.underlying4
  a4 := Tryz.isAgg4
  z4 := Tryz.sizeOf4
  v4 := Tryz.zeroValue4
  t5 := Tryz.underlying5
  a5 := Tryz.isAgg5
  z5 := Tryz.sizeOf5
  v5 := Tryz.zeroValue5
  t9 := Tryz.underlying9
  a9 := Tryz.isAgg9
  z9 := Tryz.sizeOf9
  v9 := Tryz.zeroValue9
  t46 := Tryz.underlying68
  a46 := Tryz.isAgg68
  z46 := Tryz.sizeOf68
  v46 := Tryz.zeroValue68
  t51 := Tryz.underlying152
  a51 := Tryz.isAgg152
  z51 := Tryz.sizeOf152
  v51 := Tryz.zeroValue152
  t59 := Tryz.underlying59
  a59 := Tryz.isAgg59
  z59 := Tryz.sizeOf59
  v59 := Tryz.zeroValue59
  t146 := Tryz.underlying153
  a146 := Tryz.isAgg153
  z146 := Tryz.sizeOf153
  v146 := Tryz.zeroValue153
  g1 := by kernel_rfl }
open Go.RowKit Go.Lib in
theorem Tryz.strings_Cut (s sep : ByteArray) (m : Int) (w : World) (hs : s.size < 4294967281) (hm : w.cell? ⟨1, 0, none⟩ = some (.int .i64 m)) :
    Calls Tryz.prog 36 #[.string s, .string sep] w fun e w' => e = .returned (.tuple #[.string ⟨(Lib.cut s.data.toList sep.data.toList).1.toArray⟩, .string ⟨(Lib.cut s.data.toList sep.data.toList).2.1.toArray⟩, .bool (Lib.cut s.data.toList sep.data.toList).2.2]) ∧ ∃ n, w' = w.drewN n := Any.strings_Cut Tryz.lays145 s sep m w hs hm
def Tryz.lays137_ren : Go.Shelf.Ren := ⟨fun | 137 => 143 | 217 => 116 | 266 => 138 | n => n, fun | 9 => 9 | 5 => 5 | 3 => 3 | n => n, fun | n => n⟩
theorem Tryz.lays137 : Go.Proofs.Lays.n137 Tryz.prog Tryz.lays137_ren := {
  mixed := by kernel_rfl
  f137 := Tryz.func143.trans (congrArg some (by kernel_rfl))
  f217 := Tryz.func116.trans (congrArg some (by kernel_rfl))
  f266 := Tryz.func138.trans (congrArg some (by kernel_rfl))
  t3 := Tryz.underlying3
  a3 := Tryz.isAgg3
  z3 := Tryz.sizeOf3
  v3 := Tryz.zeroValue3
  t5 := Tryz.underlying5
  a5 := Tryz.isAgg5
  z5 := Tryz.sizeOf5
  v5 := Tryz.zeroValue5
  t9 := Tryz.underlying9
  a9 := Tryz.isAgg9
  z9 := Tryz.sizeOf9
  v9 := Tryz.zeroValue9 }
open Go.RowKit in
theorem Tryz.strings_IndexByte (s : ByteArray) (c : Int) (w : World) :
    Calls Tryz.prog 143 #[.string s, .int .u8 c] w fun e w' => e = .returned (.int .i64 (Lib.indexByte s.data.toList c.toNat.toUInt8)) ∧ w' = w := Any.strings_IndexByte Tryz.lays137 s c w
def Tryz.lays156_ren : Go.Shelf.Ren := ⟨fun | 156 => 71 | 165 => 101 | 166 => 102 | 169 => 89 | 240 => 114 | 241 => 128 | 276 => 136 | 277 => 151 | n => n, fun | 31 => 31 | 9 => 9 | 3 => 3 | 4 => 4 | 0 => 0 | 20 => 20 | 72 => 110 | 76 => 51 | 70 => 108 | 37 => 82 | 75 => 50 | 127 => 137 | 164 => 150 | 5 => 5 | 80 => 112 | n => n, fun | n => n⟩
theorem Tryz.Builder_Extra_156 : Builder.Extra Tryz.prog Tryz.lays156_ren := {
  sizeBuilder := by kernel_rfl
  liesBuilder := by kernel_rfl
  t5 := Tryz.underlying5
  a5 := Tryz.isAgg5
  z5 := Tryz.sizeOf5
  v5 := Tryz.zeroValue5
  infoByte := by kernel_rfl
  cellsByte := by kernel_rfl
  sizeByte := by kernel_rfl
  neB5 := by decide }
theorem Tryz.lays156 : Go.Proofs.Lays.n156 Tryz.prog Tryz.lays156_ren := {
  mixed := by kernel_rfl
  f156 := Tryz.func71.trans (congrArg some (by kernel_rfl))
  f165 := Tryz.func101.trans (congrArg some (by kernel_rfl))
  f166 := Tryz.func102.trans (congrArg some (by kernel_rfl))
  f169 := Tryz.func89.trans (congrArg some (by kernel_rfl))
  f240 := Tryz.func114.trans (congrArg some (by kernel_rfl))
  f241 := Tryz.func128.trans (congrArg some (by kernel_rfl))
  f276 := Tryz.func136.trans (congrArg some (by kernel_rfl))
  f277 := Tryz.func151.trans (congrArg some (by kernel_rfl))
  t0 := Tryz.underlying0
  a0 := Tryz.isAgg0
  z0 := Tryz.sizeOf0
  v0 := Tryz.zeroValue0
  t3 := Tryz.underlying3
  a3 := Tryz.isAgg3
  z3 := Tryz.sizeOf3
  v3 := Tryz.zeroValue3
  t4 := Tryz.underlying4
  a4 := Tryz.isAgg4
  z4 := Tryz.sizeOf4
  v4 := Tryz.zeroValue4
  t9 := Tryz.underlying9
  a9 := Tryz.isAgg9
  z9 := Tryz.sizeOf9
  v9 := Tryz.zeroValue9
  t20 := Tryz.underlying20
  a20 := Tryz.isAgg20
  z20 := Tryz.sizeOf20
  v20 := Tryz.zeroValue20
  t31 := Tryz.underlying31
  a31 := Tryz.isAgg31
  z31 := Tryz.sizeOf31
  v31 := Tryz.zeroValue31
  t37 := Tryz.underlying82
  a37 := Tryz.isAgg82
  z37 := Tryz.sizeOf82
  v37 := Tryz.zeroValue82
  t70 := Tryz.underlying108
  a70 := Tryz.isAgg108
  z70 := Tryz.sizeOf108
  v70 := Tryz.zeroValue108
  t72 := Tryz.underlying110
  a72 := Tryz.isAgg110
  z72 := Tryz.sizeOf110
  v72 := Tryz.zeroValue110
  t75 := Tryz.underlying50
  a75 := Tryz.isAgg50
  z75 := Tryz.sizeOf50
  v75 := Tryz.zeroValue50
  t76 := Tryz.underlying51
  a76 := Tryz.isAgg51
  z76 := Tryz.sizeOf51
  v76 := Tryz.zeroValue51
  t127 := Tryz.underlying137
  a127 := Tryz.isAgg137
  z127 := Tryz.sizeOf137
  v127 := Tryz.zeroValue137
  t164 := Tryz.underlying150
  a164 := Tryz.isAgg150
  z164 := Tryz.sizeOf150
  v164 := Tryz.zeroValue150 }
open Go.RowKit in
theorem Tryz.strings_Join (bk o c : Nat) (xs : List ByteArray) (sep : ByteArray) (w : World) (hcells : ∀ (j : Nat) x, xs[j]? = some x → w.cell? ⟨bk, o + j, none⟩ = some (.string x)) (hbk : bk < w.heap.size) (hN : xs.length ≤ 140737488355328) (hcap : xs.length ≤ c) (hlen : (Lib.join (xs.map (·.data.toList)) sep.data.toList).length ≤ 140737488355328) :
    Calls Tryz.prog 71 #[.slice (some ⟨bk, o, none⟩) xs.length c, .string sep] w fun e w' => e = .returned (.string ⟨(Lib.join (xs.map (·.data.toList)) sep.data.toList).toArray⟩) ∧ Below w.heap.size w w' := Any.strings_Join Tryz.lays156 Tryz.Builder_Extra_156 bk o c xs sep w hcells hbk hN hcap hlen
open Go.RowKit in
theorem Tryz.strings_Join_none (a : Option Addr) (c : Nat) (sep : ByteArray) (w : World) :
    Calls Tryz.prog 71 #[.slice a 0 c, .string sep] w fun e w' => e = .returned (.string ⟨#[]⟩) ∧ w' = w := Any.strings_Join_none Tryz.lays156 Tryz.Builder_Extra_156 a c sep w
def Tryz.lays230_ren : Go.Shelf.Ren := ⟨fun | 230 => 141 | 197 => 135 | 118 => 156 | 165 => 101 | 166 => 102 | 168 => 88 | 270 => 157 | 167 => 158 | 169 => 89 | 260 => 155 | 240 => 114 | 241 => 128 | 242 => 115 | 276 => 136 | 277 => 151 | 278 => 137 | n => n, fun | 107 => 85 | 9 => 9 | 72 => 110 | 0 => 0 | 4 => 4 | 3 => 3 | 21 => 21 | 105 => 148 | 76 => 51 | 5 => 5 | 75 => 50 | 70 => 108 | 20 => 20 | 37 => 82 | 127 => 137 | 119 => 181 | 46 => 68 | 139 => 184 | 138 => 183 | 164 => 150 | 51 => 152 | 80 => 112 | n => n, fun | 3 => 4 | 4 => 5 | n => n⟩
theorem Tryz.Builder_Extra_230 : Builder.Extra Tryz.prog Tryz.lays230_ren := {
  sizeBuilder := by kernel_rfl
  liesBuilder := by kernel_rfl
  t5 := Tryz.underlying5
  a5 := Tryz.isAgg5
  z5 := Tryz.sizeOf5
  v5 := Tryz.zeroValue5
  infoByte := by kernel_rfl
  cellsByte := by kernel_rfl
  sizeByte := by kernel_rfl
  neB5 := by decide }
theorem Tryz.lays230 : Go.Proofs.Lays.n230 Tryz.prog Tryz.lays230_ren := {
  mixed := by kernel_rfl
  f118 := Tryz.func156.trans (congrArg some (by kernel_rfl))
  f165 := Tryz.func101.trans (congrArg some (by kernel_rfl))
  f166 := Tryz.func102.trans (congrArg some (by kernel_rfl))
  f167 := Tryz.func158.trans (congrArg some (by kernel_rfl))
  f168 := Tryz.func88.trans (congrArg some (by kernel_rfl))
  f169 := Tryz.func89.trans (congrArg some (by kernel_rfl))
  f197 := Tryz.func135.trans (congrArg some (by kernel_rfl))
  f230 := Tryz.func141.trans (congrArg some (by kernel_rfl))
  f240 := Tryz.func114.trans (congrArg some (by kernel_rfl))
  f241 := Tryz.func128.trans (congrArg some (by kernel_rfl))
  f242 := Tryz.func115.trans (congrArg some (by kernel_rfl))
  f260 := Tryz.func155.trans (congrArg some (by kernel_rfl))
  f270 := Tryz.func157.trans (congrArg some (by kernel_rfl))
  f276 := Tryz.func136.trans (congrArg some (by kernel_rfl))
  f277 := Tryz.func151.trans (congrArg some (by kernel_rfl))
  f278 := Tryz.func137.trans (congrArg some (by kernel_rfl))
  t0 := Tryz.underlying0
  a0 := Tryz.isAgg0
  z0 := Tryz.sizeOf0
  v0 := Tryz.zeroValue0
  t3 := Tryz.underlying3
  a3 := Tryz.isAgg3
  z3 := Tryz.sizeOf3
  v3 := Tryz.zeroValue3
  t4 := Tryz.underlying4
  a4 := Tryz.isAgg4
  z4 := Tryz.sizeOf4
  v4 := Tryz.zeroValue4
  t5 := Tryz.underlying5
  a5 := Tryz.isAgg5
  z5 := Tryz.sizeOf5
  v5 := Tryz.zeroValue5
  t9 := Tryz.underlying9
  a9 := Tryz.isAgg9
  z9 := Tryz.sizeOf9
  v9 := Tryz.zeroValue9
  t20 := Tryz.underlying20
  a20 := Tryz.isAgg20
  z20 := Tryz.sizeOf20
  v20 := Tryz.zeroValue20
  t21 := Tryz.underlying21
  a21 := Tryz.isAgg21
  z21 := Tryz.sizeOf21
  v21 := Tryz.zeroValue21
  t37 := Tryz.underlying82
  a37 := Tryz.isAgg82
  z37 := Tryz.sizeOf82
  v37 := Tryz.zeroValue82
  t46 := Tryz.underlying68
  a46 := Tryz.isAgg68
  z46 := Tryz.sizeOf68
  v46 := Tryz.zeroValue68
  t51 := Tryz.underlying152
  a51 := Tryz.isAgg152
  z51 := Tryz.sizeOf152
  v51 := Tryz.zeroValue152
  t70 := Tryz.underlying108
  a70 := Tryz.isAgg108
  z70 := Tryz.sizeOf108
  v70 := Tryz.zeroValue108
  t72 := Tryz.underlying110
  a72 := Tryz.isAgg110
  z72 := Tryz.sizeOf110
  v72 := Tryz.zeroValue110
  t75 := Tryz.underlying50
  a75 := Tryz.isAgg50
  z75 := Tryz.sizeOf50
  v75 := Tryz.zeroValue50
  t76 := Tryz.underlying51
  a76 := Tryz.isAgg51
  z76 := Tryz.sizeOf51
  v76 := Tryz.zeroValue51
  t105 := Tryz.underlying148
  a105 := Tryz.isAgg148
  z105 := Tryz.sizeOf148
  v105 := Tryz.zeroValue148
  t107 := Tryz.underlying85
  a107 := Tryz.isAgg85
  z107 := Tryz.sizeOf85
  v107 := Tryz.zeroValue85
  t119 := Tryz.underlying181
  a119 := Tryz.isAgg181
  z119 := Tryz.sizeOf181
  t127 := Tryz.underlying137
  a127 := Tryz.isAgg137
  z127 := Tryz.sizeOf137
  v127 := Tryz.zeroValue137
  t138 := Tryz.underlying183
  a138 := Tryz.isAgg183
  z138 := Tryz.sizeOf183
  v138 := Tryz.zeroValue183
  t139 := Tryz.underlying184
  a139 := Tryz.isAgg184
  z139 := Tryz.sizeOf184
  v139 := Tryz.zeroValue184
  t164 := Tryz.underlying150
  a164 := Tryz.isAgg150
  z164 := Tryz.sizeOf150
  v164 := Tryz.zeroValue150
  g3 := by kernel_rfl
  g4 := by kernel_rfl }
open Go.RowKit Go.Lib in
theorem Tryz.strings_Map_grows (g : Nat) (lb : Array Value) (eg : ∀ args w, (callFunc g args).run Tryz.prog w = .ok (.enter g args) w) (f : Int → Int) (s : ByteArray) (w : World) (hs : s.size < 35184372088832) (hf : MapGrows Tryz.prog g lb f w) (hnn : ∀ x : Nat, x ≤ 1114111 → -2147483648 ≤ f x ∧ f x ≤ 2147483647) (hT : Lib.Utf8Tabs 4 5 w) :
    Calls Tryz.prog 141 #[.func (.func g) #[] lb, .string s] w fun e w' => e = .returned (.string ⟨(Lib.mapD f s.data.toList).toArray⟩) ∧ Below w.heap.size w w' := Any.strings_Map_grows Tryz.lays230 Tryz.Builder_Extra_230 g lb eg f s w hs hf hnn hT
def Tryz.lays155_ren : Go.Shelf.Ren := ⟨fun | 155 => 83 | 154 => 112 | 138 => 133 | 165 => 101 | 143 => 134 | 166 => 102 | 197 => 135 | 169 => 89 | 195 => 153 | 218 => 154 | 240 => 114 | 241 => 128 | 219 => 92 | 260 => 155 | 276 => 136 | 277 => 151 | 217 => 116 | 225 => 117 | 224 => 118 | 267 => 119 | 266 => 138 | 314 => 139 | n => n, fun | 9 => 9 | 3 => 3 | 4 => 4 | 72 => 110 | 0 => 0 | 76 => 51 | 105 => 148 | 21 => 21 | 5 => 5 | 70 => 108 | 20 => 20 | 37 => 82 | 75 => 50 | 127 => 137 | 164 => 150 | 46 => 68 | 119 => 181 | 139 => 184 | 138 => 183 | 146 => 153 | 51 => 152 | 80 => 112 | n => n, fun | 1 => 1 | 3 => 4 | 4 => 5 | n => n⟩
theorem Tryz.Builder_Extra_155 : Builder.Extra Tryz.prog Tryz.lays155_ren := {
  sizeBuilder := by kernel_rfl
  liesBuilder := by kernel_rfl
  t5 := Tryz.underlying5
  a5 := Tryz.isAgg5
  z5 := Tryz.sizeOf5
  v5 := Tryz.zeroValue5
  infoByte := by kernel_rfl
  cellsByte := by kernel_rfl
  sizeByte := by kernel_rfl
  neB5 := by decide }
theorem Tryz.lays155 : Go.Proofs.Lays.n155 Tryz.prog Tryz.lays155_ren := {
  mixed := by kernel_rfl
  f138 := Tryz.func133.trans (congrArg some (by kernel_rfl))
  f143 := Tryz.func134.trans (congrArg some (by kernel_rfl))
  f154 := Tryz.func112.trans (congrArg some (by kernel_rfl))
  f155 := Tryz.func83.trans (congrArg some (by kernel_rfl))
  f165 := Tryz.func101.trans (congrArg some (by kernel_rfl))
  f166 := Tryz.func102.trans (congrArg some (by kernel_rfl))
  f169 := Tryz.func89.trans (congrArg some (by kernel_rfl))
  f195 := Tryz.func153.trans (congrArg some (by kernel_rfl))
  f197 := Tryz.func135.trans (congrArg some (by kernel_rfl))
  f217 := Tryz.func116.trans (congrArg some (by kernel_rfl))
  f218 := Tryz.func154.trans (congrArg some (by kernel_rfl))
  f219 := Tryz.func92.trans (congrArg some (by kernel_rfl))
  f224 := Tryz.func118.trans (congrArg some (by kernel_rfl))
  f225 := Tryz.func117.trans (congrArg some (by kernel_rfl))
  f240 := Tryz.func114.trans (congrArg some (by kernel_rfl))
  f241 := Tryz.func128.trans (congrArg some (by kernel_rfl))
  f260 := Tryz.func155.trans (congrArg some (by kernel_rfl))
  f266 := Tryz.func138.trans (congrArg some (by kernel_rfl))
  f267 := Tryz.func119.trans (congrArg some (by kernel_rfl))
  f276 := Tryz.func136.trans (congrArg some (by kernel_rfl))
  f277 := Tryz.func151.trans (congrArg some (by kernel_rfl))
  f314 := Tryz.func139.trans (congrArg some (by kernel_rfl))
  t0 := Tryz.underlying0
  a0 := Tryz.isAgg0
  z0 := Tryz.sizeOf0
  v0 := Tryz.zeroValue0
  t3 := Tryz.underlying3
  a3 := Tryz.isAgg3
  z3 := Tryz.sizeOf3
  v3 := Tryz.zeroValue3
  t4 := Tryz.underlying4
  a4 := Tryz.isAgg4
  z4 := Tryz.sizeOf4
  v4 := Tryz.zeroValue4
  t5 := Tryz.underlying5
  a5 := Tryz.isAgg5
  z5 := Tryz.sizeOf5
  v5 := Tryz.zeroValue5
  t9 := Tryz.underlying9
  a9 := Tryz.isAgg9
  z9 := Tryz.sizeOf9
  v9 := Tryz.zeroValue9
  t20 := Tryz.underlying20
  a20 := Tryz.isAgg20
  z20 := Tryz.sizeOf20
  v20 := Tryz.zeroValue20
  t21 := Tryz.underlying21
  a21 := Tryz.isAgg21
  z21 := Tryz.sizeOf21
  v21 := Tryz.zeroValue21
  t37 := Tryz.underlying82
  a37 := Tryz.isAgg82
  z37 := Tryz.sizeOf82
  v37 := Tryz.zeroValue82
  t46 := Tryz.underlying68
  a46 := Tryz.isAgg68
  z46 := Tryz.sizeOf68
  v46 := Tryz.zeroValue68
  t51 := Tryz.underlying152
  a51 := Tryz.isAgg152
  z51 := Tryz.sizeOf152
  v51 := Tryz.zeroValue152
  t70 := Tryz.underlying108
  a70 := Tryz.isAgg108
  z70 := Tryz.sizeOf108
  v70 := Tryz.zeroValue108
  t72 := Tryz.underlying110
  a72 := Tryz.isAgg110
  z72 := Tryz.sizeOf110
  v72 := Tryz.zeroValue110
  t75 := Tryz.underlying50
  a75 := Tryz.isAgg50
  z75 := Tryz.sizeOf50
  v75 := Tryz.zeroValue50
  t76 := Tryz.underlying51
  a76 := Tryz.isAgg51
  z76 := Tryz.sizeOf51
  v76 := Tryz.zeroValue51
  t105 := Tryz.underlying148
  a105 := Tryz.isAgg148
  z105 := Tryz.sizeOf148
  v105 := Tryz.zeroValue148
  t119 := Tryz.underlying181
  a119 := Tryz.isAgg181
  z119 := Tryz.sizeOf181
  t127 := Tryz.underlying137
  a127 := Tryz.isAgg137
  z127 := Tryz.sizeOf137
  v127 := Tryz.zeroValue137
  t138 := Tryz.underlying183
  a138 := Tryz.isAgg183
  z138 := Tryz.sizeOf183
  v138 := Tryz.zeroValue183
  t139 := Tryz.underlying184
  a139 := Tryz.isAgg184
  z139 := Tryz.sizeOf184
  v139 := Tryz.zeroValue184
  t146 := Tryz.underlying153
  a146 := Tryz.isAgg153
  z146 := Tryz.sizeOf153
  v146 := Tryz.zeroValue153
  t164 := Tryz.underlying150
  a164 := Tryz.isAgg150
  z164 := Tryz.sizeOf150
  v164 := Tryz.zeroValue150
  g1 := by kernel_rfl
  g3 := by kernel_rfl
  g4 := by kernel_rfl }
open Go.RowKit Go.Lib in
theorem Tryz.strings_ReplaceAll (s old new : ByteArray) (m : Int) (w : World) (hs : s.size < 4294967281) (hm : w.cell? ⟨1, 0, none⟩ = some (.int .i64 m)) (h1 : 1 ≤ old.size) (hlen : s.size + Lib.countB s old * new.size ≤ 140737488355328) :
    Calls Tryz.prog 83 #[.string s, .string old, .string new] w fun e w' =>
      e = .returned (.string ⟨(Lib.replaceAll s.data.toList old.data.toList new.data.toList).toArray⟩) ∧ Below w.heap.size w w' := Any.strings_ReplaceAll Tryz.lays155 Tryz.Builder_Extra_155 s old new m w hs hm h1 hlen
def Tryz.lays146_ren : Go.Shelf.Ren := ⟨fun | 146 => 94 | 221 => 120 | 268 => 140 | 138 => 133 | 143 => 134 | 195 => 153 | 197 => 135 | 218 => 154 | 219 => 92 | 260 => 155 | 217 => 116 | 225 => 117 | 224 => 118 | 267 => 119 | 266 => 138 | 314 => 139 | n => n, fun | 9 => 9 | 31 => 31 | 3 => 3 | 4 => 4 | 0 => 0 | 105 => 148 | 21 => 21 | 5 => 5 | 46 => 68 | 119 => 181 | 139 => 184 | 138 => 183 | 146 => 153 | 51 => 152 | n => n, fun | 1 => 1 | 3 => 4 | 4 => 5 | n => n⟩
theorem Tryz.lays146 : Go.Proofs.Lays.n146 Tryz.prog Tryz.lays146_ren := {
  mixed := by kernel_rfl
  f138 := Tryz.func133.trans (congrArg some (by kernel_rfl))
  f143 := Tryz.func134.trans (congrArg some (by kernel_rfl))
  f146 := Tryz.func94.trans (congrArg some (by kernel_rfl))
  f195 := Tryz.func153.trans (congrArg some (by kernel_rfl))
  f197 := Tryz.func135.trans (congrArg some (by kernel_rfl))
  f217 := Tryz.func116.trans (congrArg some (by kernel_rfl))
  f218 := Tryz.func154.trans (congrArg some (by kernel_rfl))
  f219 := Tryz.func92.trans (congrArg some (by kernel_rfl))
  f221 := Tryz.func120.trans (congrArg some (by kernel_rfl))
  f224 := Tryz.func118.trans (congrArg some (by kernel_rfl))
  f225 := Tryz.func117.trans (congrArg some (by kernel_rfl))
  f260 := Tryz.func155.trans (congrArg some (by kernel_rfl))
  f266 := Tryz.func138.trans (congrArg some (by kernel_rfl))
  f267 := Tryz.func119.trans (congrArg some (by kernel_rfl))
  f268 := Tryz.func140.trans (congrArg some (by kernel_rfl))
  f314 := Tryz.func139.trans (congrArg some (by kernel_rfl))
  t0 := Tryz.underlying0
  a0 := Tryz.isAgg0
  z0 := Tryz.sizeOf0
  v0 := Tryz.zeroValue0
  t3 := Tryz.underlying3
  a3 := Tryz.isAgg3
  z3 := Tryz.sizeOf3
  v3 := Tryz.zeroValue3
  t4 := Tryz.underlying4
  a4 := Tryz.isAgg4
  z4 := Tryz.sizeOf4
  v4 := Tryz.zeroValue4
  t5 := Tryz.underlying5
  a5 := Tryz.isAgg5
  z5 := Tryz.sizeOf5
  v5 := Tryz.zeroValue5
  t9 := Tryz.underlying9
  a9 := Tryz.isAgg9
  z9 := Tryz.sizeOf9
  v9 := Tryz.zeroValue9
  t21 := Tryz.underlying21
  a21 := Tryz.isAgg21
  z21 := Tryz.sizeOf21
  v21 := Tryz.zeroValue21
  t31 := Tryz.underlying31
  a31 := Tryz.isAgg31
  z31 := Tryz.sizeOf31
  v31 := Tryz.zeroValue31
  t46 := Tryz.underlying68
  a46 := Tryz.isAgg68
  z46 := Tryz.sizeOf68
  v46 := Tryz.zeroValue68
  t51 := Tryz.underlying152
  a51 := Tryz.isAgg152
  z51 := Tryz.sizeOf152
  v51 := Tryz.zeroValue152
  t105 := Tryz.underlying148
  a105 := Tryz.isAgg148
  z105 := Tryz.sizeOf148
  v105 := Tryz.zeroValue148
  t119 := Tryz.underlying181
  a119 := Tryz.isAgg181
  z119 := Tryz.sizeOf181
  t138 := Tryz.underlying183
  a138 := Tryz.isAgg183
  z138 := Tryz.sizeOf183
  v138 := Tryz.zeroValue183
  t139 := Tryz.underlying184
  a139 := Tryz.isAgg184
  z139 := Tryz.sizeOf184
  v139 := Tryz.zeroValue184
  t146 := Tryz.underlying153
  a146 := Tryz.isAgg153
  z146 := Tryz.sizeOf153
  v146 := Tryz.zeroValue153
  g1 := by kernel_rfl
  g3 := by kernel_rfl
  g4 := by kernel_rfl }
open Go.RowKit Go.Lib in
theorem Tryz.strings_Split (s sep : ByteArray) (m : Int) (w : World) (hs : s.size < 4294967281) (hm : w.cell? ⟨1, 0, none⟩ = some (.int .i64 m)) (h1 : 1 ≤ sep.size) :
    Calls Tryz.prog 94 #[.string s, .string sep] w fun e w' =>
      e = .returned (.slice (some ⟨w.heap.size, 0, none⟩) (Lib.countB s sep + 1) (Lib.countB s sep + 1)) ∧ w' = w.alloc (.cells ((Lib.splitB sep 0 (Lib.countB s sep) s).map Value.string).toArray 9) := Any.strings_Split Tryz.lays146 (by kernel_rfl) s sep m w hs hm h1
def Tryz.lays169_ren : Go.Shelf.Ren := ⟨fun | 169 => 89 | n => n, fun | 70 => 108 | 9 => 9 | 0 => 0 | 72 => 110 | 37 => 82 | 127 => 137 | 3 => 3 | 5 => 5 | n => n, fun | n => n⟩
theorem Tryz.Builder_Extra_169 : Builder.Extra Tryz.prog Tryz.lays169_ren := {
  sizeBuilder := by kernel_rfl
  liesBuilder := by kernel_rfl
  t5 := Tryz.underlying5
  a5 := Tryz.isAgg5
  z5 := Tryz.sizeOf5
  v5 := Tryz.zeroValue5
  infoByte := by kernel_rfl
  cellsByte := by kernel_rfl
  sizeByte := by kernel_rfl
  neB5 := by decide }
theorem Tryz.lays169 : Go.Proofs.Lays.n169 Tryz.prog Tryz.lays169_ren := {
  mixed := by kernel_rfl
  f169 := Tryz.func89.trans (congrArg some (by kernel_rfl))
  t0 := Tryz.underlying0
  a0 := Tryz.isAgg0
  z0 := Tryz.sizeOf0
  v0 := Tryz.zeroValue0
  t3 := Tryz.underlying3
  a3 := Tryz.isAgg3
  z3 := Tryz.sizeOf3
  v3 := Tryz.zeroValue3
  t9 := Tryz.underlying9
  a9 := Tryz.isAgg9
  z9 := Tryz.sizeOf9
  v9 := Tryz.zeroValue9
  t37 := Tryz.underlying82
  a37 := Tryz.isAgg82
  z37 := Tryz.sizeOf82
  v37 := Tryz.zeroValue82
  t70 := Tryz.underlying108
  a70 := Tryz.isAgg108
  z70 := Tryz.sizeOf108
  v70 := Tryz.zeroValue108
  t72 := Tryz.underlying110
  a72 := Tryz.isAgg110
  z72 := Tryz.sizeOf110
  v72 := Tryz.zeroValue110
  t127 := Tryz.underlying137
  a127 := Tryz.isAgg137
  z127 := Tryz.sizeOf137
  v127 := Tryz.zeroValue137 }
open Go.RowKit in
theorem Tryz.Builder_String_any_k (B b : Nat) (l : List UInt8) (w : World) (h : Lib.IsBuilderF 110 5 B b (Lib.byteCells l) w) (hBw : B ≤ w.heap.size) :
    Calls Tryz.prog 89 #[.pointer (some ⟨b, 0, none⟩)] w fun e w' => e = .returned (.string ⟨l.toArray⟩) ∧ (Lib.IsBuilderF 110 5 B b (Lib.byteCells l) w' ∧ Below B w w' ∧ Lib.OthersKept 5 (some b) w w') := Any.Builder_String_any_k Tryz.lays169 Tryz.Builder_Extra_169 B b l w h hBw
def Tryz.lays106_ren : Go.Shelf.Ren := ⟨fun | 106 => 28 | 213 => 53 | 265 => 82 | n => n, fun | 9 => 9 | 3 => 3 | n => n, fun | n => n⟩
theorem Tryz.lays106 : Go.Proofs.Lays.n106 Tryz.prog Tryz.lays106_ren := {
  mixed := by kernel_rfl
  f106 := Tryz.func28.trans (congrArg some (by kernel_rfl))
  f213 := Tryz.func53.trans (congrArg some (by kernel_rfl))
  f265 := Tryz.func82.trans (congrArg some (by kernel_rfl))
  t3 := Tryz.underlying3
  a3 := Tryz.isAgg3
  z3 := Tryz.sizeOf3
  v3 := Tryz.zeroValue3
  t9 := Tryz.underlying9
  a9 := Tryz.isAgg9
  z9 := Tryz.sizeOf9
  v9 := Tryz.zeroValue9 }
open Go.RowKit in
theorem Tryz.strings_Compare (a b : ByteArray) (w : World) :
    Calls Tryz.prog 28 #[.string a, .string b] w fun e w' => e = .returned (.int .i64 (Lib.compareBytes a.data.toList b.data.toList)) ∧ w' = w := Any.strings_Compare Tryz.lays106 a b w
end Go.Proofs
namespace Go.Proofs.YtpklcnpmppaaoaaGreatDoor.Print
open Go.RowKit Go.Proofs.YtpklcnpmppaaoaaGreatDoorW.PrintWords
def lowR (r : Int) : Int := if 65 ≤ r ∧ r ≤ 90 then r + 32 else r
def dn_lower.f (a0 : ByteArray) : Option ByteArray := if a0.size ≤ 1000000 then some ⟨(Lib.mapD lowR a0.data.toList).toArray⟩ else none
theorem lowR_calls (r : Int) (h0 : 0 ≤ r) (h1 : r ≤ 1114111) (w : World) : Calls Tryz.prog 142 #[.int .i32 r] w fun e w' => e = .returned (.int .i32 (lowR r)) ∧ Below w.heap.size w w' := by
 by_cases c : 65 ≤ r
 ·by_cases d : r ≤ 90
  ·have e : lowR r = r + 32 := by unfold lowR; rw [if_pos ⟨c, d⟩]
   have E := Aside0.mk e; clear e; go_enter Tryz.func142, Tryz.ntmps142; go_wp2; go_ret; exact ⟨by rw [E.out]; rfl, Below.refl _ _⟩
  ·have e : lowR r = r := by unfold lowR; rw [if_neg (by omega)]
   have E := Aside0.mk e; clear e; go_enter Tryz.func142, Tryz.ntmps142; go_wp2; go_ret; exact ⟨by rw [E.out]; rfl, Below.refl _ _⟩
 ·have e : lowR r = r := by unfold lowR; rw [if_neg (by omega)]
  have E := Aside0.mk e; clear e; go_enter Tryz.func142, Tryz.ntmps142; go_wp2; go_ret; exact ⟨by rw [E.out]; rfl, Below.refl _ _⟩
set_option maxHeartbeats 1000000 in
set_option maxRecDepth 100000 in
theorem dn_lower.calls (a0 : ByteArray) (r : ByteArray) (w : World) (hG : Gw w) (h : dn_lower.f a0 = some r) :
  Calls Tryz.prog 122 #[.string a0] w fun e w' => e = .returned (.string r) ∧ Below w.heap.size w w' := by
 unfold dn_lower.f at h
 by_cases c : a0.size ≤ 1000000
 ·rw [if_pos c] at h; injection h with h; have hM : ∀ W, Gw W → Calls Tryz.prog 141 #[.func (.func 142) #[] #[], .string a0] W fun e w' => e = .returned (.string r) ∧ Below W.heap.size W w' := by
   intro W hW; subst h; refine Tryz.strings_Map_grows 142 #[] (enters_of Tryz.func142 (by kernel_rfl) rfl) lowR a0 W (by omega) ?_ ?_ hW.tabs
   ·intro W' x hx _; exact lowR_calls x (by omega) (by omega) W'
   ·intro x hx; unfold lowR; split <;> omega
  have HM := Aside0.mk hM; have HG := Aside0.mk hG; clear hM hG h; go_enter Tryz.func122, Tryz.ntmps122; go_wp2_with (go_at_call 141; (with_reducible refine (HM.out _ HG.out).mono ?_); rintro e w' ⟨rfl, hb⟩; replace hb := Aside0.mk hb); go_ret; exact ⟨rfl, hb.out⟩
 ·rw [if_neg c] at h; cases h
end Go.Proofs.YtpklcnpmppaaoaaGreatDoor.Print
namespace Go.Proofs.YtpklcnpmppaaoaaGreatDoor.Print
open Go.RowKit Go.Proofs.YtpklcnpmppaaoaaGreatDoorW.PrintWords Go.Proofs.YtpklcnpmppaaoaaGreatDoorW.PrintLast Go.Proofs.YtpklcnpmppaaoaaGreatDoorW.PrintMore
set_option linter.unusedVariables false
def Dxkind.l0 : Nat → ByteArray → Int → Option Int
 | 0, _, _ => none
 | k + 1, s, x => if x < (s.size : Int) then (if 0 ≤ x then (if bt s x = 61 then some x else (if bt s x = 32 then some x else Dxkind.l0 k s (wrap64 (x + 1)))) else none) else some x
theorem Dxkind.mono_l : ∀ k s x, LeO (Dxkind.l0 k s x) (Dxkind.l0 (k + 1) s x)
 | 0, s, x => fun r h => by simp [Dxkind.l0] at h
 | k + 1, s, x => by
  rw [Dxkind.l0, Dxkind.l0]
  exact LeO.ite (LeO.ite (LeO.ite (LeO.refl _) (LeO.ite (LeO.refl _) (Dxkind.mono_l k _ _))) (LeO.none _)) (LeO.refl _)
def Dxkind.f (k : Nat) (s0_0 : ByteArray) (s0_1 : Int) : Option (ByteArray × Bool × ByteArray × Int) :=
 (Dxblanks.f k s0_0 s0_1).bind fun b1 => (Dxkind.l0 k b1.1 b1.2).bind fun q =>
  if 0 ≤ b1.2 then (if b1.2 ≤ q then (if q ≤ (b1.1.size : Int) then
   (dn_lower.f (b1.1.extract b1.2.toNat q.toNat)).bind fun t => (Dxblanks.f k b1.1 q).bind fun b2 =>
    if (b2.1.size : Int) ≤ b2.2 then some (⟨#[]⟩, false, b2.1, b2.2)
    else (if 0 ≤ b2.2 then (if bt b2.1 b2.2 = 61 then (dn_rightType.f k t).bind fun ok => if ok = true then some (t, true, b2.1, wrap64 (b2.2 + 1)) else some (⟨#[]⟩, false, b2.1, b2.2)
     else some (⟨#[]⟩, false, b2.1, b2.2)) else none)
  else none) else none) else none
theorem Dxkind.mono : ∀ a0 a1 k, LeO (Dxkind.f k a0 a1) (Dxkind.f (k + 1) a0 a1) := by
 intro a0 a1 k; unfold Dxkind.f; refine LeO.bind (Dxblanks.mono _ _ _) fun b1 => LeO.bind (Dxkind.mono_l _ _ _) fun q => LeO.ite (LeO.ite (LeO.ite (LeO.bind (LeO.refl _) fun t => LeO.bind (Dxblanks.mono _ _ _) fun b2 => LeO.ite (LeO.refl _) (LeO.ite (LeO.ite (LeO.bind (dn_rightType.mono _ _) fun ok => LeO.refl _) (LeO.refl _)) (LeO.none _))) (LeO.none _)) (LeO.none _)) (LeO.none _)
set_option maxHeartbeats 8000000 in
set_option maxRecDepth 100000 in
theorem Dxkind.calls (k : Nat) (g : Nat) (s0_0 : ByteArray) (s0_1 : Int) (r1 : ByteArray) (r2 : Bool) (r3 : ByteArray) (r4 : Int) (w0 w : World) (hI : IsS120 w0 w g s0_0 s0_1) (hB : Below w0.heap.size w0 w) (hG : Gw w0) (h : Dxkind.f k s0_0 s0_1 = some (r1, r2, r3, r4)) :
  Calls Tryz.prog 97 #[.pointer (some ⟨g, 0, none⟩)] w fun e w' => e = .returned (.tuple #[.string r1, .bool r2]) ∧ IsS120 w0 w' g r3 r4 ∧ Below w0.heap.size w0 w' ∧ KeepBut w w' g none := by
 unfold Dxkind.f at h
 obtain ⟨⟨s, p⟩, h1, h⟩ := Option.bind_eq_some_iff.mp h
 obtain ⟨q, h2, h⟩ := Option.bind_eq_some_iff.mp h
 dsimp only at h h2
 obtain ⟨c1, h⟩ := ite_some h
 obtain ⟨c2, h⟩ := ite_some h
 obtain ⟨c3, h⟩ := ite_some h
 obtain ⟨t, h3, h⟩ := Option.bind_eq_some_iff.mp h
 obtain ⟨⟨s2, m⟩, h4, h⟩ := Option.bind_eq_some_iff.mp h
 dsimp only at h
 have H1 := Aside0.mk h1
 have H2 := Aside0.mk h2
 have H3 := Aside0.mk h3
 have H4 := Aside0.mk h4
 have HH := Aside0.mk h
 have HI := Aside0.mk hI
 have HB := Aside0.mk hB
 have HG := Aside0.mk hG
 clear h1 h2 h3 h4 h hI hB hG
 go_enter Tryz.func97, Tryz.ntmps97
 go_wp2_with (go_at_call 96; (with_reducible refine (Dxblanks.calls k g s0_0 s0_1 s p w0 w HI.out HB.out H1.out).mono ?_); rintro e w1 ⟨rfl, hi, hb, hk⟩; have hc0 := cellS120_0 hi.1; have hc1 := cellS120_1 hi.1; have hi0 := Aside0.mk hi; replace hb := Aside0.mk hb; replace hk := Aside0.mk hk)
 clear hc0 hc1 hi
 go_loopg [] k (fun kq wr => ∃ (x : Int), Aside0 (Dxkind.l0 kq s x = some q) ∧ Aside0 (kq ≤ k) ∧ Aside0 (IsS120 w0 wr g s x) ∧ Aside0 (KeepBut w wr g none) ∧ Aside0 (Below w0.heap.size w0 wr))
 case atStart => exact ⟨p, H2, ⟨Nat.le_refl _⟩, hi0, hk, hb⟩
 case round =>
  obtain ⟨x, HA, HK1, HI0, HK, HBr⟩ := hrel; clear H2 hi0 hk hb; cases gk with
  | zero => exact absurd HA.out (by simp [Dxkind.l0])
  | succ k1 =>
   have H := HA.out; clear HA; simp only [Dxkind.l0] at H; obtain ⟨HGz, hgz⟩ := HI0.out; have hcz0 := cellS120_0 HGz; have hcz1 := cellS120_1 HGz; have hfz0 := blk_frozen HGz 0; have hfz1 := blk_frozen HGz 1; clear HGz hgz; by_cases hgo : x < (s.size : Int) ∧ 0 ≤ x ∧ bt s x ≠ 61 ∧ bt s x ≠ 32
   ·obtain ⟨d0, d1, d2, d3⟩ := hgo; rw [if_pos d0, if_pos d1, if_neg d2, if_neg d3] at H; have e2 : (bt s x == 61) = false := beq_eq_false_iff_ne.mpr d2; have e3 : (bt s x != 61) = true := bne_iff_ne.mpr d2; have e4 : (bt s x == 32) = false := beq_eq_false_iff_ne.mpr d3; have e5 : (bt s x != 32) = true := bne_iff_ne.mpr d3; have e0 : decide (x < (s.size : Int)) = true := decide_eq_true d0; have e1 : decide (0 ≤ x) = true := decide_eq_true d1; have p4 := eq_true d1; have q4 := eq_true d0; have hx4 := bt_at s x; have H' := Aside0.mk H; clear H d0 d1 d2 d3; go_wp2; (repeat (go_quiet (fail); try go_wp2)); go_roundg k1; (case measure => have := HK1.out; omega); case rel => exact ⟨(wrap64 (x + 1)), H', ⟨by have := HK1.out; omega⟩, ⟨by repeat (first | (with_reducible first | exact HI0.out | apply IsS120.alloc | apply IsS120.drewN | apply IsS120.drew | apply IsS120.set_0 | apply IsS120.set_1) | exact HI0.out)⟩, ⟨by repeat (first | (with_reducible first | exact HK.out | apply KeepBut.set_ | apply keep_drewN | apply keep_drew | apply keep_alloc) | exact HK.out)⟩, ⟨by repeat (first | (with_reducible first | exact HBr.out | apply below_alloc | apply pw_below_drewN | apply below_drew1 | refine below_set ?_ (IsS120.ge HI0.out)) | exact HBr.out)⟩⟩
   ·have hway : (x < (s.size : Int) ∧ 0 ≤ x ∧ bt s x = 61 ∧ x = q) ∨ (x < (s.size : Int) ∧ 0 ≤ x ∧ bt s x ≠ 61 ∧ bt s x = 32 ∧ x = q) ∨ (¬ x < (s.size : Int) ∧ x = q) := by
     by_cases d0 : x < (s.size : Int)
     ·rw [if_pos d0] at H; obtain ⟨d1, H⟩ := ite_some H; by_cases d2 : bt s x = 61
      ·rw [if_pos d2] at H; injection H with H; exact .inl ⟨d0, d1, d2, H⟩
      ·rw [if_neg d2] at H; by_cases d3 : bt s x = 32
       ·rw [if_pos d3] at H; injection H with H; exact .inr (.inl ⟨d0, d1, d2, d3, H⟩)
       ·exact absurd ⟨d0, d1, d2, d3⟩ hgo
     ·rw [if_neg d0] at H; injection H with H; exact .inr (.inr ⟨d0, H⟩)
    clear H hgo; rcases hway with ⟨d0, d1, d2, rfl⟩ | ⟨d0, d1, d2, d3, rfl⟩ | ⟨d0, rfl⟩; all_goals
     (try have e0 : decide (x < (s.size : Int)) = true := decide_eq_true d0)
     (try have e0 : decide (x < (s.size : Int)) = false := decide_eq_false d0)
     (try have p4 := eq_true d1)
     (try have q4 : (x < (s.size : Int)) = True := eq_true d0)
     have hx4 := bt_at s x
     (try have e2 : (bt s x == 61) = true := beq_iff_eq.mpr d2)
     (try have e3 : (bt s x != 61) = false := bne_eq_false_iff_eq.mpr d2)
     (try have e2 : (bt s x == 61) = false := beq_eq_false_iff_ne.mpr d2)
     (try have e3 : (bt s x != 61) = true := bne_iff_ne.mpr d2)
     (try have e4 : (bt s x == 32) = true := beq_iff_eq.mpr d3)
     (try have e5 : (bt s x != 32) = false := bne_eq_false_iff_eq.mpr d3)
     (try clear d1)
     (try clear d2)
     (try clear d3)
     clear d0
     go_wp2
     repeat (go_quiet (fail); try go_wp2)
     go_region_held3 (fun w' => w'.cell? ⟨g, 0, none⟩ = some (.string s) ∧ w'.cell? ⟨g, 1, none⟩ = some (.int .i64 x)) (first | exact ⟨hcz0, hcz1⟩ | exact ⟨y0, y1⟩) (first | (go_at_call 122; (with_reducible refine (dn_lower.calls _ _ _ ?hg H3.out).mono ?_); (case hg => exact Gw.below HG.out (by repeat (first | exact HBr.out | apply pw_below_drewN | apply below_drew1))); rintro e w3 ⟨rfl, hb3⟩; have y0 := (hb3.cell (World.block_lt_of_cell? _ _ hcz0)).trans hcz0; have y1 := (hb3.cell (World.block_lt_of_cell? _ _ hcz1)).trans hcz1; replace hb3 := Aside0.mk hb3))
     go_wp2_with (go_at_call 96; (with_reducible refine (Dxblanks.calls k g s x s2 m w0 w3 ?hi ?hb H4.out).mono ?_); (case hi => refine IsS120.below ?_ hb3.out; repeat (first | (with_reducible first | exact HI0.out | apply IsS120.drewN | apply IsS120.drew) | exact HI0.out)); (case hb => refine below_step ?_ hb3.out; repeat (first | exact HBr.out | apply pw_below_drewN | apply below_drew1)); rintro e w4 ⟨rfl, hi4, hb4, hk4⟩; replace hb4 := Aside0.mk hb4; have HK4 := Aside0.mk (KeepBut.trans (KeepBut.trans (by repeat (first | exact HK.out | apply keep_drewN | apply keep_drew)) (KeepBut.of_below hb3.out g none) (.inl rfl)) hk4 (.inl rfl)); clear hk4; obtain ⟨HGz4, hgz4⟩ := hi4; have z0 := cellS120_0 HGz4; have z1 := cellS120_1 HGz4; have f0 := blk_frozen HGz4 0; have f1 := blk_frozen HGz4 1; have HI4 := Aside0.mk (show IsS120 w0 w4 g s2 m from ⟨HGz4, hgz4⟩); clear HGz4 hgz4 hcz0 hcz1 hfz0 hfz1 y0 y1 e0)
     (try clear e2)
     (try clear e3)
     (try clear e4)
     (try clear e5)
     (try clear p4)
     (try clear q4)
     clear hx4
     have hh := HH.out
     by_cases d0 : (s2.size : Int) ≤ m
     ·rw [if_pos d0] at hh; simp only [Option.some.injEq, Prod.mk.injEq] at hh; obtain ⟨rfl, rfl, rfl, rfl⟩ := hh; have e0 : decide ((s2.size : Int) ≤ m) = true := decide_eq_true d0; clear d0; go_wp2; (repeat (go_quiet (fail); try go_wp2)); go_ret2; exact ⟨rfl, HI4.out, pw_below_drewN hb4.out _, keep_drewN HK4.out _⟩
     ·rw [if_neg d0] at hh; obtain ⟨d1, hh⟩ := ite_some hh; have e0 : decide ((s2.size : Int) ≤ m) = false := decide_eq_false d0; have p4 := eq_true d1; have q4 : (m < (s2.size : Int)) = True := eq_true (by omega); have hx4 := bt_at s2 m; clear d0 d1; by_cases d2 : bt s2 m = 61
      ·rw [if_pos d2] at hh; obtain ⟨ok, h5, hh⟩ := Option.bind_eq_some_iff.mp hh; have e2 : (bt s2 m == 61) = true := beq_iff_eq.mpr d2; have e3 : (bt s2 m != 61) = false := bne_eq_false_iff_eq.mpr d2; have H5 := Aside0.mk h5; clear d2 h5; cases ok with
       | true =>
        rw [if_pos rfl] at hh; simp only [Option.some.injEq, Prod.mk.injEq] at hh; obtain ⟨rfl, rfl, rfl, rfl⟩ := hh; go_quiet ((go_at_call 123; exact Calls.quiet_of ((dn_rightType.calls k _ _ _ H5.out).mono fun _ _ ⟨he, hd⟩ => ⟨he, hd.out⟩))); go_wp2; go_ret2; exact ⟨rfl, IsS120.set_1 (IsS120.drewN HI4.out _) _, below_set (pw_below_drewN hb4.out _) (IsS120.ge HI4.out), KeepBut.set_ (keep_drewN HK4.out _) _ _⟩
       | false =>
        rw [if_neg (by decide)] at hh; simp only [Option.some.injEq, Prod.mk.injEq] at hh; obtain ⟨rfl, rfl, rfl, rfl⟩ := hh; go_quiet ((go_at_call 123; exact Calls.quiet_of ((dn_rightType.calls k _ _ _ H5.out).mono fun _ _ ⟨he, hd⟩ => ⟨he, hd.out⟩))); go_wp2; go_ret2; exact ⟨rfl, HI4.out, pw_below_drewN hb4.out _, keep_drewN HK4.out _⟩
      ·rw [if_neg d2] at hh; simp only [Option.some.injEq, Prod.mk.injEq] at hh; obtain ⟨rfl, rfl, rfl, rfl⟩ := hh; have e2 : (bt s2 m == 61) = false := beq_eq_false_iff_ne.mpr d2; have e3 : (bt s2 m != 61) = true := bne_iff_ne.mpr d2; clear d2; go_wp2; (repeat (go_quiet (fail); try go_wp2)); go_ret2; exact ⟨rfl, HI4.out, pw_below_drewN hb4.out _, keep_drewN HK4.out _⟩
end Go.Proofs.YtpklcnpmppaaoaaGreatDoor.Print
namespace Go.Proofs.YtpklcnpmppaaoaaGreatDoor.Print
open Go.RowKit Go.Proofs.YtpklcnpmppaaoaaGreatDoorW.PrintWords
theorem spot_of_cell {w : World} {a : Addr} {v : Value} (h : w.cell? a = some v) : a.spot = none := by
 unfold World.cell? at h; split at h
 ·split at h
  ·cases h
  ·rename_i h1; simpa using h1
 ·cases h
theorem addr_of_cell {w : World} {a : Addr} {v : Value} (h : w.cell? a = some v) : a = ⟨a.block, a.off, none⟩ := by
 have := spot_of_cell h; cases a; simp_all
theorem add_none (b o j : Nat) : (⟨b, o, none⟩ : Addr).add j = ⟨b, o + j, none⟩ := by
 unfold Addr.add; split
 ·simp_all
 ·rfl
def joinB (l : List ByteArray) (sep : ByteArray) : List UInt8 := Lib.join (l.map (·.data.toList)) sep.data.toList
def strings_Join.f (l0 : List ByteArray) (a1 : ByteArray) : Option ByteArray :=
 if l0.length ≤ 1000000 then (if (joinB l0 a1).length ≤ 100000000 then some ⟨(joinB l0 a1).toArray⟩ else none) else none
theorem strings_Join.calls (A0 : Option Addr) (c0 : Nat) (l0 : List ByteArray) (a1 : ByteArray) (r : ByteArray) (w : World) (hr0 : Kd.C Kd.string w A0 l0.length l0) (hc0 : l0.length ≤ c0) (h : strings_Join.f l0 a1 = some r) :
  Calls Tryz.prog 71 #[.slice A0 l0.length c0, .string a1] w fun e w' => e = .returned (.string r) ∧ Below w.heap.size w w' := by
 unfold strings_Join.f at h
 by_cases c : l0.length ≤ 1000000
 ·by_cases c1 : (joinB l0 a1).length ≤ 100000000
  ·rw [if_pos c, if_pos c1] at h; injection h with h; subst h; cases l0 with
   | nil =>
    refine (Tryz.strings_Join_none A0 c0 a1 w).mono ?_; rintro e w' ⟨he, rfl⟩; exact ⟨he, Below.refl _ _⟩
   | cons x l =>
    have hr := Kd.reads_of_C (d := ByteArray.empty) hr0; obtain ⟨ad, hA, h0⟩ := hr.at_ 0 (by omega) (by simp); have had := addr_of_cell ((congrArg w.cell? (show ad.add 0 = ad from rfl)).symm.trans h0); obtain ⟨bk, o, rfl⟩ : ∃ bk o, ad = ⟨bk, o, none⟩ := ⟨_, _, had⟩; subst hA; have hcell : ∀ (j : Nat) y, (x :: l)[j]? = some y → w.cell? ⟨bk, o + j, none⟩ = some (.string y) := by
     intro j y hj; have hlt : j < (x :: l).length := (List.getElem?_eq_some_iff.1 hj).1; obtain ⟨ad', hA', hc⟩ := hr.at_ (j : Int) (by omega) (by omega); injection hA' with hA'; subst hA'; rw [Int.toNat_natCast, add_none] at hc; rw [hc, rdOf, Int.toNat_natCast, List.getD_eq_getElem?_getD, hj]; rfl
    refine (Tryz.strings_Join bk o c0 (x :: l) a1 w hcell (World.block_lt_of_cell? _ _ (hcell 0 x rfl)) (by omega) hc0 (by unfold joinB at c1; omega)).mono ?_; rintro e w' ⟨he, hb⟩; exact ⟨he, hb⟩
  ·rw [if_pos c, if_neg c1] at h; cases h
 ·rw [if_neg c] at h; cases h
def strings_Split.f (a0 a1 : ByteArray) : Option (List ByteArray) :=
 if a0.size ≤ 1000000 then (if 1 ≤ a1.size then some (Lib.splitB a1 0 (Lib.countB a0 a1) a0) else none) else none
theorem own_made (w : World) (xs : List Value) (e : TypeId) (hx : xs.length ≤ 9223372036854775807) :
  (w.alloc (.cells xs.toArray e)).ownsRow w.heap.size e 1 (.slice (some ⟨w.heap.size, 0, none⟩) xs.length xs.length) xs.length xs := by
 refine ⟨by omega, .inr ⟨w.heap.size, xs.length, xs.toArray, rfl, Nat.le_refl _, ?_, Nat.le_refl _, by unfold maxLen; omega, by simp, by simp⟩⟩
 exact heap_alloc_new w _
theorem strings_Split.calls (a0 a1 : ByteArray) (r : List ByteArray) (w : World) (hG : Gw w) (h : strings_Split.f a0 a1 = some r) :
  Calls Tryz.prog 94 #[.string a0, .string a1] w fun e w' => ∃ v0_ : Value, e = .returned v0_ ∧ Kd.R Kd.string 9 w' w.heap.size (fun _ => True) v0_ r ∧ Below w.heap.size w w' := by
 unfold strings_Split.f at h
 by_cases c : a0.size ≤ 1000000
 ·by_cases c1 : 1 ≤ a1.size
  ·rw [if_pos c, if_pos c1] at h; injection h with h; subst h; obtain ⟨m, hm⟩ := hG.maxLen; have hl := Lib.splitB_all a1 c1 0 (Lib.countB a0 a1) a0 rfl; have hle := Lib.countB_le a1 c1 a0.size a0 (Nat.le_refl _); refine (Tryz.strings_Split a0 a1 m w (by omega) hm c1).mono ?_; rintro e w' ⟨he, rfl⟩; refine ⟨_, he, ?_, below_alloc (Below.refl _ _) _⟩; have := own_made w ((Lib.splitB a1 0 (Lib.countB a0 a1) a0).map Value.string) 9 (by simp; omega); rw [List.length_map, hl] at this; exact Kd.R_of_own (h1 := fun _ => rfl) (by rw [hl]; exact this) (fun _ _ => trivial)
  ·rw [if_pos c, if_neg c1] at h; cases h
 ·rw [if_neg c] at h; cases h
end Go.Proofs.YtpklcnpmppaaoaaGreatDoor.Print
namespace Go.Proofs.YtpklcnpmppaaoaaGreatDoor.Print
open Go.RowKit Go.Proofs.YtpklcnpmppaaoaaGreatDoorW.PrintWords Go.Proofs.YtpklcnpmppaaoaaGreatDoorW.PrintLast Go.Proofs.YtpklcnpmppaaoaaGreatDoorW.PrintMore
attribute [local go_sem] max2_int min2_int max_two min_two max_three min_three max_four min_four
set_option linter.unusedVariables false
set_option linter.unusedSimpArgs false
mutual
def prep_dropped.j0 : Nat → Int → Bool → Option (Bool)
 | 0, _, _ => none
 | k + 1, x0, x3 => if x3 = true then (some true) else (if x0 ≥ 127 then (prep_dropped.j1 k x0 (decide (x0 ≤ 132))) else (prep_dropped.j1 k x0 false))
def prep_dropped.j1 : Nat → Int → Bool → Option (Bool)
 | 0, _, _ => none
 | k + 1, x0, x3 => if x3 = true then (some true) else (if x0 ≥ 134 then (prep_dropped.j2 k x0 (decide (x0 ≤ 159))) else (prep_dropped.j2 k x0 false))
def prep_dropped.j2 : Nat → Int → Bool → Option (Bool)
 | 0, _, _ => none
 | k + 1, x0, x3 => if x3 = true then (some true) else (if x0 = 173 then (some true) else (if x0 ≥ 8203 then (prep_dropped.j3 k x0 (decide (x0 ≤ 8207))) else (prep_dropped.j3 k x0 false)))
def prep_dropped.j3 : Nat → Int → Bool → Option (Bool)
 | 0, _, _ => none
 | k + 1, x0, x3 => if x3 = true then (some true) else (if x0 = 65279 then (some true) else (some false))
end
def prep_dropped.f (k : Nat) (a0 : Int) : Option (Bool) := if a0 ≤ 8 then (some true) else (if a0 ≥ 14 then (prep_dropped.j0 k a0 (decide (a0 ≤ 31))) else (prep_dropped.j0 k a0 false))
set_option maxHeartbeats 8000000 in
set_option maxRecDepth 100000 in
theorem prep_dropped.calls (k : Nat) (a0 : Int) (r : Bool) (w : World) (h : prep_dropped.f k a0 = some r) :
  Calls Tryz.prog 85 #[.int .i32 a0] w fun e w' => e = .returned (.bool r) ∧ Drawn0 w w' := by
 have H : (if a0 ≤ 8 then (some true) else (if a0 ≥ 14 then (prep_dropped.j0 k a0 (decide (a0 ≤ 31))) else (prep_dropped.j0 k a0 false))) = some r := h
 clear h
 revert H
 refine spd00 ?_ ?_
 ·intro c2b0 H; obtain rfl := Option.some.inj H; go_enter Tryz.func85, Tryz.ntmps85; go_wp2; go_ret; exact ⟨ap2, ap7⟩
 ·intro c2b0 H; have HC3 := am H; clear H; go_enter Tryz.func85, Tryz.ntmps85; go_upto_region 2 with (fail); go_cut [3] (fun v3 wc => ∃ (kq : Nat) (x3_2 : Bool), v3 = .bool x3_2 ∧ Aside0 (prep_dropped.j0 kq a0 x3_2 = some r) ∧ Aside0 (kq ≤ k) ∧ Drawn0 w wc); case first =>
   have H := HC3.out; clear HC3; revert H; refine spd00 ?_ ?_
   ·intro c4b0 H; (first | rw [c4b0] | (simp only [i64_w, i32_w]; rw [c4b0]) | skip); have H' := am H; clear H; go_wp2; go_meet; case rel => exact ⟨_, (decide (a0 ≤ 31)), ap2, H', ⟨apN⟩, ap7⟩
   ·intro c4b0 H; (first | rw [c4b0] | (simp only [i64_w, i32_w]; rw [c4b0]) | skip); have H' := am H; clear H; go_wp2; go_meet; case rel => exact ⟨_, (false), ap2, H', ⟨apN⟩, ap7⟩
  case rest =>
   clear HC3; (try clear c2); (try clear c2b0); obtain ⟨kq, x3_2, rfl, HA, HJ2, ⟨mc2, rfl⟩⟩ := hcut; cases kq with
   | zero => exact absurd HA.out (by simp [prep_dropped.j0])
   | succ kj2 =>
    have H := HA.out; clear HA; simp only [prep_dropped.j0] at H; revert H; refine spb ?_ ?_
    ·rintro rfl H; obtain rfl := Option.some.inj H; go_wp2; go_ret; exact ⟨ap2, ap7⟩
    ·rintro rfl H; have HC6 := am H; clear H; go_upto_region 3 with (fail); go_cut [3] (fun v3 wc => ∃ (kq : Nat) (x3_5 : Bool), v3 = .bool x3_5 ∧ Aside0 (prep_dropped.j1 kq a0 x3_5 = some r) ∧ Aside0 (kq ≤ kj2) ∧ Drawn0 w wc); case first =>
      have H := HC6.out; clear HC6; revert H; refine spd00 ?_ ?_
      ·intro c7b0 H; (first | rw [c7b0] | (simp only [i64_w, i32_w]; rw [c7b0]) | skip); have H' := am H; clear H; go_wp2; go_meet; case rel => exact ⟨_, (decide (a0 ≤ 132)), ap2, H', ⟨by have := HJ2.out; first | omega | exact Nat.le_refl _⟩, ap7⟩
      ·intro c7b0 H; (first | rw [c7b0] | (simp only [i64_w, i32_w]; rw [c7b0]) | skip); have H' := am H; clear H; go_wp2; go_meet; case rel => exact ⟨_, (false), ap2, H', ⟨by have := HJ2.out; first | omega | exact Nat.le_refl _⟩, ap7⟩
     case rest =>
      clear HC6; (try clear c2); (try clear c2b0); (try clear c5); obtain ⟨kq, x3_5, rfl, HA, HJ5, ⟨mc5, rfl⟩⟩ := hcut; cases kq with
      | zero => exact absurd HA.out (by simp [prep_dropped.j1])
      | succ kj5 =>
       have H := HA.out; clear HA; simp only [prep_dropped.j1] at H; revert H; refine spb ?_ ?_
       ·rintro rfl H; obtain rfl := Option.some.inj H; go_wp2; go_ret; exact ⟨ap2, ap7⟩
       ·rintro rfl H; have HC9 := am H; clear H; go_upto_region 4 with (fail); go_cut [3] (fun v3 wc => ∃ (kq : Nat) (x3_8 : Bool), v3 = .bool x3_8 ∧ Aside0 (prep_dropped.j2 kq a0 x3_8 = some r) ∧ Aside0 (kq ≤ kj5) ∧ Drawn0 w wc); case first =>
         have H := HC9.out; clear HC9; revert H; refine spd00 ?_ ?_
         ·intro c10b0 H; (first | rw [c10b0] | (simp only [i64_w, i32_w]; rw [c10b0]) | skip); have H' := am H; clear H; go_wp2; go_meet; case rel => exact ⟨_, (decide (a0 ≤ 159)), ap2, H', ⟨by have := HJ2.out; have := HJ5.out; first | omega | exact Nat.le_refl _⟩, ap7⟩
         ·intro c10b0 H; (first | rw [c10b0] | (simp only [i64_w, i32_w]; rw [c10b0]) | skip); have H' := am H; clear H; go_wp2; go_meet; case rel => exact ⟨_, (false), ap2, H', ⟨by have := HJ2.out; have := HJ5.out; first | omega | exact Nat.le_refl _⟩, ap7⟩
        case rest =>
         clear HC9; (try clear c2); (try clear c2b0); (try clear c5); (try clear c8); obtain ⟨kq, x3_8, rfl, HA, HJ8, ⟨mc8, rfl⟩⟩ := hcut; cases kq with
         | zero => exact absurd HA.out (by simp [prep_dropped.j2])
         | succ kj8 =>
          have H := HA.out; clear HA; simp only [prep_dropped.j2] at H; revert H; refine spb ?_ ?_
          ·rintro rfl H; obtain rfl := Option.some.inj H; go_wp2; go_ret; exact ⟨ap2, ap7⟩
          ·rintro rfl H; revert H; refine spe01 ?_ ?_
           ·intro c12b0 c12b1 H; obtain rfl := Option.some.inj H; go_wp2; go_ret; exact ⟨ap2, ap7⟩
           ·intro c12 c12b0 c12b1 H; have HC13 := am H; clear H; go_upto_region 6 with (fail); go_cut [3] (fun v3 wc => ∃ (kq : Nat) (x3_12 : Bool), v3 = .bool x3_12 ∧ Aside0 (prep_dropped.j3 kq a0 x3_12 = some r) ∧ Aside0 (kq ≤ kj8) ∧ Drawn0 w wc); case first =>
             have H := HC13.out; clear HC13; revert H; refine spd00 ?_ ?_
             ·intro c14b0 H; (first | rw [c14b0] | (simp only [i64_w, i32_w]; rw [c14b0]) | skip); have H' := am H; clear H; go_wp2; (first | go_meet | (simp only [c12b0] at *; go_meet) | (simp only [c12b0] at *; go_meet)); case rel => exact ⟨_, (decide (a0 ≤ 8207)), ap2, H', ⟨by have := HJ2.out; have := HJ5.out; have := HJ8.out; first | omega | exact Nat.le_refl _⟩, ap7⟩
             ·intro c14b0 H; (first | rw [c14b0] | (simp only [i64_w, i32_w]; rw [c14b0]) | skip); have H' := am H; clear H; go_wp2; (first | go_meet | (simp only [c12b0] at *; go_meet) | (simp only [c12b0] at *; go_meet)); case rel => exact ⟨_, (false), ap2, H', ⟨by have := HJ2.out; have := HJ5.out; have := HJ8.out; first | omega | exact Nat.le_refl _⟩, ap7⟩
            case rest =>
             clear HC13; (try clear c2); (try clear c2b0); (try clear c5); (try clear c8); (try clear c11); (try clear c12); (try clear c12b0); (try clear c12b1); obtain ⟨kq, x3_12, rfl, HA, HJ12, ⟨mc12, rfl⟩⟩ := hcut; cases kq with
             | zero => exact absurd HA.out (by simp [prep_dropped.j3])
             | succ kj12 =>
              have H := HA.out; clear HA; simp only [prep_dropped.j3] at H; revert H; refine spb ?_ ?_
              ·rintro rfl H; obtain rfl := Option.some.inj H; go_wp2; go_ret; exact ⟨ap2, ap7⟩
              ·rintro rfl H; revert H; refine spe01 ?_ ?_
               ·intro c16b0 c16b1 H; obtain rfl := Option.some.inj H; go_wp2; go_ret; exact ⟨ap2, ap7⟩
               ·intro c16 c16b0 c16b1 H; obtain rfl := Option.some.inj H; go_wp2; go_ret; exact ⟨ap2, ap7⟩
def prep_blank.f (a0 : Int) : Option (Bool) := if a0 = 32 then (some true) else (if a0 = 133 then (some true) else (if a0 = 160 then (some true) else (if a0 = 5760 then (some true) else (if a0 = 8232 then (some true) else (if a0 = 8233 then (some true) else (if a0 = 8239 then (some true) else (if a0 = 8287 then (some true) else (if a0 = 12288 then (some true) else (if a0 ≥ 9 then (if a0 ≤ 13 then (some true) else (if a0 ≥ 8192 then (some (decide (a0 ≤ 8202))) else (some false))) else (if a0 ≥ 8192 then (some (decide (a0 ≤ 8202))) else (some false)))))))))))
set_option maxHeartbeats 8000000 in
set_option maxRecDepth 100000 in
theorem prep_blank.calls (a0 : Int) (r : Bool) (w : World) (h : prep_blank.f a0 = some r) :
  Calls Tryz.prog 86 #[.int .i32 a0] w fun e w' => e = .returned (.bool r) ∧ Drawn0 w w' := by
 have H : (if a0 = 32 then (some true) else (if a0 = 133 then (some true) else (if a0 = 160 then (some true) else (if a0 = 5760 then (some true) else (if a0 = 8232 then (some true) else (if a0 = 8233 then (some true) else (if a0 = 8239 then (some true) else (if a0 = 8287 then (some true) else (if a0 = 12288 then (some true) else (if a0 ≥ 9 then (if a0 ≤ 13 then (some true) else (if a0 ≥ 8192 then (some (decide (a0 ≤ 8202))) else (some false))) else (if a0 ≥ 8192 then (some (decide (a0 ≤ 8202))) else (some false)))))))))))) = some r := h
 clear h
 revert H
 refine spe01 ?_ ?_
 ·intro c2b0 c2b1 H; obtain rfl := Option.some.inj H; go_enter Tryz.func86, Tryz.ntmps86; go_wp2; go_ret; exact ⟨ap2, ap7⟩
 ·intro c2 c2b0 c2b1 H; revert H; refine spe01 ?_ ?_
  ·intro c3b0 c3b1 H; obtain rfl := Option.some.inj H; go_enter Tryz.func86, Tryz.ntmps86; go_wp2; go_ret; exact ⟨ap2, ap7⟩
  ·intro c3 c3b0 c3b1 H; revert H; refine spe01 ?_ ?_
   ·intro c4b0 c4b1 H; obtain rfl := Option.some.inj H; go_enter Tryz.func86, Tryz.ntmps86; go_wp2; go_ret; exact ⟨ap2, ap7⟩
   ·intro c4 c4b0 c4b1 H; revert H; refine spe01 ?_ ?_
    ·intro c5b0 c5b1 H; obtain rfl := Option.some.inj H; go_enter Tryz.func86, Tryz.ntmps86; go_wp2; go_ret; exact ⟨ap2, ap7⟩
    ·intro c5 c5b0 c5b1 H; revert H; refine spe01 ?_ ?_
     ·intro c6b0 c6b1 H; obtain rfl := Option.some.inj H; go_enter Tryz.func86, Tryz.ntmps86; go_wp2; go_ret; exact ⟨ap2, ap7⟩
     ·intro c6 c6b0 c6b1 H; revert H; refine spe01 ?_ ?_
      ·intro c7b0 c7b1 H; obtain rfl := Option.some.inj H; go_enter Tryz.func86, Tryz.ntmps86; go_wp2; go_ret; exact ⟨ap2, ap7⟩
      ·intro c7 c7b0 c7b1 H; revert H; refine spe01 ?_ ?_
       ·intro c8b0 c8b1 H; obtain rfl := Option.some.inj H; go_enter Tryz.func86, Tryz.ntmps86; go_wp2; go_ret; exact ⟨ap2, ap7⟩
       ·intro c8 c8b0 c8b1 H; revert H; refine spe01 ?_ ?_
        ·intro c9b0 c9b1 H; obtain rfl := Option.some.inj H; go_enter Tryz.func86, Tryz.ntmps86; go_wp2; go_ret; exact ⟨ap2, ap7⟩
        ·intro c9 c9b0 c9b1 H; revert H; refine spe01 ?_ ?_
         ·intro c10b0 c10b1 H; obtain rfl := Option.some.inj H; go_enter Tryz.func86, Tryz.ntmps86; go_wp2; go_ret; exact ⟨ap2, ap7⟩
         ·intro c10 c10b0 c10b1 H; revert H; refine spd00 ?_ ?_
          ·intro c11b0 H; revert H; refine spd00 ?_ ?_
           ·intro c12b0 H; obtain rfl := Option.some.inj H; go_enter Tryz.func86, Tryz.ntmps86; go_wp2; go_ret; exact ⟨ap2, ap7⟩
           ·intro c12b0 H; revert H; refine spd00 ?_ ?_
            ·intro c13b0 H; obtain rfl := Option.some.inj H; go_enter Tryz.func86, Tryz.ntmps86; go_wp2; go_ret; exact ⟨ap2, ap7⟩
            ·intro c13b0 H; obtain rfl := Option.some.inj H; go_enter Tryz.func86, Tryz.ntmps86; go_wp2; go_ret; exact ⟨ap2, ap7⟩
          ·intro c11b0 H; revert H; refine spd00 ?_ ?_
           ·intro c14b0 H; obtain rfl := Option.some.inj H; go_enter Tryz.func86, Tryz.ntmps86; go_wp2; go_ret; exact ⟨ap2, ap7⟩
           ·intro c14b0 H; obtain rfl := Option.some.inj H; go_enter Tryz.func86, Tryz.ntmps86; go_wp2; go_ret; exact ⟨ap2, ap7⟩
mutual
def prep_small.j0 : Nat → Int → Bool → Option (Int)
 | 0, _, _ => none
 | k + 1, x0, x3 => if x3 = true then (prep_small.j2 k x0 x3) else (if x0 ≥ 192 then (if x0 ≤ 222 then (prep_small.j1 k x0 (x0 != 215)) else (prep_small.j1 k x0 false)) else (prep_small.j1 k x0 false))
def prep_small.j2 : Nat → Int → Bool → Option (Int)
 | 0, _, _ => none
 | k + 1, x0, x3 => if x3 = true then (some (wrap32 (x0 + 32))) else (if x0 ≥ 1024 then (if x0 ≤ 1039 then (some (wrap32 (x0 + 80))) else (some x0)) else (some x0))
def prep_small.j1 : Nat → Int → Bool → Option (Int)
 | 0, _, _ => none
 | k + 1, x0, x3 => if x3 = true then (prep_small.j2 k x0 x3) else (if x0 ≥ 913 then (if x0 ≤ 937 then (if x0 = 930 then (if x0 ≥ 1040 then (prep_small.j2 k x0 (decide (x0 ≤ 1071))) else (prep_small.j2 k x0 false)) else (prep_small.j2 k x0 (x0 != 930))) else (if x0 ≥ 1040 then (prep_small.j2 k x0 (decide (x0 ≤ 1071))) else (prep_small.j2 k x0 false))) else (if x0 ≥ 1040 then (prep_small.j2 k x0 (decide (x0 ≤ 1071))) else (prep_small.j2 k x0 false)))
end
def prep_small.f (k : Nat) (a0 : Int) : Option (Int) := if a0 ≥ 65 then (prep_small.j0 k a0 (decide (a0 ≤ 90))) else (prep_small.j0 k a0 false)
set_option maxHeartbeats 8000000 in
set_option maxRecDepth 100000 in
theorem prep_small.calls (k : Nat) (a0 : Int) (r : Int) (w : World) (h : prep_small.f k a0 = some r) :
  Calls Tryz.prog 87 #[.int .i32 a0] w fun e w' => e = .returned (.int .i32 r) ∧ Drawn0 w w' := by
 have H : (if a0 ≥ 65 then (prep_small.j0 k a0 (decide (a0 ≤ 90))) else (prep_small.j0 k a0 false)) = some r := h
 clear h
 have HC2 := am H
 clear H
 go_enter Tryz.func87, Tryz.ntmps87
 go_upto_region 1 with (fail)
 go_cut [3] (fun v3 wc => ∃ (kq : Nat) (x3_1 : Bool), v3 = .bool x3_1 ∧ Aside0 (prep_small.j0 kq a0 x3_1 = some r) ∧ Aside0 (kq ≤ k) ∧ Drawn0 w wc)
 case first =>
  have H := HC2.out; clear HC2; revert H; refine spd00 ?_ ?_
  ·intro c3b0 H; (first | rw [c3b0] | (simp only [i64_w, i32_w]; rw [c3b0]) | skip); have H' := am H; clear H; go_wp2; go_meet; case rel => exact ⟨_, (decide (a0 ≤ 90)), ap2, H', ⟨apN⟩, ap7⟩
  ·intro c3b0 H; (first | rw [c3b0] | (simp only [i64_w, i32_w]; rw [c3b0]) | skip); have H' := am H; clear H; go_wp2; go_meet; case rel => exact ⟨_, (false), ap2, H', ⟨apN⟩, ap7⟩
 case rest =>
  clear HC2; obtain ⟨kq, x3_1, rfl, HA, HJ1, ⟨mc1, rfl⟩⟩ := hcut; cases kq with
  | zero => exact absurd HA.out (by simp [prep_small.j0])
  | succ kj1 =>
   have H := HA.out; clear HA; simp only [prep_small.j0] at H; have HC4 := am H; clear H; go_upto_if 3 with (fail); go_cut [3] (fun v3 wc => ∃ (kq : Nat) (x3_3 : Bool), v3 = .bool x3_3 ∧ Aside0 (prep_small.j2 kq a0 x3_3 = some r) ∧ Aside0 (kq ≤ kj1) ∧ Drawn0 w wc); case first =>
    have H := HC4.out; clear HC4; revert H; refine spb ?_ ?_
    ·rintro rfl H; have H' := am H; clear H; go_wp2; go_meet; case rel => exact ⟨_, (true), ap2, H', ⟨by have := HJ1.out; first | omega | exact Nat.le_refl _⟩, ap7⟩
    ·rintro rfl H; have HC6 := am H; clear H; go_upto_region 2 with (fail); go_cut [3] (fun v3 wc => ∃ (kq : Nat) (x3_5 : Bool), v3 = .bool x3_5 ∧ Aside0 (prep_small.j1 kq a0 x3_5 = some r) ∧ Aside0 (kq ≤ kj1) ∧ Drawn0 w wc); case first =>
      have H := HC6.out; clear HC6; revert H; refine spd00 ?_ ?_
      ·intro c7b0 H; (first | rw [c7b0] | (simp only [i64_w, i32_w]; rw [c7b0]) | skip); revert H; refine spd00 ?_ ?_
       ·intro c8b0 H; have H' := am H; clear H; go_wp2; go_meet; case rel => exact ⟨_, ((a0 != 215)), ap2, H', ⟨by have := HJ1.out; first | omega | exact Nat.le_refl _⟩, ap7⟩
       ·intro c8b0 H; have H' := am H; clear H; go_wp2; go_meet; case rel => exact ⟨_, (false), ap2, H', ⟨by have := HJ1.out; first | omega | exact Nat.le_refl _⟩, ap7⟩
      ·intro c7b0 H; (first | rw [c7b0] | (simp only [i64_w, i32_w]; rw [c7b0]) | skip); have H' := am H; clear H; go_wp2; go_meet; case rel => exact ⟨_, (false), ap2, H', ⟨by have := HJ1.out; first | omega | exact Nat.le_refl _⟩, ap7⟩
     case rest =>
      clear HC6; (try clear c5); obtain ⟨kq, x3_5, rfl, HA, HJ5, ⟨mc5, rfl⟩⟩ := hcut; cases kq with
      | zero => exact absurd HA.out (by simp [prep_small.j1])
      | succ kj5 =>
       have H := HA.out; clear HA; simp only [prep_small.j1] at H; revert H; refine spb ?_ ?_
       ·rintro rfl H; have H' := am H; clear H; go_wp2; go_meet; case rel => exact ⟨_, (true), ap2, H', ⟨by have := HJ1.out; have := HJ5.out; first | omega | exact Nat.le_refl _⟩, ap7⟩
       ·rintro rfl H; revert H; refine spd00 ?_ ?_
        ·intro c10b0 H; revert H; refine spd00 ?_ ?_
         ·intro c11b0 H; revert H; refine spe01 ?_ ?_
          ·intro c12b0 c12b1 H; revert H; refine spd00 ?_ ?_
           ·intro c13b0 H; have H' := am H; clear H; go_wp2; (first | go_meet | (simp only [c12b0] at *; go_meet)); case rel => exact ⟨_, (decide (a0 ≤ 1071)), ap2, H', ⟨by have := HJ1.out; have := HJ5.out; first | omega | exact Nat.le_refl _⟩, ap7⟩
           ·intro c13b0 H; have H' := am H; clear H; go_wp2; (first | go_meet | (simp only [c12b0] at *; go_meet)); case rel => exact ⟨_, (false), ap2, H', ⟨by have := HJ1.out; have := HJ5.out; first | omega | exact Nat.le_refl _⟩, ap7⟩
          ·intro c12 c12b0 c12b1 H; have H' := am H; clear H; go_wp2; (first | go_meet | (simp only [c12b0] at *; go_meet) | (simp only [c12b0] at *; go_meet)); case rel => exact ⟨_, ((a0 != 930)), ap2, H', ⟨by have := HJ1.out; have := HJ5.out; first | omega | exact Nat.le_refl _⟩, ap7⟩
         ·intro c11b0 H; revert H; refine spd00 ?_ ?_
          ·intro c14b0 H; have H' := am H; clear H; go_wp2; (first | go_meet | (simp only [c12b0] at *; go_meet) | (simp only [c12b0] at *; go_meet)); case rel => exact ⟨_, (decide (a0 ≤ 1071)), ap2, H', ⟨by have := HJ1.out; have := HJ5.out; first | omega | exact Nat.le_refl _⟩, ap7⟩
          ·intro c14b0 H; have H' := am H; clear H; go_wp2; (first | go_meet | (simp only [c12b0] at *; go_meet) | (simp only [c12b0] at *; go_meet)); case rel => exact ⟨_, (false), ap2, H', ⟨by have := HJ1.out; have := HJ5.out; first | omega | exact Nat.le_refl _⟩, ap7⟩
        ·intro c10b0 H; revert H; refine spd00 ?_ ?_
         ·intro c15b0 H; have H' := am H; clear H; go_wp2; (first | go_meet | (simp only [c12b0] at *; go_meet) | (simp only [c12b0] at *; go_meet)); case rel => exact ⟨_, (decide (a0 ≤ 1071)), ap2, H', ⟨by have := HJ1.out; have := HJ5.out; first | omega | exact Nat.le_refl _⟩, ap7⟩
         ·intro c15b0 H; have H' := am H; clear H; go_wp2; (first | go_meet | (simp only [c12b0] at *; go_meet) | (simp only [c12b0] at *; go_meet)); case rel => exact ⟨_, (false), ap2, H', ⟨by have := HJ1.out; have := HJ5.out; first | omega | exact Nat.le_refl _⟩, ap7⟩
   case rest =>
    clear HC4; obtain ⟨kq, x3_3, rfl, HA, HJ3, ⟨mc3, rfl⟩⟩ := hcut; cases kq with
    | zero => exact absurd HA.out (by simp [prep_small.j2])
    | succ kj3 =>
     have H := HA.out; clear HA; simp only [prep_small.j2] at H; revert H; refine spb ?_ ?_
     ·rintro rfl H; obtain rfl := Option.some.inj H; go_wp2; go_ret; exact ⟨ap2, ap7⟩
     ·rintro rfl H; revert H; refine spd00 ?_ ?_
      ·intro c17b0 H; revert H; refine spd00 ?_ ?_
       ·intro c18b0 H; obtain rfl := Option.some.inj H; go_wp2; go_ret; exact ⟨ap2, ap7⟩
       ·intro c18b0 H; obtain rfl := Option.some.inj H; go_wp2; go_ret; exact ⟨ap2, ap7⟩
      ·intro c17b0 H; obtain rfl := Option.some.inj H; go_wp2; go_ret; exact ⟨ap2, ap7⟩
def stringslite_HasPrefix.f (a0 : ByteArray) (a1 : ByteArray) : Option (Bool) := if (a0.size : Int) ≥ (a1.size : Int) then (if 0 ≤ (a1.size : Int) then (if (a1.size : Int) ≤ (a0.size : Int) then (some ((a0.extract 0 ((a1.size : Int) : Int).toNat).toList == a1.toList)) else (none)) else (none)) else (some false)
set_option maxHeartbeats 8000000 in
set_option maxRecDepth 100000 in
theorem stringslite_HasPrefix.calls (a0 : ByteArray) (a1 : ByteArray) (r : Bool) (w : World) (h : stringslite_HasPrefix.f a0 a1 = some r) :
  Calls Tryz.prog 90 #[.string a0, .string a1] w fun e w' => e = .returned (.bool r) ∧ Drawn0 w w' := by
 have H : (if (a0.size : Int) ≥ (a1.size : Int) then (if 0 ≤ (a1.size : Int) then (if (a1.size : Int) ≤ (a0.size : Int) then (some ((a0.extract 0 ((a1.size : Int) : Int).toNat).toList == a1.toList)) else (none)) else (none)) else (some false)) = some r := h
 clear h
 revert H
 refine spd11 ?_ ?_
 ·intro c3 c3b0 H; have c3b1 : decide (a1.size ≤ a0.size) = true := decide_eq_true (Int.ofNat_le.mp c3); clear c3; by_cases c4 : 0 ≤ (a1.size : Int)
  ·rw [if_pos c4] at H; have c4b0 := eq_true c4; have c4b1 := decide_eq_true c4; clear c4; by_cases c5 : (a1.size : Int) ≤ (a0.size : Int)
   ·rw [if_pos c5] at H; have c5b0 := eq_true c5; have c5b1 := decide_eq_true c5; clear c5; obtain rfl := Option.some.inj H; go_enter Tryz.func90, Tryz.ntmps90; go_wp2; go_ret; exact ⟨ap2, ap7⟩
   ·rw [if_neg c5] at H; exact absurd H (by simp)
  ·rw [if_neg c4] at H; exact absurd H (by simp)
 ·intro c3 c3b0 H; have c3b1 : decide (a1.size ≤ a0.size) = false := decide_eq_false (fun h => c3 (Int.ofNat_le.mpr h)); clear c3; obtain rfl := Option.some.inj H; go_enter Tryz.func90, Tryz.ntmps90; go_wp2; go_ret; exact ⟨ap2, ap7⟩
def strings_HasPrefix.f (a0 : ByteArray) (a1 : ByteArray) : Option (Bool) := (stringslite_HasPrefix.f a0 a1).bind fun t102 => (some t102)
set_option maxHeartbeats 8000000 in
set_option maxRecDepth 100000 in
theorem strings_HasPrefix.calls (a0 : ByteArray) (a1 : ByteArray) (r : Bool) (w : World) (h : strings_HasPrefix.f a0 a1 = some r) :
  Calls Tryz.prog 113 #[.string a0, .string a1] w fun e w' => e = .returned (.bool r) ∧ Drawn0 w w' := by
 have H : ((stringslite_HasPrefix.f a0 a1).bind fun t102 => (some t102)) = some r := h
 clear h
 replace H := Option.bind_eq_some_iff.mp H
 obtain ⟨t102, A30, H⟩ := H
 replace H : (some t102) = some r := H
 have A3 := am A30
 clear A30
 obtain rfl := Option.some.inj H
 go_enter Tryz.func113, Tryz.ntmps113
 go_wp2_with (first | ((with_reducible refine gate_callee (f := 90) rfl ?_); refine goesL_ (some 7) rfl rfl Tryz.func90 (by kernel_rfl) rfl #[.string a0, .string a1] rfl ap3 ?_; (with_reducible refine (stringslite_HasPrefix.calls a0 a1 t102 _ A3.out).mono ?_); rintro e w' ⟨rfl, ⟨nd, rfl⟩⟩; refine ⟨_, rfl, ?_⟩))
 go_ret
 exact ⟨ap2, ap7⟩
end Go.Proofs.YtpklcnpmppaaoaaGreatDoor.Print
namespace Go.Proofs.YtpklcnpmppaaoaaGreatDoor.Print
open Go.RowKit Go.Proofs.YtpklcnpmppaaoaaGreatDoorW.PrintWords Go.Proofs.YtpklcnpmppaaoaaGreatDoorW.PrintLast Go.Proofs.YtpklcnpmppaaoaaGreatDoorW.PrintMore
set_option linter.unusedVariables false
set_option linter.unusedSimpArgs false
def runesN (s : ByteArray) : Nat → Nat → Option (List Int)
  | 0, _ => some []
  | n + 1, pos => if pos < s.size then
      (if (Utf8.decode s pos).1 = 65533 ∧ (Utf8.decode s pos).2 = 1 then none
       else (runesN s n (pos + (Utf8.decode s pos).2)).map ((((Utf8.decode s pos).1 : Nat) : Int) :: ·))
    else some []
def prep_Runes.of : Option (List Int) → List Int × Int
 | some l => (l, 0)
 | none => ([], 19)
def prep_Runes.f (a0 : ByteArray) : Option (List Int × Int) := if a0.size ≤ 1000000 then some (prep_Runes.of (runesN a0 a0.size 0)) else none
theorem bytes_get (s : ByteArray) (i : Nat) (h : i < s.size) : s.data.toList[i]? = some (s.get! i) := by
 have : s.get! i = s.data.toList[i]'(by simpa using h) := by
  simp [ByteArray.get!, h]
 rw [this]; simp
theorem dec_fffd (n b0 b1 b2 b3 : Nat) : (Lib.decodeN n b0 b1 b2 b3).1 = 65533 → b0 < 256 → (((Lib.decodeN n b0 b1 b2 b3).2 = 1) ↔ ¬ (3 ≤ n ∧ b0 = 239 ∧ b1 % 256 = 191 ∧ b2 % 256 = 189 ∧ b1 < 256 ∧ b2 < 256)) ∨ 256 ≤ b1 ∨ 256 ≤ b2 := by
 intro he h0; by_cases h1 : 256 ≤ b1
 ·exact .inr (.inl h1)
 by_cases h2 : 256 ≤ b2
 ·exact .inr (.inr h2)
 refine .inl ?_; revert he; unfold Lib.decodeN; (repeat' split); all_goals (intro he; dsimp only at he ⊢; omega)
theorem decode_err (s : ByteArray) (pos : Nat) (h : pos < s.size) (he : (Utf8.decode s pos).1 = 65533) :
  strings_HasPrefix.f (s.extract pos s.size) (⟨#[239, 191, 189]⟩ : ByteArray) = some (!decide ((Utf8.decode s pos).2 = 1)) := by
 have hsz : (s.extract pos s.size).size = s.size - pos := by simp
 have hp : ((⟨#[239, 191, 189]⟩ : ByteArray)).size = 3 := rfl
 unfold strings_HasPrefix.f stringslite_HasPrefix.f
 rw [hsz, hp]
 have b0 := (s.get! pos).toNat_lt; have b1 := (s.get! (pos + 1)).toNat_lt; have b2 := (s.get! (pos + 2)).toNat_lt
 have hk : ((Utf8.decode s pos).2 = 1) ↔ ¬ (3 ≤ s.size - pos ∧ s.get! pos = 239 ∧ s.get! (pos + 1) = 191 ∧ s.get! (pos + 2) = 189) := by
  rw [Lib.decode_at] at he ⊢; have := dec_fffd _ _ _ _ _ he b0; rw [or_iff_left (by omega)] at this; rw [this]; have q0 : s.get! pos = 239 ↔ (s.get! pos).toNat = 239 := ⟨fun e => by rw [e]; rfl, fun e => UInt8.toNat_inj.1 e⟩; have q1 : s.get! (pos + 1) = 191 ↔ (s.get! (pos + 1)).toNat = 191 := ⟨fun e => by rw [e]; rfl, fun e => UInt8.toNat_inj.1 e⟩; have q2 : s.get! (pos + 2) = 189 ↔ (s.get! (pos + 2)).toNat = 189 := ⟨fun e => by rw [e]; rfl, fun e => UInt8.toNat_inj.1 e⟩; rw [q0, q1, q2]; omega
 by_cases h3 : 3 ≤ s.size - pos
 ·rw [if_pos (by omega), if_pos (by omega), if_pos (by omega)]; simp only [Option.bind_some, Option.some.injEq]; rw [Lib.toList_data, Lib.toList_data]; have e : ((s.extract pos s.size).extract 0 ((3 : Int)).toNat).data.toList = [s.get! pos, s.get! (pos + 1), s.get! (pos + 2)] := by
   have g0 := bytes_get s pos h; have g1 := bytes_get s (pos + 1) (by omega); have g2 := bytes_get s (pos + 2) (by omega); rw [Lib.extract_data, Lib.extract_data]; apply List.ext_getElem?; intro i; simp only [Nat.sub_zero, List.drop_zero]; rw [List.getElem?_take]; by_cases hi : i < 3
   ·rw [if_pos (by simpa using hi), List.getElem?_take, if_pos (by omega), List.getElem?_drop]; match i, hi with
    | 0, _ => simpa using g0
    | 1, _ => simpa using g1
    | 2, _ => simpa using g2
   ·rw [if_neg (by simpa using hi)]; symm; apply List.getElem?_eq_none; simp; omega
  rw [show ((3 : Nat) : Int).toNat = ((3 : Int)).toNat from rfl, e]; by_cases hw : (Utf8.decode s pos).2 = 1
  ·have := hk.1 hw; simp only [hw, decide_true, Bool.not_true]; rw [beq_eq_false_iff_ne]; intro hh; exact this ⟨h3, by simpa using hh⟩
  ·have : s.get! pos = 239 ∧ s.get! (pos + 1) = 191 ∧ s.get! (pos + 2) = 189 := by
    have := mt hk.2 hw; exact (Classical.not_not.1 this).2
   obtain ⟨e0, e1, e2⟩ := this; rw [e0, e1, e2]; simp [hw]
 ·rw [if_neg (by omega)]; have : (Utf8.decode s pos).2 = 1 := hk.2 (fun z => h3 z.1); simp [this]
theorem prep_Runes.rest (s : ByteArray) (fuel pos : Nat) (acc : List Int) (h : ¬ pos < s.size) : (runesN s fuel pos).map (acc ++ ·) = some acc := by
 cases fuel <;> simp [runesN, h]
set_option maxHeartbeats 4000000 in
set_option maxRecDepth 1000000 in
theorem prep_Runes.calls (a0 : ByteArray) (r1 : List Int) (r2 : Int) (w : World) (h : prep_Runes.f a0 = some (r1, r2)) :
  Calls Tryz.prog 84 #[.string a0] w fun e w' => ∃ v0_ : Value, e = .returned (.tuple #[v0_, .int .i64 r2]) ∧ Kd.R (Kd.int .i32) 21 w' w.heap.size (fun _ => True) v0_ r1 ∧ Below w.heap.size w w' := by
 have hsz : a0.size ≤ 1000000 := by unfold prep_Runes.f at h; by_cases c : a0.size ≤ 1000000 <;> simp_all
 have hof : prep_Runes.of ((runesN a0 a0.size 0).map (([] : List Int) ++ ·)) = (r1, r2) := by
  unfold prep_Runes.f at h; rw [if_pos hsz] at h; simpa using h
 have HOF := Aside0.mk hof
 clear hof h
 go_enter Tryz.func84, Tryz.ntmps84
 go_wp2
 go_loopw [4] (fun v wr => ∃ (pos fuel : Nat) (acc : List Int), Aside0 (Kd.R (Kd.int .i32) 21 wr (w.heap.size + 1) (fun _ => True) v acc) ∧ wr.heap[w.heap.size]? = some (.stringIter a0 pos) ∧ Aside0 (Below w.heap.size w wr) ∧ Aside0 (prep_Runes.of ((runesN a0 fuel pos).map (acc ++ ·)) = (r1, r2)) ∧ a0.size ≤ pos + fuel ∧ acc.length ≤ pos) (fun _ wr => a0.size - wr.iterPos w.heap.size)
 case atStart =>
  exact ⟨0, a0.size, [], ⟨Kd.R_nil _ _ _ _ _⟩, World.iter_heap w a0 0, ⟨(Below.refl _ w).alloc (Nat.le_refl _) _⟩, HOF, by omega, by simp⟩
 case round =>
  obtain ⟨pos, fuel, acc, HR, hit, HB, HF, hfu, hal⟩ := hrel; have hsz0 : w.heap.size < wr.heap.size := (Array.getElem?_eq_some_iff.1 hit).1; by_cases hp : pos < a0.size
  ·have hnx : ∀ ty, (Instr.next (.pointer (some ⟨w.heap.size, 0, none⟩)) true ty).run Tryz.prog wr = _ := fun ty => Lib.run_next_any_at wr w.heap.size a0 pos ty hit hp
   have hwd := Lib.decode_width_pos a0 pos hp; have hd1 := decode_le a0 pos; have hit2 := Lib.iterAt_heap wr w.heap.size a0 pos (pos + (Utf8.decode a0 pos).2) hit; have hb2 := Aside0.mk (Lib.below_iterAt HB.out (k := w.heap.size) (Nat.le_refl _) a0 (pos + (Utf8.decode a0 pos).2)); have hR2 := Aside0.mk (Kd.R_of_own (h1 := fun _ => rfl) (ok := fun _ => True) (ownsRow_iterAt (Kd.own_of_R HR.out) (k := w.heap.size) (by omega) a0 (pos + (Utf8.decode a0 pos).2)) (fun _ _ => trivial)); have hs2 : Aside0 (w.heap.size < (wr.iterAt w.heap.size a0 (pos + (Utf8.decode a0 pos).2)).heap.size) := ⟨by rw [Lib.iterAt_size]; exact hsz0⟩; obtain ⟨f, rfl⟩ : ∃ f, fuel = f + 1 := ⟨fuel - 1, by omega⟩; generalize hW : wr.iterAt w.heap.size a0 (pos + (Utf8.decode a0 pos).2) = W at *; generalize hV : (Utf8.decode a0 pos).1 = r at *; generalize hN : (Utf8.decode a0 pos).2 = n at *; have hbe : Aside0 (r = 65533 → strings_HasPrefix.f (a0.extract pos a0.size) (⟨#[239, 191, 189]⟩ : ByteArray) = some (!decide (n = 1))) := ⟨fun e => by
    have := decode_err a0 pos hp (hV.trans e); rwa [hN] at this⟩
   have hstep : Aside0 (prep_Runes.of ((if r = 65533 ∧ n = 1 then none else (runesN a0 f (pos + n)).map ((r : Int) :: ·)).map (acc ++ ·)) = (r1, r2)) := ⟨by
    have := HF.out; unfold runesN at this; rwa [if_pos hp, hV, hN] at this⟩
   have hit0 := Aside0.mk hit; clear hV hN HF hit HR HB; by_cases hr : r = 65533
   ·subst hr; by_cases hn : n = 1
    ·have h1 := hstep.out; rw [if_pos ⟨rfl, hn⟩] at h1; simp only [Option.map_none, prep_Runes.of, Prod.mk.injEq] at h1; obtain ⟨rfl, rfl⟩ := h1; have A1 := Aside0.mk (hbe.out rfl); rw [show (!decide (n = 1)) = false by simp [hn]] at A1; clear hbe hstep hn; go_wp2_with (first | (go_at_call 113; (with_reducible refine (strings_HasPrefix.calls _ _ _ _ A1.out).mono ?_); rintro e w' ⟨rfl, ⟨nd, rfl⟩⟩)); go_ret2; exact ⟨_, rfl, Kd.R_nil _ _ _ _ _, by repeat (first | (with_reducible first | exact hb2.out | apply below_alloc | apply pw_below_drewN | apply below_drew1) | exact hb2.out)⟩
    ·have h1 := hstep.out; rw [if_neg (fun z => hn z.2), Option.map_map] at h1; have A1 := Aside0.mk (hbe.out rfl); rw [show (!decide (n = 1)) = true by simp [hn]] at A1; have H1 := Aside0.mk h1; clear hbe hstep hn h1; go_wp2_with (first | (go_at_call 113; (with_reducible refine (strings_HasPrefix.calls _ _ _ _ A1.out).mono ?_); rintro e w' ⟨rfl, ⟨nd, rfl⟩⟩) | ((with_reducible refine gate_builtin (b := .append) (xs := #[.tmp 22, .tmp 24]) rfl ?_); at_builtin; refine Kd.R_append (Kd.int .i32) (w0 := W) (w.heap.size + 1) rfl (.tmp 22) (.tmp 24) 64 21 (.int .i32 0) 4 rfl Tryz.underlying64 info21 rfl (by decide) (by omega) u4 acc 65533 [.int .i32 65533] (fun _ => True) (fun _ => False) rfl rfl ?aP (fun _ hk => hk.elim) (fun _ _ => trivial) ?aO ?aB ?aS ?aL ?_; (case aP => exact rfl); (case aO => exact (by (with_reducible repeat (first | apply Kd.R_alloc | apply Kd.R_drewN | apply Kd.R_drew)); exact hR2.out)); (case aB => exact (by repeat (first | exact Below.refl _ _ | apply pw_below_drewN | apply below_drew1))); (case aS => have := hs2.out; first | omega | (simp; omega)); (case aL => omega); intro v1 w1 ho hb hg hat; replace ho := Aside0.mk ho; replace hb := Aside0.mk hb)); have hi1 : w1.heap[w.heap.size]? = some (.stringIter a0 (pos + n)) := (hb.out.block _ (Nat.lt_succ_self _)).trans hit2; go_roundw; case rel =>
      refine ⟨pos + n, f, acc ++ [65533], ho, hi1, ⟨?_⟩, ⟨?_⟩, by omega, by simp; omega⟩
      ·exact hb2.out.trans (hb.out.mono (Nat.le_succ _))
      ·have := H1.out; rw [← this]; congr 1; cases runesN a0 f (pos + n) <;> simp
     case measure =>
      simp only [World.iterPos, hi1, hit0.out]; omega
   ·have h1 := hstep.out; rw [if_neg (fun z => hr z.1), Option.map_map] at h1; have H1 := Aside0.mk h1; have hrb : ((r : Int) == 65533) = false := by simp; omega
    clear hbe hstep h1 hr; go_wp2_with (first | ((with_reducible refine gate_builtin (b := .append) (xs := #[.tmp 22, .tmp 24]) rfl ?_); at_builtin; refine Kd.R_append (Kd.int .i32) (w0 := W) (w.heap.size + 1) rfl (.tmp 22) (.tmp 24) 64 21 (.int .i32 0) 4 rfl Tryz.underlying64 info21 rfl (by decide) (by omega) u4 acc (r : Int) [.int .i32 (r : Int)] (fun _ => True) (fun _ => False) rfl rfl ?aP (fun _ hk => hk.elim) (fun _ _ => trivial) ?aO ?aB ?aS ?aL ?_; (case aP => exact rfl); (case aO => exact (by (with_reducible repeat (first | apply Kd.R_alloc | apply Kd.R_drewN | apply Kd.R_drew)); exact hR2.out)); (case aB => exact (by repeat (first | exact Below.refl _ _ | apply pw_below_drewN | apply below_drew1))); (case aS => have := hs2.out; first | omega | (simp; omega)); (case aL => omega); intro v1 w1 ho hb hg hat; replace ho := Aside0.mk ho; replace hb := Aside0.mk hb)); have hi1 : w1.heap[w.heap.size]? = some (.stringIter a0 (pos + n)) := (hb.out.block _ (Nat.lt_succ_self _)).trans hit2; go_roundw; case rel =>
     refine ⟨pos + n, f, acc ++ [(r : Int)], ho, hi1, ⟨?_⟩, ⟨?_⟩, by omega, by simp; omega⟩
     ·exact hb2.out.trans (hb.out.mono (Nat.le_succ _))
     ·have := H1.out; rw [← this]; congr 1; cases runesN a0 f (pos + n) <;> simp
    case measure =>
     simp only [World.iterPos, hi1, hit0.out]; omega
  ·have hnx : ∀ ty, (Instr.next (.pointer (some ⟨w.heap.size, 0, none⟩)) true ty).run Tryz.prog wr = _ := fun ty => Lib.run_next_end_at wr w.heap.size a0 pos ty hit hp
   have hf := HF.out; rw [prep_Runes.rest a0 fuel pos acc hp] at hf; simp only [prep_Runes.of, Prod.mk.injEq] at hf; obtain ⟨rfl, rfl⟩ := hf; go_wp2; go_ret2; exact ⟨_, rfl, Kd.R_lower HR.out (by omega), HB.out⟩
end Go.Proofs.YtpklcnpmppaaoaaGreatDoor.Print
namespace Go.Proofs.YtpklcnpmppaaoaaGreatDoor.Print
open Go.RowKit
def dropB (r : Int) : Bool := decide (r ≤ 8 ∨ (14 ≤ r ∧ r ≤ 31) ∨ (127 ≤ r ∧ r ≤ 132) ∨ (134 ≤ r ∧ r ≤ 159) ∨ r = 173 ∨ (8203 ≤ r ∧ r ≤ 8207) ∨ r = 65279)
def blankB (r : Int) : Bool := decide ((9 ≤ r ∧ r ≤ 13) ∨ r = 32 ∨ r = 133 ∨ r = 160 ∨ r = 5760 ∨ (8192 ≤ r ∧ r ≤ 8202) ∨ r = 8232 ∨ r = 8233 ∨ r = 8239 ∨ r = 8287 ∨ r = 12288)
def smallI (r : Int) : Int :=
 if (65 ≤ r ∧ r ≤ 90) ∨ (192 ≤ r ∧ r ≤ 222 ∧ r ≠ 215) ∨ (913 ≤ r ∧ r ≤ 937 ∧ r ≠ 930) ∨ (1040 ≤ r ∧ r ≤ 1071) then r + 32
 else if 1024 ≤ r ∧ r ≤ 1039 then r + 80 else r
theorem some_dec {p : Prop} [Decidable p] (h : p) : some true = some (decide p) := congrArg some (decide_eq_true h).symm
theorem some_ndec {p : Prop} [Decidable p] (h : ¬ p) : some false = some (decide p) := congrArg some (decide_eq_false h).symm
theorem some_decs {p q : Prop} [Decidable p] [Decidable q] (h : q ↔ p) : some (decide q) = some (decide p) := congrArg some (decide_eq_decide.2 h)
set_option maxHeartbeats 4000000 in
theorem dropped_is (k : Nat) (hk : 6 ≤ k) (r : Int) : prep_dropped.f k r = some (dropB r) := by
 obtain ⟨k, rfl⟩ : ∃ m, k = m + 6 := ⟨k - 6, by omega⟩; unfold prep_dropped.f; simp only [prep_dropped.j0, prep_dropped.j1, prep_dropped.j2, prep_dropped.j3, decide_eq_true_eq, Bool.false_eq_true, if_false]; unfold dropB; by_cases h9 : r < 9
 ·simp (disch := omega) only [if_pos, if_neg]; first | exact some_dec (by omega) | exact some_ndec (by omega) | exact some_decs (by omega)
 by_cases h14 : r < 14
 ·simp (disch := omega) only [if_pos, if_neg]; first | exact some_dec (by omega) | exact some_ndec (by omega) | exact some_decs (by omega)
 by_cases h32 : r < 32
 ·simp (disch := omega) only [if_pos, if_neg]; first | exact some_dec (by omega) | exact some_ndec (by omega) | exact some_decs (by omega)
 by_cases h127 : r < 127
 ·simp (disch := omega) only [if_pos, if_neg]; first | exact some_dec (by omega) | exact some_ndec (by omega) | exact some_decs (by omega)
 by_cases h133 : r < 133
 ·simp (disch := omega) only [if_pos, if_neg]; first | exact some_dec (by omega) | exact some_ndec (by omega) | exact some_decs (by omega)
 by_cases h134 : r < 134
 ·simp (disch := omega) only [if_pos, if_neg]; first | exact some_dec (by omega) | exact some_ndec (by omega) | exact some_decs (by omega)
 by_cases h160 : r < 160
 ·simp (disch := omega) only [if_pos, if_neg]; first | exact some_dec (by omega) | exact some_ndec (by omega) | exact some_decs (by omega)
 by_cases h173 : r < 173
 ·simp (disch := omega) only [if_pos, if_neg]; first | exact some_dec (by omega) | exact some_ndec (by omega) | exact some_decs (by omega)
 by_cases h174 : r < 174
 ·simp (disch := omega) only [if_pos, if_neg]; first | exact some_dec (by omega) | exact some_ndec (by omega) | exact some_decs (by omega)
 by_cases h8203 : r < 8203
 ·simp (disch := omega) only [if_pos, if_neg]; first | exact some_dec (by omega) | exact some_ndec (by omega) | exact some_decs (by omega)
 by_cases h8208 : r < 8208
 ·simp (disch := omega) only [if_pos, if_neg]; first | exact some_dec (by omega) | exact some_ndec (by omega) | exact some_decs (by omega)
 by_cases h65279 : r < 65279
 ·simp (disch := omega) only [if_pos, if_neg]; first | exact some_dec (by omega) | exact some_ndec (by omega) | exact some_decs (by omega)
 by_cases h65280 : r < 65280
 ·simp (disch := omega) only [if_pos, if_neg]; first | exact some_dec (by omega) | exact some_ndec (by omega) | exact some_decs (by omega)
 simp (disch := omega) only [if_pos, if_neg]; first | exact some_dec (by omega) | exact some_ndec (by omega) | exact some_decs (by omega)
set_option maxHeartbeats 4000000 in
theorem blank_is (r : Int) : prep_blank.f r = some (blankB r) := by
 unfold prep_blank.f blankB; by_cases h9 : r < 9
 ·simp (disch := omega) only [if_pos, if_neg]; first | exact some_dec (by omega) | exact some_ndec (by omega) | exact some_decs (by omega)
 by_cases h14 : r < 14
 ·simp (disch := omega) only [if_pos, if_neg]; first | exact some_dec (by omega) | exact some_ndec (by omega) | exact some_decs (by omega)
 by_cases h32 : r < 32
 ·simp (disch := omega) only [if_pos, if_neg]; first | exact some_dec (by omega) | exact some_ndec (by omega) | exact some_decs (by omega)
 by_cases h33 : r < 33
 ·simp (disch := omega) only [if_pos, if_neg]; first | exact some_dec (by omega) | exact some_ndec (by omega) | exact some_decs (by omega)
 by_cases h133 : r < 133
 ·simp (disch := omega) only [if_pos, if_neg]; first | exact some_dec (by omega) | exact some_ndec (by omega) | exact some_decs (by omega)
 by_cases h134 : r < 134
 ·simp (disch := omega) only [if_pos, if_neg]; first | exact some_dec (by omega) | exact some_ndec (by omega) | exact some_decs (by omega)
 by_cases h160 : r < 160
 ·simp (disch := omega) only [if_pos, if_neg]; first | exact some_dec (by omega) | exact some_ndec (by omega) | exact some_decs (by omega)
 by_cases h161 : r < 161
 ·simp (disch := omega) only [if_pos, if_neg]; first | exact some_dec (by omega) | exact some_ndec (by omega) | exact some_decs (by omega)
 by_cases h5760 : r < 5760
 ·simp (disch := omega) only [if_pos, if_neg]; first | exact some_dec (by omega) | exact some_ndec (by omega) | exact some_decs (by omega)
 by_cases h5761 : r < 5761
 ·simp (disch := omega) only [if_pos, if_neg]; first | exact some_dec (by omega) | exact some_ndec (by omega) | exact some_decs (by omega)
 by_cases h8192 : r < 8192
 ·simp (disch := omega) only [if_pos, if_neg]; first | exact some_dec (by omega) | exact some_ndec (by omega) | exact some_decs (by omega)
 by_cases h8203 : r < 8203
 ·simp (disch := omega) only [if_pos, if_neg]; first | exact some_dec (by omega) | exact some_ndec (by omega) | exact some_decs (by omega)
 by_cases h8232 : r < 8232
 ·simp (disch := omega) only [if_pos, if_neg]; first | exact some_dec (by omega) | exact some_ndec (by omega) | exact some_decs (by omega)
 by_cases h8233 : r < 8233
 ·simp (disch := omega) only [if_pos, if_neg]; first | exact some_dec (by omega) | exact some_ndec (by omega) | exact some_decs (by omega)
 by_cases h8234 : r < 8234
 ·simp (disch := omega) only [if_pos, if_neg]; first | exact some_dec (by omega) | exact some_ndec (by omega) | exact some_decs (by omega)
 by_cases h8239 : r < 8239
 ·simp (disch := omega) only [if_pos, if_neg]; first | exact some_dec (by omega) | exact some_ndec (by omega) | exact some_decs (by omega)
 by_cases h8240 : r < 8240
 ·simp (disch := omega) only [if_pos, if_neg]; first | exact some_dec (by omega) | exact some_ndec (by omega) | exact some_decs (by omega)
 by_cases h8287 : r < 8287
 ·simp (disch := omega) only [if_pos, if_neg]; first | exact some_dec (by omega) | exact some_ndec (by omega) | exact some_decs (by omega)
 by_cases h8288 : r < 8288
 ·simp (disch := omega) only [if_pos, if_neg]; first | exact some_dec (by omega) | exact some_ndec (by omega) | exact some_decs (by omega)
 by_cases h12288 : r < 12288
 ·simp (disch := omega) only [if_pos, if_neg]; first | exact some_dec (by omega) | exact some_ndec (by omega) | exact some_decs (by omega)
 by_cases h12289 : r < 12289
 ·simp (disch := omega) only [if_pos, if_neg]; first | exact some_dec (by omega) | exact some_ndec (by omega) | exact some_decs (by omega)
 simp (disch := omega) only [if_pos, if_neg]; first | exact some_dec (by omega) | exact some_ndec (by omega) | exact some_decs (by omega)
set_option maxHeartbeats 4000000 in
theorem small_is (k : Nat) (hk : 6 ≤ k) (r : Int) (h0 : 0 ≤ r) (h1 : r ≤ 1114111) : prep_small.f k r = some (smallI r) := by
 obtain ⟨k, rfl⟩ : ∃ m, k = m + 6 := ⟨k - 6, by omega⟩; have w1 : wrap32 (r + 32) = r + 32 := by unfold wrap32; omega
 have w2 : wrap32 (r + 80) = r + 80 := by unfold wrap32; omega
 unfold prep_small.f; simp only [prep_small.j0, prep_small.j1, prep_small.j2, w1, w2, decide_eq_true_eq, Bool.false_eq_true, if_false, bne_iff_ne, ne_eq]; unfold smallI; by_cases h65 : r < 65
 ·simp (disch := omega) only [if_pos, if_neg]
 by_cases h91 : r < 91
 ·simp (disch := omega) only [if_pos, if_neg]
 by_cases h192 : r < 192
 ·simp (disch := omega) only [if_pos, if_neg]
 by_cases h215 : r < 215
 ·simp (disch := omega) only [if_pos, if_neg]
 by_cases h216 : r < 216
 ·simp (disch := omega) only [if_pos, if_neg]
 by_cases h223 : r < 223
 ·simp (disch := omega) only [if_pos, if_neg]
 by_cases h913 : r < 913
 ·simp (disch := omega) only [if_pos, if_neg]
 by_cases h930 : r < 930
 ·simp (disch := omega) only [if_pos, if_neg]
 by_cases h931 : r < 931
 ·simp (disch := omega) only [if_pos, if_neg]
 by_cases h938 : r < 938
 ·simp (disch := omega) only [if_pos, if_neg]
 by_cases h1024 : r < 1024
 ·simp (disch := omega) only [if_pos, if_neg]
 by_cases h1040 : r < 1040
 ·simp (disch := omega) only [if_pos, if_neg]
 by_cases h1072 : r < 1072
 ·simp (disch := omega) only [if_pos, if_neg]
 simp (disch := omega) only [if_pos, if_neg]
def mapRune (fold : Bool) (r : Int) : Option Int := if dropB r = true then none else if blankB r = true then some 32 else some (if fold = true then smallI r else r)
theorem smallI_le (r : Int) (h0 : 0 ≤ r) (h1 : r ≤ 1114111) : 0 ≤ smallI r ∧ smallI r ≤ 1114111 := by unfold smallI; repeat' split <;> omega
def encAll (l : List Int) : List UInt8 := l.flatMap Lib.encodeRune
theorem decodeN_le (n b0 b1 b2 b3 : Nat) (h : b0 < 256) : (Lib.decodeN n b0 b1 b2 b3).1 ≤ 1114111 := by
 unfold Lib.decodeN; (repeat' split); all_goals (dsimp only; omega)
theorem decode_max (s : ByteArray) (pos : Nat) : (Utf8.decode s pos).1 ≤ 1114111 := by
 rw [Lib.decode_at]; exact decodeN_le _ _ _ _ _ (s.get! pos).toNat_lt
theorem runesN_le (s : ByteArray) : ∀ (n pos : Nat) (l : List Int), runesN s n pos = some l → (∀ r ∈ l, 0 ≤ r ∧ r ≤ 1114111) ∧ l.length ≤ n
 | 0, pos, l, h => by
  simp only [runesN, Option.some.injEq] at h
  subst h; simp
 | n + 1, pos, l, h => by
  unfold runesN at h
  split at h
  ·
   split at h
   ·
    cases h
   ·
    obtain ⟨l', h', rfl⟩ := Option.map_eq_some_iff.1 h
    have ih := runesN_le s n _ l' h'
    refine ⟨?_, by simp; omega⟩
    intro r hr
    rcases List.mem_cons.1 hr with rfl | hr
    ·
     have := decode_max s pos
     omega
    ·
     exact ih.1 r hr
  ·
   simp only [Option.some.injEq] at h
   subst h; simp
end Go.Proofs.YtpklcnpmppaaoaaGreatDoor.Print
namespace Go.Proofs.YtpklcnpmppaaoaaGreatDoor.Print
open Go.RowKit Go.Proofs.YtpklcnpmppaaoaaGreatDoorW.PrintWords Go.Proofs.YtpklcnpmppaaoaaGreatDoorW.PrintLast Go.Proofs.YtpklcnpmppaaoaaGreatDoorW.PrintMore
set_option linter.unusedVariables false
set_option linter.unusedSimpArgs false
theorem bld_size : (Tryz.prog.info? 110).map (·.size) = some 2 := by kernel_rfl
theorem bld_lies : liesAt Tryz.prog Tryz.prog.depth 110 (2 / Tryz.prog.cellsOf 110) 0 110 1 = true := by kernel_rfl
theorem bld_byte : (Tryz.prog.info? 5).map (fun i => (i.zero, i.size, i.bytes)) = some (some (.int .u8 0), 1, 1) := by kernel_rfl
abbrev Bld (B b : Nat) (bs : List Value) (w : World) : Prop := Lib.IsBuilderF 110 5 B b bs w
set_option maxHeartbeats 1000000 in
set_option maxRecDepth 1000000 in
theorem bld_check_used (b : Nat) (w : World) (h0 : w.cell? ⟨b, 0, none⟩ = some (.pointer (some ⟨b, 0, none⟩))) :
  Calls Tryz.prog 114 #[.pointer (some ⟨b, 0, none⟩)] w fun e w' => e = .returned (.tuple #[]) ∧ w = w' := by
 obtain ⟨j, hj, _⟩ := Option.map_eq_some_iff.1 bld_size
 go_enter Tryz.func114, Tryz.ntmps114
 go_wp2
 rw [Lib.run_neq_ptr_same w _ Tryz.underlying108 hj]
 go_wp2
 go_end0
 exact ⟨rfl, rfl⟩
set_option maxHeartbeats 1000000 in
set_option maxRecDepth 1000000 in
theorem bld_check_fresh (b : Nat) (w : World) (h0 : w.cell? ⟨b, 0, none⟩ = some (.pointer none)) (hsh : w.shape? b = some (110, 2)) (hfz : w.frozen? ⟨b, 0, none⟩ = false) :
  Calls Tryz.prog 114 #[.pointer (some ⟨b, 0, none⟩)] w fun e w' => e = .returned (.tuple #[]) ∧ w.setCell ⟨b, 0, none⟩ (.pointer (some ⟨b, 0, none⟩)) = w' := by
 obtain ⟨j, hj, hjs⟩ := Option.map_eq_some_iff.1 bld_size
 go_enter Tryz.func114, Tryz.ntmps114
 go_wp2
 rw [Lib.run_to_unsafe w ⟨b, 0, none⟩ Tryz.underlying108 Tryz.underlying150 hj (by rw [hjs]; decide) hsh (Nat.zero_lt_succ 1)]
 simp only [Result.andThen]
 rw [Oper.upon_value]
 go_wp2
 rw [run_callFunc_extern Tryz.func136 (by kernel_rfl) (by kernel_rfl) (by kernel_rfl) (e := Extern.AbiNoEscape.same) (by kernel_rfl)]
 rw [Lib.run_noEscape]
 simp only [Result.andThen]
 rw [Oper.upon_value]
 go_wp2
 rw [Lib.run_from_unsafe w ⟨b, 0, none⟩ Tryz.underlying150 Tryz.underlying108 hj hsh bld_lies]
 simp only [Result.andThen]
 rw [Oper.upon_value]
 go_wp2
 go_end0
 exact ⟨rfl, rfl⟩
theorem bld_check (B b : Nat) (bs : List Value) (w : World) (h : Bld B b bs w) :
  Calls Tryz.prog 114 #[.pointer (some ⟨b, 0, none⟩)] w fun e w' => e = .returned (.tuple #[]) ∧ (Lib.BuilderAtF 110 5 B b (.pointer (some ⟨b, 0, none⟩)) bs w' ∧ Below B w w' ∧ Lib.OthersKept 5 (some b) w w') := by
 rcases h with h | h
 ·refine (bld_check_fresh b w h.cell0 h.shape h.frozen0).mono ?_; rintro e w' ⟨rfl, rfl⟩; exact ⟨rfl, h.used _, (Below.refl B w).setCell (p := ⟨b, 0, none⟩) h.1 _, (Lib.OthersKept.refl _ _ w).setCell ⟨b, 0, none⟩ rfl _⟩
 ·refine (bld_check_used b w h.cell0).mono ?_; rintro e w' ⟨rfl, rfl⟩; exact ⟨rfl, h, Below.refl B _, Lib.OthersKept.refl _ _ _⟩
set_option maxHeartbeats 2000000 in
set_option maxRecDepth 100000 in
theorem bld_WriteString (B b : Nat) (bs : List Value) (s : ByteArray) (w : World) (h : Bld B b bs w) (hlen : bs.length + s.size ≤ 140737488355328) (hBw : B ≤ w.heap.size) :
  Calls Tryz.prog 102 #[.pointer (some ⟨b, 0, none⟩), .string s] w fun e w' => e = .returned (.tuple #[.int .i64 s.size, .nilIface]) ∧ (Bld B b (bs ++ Lib.strCells s) w' ∧ Below B w w' ∧ Lib.OthersKept 5 (some b) w w') := by
 obtain ⟨i0, hi, hz0, hz1, hz2⟩ := info_parts bld_byte
 go_enter Tryz.func102, Tryz.ntmps102
 go_wp2_with (go_at_call 114; refine (bld_check B b bs _ h).mono ?_)
 rintro e w1 ⟨rfl, h1, hb1, hk1⟩
 obtain ⟨hB, v, hbk, hown, hne⟩ := h1
 have c0 : w1.cell? ⟨b, 0, none⟩ = some (.pointer (some ⟨b, 0, none⟩)) := by rw [Lib.cell_of_heap hbk]; rfl
 have c1 : w1.cell? ⟨b, 1, none⟩ = some v := by rw [Lib.cell_of_heap hbk]; rfl
 go_wp2_with (at_builtin; refine Lib.wpList_append_own_stringF _ rfl _ _ 82 9 rfl B 5 i0 Tryz.underlying82 Tryz.underlying9 hi hz0 hz1 hz2 _ _ _ rfl hown s rfl ?c3 ?c4 ?c5 ?_)
 case c3 => unfold maxLen; omega
 case c4 => omega
 case c5 => have := hb1.size; omega
 intro v' w2 hown' hgrow _
 have hlt : b < w1.heap.size := by
  rcases Nat.lt_or_ge b w1.heap.size with h' | h'
  ·exact h'
  ·simp [Array.getElem?_eq_none h'] at hbk
 have hb2 : w2.heap[b]? = some (.cells #[.pointer (some ⟨b, 0, none⟩), v] 110 (0, 0)) := by
  rw [hgrow.block b hlt (fun e => hne e.symm)]; exact hbk
 have d0 : w2.cell? ⟨b, 0, none⟩ = some (.pointer (some ⟨b, 0, none⟩)) := by rw [Lib.cell_of_heap hb2]; rfl
 have d1 : w2.cell? ⟨b, 1, none⟩ = some v := by rw [Lib.cell_of_heap hb2]; rfl
 have f1 : w2.frozen? ⟨b, 1, none⟩ = false := Lib.frozen_of_heap hb2 1
 obtain ⟨ao, n', cap, rfl⟩ : ∃ ao n' cap, v' = .slice ao n' cap := by
  rcases hown'.2 with ⟨hv, _⟩ | ⟨g, cap, cur, fz, hv, _⟩
  ·exact ⟨_, _, _, hv⟩
  ·exact ⟨_, _, _, hv⟩
 go_wp2
 go_ret2
 refine ⟨rfl, Or.inr ?_, ?_, (hk1.grown hgrow (Lib.ownsRowF_kind hown)).setCell ⟨b, 1, none⟩ rfl _⟩
 ·exact Lib.BuilderAtF.put (T := 110) (e := 5) hB hb2 (bs' := bs ++ Lib.strCells s) (by simpa [Lib.strCells_length] using hown') (by decide)
 ·exact (hb1.grown hgrow (by have := hb1.size; omega) (fun k hk => (hown.lt k hk).1)).setCell (p := ⟨b, 1, none⟩) hB _
end Go.Proofs.YtpklcnpmppaaoaaGreatDoor.Print
namespace Go.Proofs.YtpklcnpmppaaoaaGreatDoor.Print
open Go.RowKit Go.Proofs.YtpklcnpmppaaoaaGreatDoorW.PrintWords Go.Shelf
set_option linter.unusedVariables false
def wr_ren : Go.Shelf.Ren := ⟨fun | 168 => 88 | 240 => 114 | 242 => 115 | 276 => 136 | 278 => 137 | n => n, fun | 0 => 0 | 3 => 3 | 4 => 4 | 5 => 5 | 9 => 9 | 20 => 20 | 21 => 21 | 37 => 82 | 46 => 68 | 51 => 152 | 70 => 108 | 72 => 110 | 75 => 50 | 164 => 150 | 80 => 112 | n => n, fun | n => n⟩
theorem wr_lays : Go.Proofs.Lays.n168 Tryz.prog wr_ren := {
 mixed := by kernel_rfl
 f168 := Tryz.func88.trans (congrArg some (by kernel_rfl))
 f240 := Tryz.func114.trans (congrArg some (by kernel_rfl))
 f242 := Tryz.func115.trans (congrArg some (by kernel_rfl))
 f276 := Tryz.func136.trans (congrArg some (by kernel_rfl))
 f278 := Tryz.func137.trans (congrArg some (by kernel_rfl))
 t0 := Tryz.underlying0
 a0 := Tryz.isAgg0
 z0 := Tryz.sizeOf0
 v0 := Tryz.zeroValue0
 t3 := Tryz.underlying3
 a3 := Tryz.isAgg3
 z3 := Tryz.sizeOf3
 v3 := Tryz.zeroValue3
 t4 := Tryz.underlying4
 a4 := Tryz.isAgg4
 z4 := Tryz.sizeOf4
 v4 := Tryz.zeroValue4
 t5 := Tryz.underlying5
 a5 := Tryz.isAgg5
 z5 := Tryz.sizeOf5
 v5 := Tryz.zeroValue5
 t9 := Tryz.underlying9
 a9 := Tryz.isAgg9
 z9 := Tryz.sizeOf9
 v9 := Tryz.zeroValue9
 t20 := Tryz.underlying20
 a20 := Tryz.isAgg20
 z20 := Tryz.sizeOf20
 v20 := Tryz.zeroValue20
 t21 := Tryz.underlying21
 a21 := Tryz.isAgg21
 z21 := Tryz.sizeOf21
 v21 := Tryz.zeroValue21
 t37 := Tryz.underlying82
 a37 := Tryz.isAgg82
 z37 := Tryz.sizeOf82
 v37 := Tryz.zeroValue82
 t46 := Tryz.underlying68
 a46 := Tryz.isAgg68
 z46 := Tryz.sizeOf68
 v46 := Tryz.zeroValue68
 t51 := Tryz.underlying152
 a51 := Tryz.isAgg152
 z51 := Tryz.sizeOf152
 v51 := Tryz.zeroValue152
 t70 := Tryz.underlying108
 a70 := Tryz.isAgg108
 z70 := Tryz.sizeOf108
 v70 := Tryz.zeroValue108
 t72 := Tryz.underlying110
 a72 := Tryz.isAgg110
 z72 := Tryz.sizeOf110
 v72 := Tryz.zeroValue110
 t75 := Tryz.underlying50
 a75 := Tryz.isAgg50
 z75 := Tryz.sizeOf50
 v75 := Tryz.zeroValue50
 t164 := Tryz.underlying150
 a164 := Tryz.isAgg150
 z164 := Tryz.sizeOf150
 v164 := Tryz.zeroValue150 }
theorem wr_extra : Builder.Extra Tryz.prog wr_ren := {
 sizeBuilder := by kernel_rfl
 liesBuilder := by kernel_rfl
 t5 := Tryz.underlying5
 a5 := Tryz.isAgg5
 z5 := Tryz.sizeOf5
 v5 := Tryz.zeroValue5
 infoByte := by kernel_rfl
 cellsByte := by kernel_rfl
 sizeByte := by kernel_rfl
 neB5 := by decide }
theorem bld_WriteRune (B b : Nat) (bs : List Value) (r : Int) (hr0 : -2147483648 ≤ r) (hr1 : r ≤ 2147483647) (w : World) (h : Bld B b bs w) (hlen : bs.length + 4 ≤ 140737488355328) (hBw : B ≤ w.heap.size) :
  Calls Tryz.prog 88 #[.pointer (some ⟨b, 0, none⟩), .int .i32 r] w fun e w' => e = .returned (.tuple #[.int .i64 (Lib.runeCells r).length, .nilIface]) ∧ (Bld B b (bs ++ Lib.runeCells r) w' ∧ Below B w w' ∧ Lib.OthersKept 5 (some b) w w') := by
 refine (show Calls Tryz.prog 88 _ w _ from Any.Builder_WriteRune_k wr_lays wr_extra B b bs r hr0 hr1 w h hlen hBw).mono ?_
 rintro e w' ⟨he, h1, h2⟩
 exact ⟨he, Or.inr h1, h2⟩
end Go.Proofs.YtpklcnpmppaaoaaGreatDoor.Print
namespace Go.Proofs.YtpklcnpmppaaoaaGreatDoor.Print
open Go.RowKit Go.Proofs.YtpklcnpmppaaoaaGreatDoorW.PrintWords
theorem bld_String (B b : Nat) (l : List UInt8) (w : World) (h : Bld B b (Lib.byteCells l) w) (hBw : B ≤ w.heap.size) :
  Calls Tryz.prog 89 #[.pointer (some ⟨b, 0, none⟩)] w fun e w' => e = .returned (.string ⟨l.toArray⟩) ∧ Below B w w' := by
 refine (Tryz.Builder_String_any_k B b l w h hBw).mono ?_
 rintro e w' ⟨he, _, hb, _⟩
 exact ⟨he, hb⟩
end Go.Proofs.YtpklcnpmppaaoaaGreatDoor.Print
namespace Go.Proofs.YtpklcnpmppaaoaaGreatDoor.Print
open Go.RowKit Go.Proofs.YtpklcnpmppaaoaaGreatDoorW.PrintWords Go.Proofs.YtpklcnpmppaaoaaGreatDoorW.PrintLast Go.Proofs.YtpklcnpmppaaoaaGreatDoorW.PrintMore
set_option linter.unusedVariables false
set_option linter.unusedSimpArgs false
def prep_Map.of (fold : Bool) : Option (List Int) → ByteArray × Int
 | some l => (⟨(encAll (l.filterMap (mapRune fold))).toArray⟩, 0)
 | none => (⟨#[]⟩, 19)
def prep_Map.f (a0 : ByteArray) (a1 : Bool) : Option (ByteArray × Int) := if a0.size ≤ 1000000 then some (prep_Map.of a1 (runesN a0 a0.size 0)) else none
theorem encAll_snoc (l : List Int) (r : Int) : encAll (l ++ [r]) = encAll l ++ Lib.encodeRune r := by simp [encAll]
theorem encAll_length (l : List Int) : (encAll l).length ≤ 4 * l.length := by
 induction l with
 | nil => simp [encAll]
 | cons r l ih =>
  have h4 := Lib.runeCells_le r; rw [Lib.runeCells_length] at h4; simp only [encAll, List.flatMap_cons, List.length_append, List.length_cons] at ih ⊢; omega
theorem take_succ_rd (l : List Int) (k : Nat) (h : k < l.length) : l.take (k + 1) = l.take k ++ [l.getD k 0] := by
 rw [List.take_succ_eq_append_getElem h]; simp [List.getD_eq_getElem?_getD, h]
theorem below_w {B : Nat} {w W : World} (h : Below B w W) (hB : B ≤ w.heap.size) : B ≤ W.heap.size := by have := h.size; omega
set_option maxHeartbeats 4000000 in
set_option maxRecDepth 1000000 in
theorem prep_Map.calls (a0 : ByteArray) (a1 : Bool) (r1 : ByteArray) (r2 : Int) (w : World) (h : prep_Map.f a0 a1 = some (r1, r2)) :
  Calls Tryz.prog 57 #[.string a0, .bool a1] w fun e w' => e = .returned (.tuple #[.string r1, .int .i64 r2]) ∧ Below w.heap.size w w' := by
 have hsz : a0.size ≤ 1000000 := by unfold prep_Map.f at h; by_cases c : a0.size ≤ 1000000 <;> simp_all
 have hof : prep_Map.of a1 (runesN a0 a0.size 0) = (r1, r2) := by
  unfold prep_Map.f at h; rw [if_pos hsz] at h; simpa using h
 have hR : prep_Runes.f a0 = some (prep_Runes.of (runesN a0 a0.size 0)) := by unfold prep_Runes.f; rw [if_pos hsz]
 cases hr : runesN a0 a0.size 0 with
 | none =>
  rw [hr] at hof hR; simp only [prep_Runes.of] at hR; simp only [prep_Map.of, Prod.mk.injEq] at hof; obtain ⟨rfl, rfl⟩ := hof; have HR := Aside0.mk hR; clear hR hr h; go_enter Tryz.func57, Tryz.ntmps57; go_wp2_with (go_at_call 84; (with_reducible refine (prep_Runes.calls _ _ _ _ HR.out).mono ?_); rintro e w1 ⟨v0, rfl, hv, hb⟩; replace hv := Aside0.mk hv; replace hb := Aside0.mk hb); go_ret2; exact ⟨rfl, hb.out⟩
 | some l =>
  obtain ⟨hle, hln⟩ := runesN_le a0 _ _ l hr; rw [hr] at hof hR; simp only [prep_Runes.of] at hR; simp only [prep_Map.of, Prod.mk.injEq] at hof; obtain ⟨rfl, rfl⟩ := hof; have HR := Aside0.mk hR; have HL := Aside0.mk hle; clear hR hr h hle; go_enter Tryz.func57, Tryz.ntmps57; go_wp2_with (go_at_call 84; (with_reducible refine (prep_Runes.calls _ _ _ _ HR.out).mono ?_); rintro e w1 ⟨v0, rfl, hv, hb⟩; obtain ⟨A, c, rfl, hlc, hC⟩ := Kd.R_reads hv; clear hv; replace hb := Aside0.mk hb; replace hC := Aside0.mk hC); go_loopw [21] (fun i wr => ∃ (k : Nat) (acc : List UInt8), k ≤ l.length ∧ i = .int .i64 k ∧ Aside0 (Bld w1.heap.size w1.heap.size (Lib.byteCells acc) wr) ∧ Aside0 (Below w1.heap.size w1 wr) ∧ Aside0 (acc = encAll ((l.take k).filterMap (mapRune a1))) ∧ Aside0 (acc.length ≤ 4 * k)) (fun i wr => l.length - (intOf i).toNat); case atStart =>
   exact ⟨0, [], Nat.zero_le _, rfl, ⟨Lib.IsBuilderF.of (Lib.fresh_isBuilder 110 5 w1)⟩, ⟨(Below.refl _ w1).alloc (Nat.le_refl _) _⟩, ⟨rfl⟩, ⟨by simp⟩⟩
  case round =>
   obtain ⟨k, acc, hk, rfl, HB, hbw, hacc, hacl⟩ := hrel; by_cases hlt : k < l.length
   ·obtain ⟨ad, hA, hc⟩ := (Kd.reads_of_C (d := (0 : Int)) hC.out).at_ (k : Int) (by omega) (by omega); have hcw := (hbw.out.cell (World.block_lt_of_cell? _ _ hc)).trans hc; clear hc; subst hA; have hrb := HL.out (l.getD k 0) (by rw [List.getD_eq_getElem?_getD, List.getElem?_eq_getElem hlt]; simp); have hts := take_succ_rd l k hlt; simp only [Int.toNat_natCast, rdOf] at hcw; generalize hx : l.getD k 0 = r at *; obtain ⟨hr0, hr1⟩ := hrb; have hx0 : -2147483648 ≤ r := by omega
    have hx1 : r ≤ 2147483647 := by omega
    have HT := Aside0.mk hts; clear hts hx; cases hd : dropB r with
    | true =>
     have hm : mapRune a1 r = none := by unfold mapRune; rw [if_pos hd]
     have D1 := Aside0.mk ((dropped_is 6 (Nat.le_refl _) r).trans (congrArg some hd)); clear hd; go_wp2_with (first | (go_at_call 85; (with_reducible refine (prep_dropped.calls 6 _ _ _ D1.out).mono ?_); rintro e w2 ⟨rfl, ⟨nd, rfl⟩⟩)); go_roundw; case rel =>
      refine ⟨k + 1, acc, by omega, by go_num, ⟨by exact HB.out⟩, ⟨by repeat (first | exact hbw.out | apply pw_below_drewN)⟩, ⟨?_⟩, ⟨?_⟩⟩
      ·rw [HT.out, List.filterMap_append, hacc.out]; simp [hm, encAll_snoc]
      ·have := hacl.out; omega
     case measure => simp [intOf]; omega
    | false =>
     have D1 := Aside0.mk ((dropped_is 6 (Nat.le_refl _) r).trans (congrArg some hd)); cases hb2 : blankB r with
     | true =>
      have hm : mapRune a1 r = some 32 := by unfold mapRune; simp [hd, hb2]
      have D2 := Aside0.mk ((blank_is r).trans (congrArg some hb2)); clear hd hb2; go_wp2_with (first | (go_at_call 85; (with_reducible refine (prep_dropped.calls 6 _ _ _ D1.out).mono ?_); rintro e w2 ⟨rfl, ⟨nd, rfl⟩⟩) | (go_at_call 86; (with_reducible refine (prep_blank.calls _ _ _ D2.out).mono ?_); rintro e w2 ⟨rfl, ⟨nd, rfl⟩⟩) | (go_at_call 88; (with_reducible refine (bld_WriteRune w1.heap.size w1.heap.size (Lib.byteCells acc) _ ?h1 ?h2 _ ?hB ?h3 ?h4).mono ?_); (case hB => exact HB.out); (case h1 => omega); (case h2 => omega); (case h3 => rw [Lib.byteCells_length]; have := hacl.out; omega); (case h4 => exact (below_w ((by repeat (first | exact hbw.out | apply pw_below_drewN))) (Nat.le_refl _))); rintro e w2 ⟨rfl, h1, h2, h3⟩; replace h1 := Aside0.mk h1; replace h2 := Aside0.mk h2; clear h3)); go_roundw; case rel =>
       refine ⟨k + 1, acc ++ Lib.encodeRune (32), by omega, by go_num, ⟨by rw [Lib.byteCells_append, Lib.byteCells_encodeRune]; exact h1.out⟩, ⟨(by repeat (first | exact hbw.out | apply pw_below_drewN) : Below w1.heap.size w1 _).trans h2.out⟩, ⟨?_⟩, ⟨?_⟩⟩
       ·rw [HT.out, List.filterMap_append, hacc.out]; simp [hm, encAll_snoc]
       ·have h4 := Lib.runeCells_le (32); rw [Lib.runeCells_length] at h4; have := hacl.out; simp only [List.length_append]; omega
      case measure => simp [intOf]; omega
     | false =>
      have D2 := Aside0.mk ((blank_is r).trans (congrArg some hb2)); cases a1 with
      | true =>
       have hm : mapRune true r = some (smallI r) := by unfold mapRune; simp [hd, hb2]
       have D3 := Aside0.mk (small_is 6 (Nat.le_refl _) r hr0 hr1); have hs := smallI_le r hr0 hr1; clear hd hb2; go_wp2_with (first | (go_at_call 85; (with_reducible refine (prep_dropped.calls 6 _ _ _ D1.out).mono ?_); rintro e w2 ⟨rfl, ⟨nd, rfl⟩⟩) | (go_at_call 86; (with_reducible refine (prep_blank.calls _ _ _ D2.out).mono ?_); rintro e w2 ⟨rfl, ⟨nd, rfl⟩⟩) | (go_at_call 87; (with_reducible refine (prep_small.calls 6 _ _ _ D3.out).mono ?_); rintro e w2 ⟨rfl, ⟨nd, rfl⟩⟩) | (go_at_call 88; (with_reducible refine (bld_WriteRune w1.heap.size w1.heap.size (Lib.byteCells acc) _ ?h1 ?h2 _ ?hB ?h3 ?h4).mono ?_); (case hB => exact HB.out); (case h1 => omega); (case h2 => omega); (case h3 => rw [Lib.byteCells_length]; have := hacl.out; omega); (case h4 => exact (below_w ((by repeat (first | exact hbw.out | apply pw_below_drewN))) (Nat.le_refl _))); rintro e w2 ⟨rfl, h1, h2, h3⟩; replace h1 := Aside0.mk h1; replace h2 := Aside0.mk h2; clear h3)); go_roundw; case rel =>
        refine ⟨k + 1, acc ++ Lib.encodeRune (smallI r), by omega, by go_num, ⟨by rw [Lib.byteCells_append, Lib.byteCells_encodeRune]; exact h1.out⟩, ⟨(by repeat (first | exact hbw.out | apply pw_below_drewN) : Below w1.heap.size w1 _).trans h2.out⟩, ⟨?_⟩, ⟨?_⟩⟩
        ·rw [HT.out, List.filterMap_append, hacc.out]; simp [hm, encAll_snoc]
        ·have h4 := Lib.runeCells_le (smallI r); rw [Lib.runeCells_length] at h4; have := hacl.out; simp only [List.length_append]; omega
       case measure => simp [intOf]; omega
      | false =>
       have hm : mapRune false r = some r := by unfold mapRune; simp [hd, hb2]
       clear hd hb2; go_wp2_with (first | (go_at_call 85; (with_reducible refine (prep_dropped.calls 6 _ _ _ D1.out).mono ?_); rintro e w2 ⟨rfl, ⟨nd, rfl⟩⟩) | (go_at_call 86; (with_reducible refine (prep_blank.calls _ _ _ D2.out).mono ?_); rintro e w2 ⟨rfl, ⟨nd, rfl⟩⟩) | (go_at_call 88; (with_reducible refine (bld_WriteRune w1.heap.size w1.heap.size (Lib.byteCells acc) _ ?h1 ?h2 _ ?hB ?h3 ?h4).mono ?_); (case hB => exact HB.out); (case h1 => omega); (case h2 => omega); (case h3 => rw [Lib.byteCells_length]; have := hacl.out; omega); (case h4 => exact (below_w ((by repeat (first | exact hbw.out | apply pw_below_drewN))) (Nat.le_refl _))); rintro e w2 ⟨rfl, h1, h2, h3⟩; replace h1 := Aside0.mk h1; replace h2 := Aside0.mk h2; clear h3)); go_roundw; case rel =>
        refine ⟨k + 1, acc ++ Lib.encodeRune (r), by omega, by go_num, ⟨by rw [Lib.byteCells_append, Lib.byteCells_encodeRune]; exact h1.out⟩, ⟨(by repeat (first | exact hbw.out | apply pw_below_drewN) : Below w1.heap.size w1 _).trans h2.out⟩, ⟨?_⟩, ⟨?_⟩⟩
        ·rw [HT.out, List.filterMap_append, hacc.out]; simp [hm, encAll_snoc]
        ·have h4 := Lib.runeCells_le (r); rw [Lib.runeCells_length] at h4; have := hacl.out; simp only [List.length_append]; omega
       case measure => simp [intOf]; omega
   ·obtain rfl : k = l.length := by omega
    obtain rfl : acc = encAll (l.filterMap (mapRune a1)) := by rw [hacc.out, List.take_length]
    go_wp2_with (go_at_call 89; (with_reducible refine (bld_String w1.heap.size w1.heap.size _ _ HB.out ?h1).mono ?_); (case h1 => have := hbw.out.size; omega); rintro e w2 ⟨rfl, h2⟩; replace h2 := Aside0.mk h2); go_ret2; exact ⟨rfl, hb.out.trans ((hbw.out.trans h2.out).mono hb.out.size)⟩
end Go.Proofs.YtpklcnpmppaaoaaGreatDoor.Print
namespace Go.Proofs.YtpklcnpmppaaoaaGreatDoor.Print
open Go.RowKit Go.Proofs.YtpklcnpmppaaoaaGreatDoorW.PrintWords Go.Proofs.YtpklcnpmppaaoaaGreatDoorW.PrintLast Go.Proofs.YtpklcnpmppaaoaaGreatDoorW.PrintMore
attribute [local go_sem] max2_int min2_int max_two min_two max_three min_three max_four min_four
set_option linter.unusedVariables false
set_option linter.unusedSimpArgs false
def prep_Ready.l0 : Nat → List ByteArray → List ByteArray → Int → Int → Option (ByteArray × Int)
 | 0, _, _, _, _ => none
 | k + 1, x8, x21, x22, x23 => if x23 < x22 then (if 0 ≤ x23 then (if x23 < (x21.length : Int) then (if (rdOf ByteArray.empty x21 x23).toList = ([] : List UInt8) then (prep_Ready.l0 k x8 x21 x22 (wrap64 (x23 + 1))) else (if x8.length < 8796093022208 then (prep_Ready.l0 k (x8 ++ [rdOf ByteArray.empty x21 x23]) x21 x22 (wrap64 (x23 + 1))) else (none))) else (none)) else (none)) else ((strings_Join.f x8 (⟨#[32]⟩ : ByteArray)).bind fun t150 => (some (t150, 0)))
def prep_Ready.f (k : Nat) (a0 : ByteArray) (a1 : Bool) : Option (ByteArray × Int) := (prep_Map.f a0 a1).bind fun bt141 => (if bt141.2 = 0 then ((strings_Split.f bt141.1 (⟨#[32]⟩ : ByteArray)).bind fun t143 => (prep_Ready.l0 k ([] : List ByteArray) t143 (t143.length : Int) 0)) else (some ((⟨#[]⟩ : ByteArray), bt141.2)))
theorem prep_Ready.mono_l : ∀ k, (∀ y0 y1 y2 y3, LeO (prep_Ready.l0 k y0 y1 y2 y3) (prep_Ready.l0 (k + 1) y0 y1 y2 y3))
 | 0 => fun _ _ _ _ r h => by simp [prep_Ready.l0] at h
 | k + 1 => by
  have ih0 := prep_Ready.mono_l k
  ·
   intro y0 y1 y2 y3
   unfold prep_Ready.l0
   repeat' first
   | (with_reducible exact ih0 _ _ _ _)
   | (with_reducible exact LeO.refl _)
   | (with_reducible exact LeO.none _)
   | (with_reducible refine LeO.ite ?_ ?_)
   | (with_reducible refine LeO.bind ?_ (fun _ => ?_))
theorem prep_Ready.mono : ∀ a0 a1 k, LeO (prep_Ready.f k a0 a1) (prep_Ready.f (k + 1) a0 a1) := by
 intro a0 a1 k; have ih0 := prep_Ready.mono_l k; unfold prep_Ready.f; repeat' first
   | (with_reducible exact ih0 _ _ _ _)
   | (with_reducible exact LeO.refl _)
   | (with_reducible exact LeO.none _)
   | (with_reducible refine LeO.ite ?_ ?_)
   | (with_reducible refine LeO.bind ?_ (fun _ => ?_))
set_option maxHeartbeats 8000000 in
set_option maxRecDepth 100000 in
theorem prep_Ready.calls (k : Nat) (a0 : ByteArray) (a1 : Bool) (r1 : ByteArray) (r2 : Int) (w : World) (hG : Gw w) (h : prep_Ready.f k a0 a1 = some (r1, r2)) :
  Calls Tryz.prog 67 #[.string a0, .bool a1] w fun e w' => e = .returned (.tuple #[.string r1, .int .i64 r2]) ∧ Below w.heap.size w w' := by
 have HB := am (Below.refl w.heap.size w)
 have HG := am hG
 clear hG
 have H : ((prep_Map.f a0 a1).bind fun bt141 => (if bt141.2 = 0 then ((strings_Split.f bt141.1 (⟨#[32]⟩ : ByteArray)).bind fun t143 => (prep_Ready.l0 k ([] : List ByteArray) t143 (t143.length : Int) 0)) else (some ((⟨#[]⟩ : ByteArray), bt141.2)))) = some (r1, r2) := h
 clear h
 replace H := Option.bind_eq_some_iff.mp H
 obtain ⟨⟨t141, t142⟩, A30, H⟩ := H
 replace H : (if t142 = 0 then ((strings_Split.f t141 (⟨#[32]⟩ : ByteArray)).bind fun t143 => (prep_Ready.l0 k ([] : List ByteArray) t143 (t143.length : Int) 0)) else (some ((⟨#[]⟩ : ByteArray), t142))) = some (r1, r2) := H
 have A3 := am A30
 clear A30
 revert H
 refine spe01 ?_ ?_
 ·intro c4b0 c4b1 H; replace H := Option.bind_eq_some_iff.mp H; obtain ⟨t143, A50, H⟩ := H; replace H : (prep_Ready.l0 k ([] : List ByteArray) t143 (t143.length : Int) 0) = some (r1, r2) := H; have A5 := am A50; clear A50; have H' := am H; clear H; go_enter Tryz.func67, Tryz.ntmps67; go_wp2_with (first | ((with_reducible refine gate_callee (f := 57) rfl ?_); refine goesL_ (some 14) rfl rfl Tryz.func57 (by kernel_rfl) rfl #[.string a0, .bool a1] rfl ap3 ?_; (with_reducible refine (prep_Map.calls a0 a1 t141 t142 _ A3.out).mono ?_); rintro e w6 ⟨rfl, hb⟩; refine ⟨_, rfl, ?_⟩; replace HB := am (below_step ap1 hb)) | ((with_reducible refine gate_callee (f := 94) rfl ?_); refine goesL_ (some 21) rfl rfl Tryz.func94 (by kernel_rfl) rfl #[.string t141, .string (⟨#[32]⟩ : ByteArray)] rfl ap3 ?_; (with_reducible refine (strings_Split.calls t141 (⟨#[32]⟩ : ByteArray) t143 _ ?side1 A5.out).mono ?_); (case side1 => exact ap6); rintro e w7 ⟨v144, rfl, ho0, hb⟩; refine ⟨_, rfl, ?_⟩; have HO145 := am (Kd.R_lower ho0 (below_size ap1)); replace HB := am (below_step ap1 hb); (try clear ho0); obtain ⟨Ao8, co8, eo8⟩ := Kd.R_slice HO145.out; subst eo8)); go_loopg [8, 23] k (fun kq v8 v23 w' => ∃ (x8_1 : List ByteArray) (x23_1 : Int), v23 = .int .i64 x23_1 ∧ Aside0 (prep_Ready.l0 kq x8_1 t143 (t143.length : Int) x23_1 = some (r1, r2)) ∧ Aside0 (kq ≤ k) ∧ Aside0 (Kd.R Kd.string 9 w' w.heap.size (fun k_ => some k_ ≠ ((.slice Ao8 t143.length co8) : Value).ownBlock) v8 x8_1) ∧ Aside0 (Kd.R Kd.string 9 w' w.heap.size (fun k_ => some k_ ≠ (v8 : Value).ownBlock) (.slice Ao8 t143.length co8) t143) ∧ Aside0 (Below w.heap.size w w')); (case atStart => exact ⟨(([] : List ByteArray)), (0), ap2, H', ⟨Nat.le_refl _⟩, ⟨by first | exact Kd.R_nil _ _ _ _ _ | exact Kd.N_nil _ _ _ _ _ | exact Kd.V_nil _ _ _ _ _ | exact Kd.Q_nil _ _ _ _ _ | exact Kd.S_nil _ _ _ _ _⟩, ⟨by (with_reducible repeat (first | apply Kd.R_alloc | apply Kd.R_drewN | apply Kd.R_drew)); exact Kd.R_mono HO145.out (fun _ hk => (by simp [Value.ownBlock]))⟩, ⟨ap1⟩⟩); case round =>
   clear H'; (try clear c4); (try clear c4b0); (try clear c4b1); obtain ⟨x8_1, x23_1, rfl, HA, HK1, HO_8, HO_21, HB⟩ := hrel; cases gk with
   | zero => exact absurd HA.out (by simp [prep_Ready.l0])
   | succ k1 =>
    have H := HA.out; clear HA; simp only [prep_Ready.l0] at H; revert H; refine spd00 ?_ ?_
    ·intro c9b0 H; revert H; refine spn0 ?_; intro c10b0 H; revert H; refine spn0 ?_; intro c11b0 H; revert H; refine spe01 ?_ ?_
     ·intro c12b0 c12b1 H; have H' := am H; clear H; have p146 : 0 ≤ (x23_1 : Int) := apD; have q146 : x23_1 < (t143.length : Int) := apD; obtain ⟨ad146, e146, hx146_0⟩ := Kd.at_string (Kd.R_reads' HO_21.out).2.2 x23_1 p146 q146; cases e146; replace p146 := eq_true p146; replace q146 := eq_true q146; go_wp2; go_roundg k1; (case measure => have := HK1.out; omega); case rel => exact ⟨(x8_1), (wrap64 (x23_1 + 1)), ap2, H', ⟨by have := HK1.out; omega⟩, ⟨apAR HO_8.out⟩, ⟨apAR HO_21.out⟩, ⟨ap1⟩⟩
     ·intro c12 c12b0 c12b1 H; by_cases c13 : x8_1.length < 8796093022208
      ·rw [if_pos c13] at H; have LMc13 := am c13; clear c13; obtain ⟨y147, hy147⟩ : ∃ y_ : List ByteArray, y_ = (x8_1 ++ [rdOf ByteArray.empty t143 x23_1]) := ⟨_, rfl⟩; replace H : (prep_Ready.l0 k1 y147 t143 (t143.length : Int) (wrap64 (x23_1 + 1))) = some (r1, r2) := apY hy147 H; have Ny147 := am hy147; clear hy147; have H' := am H; clear H; have p146 : 0 ≤ (x23_1 : Int) := apD; have q146 : x23_1 < (t143.length : Int) := apD; obtain ⟨ad146, e146, hx146_0⟩ := Kd.at_string (Kd.R_reads' HO_21.out).2.2 x23_1 p146 q146; cases e146; replace p146 := eq_true p146; replace q146 := eq_true q146; go_wp2_with (first | ((with_reducible refine gate_builtin (b := .append) (xs := #[.tmp 29, .tmp 31]) rfl ?_); at_builtin; refine Kd.R_append Kd.string (w0 := w) w.heap.size rfl (.tmp 29) (.tmp 31) 31 9 (.string ⟨#[]⟩) 16 rfl Tryz.underlying31 info9 rfl (by decide) (by omega) u8 x8_1 (rdOf ByteArray.empty t143 x23_1) [.string (rdOf ByteArray.empty t143 x23_1)] (fun k_ => some k_ ≠ (.slice (some ad146) t143.length co8 : Value).ownBlock) (fun _ => False) rfl rfl ?aP (fun _ hk => hk.elim) ?aF ?aO ?aB ?aS ?aL ?_; (case aP => exact rfl); (case aB => exact ap1); (case aF => exact (fun k_ hk => Kd.fresh' (Kd.R_lt (apAR HO_21.out)) k_ hk)); (case aO => exact (apAR HO_8.out)); (case aS => exact (below_size ap1)); (case aL => have := LMc13.out; omega); intro v148 w14 ho hb hg hat; rw [← Ny147.out] at ho; replace HO_21 := am (Kd.R_after (ok := (fun _ => True)) (by (with_reducible repeat (first | apply Kd.R_alloc | apply Kd.R_drewN | apply Kd.R_drew)); exact Kd.R_mono HO_21.out (fun _ hk => ⟨trivial, hk⟩)) hg hat); have HO149 := am (ho); replace HB := am (hb); clear ho hb hg hat)); go_roundg k1; (case measure => have := HK1.out; omega); case rel => exact ⟨(y147), (wrap64 (x23_1 + 1)), ap2, H', ⟨by have := HK1.out; omega⟩, ⟨apAR HO149.out⟩, ⟨by (with_reducible repeat (first | apply Kd.R_alloc | apply Kd.R_drewN | apply Kd.R_drew)); exact Kd.R_mono HO_21.out (fun _ hk => hk.2)⟩, ⟨ap1⟩⟩
      ·rw [if_neg c13] at H; exact absurd H (by simp)
    ·intro c9b0 H; replace H := Option.bind_eq_some_iff.mp H; obtain ⟨t150, A150, H⟩ := H; replace H : (some (t150, 0)) = some (r1, r2) := H; have A15 := am A150; clear A150; simp only [Option.some.injEq, Prod.mk.injEq] at H; obtain ⟨rfl, rfl⟩ := H; obtain ⟨Ao16, co16, eo16⟩ := Kd.R_slice HO_8.out; subst eo16; go_wp2_with (first | ((with_reducible refine gate_callee (f := 71) rfl ?_); refine goesL_ (some 35) rfl rfl Tryz.func71 (by kernel_rfl) rfl #[.slice Ao16 x8_1.length co16, .string (⟨#[32]⟩ : ByteArray)] rfl ap3 ?_; (with_reducible refine (strings_Join.calls _ _ x8_1 (⟨#[32]⟩ : ByteArray) t150 _ ?side1 ?side2 A15.out).mono ?_); (case side1 => repeat (first | exact (Kd.R_reads' HO_8.out).2.2 | (with_reducible refine Kd.C_alloc ?_ _) | (with_reducible refine Kd.C_drewN ?_ _) | (with_reducible refine Kd.C_drew ?_))); (case side2 => exact (Kd.R_reads' HO_8.out).2.1); rintro e w17 ⟨rfl, hb⟩; refine ⟨_, rfl, ?_⟩; replace HO_8 := am (Kd.R_below (apAR HO_8.out) hb); replace HO_21 := am (Kd.R_below (apAR HO_21.out) hb); replace HB := am (below_step ap1 hb))); go_ret2; exact ⟨ap9, ap1⟩
 ·intro c4 c4b0 c4b1 H; simp only [Option.some.injEq, Prod.mk.injEq] at H; obtain ⟨rfl, rfl⟩ := H; go_enter Tryz.func67, Tryz.ntmps67; go_wp2_with (first | ((with_reducible refine gate_callee (f := 57) rfl ?_); refine goesL_ (some 14) rfl rfl Tryz.func57 (by kernel_rfl) rfl #[.string a0, .bool a1] rfl ap3 ?_; (with_reducible refine (prep_Map.calls a0 a1 t141 t142 _ A3.out).mono ?_); rintro e w18 ⟨rfl, hb⟩; refine ⟨_, rfl, ?_⟩; replace HB := am (below_step ap1 hb))); go_ret2; exact ⟨ap9, ap1⟩
def dn_rightValue.f (k : Nat) (a0 : ByteArray) : Option (Bool) := (prep_Ready.f k a0 true).bind fun bt190 => (if (a0.size : Int) ≤ 255 then (if bt190.2 = 0 then (some (bt190.1.toList != ([] : List UInt8))) else (some false)) else (some false))
theorem dn_rightValue.mono : ∀ a0 k, LeO (dn_rightValue.f k a0) (dn_rightValue.f (k + 1) a0) := by
 intro a0 k; unfold dn_rightValue.f; repeat' first
   | (with_reducible exact prep_Ready.mono _ _ _)
   | (with_reducible exact LeO.refl _)
   | (with_reducible exact LeO.none _)
   | (with_reducible refine LeO.ite ?_ ?_)
   | (with_reducible refine LeO.bind ?_ (fun _ => ?_))
set_option maxHeartbeats 8000000 in
set_option maxRecDepth 100000 in
theorem dn_rightValue.calls (k : Nat) (a0 : ByteArray) (r : Bool) (w : World) (hG : Gw w) (h : dn_rightValue.f k a0 = some r) :
  Calls Tryz.prog 147 #[.string a0] w fun e w' => e = .returned (.bool r) ∧ Below w.heap.size w w' := by
 have HB := am (Below.refl w.heap.size w)
 have HG := am hG
 clear hG
 have H : ((prep_Ready.f k a0 true).bind fun bt190 => (if (a0.size : Int) ≤ 255 then (if bt190.2 = 0 then (some (bt190.1.toList != ([] : List UInt8))) else (some false)) else (some false))) = some r := h
 clear h
 replace H := Option.bind_eq_some_iff.mp H
 obtain ⟨⟨t190, t191⟩, A20, H⟩ := H
 replace H : (if (a0.size : Int) ≤ 255 then (if t191 = 0 then (some (t190.toList != ([] : List UInt8))) else (some false)) else (some false)) = some r := H
 have A2 := am A20
 clear A20
 revert H
 refine spd11 ?_ ?_
 ·intro c3 c3b0 H; have c3b1 : decide (a0.size ≤ 255) = true := decide_eq_true (by omega); clear c3; revert H; refine spe01 ?_ ?_
  ·intro c4b0 c4b1 H; obtain rfl := Option.some.inj H; go_enter Tryz.func147, Tryz.ntmps147; go_wp2_with (first | ((with_reducible refine gate_callee (f := 67) rfl ?_); refine goesL_ (some 7) rfl rfl Tryz.func67 (by kernel_rfl) rfl #[.string a0, .bool true] rfl ap3 ?_; (with_reducible refine (prep_Ready.calls k a0 true t190 t191 _ ?side1 A2.out).mono ?_); (case side1 => exact ap6); rintro e w5 ⟨rfl, hb⟩; refine ⟨_, rfl, ?_⟩; replace HB := am (below_step ap1 hb))); go_ret; exact ⟨ap9, ap1⟩
  ·intro c4 c4b0 c4b1 H; obtain rfl := Option.some.inj H; go_enter Tryz.func147, Tryz.ntmps147; go_wp2_with (first | ((with_reducible refine gate_callee (f := 67) rfl ?_); refine goesL_ (some 7) rfl rfl Tryz.func67 (by kernel_rfl) rfl #[.string a0, .bool true] rfl ap3 ?_; (with_reducible refine (prep_Ready.calls k a0 true t190 t191 _ ?side1 A2.out).mono ?_); (case side1 => exact ap6); rintro e w6 ⟨rfl, hb⟩; refine ⟨_, rfl, ?_⟩; replace HB := am (below_step ap1 hb))); go_ret; exact ⟨ap9, ap1⟩
 ·intro c3 c3b0 H; have c3b1 : decide (a0.size ≤ 255) = false := decide_eq_false (by omega); clear c3; obtain rfl := Option.some.inj H; go_enter Tryz.func147, Tryz.ntmps147; go_wp2_with (first | ((with_reducible refine gate_callee (f := 67) rfl ?_); refine goesL_ (some 7) rfl rfl Tryz.func67 (by kernel_rfl) rfl #[.string a0, .bool true] rfl ap3 ?_; (with_reducible refine (prep_Ready.calls k a0 true t190 t191 _ ?side1 A2.out).mono ?_); (case side1 => exact ap6); rintro e w7 ⟨rfl, hb⟩; refine ⟨_, rfl, ?_⟩; replace HB := am (below_step ap1 hb))); go_ret; exact ⟨ap9, ap1⟩
end Go.Proofs.YtpklcnpmppaaoaaGreatDoor.Print
namespace Go.Proofs.YtpklcnpmppaaoaaGreatDoor.Print
open Go.RowKit Go.Proofs.YtpklcnpmppaaoaaGreatDoorW.PrintWords
abbrev Ava := S96
def sameType (a b : Ava) : Bool := b.f0.toList == a.f0.toList
def rdnGo (k : Nat) (pre : List Ava) : List Ava → Option Bool
 | [] => some true
 | a :: rest =>
  if pre.any (sameType a) = true then some false
  else (dn_rightType.f k a.f0).bind fun t => if t = true then (dn_rightValue.f k a.f1).bind fun v => if v = true then rdnGo k (pre ++ [a]) rest else some false else some false
def dn_rightRdn.f (k : Nat) (l0 : List Ava) : Option Bool := if l0.length < 1 then some false else if l0.length > 4 then some false else rdnGo k [] l0
theorem rdnGo_mono (k : Nat) : ∀ (l pre : List Ava), LeO (rdnGo k pre l) (rdnGo (k + 1) pre l)
 | [], _ => LeO.refl _
 | a :: rest, pre => by
  unfold rdnGo
  refine LeO.ite (LeO.refl _) (LeO.bind (dn_rightType.mono _ _) fun t => LeO.ite (LeO.bind (dn_rightValue.mono _ _) fun v => LeO.ite (rdnGo_mono k rest _) (LeO.refl _)) (LeO.refl _))
theorem dn_rightRdn.mono : ∀ a0 k, LeO (dn_rightRdn.f k a0) (dn_rightRdn.f (k + 1) a0) := by
 intro a0 k; unfold dn_rightRdn.f; exact LeO.ite (LeO.refl _) (LeO.ite (LeO.refl _) (rdnGo_mono k _ _))
set_option maxHeartbeats 1000000 in
set_option maxRecDepth 100000 in
theorem rdn_eq_calls (b0 b1 t v : ByteArray) (g : Nat) (w : World) (hg : w.heap[g]? = some (.cells #[.string t, .string v] 96 (0, 0))) :
  Calls Tryz.prog 146 #[.agg #[.string b0, .string b1], .pointer (some ⟨g, 0, none⟩)] w fun e w' => e = .returned (.bool (b0.toList == t.toList)) ∧ Below w.heap.size w w' := by
 have c0 : w.cell? ⟨g, 0, none⟩ = some (.string t) := by rw [Lib.cell_of_heap hg]; rfl
 have c1 : ∀ o, (w.alloc o).cell? ⟨g, 0, none⟩ = some (.string t) := fun o => (World.cell?_alloc_lt _ _ _ (World.block_lt_of_cell? _ _ c0)).trans c0
 have hu := Tryz.underlying96
 clear hg c0
 go_enter Tryz.func146, Tryz.ntmps146
 go_wp2
 go_ret
 exact ⟨rfl, below_alloc (Below.refl _ _) _⟩
def idxType (a : Ava) (l : List Ava) : Int := match l.findIdx? (sameType a) with | some i => i | none => -1
theorem idxType_miss (a : Ava) (l : List Ava) (h : ∀ (j : Nat) b, l[j]? = some b → sameType a b = false) : idxType a l = -1 := by
 unfold idxType; rw [List.findIdx?_eq_none_iff.2]; intro x hx; obtain ⟨j, hj, rfl⟩ := List.getElem_of_mem hx; exact h j _ (by simp [hj])
theorem idxType_hit (a : Ava) (l : List Ava) (k : Nat) (b : Ava) (h : ∀ (j : Nat) b, j < k → l[j]? = some b → sameType a b = false) (hk : l[k]? = some b) (hb : sameType a b = true) : idxType a l = k := by
 unfold idxType; obtain ⟨hlt, rfl⟩ := List.getElem?_eq_some_iff.1 hk; rw [(List.findIdx?_eq_some_iff_getElem (p := sameType a) (xs := l) (i := k)).2 ⟨hlt, hb, fun j hj => by have := h j _ hj (List.getElem?_eq_getElem (by omega)); simpa using this⟩]
theorem idxType_any (a : Ava) (l : List Ava) : decide (0 ≤ idxType a l) = l.any (sameType a) := by
 unfold idxType; cases h : l.findIdx? (sameType a) with
 | none =>
  rw [List.findIdx?_eq_none_iff] at h; have : l.any (sameType a) = false := by simpa using h
  rw [this]; simp
 | some i =>
  obtain ⟨hlt, hp, _⟩ := List.findIdx?_eq_some_iff_getElem.1 h; have : l.any (sameType a) = true := List.any_eq_true.2 ⟨_, List.getElem_mem hlt, hp⟩; rw [this]; simp
set_option maxHeartbeats 2000000 in
set_option maxRecDepth 100000 in
theorem rdn_index_calls (a : Ava) (A : Option Addr) (c : Nat) (l : List Ava) (g : Nat) (w : World) (hg : w.heap[g]? = some (.cells #[.string a.f0, .string a.f1] 96 (0, 0))) (hr : Kd.C k96 w A l.length l) :
  Calls Tryz.prog 160 #[.slice A l.length c, .func (.func 146) #[] #[.pointer (some ⟨g, 0, none⟩)]] w fun e w' => e = .returned (.int .i64 (idxType a l)) ∧ Below w.heap.size w w' := by
 have hlen := hr.2.1
 have hgl : g < w.heap.size := (Array.getElem?_eq_some_iff.1 hg).1
 have HG := Aside0.mk hg
 have HR := Aside0.mk hr
 clear hg hr
 go_enter Tryz.func160, Tryz.ntmps160
 go_wp2
 go_loopw [8] (fun i wr => ∃ k : Nat, k ≤ l.length ∧ i = .int .i64 k ∧ Aside0 (Below w.heap.size w wr) ∧ Aside0 (∀ (j : Nat) b, j < k → l[j]? = some b → sameType a b = false)) (fun i wr => l.length - (intOf i).toNat)
 case atStart => exact ⟨0, Nat.zero_le _, rfl, ⟨Below.refl _ _⟩, ⟨fun j b h => absurd h (Nat.not_lt_zero _)⟩⟩
 case round =>
  obtain ⟨k, hk, rfl, HB, HN⟩ := hrel; by_cases hlt : k < l.length
  ·obtain ⟨ad, rfl, x0, x1⟩ := at_T96 HR.out (k : Int) (by omega) (by omega); rw [Int.toNat_natCast] at x0 x1; replace x0 := (HB.out.cell (World.block_lt_of_cell? w _ x0)).trans x0; replace x1 := (HB.out.cell (World.block_lt_of_cell? w _ x1)).trans x1; have hgw := Aside0.mk ((HB.out.block g hgl).trans HG.out); have hrd : Aside0 (l[k]? = some (rd_T96 l (k : Int))) := ⟨by unfold rd_T96; rw [Int.toNat_natCast, List.getD_eq_getElem?_getD, List.getElem?_eq_getElem hlt]; rfl⟩; generalize rd_T96 l (k : Int) = b at *; cases hs : sameType a b with
   | true =>
    have hi := Aside0.mk (idxType_hit a l k b HN.out hrd.out hs); have hq : (b.f0.toList == a.f0.toList) = true := hs; have hcl := Aside0.mk (rdn_eq_calls b.f0 b.f1 a.f0 a.f1 g wr hgw.out); clear hs; go_wp2_with (go_at_call 146; (with_reducible refine hcl.out.mono ?_); rintro e w2 ⟨rfl, h2⟩; replace h2 := Aside0.mk h2); go_ret; exact ⟨by rw [hi.out]; rfl, HB.out.trans (h2.out.mono HB.out.size)⟩
   | false =>
    have hq : (b.f0.toList == a.f0.toList) = false := hs; have hcl := Aside0.mk (rdn_eq_calls b.f0 b.f1 a.f0 a.f1 g wr hgw.out); have HS := Aside0.mk hs; clear hs; go_wp2_with (go_at_call 146; (with_reducible refine hcl.out.mono ?_); rintro e w2 ⟨rfl, h2⟩; replace h2 := Aside0.mk h2); go_roundw; case rel =>
     refine ⟨k + 1, by omega, by go_num, ⟨HB.out.trans (h2.out.mono HB.out.size)⟩, ⟨?_⟩⟩; intro j b' hj hjb; rcases Nat.lt_succ_iff_lt_or_eq.1 hj with h | rfl
     ·exact HN.out j b' h hjb
     ·rw [hrd.out] at hjb; injection hjb with hjb; subst hjb; exact HS.out
    case measure => simp [intOf]; omega
  ·obtain rfl : k = l.length := by omega
   have hi := Aside0.mk (idxType_miss a l (fun j b hj => HN.out j b (List.getElem?_eq_some_iff.1 hj).1 hj)); go_wp2; go_ret; exact ⟨by rw [hi.out]; rfl, HB.out⟩
set_option maxHeartbeats 2000000 in
set_option maxRecDepth 100000 in
theorem rdn_contains_calls (a : Ava) (A : Option Addr) (c : Nat) (l : List Ava) (g : Nat) (w : World) (hg : w.heap[g]? = some (.cells #[.string a.f0, .string a.f1] 96 (0, 0))) (hr : Kd.C k96 w A l.length l) :
  Calls Tryz.prog 145 #[.slice A l.length c, .func (.func 146) #[] #[.pointer (some ⟨g, 0, none⟩)]] w fun e w' => e = .returned (.bool (l.any (sameType a))) ∧ Below w.heap.size w w' := by
 have hcl := Aside0.mk (rdn_index_calls a A c l g w hg hr)
 have hq := Aside0.mk (idxType_any a l)
 clear hg hr
 go_enter Tryz.func145, Tryz.ntmps145
 go_wp2_with (go_at_call 160; (with_reducible refine hcl.out.mono ?_); rintro e w2 ⟨rfl, h2⟩; replace h2 := Aside0.mk h2)
 go_ret
 exact ⟨by rw [← hq.out]; rfl, h2.out⟩
set_option maxHeartbeats 2000000 in
set_option maxRecDepth 100000 in
theorem dn_rightRdn.calls (k : Nat) (A0 : Option Addr) (c0 : Nat) (l0 : List Ava) (r : Bool) (w : World) (hr0 : Kd.C k96 w A0 l0.length l0) (hc0 : l0.length ≤ c0) (hG : Gw w) (h : dn_rightRdn.f k l0 = some r) :
  Calls Tryz.prog 125 #[.slice A0 l0.length c0] w fun e w' => e = .returned (.bool r) ∧ Below w.heap.size w w' := by
 have HR := Aside0.mk hr0
 have HG := Aside0.mk hG
 have hlen := hr0.2.1
 clear hr0 hG
 unfold dn_rightRdn.f at h
 by_cases c1 : l0.length < 1
 ·rw [if_pos c1] at h; injection h with h; subst h; have e0 : decide (l0.length < 1) = true := decide_eq_true c1; have e1 : decide ((l0.length : Int) < 1) = true := decide_eq_true (by omega); go_enter Tryz.func125, Tryz.ntmps125; go_wp2; go_ret; exact ⟨rfl, Below.refl _ _⟩
 by_cases c2 : l0.length > 4
 ·rw [if_neg c1, if_pos c2] at h; injection h with h; subst h; have e0 : decide ((l0.length : Int) < 1) = false := decide_eq_false (by omega); have e1 : decide (4 < (l0.length : Int)) = true := decide_eq_true (by omega); go_enter Tryz.func125, Tryz.ntmps125; go_wp2; go_ret; exact ⟨rfl, Below.refl _ _⟩
 rw [if_neg c1, if_neg c2] at h
 have HF := Aside0.mk h
 have e0 : decide ((l0.length : Int) < 1) = false := decide_eq_false (by omega)
 have e1 : decide (4 < (l0.length : Int)) = false := decide_eq_false (by omega)
 clear h
 go_enter Tryz.func125, Tryz.ntmps125
 go_wp2
 go_loopw [16] (fun i wr => ∃ j : Nat, j ≤ l0.length ∧ i = .int .i64 j ∧ Aside0 (Below w.heap.size w wr) ∧ Aside0 (rdnGo k (l0.take j) (l0.drop j) = some r)) (fun i wr => l0.length - (intOf i).toNat)
 case atStart => exact ⟨0, Nat.zero_le _, rfl, ⟨Below.refl _ _⟩, ⟨by simpa using HF.out⟩⟩
 case round =>
  obtain ⟨j, hj, rfl, HB, HQ⟩ := hrel; by_cases hlt : j < l0.length
  ·obtain ⟨ad, rfl, x0, x1⟩ := at_T96 HR.out (j : Int) (by omega) (by omega); rw [Int.toNat_natCast] at x0 x1; replace x0 := (HB.out.cell (World.block_lt_of_cell? w _ x0)).trans x0; replace x1 := (HB.out.cell (World.block_lt_of_cell? w _ x1)).trans x1; have hrd : l0[j]? = some (rd_T96 l0 (j : Int)) := by unfold rd_T96; rw [Int.toNat_natCast, List.getD_eq_getElem?_getD, List.getElem?_eq_getElem hlt]; rfl
   generalize rd_T96 l0 (j : Int) = b at *; have hq := HQ.out; rw [List.drop_eq_getElem_cons hlt] at hq; obtain ⟨_, hgb⟩ := List.getElem?_eq_some_iff.1 hrd; rw [hgb] at hq; unfold rdnGo at hq; have HT := Aside0.mk (show l0.take (j + 1) = l0.take j ++ [b] by rw [List.take_succ_eq_append_getElem hlt, hgb]); have HQ2 := Aside0.mk hq; clear hq hrd hgb HQ; have hlj : (l0.take j).length = j := by rw [List.length_take]; omega
   have hcw : Kd.C k96 (wr.alloc (.cells #[.string b.f0, .string b.f1] 96)) (some ad) (l0.take j).length (l0.take j) := Kd.C_take (Kd.C_below (Kd.C_below HR.out HB.out) (below_alloc (Below.refl _ _) _)) (by omega); have hcl := rdn_contains_calls b (some ad) c0 (l0.take j) wr.heap.size _ (heap_alloc_new wr _) hcw; rw [hlj] at hcl; have HC := Aside0.mk hcl; have n0 : (wr.alloc (.cells #[.string b.f0, .string b.f1] 96)).cell? ⟨wr.heap.size, 0, none⟩ = some (.string b.f0) := by rw [Lib.cell_of_heap (heap_alloc_new wr _)]; rfl
   have n1 : (wr.alloc (.cells #[.string b.f0, .string b.f1] 96)).cell? ⟨wr.heap.size, 1, none⟩ = some (.string b.f1) := by rw [Lib.cell_of_heap (heap_alloc_new wr _)]; rfl
   have hub := Tryz.underlying96; clear hcl hcw hlj; cases hany : (l0.take j).any (sameType b) with
   | true =>
    have hq := HQ2.out; rw [if_pos hany] at hq; injection hq with hq; subst hq; rw [hany] at HC; clear hany; go_wp2_with (first | (go_at_call 145; (with_reducible refine HC.out.mono ?_); rintro e w2 ⟨rfl, h2⟩; replace h2 := Aside0.mk h2)); go_ret; exact ⟨rfl, (below_alloc HB.out _).trans (h2.out.mono (below_w (below_alloc HB.out _) (Nat.le_refl _)))⟩
   | false =>
    have hq := HQ2.out; rw [if_neg (by rw [hany]; decide)] at hq; rw [hany] at HC; clear hany; replace hq := Option.bind_eq_some_iff.mp hq; obtain ⟨t1, ht1, hq⟩ := hq; have HT1 := Aside0.mk ht1; clear ht1; cases t1 with
    | false =>
     rw [if_neg (by decide)] at hq; injection hq with hq; subst hq; go_wp2_with (first | (go_at_call 145; (with_reducible refine HC.out.mono ?_); rintro e w2 ⟨rfl, h2⟩; have y0 := (h2.cell (World.block_lt_of_cell? _ _ n0)).trans n0; have y1 := (h2.cell (World.block_lt_of_cell? _ _ n1)).trans n1; have hb2 := Aside0.mk ((below_alloc HB.out _).trans (h2.mono (below_w (below_alloc HB.out _) (Nat.le_refl _)))); clear h2) | (go_at_call 123; (with_reducible refine (dn_rightType.calls _ _ _ _ HT1.out).mono ?_); rintro e w3 ⟨rfl, ⟨nd, rfl⟩⟩)); go_ret; exact ⟨rfl, pw_below_drewN hb2.out _⟩
    | true =>
     rw [if_pos rfl] at hq; replace hq := Option.bind_eq_some_iff.mp hq; obtain ⟨t2, ht2, hq⟩ := hq; have HT2 := Aside0.mk ht2; clear ht2; cases t2 with
     | false =>
      rw [if_neg (by decide)] at hq; injection hq with hq; subst hq; go_wp2_with (first | (go_at_call 145; (with_reducible refine HC.out.mono ?_); rintro e w2 ⟨rfl, h2⟩; have y0 := (h2.cell (World.block_lt_of_cell? _ _ n0)).trans n0; have y1 := (h2.cell (World.block_lt_of_cell? _ _ n1)).trans n1; have hb2 := Aside0.mk ((below_alloc HB.out _).trans (h2.mono (below_w (below_alloc HB.out _) (Nat.le_refl _)))); clear h2) | (go_at_call 123; (with_reducible refine (dn_rightType.calls _ _ _ _ HT1.out).mono ?_); rintro e w3 ⟨rfl, ⟨nd, rfl⟩⟩) | (go_at_call 147; (with_reducible refine (dn_rightValue.calls _ _ _ _ ?hg HT2.out).mono ?_); (case hg => exact Gw.below HG.out (pw_below_drewN hb2.out _)); rintro e w4 ⟨rfl, h4⟩; have hb4 := Aside0.mk ((pw_below_drewN hb2.out nd).trans (h4.mono (below_w (pw_below_drewN hb2.out nd) (Nat.le_refl _)))); clear h4)); go_ret; exact ⟨rfl, hb4.out⟩
     | true =>
      rw [if_pos rfl] at hq; have HQ3 := Aside0.mk hq; clear hq; go_wp2_with (first | (go_at_call 145; (with_reducible refine HC.out.mono ?_); rintro e w2 ⟨rfl, h2⟩; have y0 := (h2.cell (World.block_lt_of_cell? _ _ n0)).trans n0; have y1 := (h2.cell (World.block_lt_of_cell? _ _ n1)).trans n1; have hb2 := Aside0.mk ((below_alloc HB.out _).trans (h2.mono (below_w (below_alloc HB.out _) (Nat.le_refl _)))); clear h2) | (go_at_call 123; (with_reducible refine (dn_rightType.calls _ _ _ _ HT1.out).mono ?_); rintro e w3 ⟨rfl, ⟨nd, rfl⟩⟩) | (go_at_call 147; (with_reducible refine (dn_rightValue.calls _ _ _ _ ?hg HT2.out).mono ?_); (case hg => exact Gw.below HG.out (pw_below_drewN hb2.out _)); rintro e w4 ⟨rfl, h4⟩; have hb4 := Aside0.mk ((pw_below_drewN hb2.out nd).trans (h4.mono (below_w (pw_below_drewN hb2.out nd) (Nat.le_refl _)))); clear h4)); go_roundw; (case rel => exact ⟨j + 1, by omega, by go_num, hb4, ⟨by rw [HT.out]; exact HQ3.out⟩⟩); case measure => simp [intOf]; omega
  ·obtain rfl : j = l0.length := by omega
   have hq := HQ.out; rw [List.drop_length] at hq; simp only [rdnGo, Option.some.injEq] at hq; subst hq; go_wp2; go_ret; exact ⟨rfl, HB.out⟩
end Go.Proofs.YtpklcnpmppaaoaaGreatDoor.Print
namespace Go.Proofs.YtpklcnpmppaaoaaGreatDoor.Print
open Go.RowKit Go.Proofs.YtpklcnpmppaaoaaGreatDoorW.PrintWords Go.Proofs.YtpklcnpmppaaoaaGreatDoorW.PrintLast Go.Proofs.YtpklcnpmppaaoaaGreatDoorW.PrintMore
attribute [local go_sem] max2_int min2_int max_two min_two max_three min_three max_four min_four
set_option linter.unusedVariables false
set_option linter.unusedSimpArgs false
def dn_Right.l0 : Nat → List (List (S96)) → Int → Int → Option (Bool)
 | 0, _, _, _ => none
 | k + 1, x8, x9, x10 => if x10 < x9 then (if 0 ≤ x10 then (if x10 < (x8.length : Int) then ((dn_rightRdn.f k (rd_L8 x8 x10)).bind fun t193 => (if t193 = true then (dn_Right.l0 k x8 x9 (wrap64 (x10 + 1))) else (some false))) else (none)) else (none)) else (some true)
def dn_Right.f (k : Nat) (l0 : List (List (S96))) : Option (Bool) := if (l0.length : Int) > 12 then (some false) else (dn_Right.l0 k l0 (l0.length : Int) 0)
theorem dn_Right.mono_l : ∀ k, (∀ y0 y1 y2, LeO (dn_Right.l0 k y0 y1 y2) (dn_Right.l0 (k + 1) y0 y1 y2))
 | 0 => fun _ _ _ r h => by simp [dn_Right.l0] at h
 | k + 1 => by
  have ih0 := dn_Right.mono_l k
  ·
   intro y0 y1 y2
   unfold dn_Right.l0
   repeat' first
   | (with_reducible exact ih0 _ _ _)
   | (with_reducible exact dn_rightRdn.mono _ _)
   | (with_reducible exact LeO.refl _)
   | (with_reducible exact LeO.none _)
   | (with_reducible refine LeO.ite ?_ ?_)
   | (with_reducible refine LeO.bind ?_ (fun _ => ?_))
theorem dn_Right.mono : ∀ a0 k, LeO (dn_Right.f k a0) (dn_Right.f (k + 1) a0) := by
 intro a0 k; have ih0 := dn_Right.mono_l k; unfold dn_Right.f; repeat' first
   | (with_reducible exact ih0 _ _ _)
   | (with_reducible exact dn_rightRdn.mono _ _)
   | (with_reducible exact LeO.refl _)
   | (with_reducible exact LeO.none _)
   | (with_reducible refine LeO.ite ?_ ?_)
   | (with_reducible refine LeO.bind ?_ (fun _ => ?_))
set_option maxHeartbeats 8000000 in
set_option maxRecDepth 100000 in
theorem dn_Right.calls (k : Nat) (A0 : Option Addr) (c0 : Nat) (l0 : List (List (S96))) (r : Bool) (w : World) (hr0 : Kd.C (Kd.slice 96 k96) w A0 l0.length l0) (hc0 : l0.length ≤ c0) (hG : Gw w) (h : dn_Right.f k l0 = some r) :
  Calls Tryz.prog 99 #[.slice A0 l0.length c0] w fun e w' => e = .returned (.bool r) ∧ Below w.heap.size w w' := by
 have HR0 := am hr0
 have HC0 := am hc0
 clear hr0 hc0
 have HB := am (Below.refl w.heap.size w)
 have HG := am hG
 clear hG
 have H : (if (l0.length : Int) > 12 then (some false) else (dn_Right.l0 k l0 (l0.length : Int) 0)) = some r := h
 clear h
 revert H
 refine spd11 ?_ ?_
 ·intro c2 c2b0 H; have c2b1 : decide (12 < l0.length) = true := decide_eq_true (by omega); clear c2; obtain rfl := Option.some.inj H; go_enter Tryz.func99, Tryz.ntmps99; go_wp2; go_ret; exact ⟨ap9, ap1⟩
 ·intro c2 c2b0 H; have c2b1 : decide (12 < l0.length) = false := decide_eq_false (by omega); clear c2; have H' := am H; clear H; go_enter Tryz.func99, Tryz.ntmps99; go_wp2; go_loopg [10] k (fun kq v10 w' => ∃ (x10_1 : Int), v10 = .int .i64 x10_1 ∧ Aside0 (dn_Right.l0 kq l0 (l0.length : Int) x10_1 = some r) ∧ Aside0 (kq ≤ k) ∧ Aside0 (Below w.heap.size w w')); (case atStart => exact ⟨(0), ap2, H', ⟨Nat.le_refl _⟩, ⟨ap1⟩⟩); case round =>
   clear H'; (try clear c2); (try clear c2b0); (try clear c2b1); obtain ⟨x10_1, rfl, HA, HK1, HB⟩ := hrel; cases gk with
   | zero => exact absurd HA.out (by simp [dn_Right.l0])
   | succ k1 =>
    have H := HA.out; clear HA; simp only [dn_Right.l0] at H; revert H; refine spd00 ?_ ?_
    ·intro c3b0 H; revert H; refine spn0 ?_; intro c4b0 H; revert H; refine spn0 ?_; intro c5b0 H; replace H := Option.bind_eq_some_iff.mp H; obtain ⟨t193, A60, H⟩ := H; replace H : (if t193 = true then (dn_Right.l0 k1 l0 (l0.length : Int) (wrap64 (x10_1 + 1))) else (some false)) = some r := H; have A6 := am A60; clear A60; revert H; refine spb ?_ ?_
     ·rintro rfl H; have H' := am H; clear H; have p192 : 0 ≤ (x10_1 : Int) := apD; have q192 : x10_1 < (l0.length : Int) := apD; obtain ⟨ad192, A192_0, c192_0, e192, hx192_0, hl192_0, hi192_0⟩ := at_L8 HR0.out x10_1 p192 q192; cases e192; replace hx192_0 := (HB.out.cell (World.block_lt_of_cell? w _ hx192_0)).trans hx192_0; have HR192_0 := am hi192_0; have HC192_0 := am hl192_0; clear hi192_0 hl192_0; replace p192 := eq_true p192; replace q192 := eq_true q192; go_wp2_with (first | ((with_reducible refine gate_callee (f := 125) rfl ?_); refine goesL_ (some 15) rfl rfl Tryz.func125 (by kernel_rfl) rfl #[.slice A192_0 (rd_L8 l0 x10_1).length c192_0] rfl ap3 ?_; (with_reducible refine (dn_rightRdn.calls k1 _ _ (rd_L8 l0 x10_1) true _ ?side1 ?side2 ?side3 A6.out).mono ?_); (case side1 => repeat (first | exact (Kd.C_below HR192_0.out HB.out) | (with_reducible refine Kd.C_alloc ?_ _) | (with_reducible refine Kd.C_drewN ?_ _) | (with_reducible refine Kd.C_drew ?_))); (case side2 => exact HC192_0.out); (case side3 => exact ap6); rintro e w8 ⟨rfl, hb⟩; refine ⟨_, rfl, ?_⟩; replace HB := am (below_step ap1 hb))); go_roundg k1; (case measure => have := HK1.out; omega); case rel => exact ⟨(wrap64 (x10_1 + 1)), ap2, H', ⟨by have := HK1.out; omega⟩, ⟨ap1⟩⟩
     ·rintro rfl H; obtain rfl := Option.some.inj H; have p192 : 0 ≤ (x10_1 : Int) := apD; have q192 : x10_1 < (l0.length : Int) := apD; obtain ⟨ad192, A192_0, c192_0, e192, hx192_0, hl192_0, hi192_0⟩ := at_L8 HR0.out x10_1 p192 q192; cases e192; replace hx192_0 := (HB.out.cell (World.block_lt_of_cell? w _ hx192_0)).trans hx192_0; have HR192_0 := am hi192_0; have HC192_0 := am hl192_0; clear hi192_0 hl192_0; replace p192 := eq_true p192; replace q192 := eq_true q192; go_wp2_with (first | ((with_reducible refine gate_callee (f := 125) rfl ?_); refine goesL_ (some 15) rfl rfl Tryz.func125 (by kernel_rfl) rfl #[.slice A192_0 (rd_L8 l0 x10_1).length c192_0] rfl ap3 ?_; (with_reducible refine (dn_rightRdn.calls k1 _ _ (rd_L8 l0 x10_1) false _ ?side1 ?side2 ?side3 A6.out).mono ?_); (case side1 => repeat (first | exact (Kd.C_below HR192_0.out HB.out) | (with_reducible refine Kd.C_alloc ?_ _) | (with_reducible refine Kd.C_drewN ?_ _) | (with_reducible refine Kd.C_drew ?_))); (case side2 => exact HC192_0.out); (case side3 => exact ap6); rintro e w9 ⟨rfl, hb⟩; refine ⟨_, rfl, ?_⟩; replace HB := am (below_step ap1 hb))); go_ret; exact ⟨ap9, ap1⟩
    ·intro c3b0 H; obtain rfl := Option.some.inj H; go_wp2; go_ret; exact ⟨ap9, ap1⟩
end Go.Proofs.YtpklcnpmppaaoaaGreatDoor.Print
namespace Go.Proofs.YtpklcnpmppaaoaaGreatDoor.Print
open Go.RowKit Go.Proofs.YtpklcnpmppaaoaaGreatDoorW.PrintWords
def strings_IndexByte.f (a0 : ByteArray) (a1 : Int) : Option Int := some (Lib.indexByte a0.data.toList a1.toNat.toUInt8)
theorem strings_IndexByte.calls (a0 : ByteArray) (a1 : Int) (r : Int) (w : World) (h : strings_IndexByte.f a0 a1 = some r) :
  Calls Tryz.prog 143 #[.string a0, .int .u8 a1] w fun e w' => e = .returned (.int .i64 r) ∧ Drawn0 w w' := by
 unfold strings_IndexByte.f at h
 injection h with h; subst h
 refine (Tryz.strings_IndexByte a0 a1 w).mono ?_
 rintro e w' ⟨he, rfl⟩
 exact ⟨he, Drawn0.refl _⟩
end Go.Proofs.YtpklcnpmppaaoaaGreatDoor.Print
namespace Go.Proofs.YtpklcnpmppaaoaaGreatDoor.Print
open Go.RowKit Go.Proofs.YtpklcnpmppaaoaaGreatDoorW.PrintWords Go.Proofs.YtpklcnpmppaaoaaGreatDoorW.PrintLast Go.Proofs.YtpklcnpmppaaoaaGreatDoorW.PrintMore
attribute [local go_sem] max2_int min2_int max_two min_two max_three min_three max_four min_four
set_option linter.unusedVariables false
set_option linter.unusedSimpArgs false
def b64_digit.f (a0 : Int) : Option (Int) := if a0 ≥ 65 then (if a0 ≤ 70 then ((strings_IndexByte.f (⟨#[48, 49, 50, 51, 52, 53, 54, 55, 56, 57, 97, 98, 99, 100, 101, 102]⟩ : ByteArray) ((a0 + 32) % 256)).bind fun t158 => (some t158)) else ((strings_IndexByte.f (⟨#[48, 49, 50, 51, 52, 53, 54, 55, 56, 57, 97, 98, 99, 100, 101, 102]⟩ : ByteArray) a0).bind fun t159 => (some t159))) else ((strings_IndexByte.f (⟨#[48, 49, 50, 51, 52, 53, 54, 55, 56, 57, 97, 98, 99, 100, 101, 102]⟩ : ByteArray) a0).bind fun t160 => (some t160))
set_option maxHeartbeats 8000000 in
set_option maxRecDepth 100000 in
theorem b64_digit.calls (a0 : Int) (r : Int) (w : World) (h : b64_digit.f a0 = some r) :
  Calls Tryz.prog 159 #[.int .u8 a0] w fun e w' => e = .returned (.int .i64 r) ∧ Drawn0 w w' := by
 have H : (if a0 ≥ 65 then (if a0 ≤ 70 then ((strings_IndexByte.f (⟨#[48, 49, 50, 51, 52, 53, 54, 55, 56, 57, 97, 98, 99, 100, 101, 102]⟩ : ByteArray) ((a0 + 32) % 256)).bind fun t158 => (some t158)) else ((strings_IndexByte.f (⟨#[48, 49, 50, 51, 52, 53, 54, 55, 56, 57, 97, 98, 99, 100, 101, 102]⟩ : ByteArray) a0).bind fun t159 => (some t159))) else ((strings_IndexByte.f (⟨#[48, 49, 50, 51, 52, 53, 54, 55, 56, 57, 97, 98, 99, 100, 101, 102]⟩ : ByteArray) a0).bind fun t160 => (some t160))) = some r := h
 clear h
 revert H
 refine spd00 ?_ ?_
 ·intro c2b0 H; revert H; refine spd00 ?_ ?_
  ·intro c3b0 H; replace H := Option.bind_eq_some_iff.mp H; obtain ⟨t158, A40, H⟩ := H; replace H : (some t158) = some r := H; have A4 := am A40; clear A40; obtain rfl := Option.some.inj H; go_enter Tryz.func159, Tryz.ntmps159; go_wp2_with (first | ((with_reducible refine gate_callee (f := 143) rfl ?_); refine goesL_ (some 12) rfl rfl Tryz.func143 (by kernel_rfl) rfl #[.string (⟨#[48, 49, 50, 51, 52, 53, 54, 55, 56, 57, 97, 98, 99, 100, 101, 102]⟩ : ByteArray), .int .u8 ((a0 + 32) % 256)] rfl ap3 ?_; (with_reducible refine (strings_IndexByte.calls (⟨#[48, 49, 50, 51, 52, 53, 54, 55, 56, 57, 97, 98, 99, 100, 101, 102]⟩ : ByteArray) ((a0 + 32) % 256) t158 _ A4.out).mono ?_); rintro e w' ⟨rfl, ⟨nd, rfl⟩⟩; refine ⟨_, rfl, ?_⟩)); go_ret; exact ⟨ap2, ap7⟩
  ·intro c3b0 H; replace H := Option.bind_eq_some_iff.mp H; obtain ⟨t159, A50, H⟩ := H; replace H : (some t159) = some r := H; have A5 := am A50; clear A50; obtain rfl := Option.some.inj H; go_enter Tryz.func159, Tryz.ntmps159; go_wp2_with (first | ((with_reducible refine gate_callee (f := 143) rfl ?_); refine goesL_ (some 12) rfl rfl Tryz.func143 (by kernel_rfl) rfl #[.string (⟨#[48, 49, 50, 51, 52, 53, 54, 55, 56, 57, 97, 98, 99, 100, 101, 102]⟩ : ByteArray), .int .u8 a0] rfl ap3 ?_; (with_reducible refine (strings_IndexByte.calls (⟨#[48, 49, 50, 51, 52, 53, 54, 55, 56, 57, 97, 98, 99, 100, 101, 102]⟩ : ByteArray) a0 t159 _ A5.out).mono ?_); rintro e w' ⟨rfl, ⟨nd, rfl⟩⟩; refine ⟨_, rfl, ?_⟩)); go_ret; exact ⟨ap2, ap7⟩
 ·intro c2b0 H; replace H := Option.bind_eq_some_iff.mp H; obtain ⟨t160, A60, H⟩ := H; replace H : (some t160) = some r := H; have A6 := am A60; clear A60; obtain rfl := Option.some.inj H; go_enter Tryz.func159, Tryz.ntmps159; go_wp2_with (first | ((with_reducible refine gate_callee (f := 143) rfl ?_); refine goesL_ (some 12) rfl rfl Tryz.func143 (by kernel_rfl) rfl #[.string (⟨#[48, 49, 50, 51, 52, 53, 54, 55, 56, 57, 97, 98, 99, 100, 101, 102]⟩ : ByteArray), .int .u8 a0] rfl ap3 ?_; (with_reducible refine (strings_IndexByte.calls (⟨#[48, 49, 50, 51, 52, 53, 54, 55, 56, 57, 97, 98, 99, 100, 101, 102]⟩ : ByteArray) a0 t160 _ A6.out).mono ?_); rintro e w' ⟨rfl, ⟨nd, rfl⟩⟩; refine ⟨_, rfl, ?_⟩)); go_ret; exact ⟨ap2, ap7⟩
def b64_Unhex.l0 : Nat → ByteArray → List Int → Int → Option (ByteArray × Int)
 | 0, _, _, _ => none
 | k + 1, x0, x4, x5 => if x5 < (x0.size : Int) then (if 0 ≤ x5 then ((b64_digit.f (bt x0 x5)).bind fun t161 => (if 0 ≤ (wrap64 (x5 + 1)) then (if (wrap64 (x5 + 1)) < (x0.size : Int) then ((b64_digit.f (bt x0 (wrap64 (x5 + 1)))).bind fun t162 => (if t161 < 0 then (some ((⟨#[]⟩ : ByteArray), 4)) else (if t162 < 0 then (some ((⟨#[]⟩ : ByteArray), 4)) else (if x4.length < 140737488355328 then (b64_Unhex.l0 k x0 (x4 ++ [(Go.bits .or .i64 (wrap64 (t161 * 16)) t162) % 256]) (wrap64 (x5 + 2))) else (none))))) else (none)) else (none))) else (none)) else (some (strOfNums x4, 0))
def b64_Unhex.f (k : Nat) (a0 : ByteArray) : Option (ByteArray × Int) := if ((a0.size : Int) % 2) = 0 then (b64_Unhex.l0 k a0 ([] : List Int) 0) else (some ((⟨#[]⟩ : ByteArray), 4))
theorem b64_Unhex.mono_l : ∀ k, (∀ y0 y1 y2, LeO (b64_Unhex.l0 k y0 y1 y2) (b64_Unhex.l0 (k + 1) y0 y1 y2))
 | 0 => fun _ _ _ r h => by simp [b64_Unhex.l0] at h
 | k + 1 => by
  have ih0 := b64_Unhex.mono_l k
  ·
   intro y0 y1 y2
   unfold b64_Unhex.l0
   repeat' first
   | (with_reducible exact ih0 _ _ _)
   | (with_reducible exact LeO.refl _)
   | (with_reducible exact LeO.none _)
   | (with_reducible refine LeO.ite ?_ ?_)
   | (with_reducible refine LeO.bind ?_ (fun _ => ?_))
theorem b64_Unhex.mono : ∀ a0 k, LeO (b64_Unhex.f k a0) (b64_Unhex.f (k + 1) a0) := by
 intro a0 k; have ih0 := b64_Unhex.mono_l k; unfold b64_Unhex.f; repeat' first
   | (with_reducible exact ih0 _ _ _)
   | (with_reducible exact LeO.refl _)
   | (with_reducible exact LeO.none _)
   | (with_reducible refine LeO.ite ?_ ?_)
   | (with_reducible refine LeO.bind ?_ (fun _ => ?_))
set_option maxHeartbeats 8000000 in
set_option maxRecDepth 100000 in
theorem b64_Unhex.calls (k : Nat) (a0 : ByteArray) (r1 : ByteArray) (r2 : Int) (w : World) (h : b64_Unhex.f k a0 = some (r1, r2)) :
  Calls Tryz.prog 144 #[.string a0] w fun e w' => e = .returned (.tuple #[.string r1, .int .i64 r2]) ∧ Below w.heap.size w w' := by
 have HB := am (Below.refl w.heap.size w)
 have H : (if ((a0.size : Int) % 2) = 0 then (b64_Unhex.l0 k a0 ([] : List Int) 0) else (some ((⟨#[]⟩ : ByteArray), 4))) = some (r1, r2) := h
 clear h
 revert H
 refine spe01 ?_ ?_
 ·intro c2b0 c2b1 H; have H' := am H; clear H; go_enter Tryz.func144, Tryz.ntmps144; go_wp2; (repeat (go_quiet (fail); try go_wp2)); go_loopg [4, 5] k (fun kq v4 v5 w' => ∃ (x4_1 : List Int) (x5_1 : Int), v5 = .int .i64 x5_1 ∧ Aside0 (b64_Unhex.l0 kq a0 x4_1 x5_1 = some (r1, r2)) ∧ Aside0 (kq ≤ k) ∧ Aside0 (Kd.R (Kd.int .u8) 5 w' w.heap.size (fun _ => True) v4 x4_1) ∧ Aside0 (Below w.heap.size w w')); (case atStart => exact ⟨(([] : List Int)), (0), ap2, H', ⟨Nat.le_refl _⟩, ⟨by first | exact Kd.R_nil _ _ _ _ _ | exact Kd.N_nil _ _ _ _ _ | exact Kd.V_nil _ _ _ _ _ | exact Kd.Q_nil _ _ _ _ _ | exact Kd.S_nil _ _ _ _ _⟩, ⟨ap1⟩⟩); case round =>
   clear H'; (try clear c2); (try clear c2b0); (try clear c2b1); obtain ⟨x4_1, x5_1, rfl, HA, HK1, HO_4, HB⟩ := hrel; cases gk with
   | zero => exact absurd HA.out (by simp [b64_Unhex.l0])
   | succ k1 =>
    have H := HA.out; clear HA; simp only [b64_Unhex.l0] at H; revert H; refine spd00 ?_ ?_
    ·intro c3b0 H; revert H; refine spn0 ?_; intro c4b0 H; replace H := Option.bind_eq_some_iff.mp H; obtain ⟨t161, A60, H⟩ := H; replace H : (if 0 ≤ (wrap64 (x5_1 + 1)) then (if (wrap64 (x5_1 + 1)) < (a0.size : Int) then ((b64_digit.f (bt a0 (wrap64 (x5_1 + 1)))).bind fun t162 => (if t161 < 0 then (some ((⟨#[]⟩ : ByteArray), 4)) else (if t162 < 0 then (some ((⟨#[]⟩ : ByteArray), 4)) else (if x4_1.length < 140737488355328 then (b64_Unhex.l0 k1 a0 (x4_1 ++ [(Go.bits .or .i64 (wrap64 (t161 * 16)) t162) % 256]) (wrap64 (x5_1 + 2))) else (none))))) else (none)) else (none)) = some (r1, r2) := H; have A6 := am A60; clear A60; obtain ⟨ji7, hji7⟩ : ∃ j_ : Int, (wrap64 (x5_1 + 1)) = j_ := ⟨_, rfl⟩; replace H : (if 0 ≤ (ji7) then (if (ji7) < (a0.size : Int) then ((b64_digit.f (bt a0 (ji7))).bind fun t162 => (if t161 < 0 then (some ((⟨#[]⟩ : ByteArray), 4)) else (if t162 < 0 then (some ((⟨#[]⟩ : ByteArray), 4)) else (if x4_1.length < 140737488355328 then (b64_Unhex.l0 k1 a0 (x4_1 ++ [(Go.bits .or .i64 (wrap64 (t161 * 16)) t162) % 256]) (wrap64 (x5_1 + 2))) else (none))))) else (none)) else (none)) = some (r1, r2) := by first | (rw [hji7] at H; exact H) | (simp only [hji7] at H ⊢; exact H)
     (try rw [hji7] at A6); have hji7w : (IntKind.i64.wrap (x5_1 + 1)) = ji7 := (i64_w _).trans hji7; revert H; refine spn0 ?_; intro c8b0 H; revert H; refine spn0 ?_; intro c9b0 H; replace H := Option.bind_eq_some_iff.mp H; obtain ⟨t162, A110, H⟩ := H; replace H : (if t161 < 0 then (some ((⟨#[]⟩ : ByteArray), 4)) else (if t162 < 0 then (some ((⟨#[]⟩ : ByteArray), 4)) else (if x4_1.length < 140737488355328 then (b64_Unhex.l0 k1 a0 (x4_1 ++ [(Go.bits .or .i64 (wrap64 (t161 * 16)) t162) % 256]) (wrap64 (x5_1 + 2))) else (none)))) = some (r1, r2) := H; have A11 := am A110; clear A110; revert H; refine spd00 ?_ ?_
     ·intro c12b0 H; simp only [Option.some.injEq, Prod.mk.injEq] at H; obtain ⟨rfl, rfl⟩ := H; have p5 : 0 ≤ (x5_1 : Int) := apD; have q5 : x5_1 < (a0.size : Int) := apD; have hx5 := bt_at a0 x5_1; replace p5 := eq_true p5; replace q5 := eq_true q5; go_wp2_with (first | (go_at_call 159; (with_reducible refine (b64_digit.calls (bt a0 x5_1) t161 _ A6.out).mono ?_); rintro e w' ⟨rfl, ⟨nd, rfl⟩⟩; (try exact ap4); have p10 : 0 ≤ ((ji7) : Int) := apD; have q10 : (ji7) < (a0.size : Int) := apD; have hx10 := bt_at a0 (ji7); replace p10 := eq_true p10; replace q10 := eq_true q10) | (go_at_call 159; (with_reducible refine (b64_digit.calls (bt a0 (ji7)) t162 _ A11.out).mono ?_); rintro e w' ⟨rfl, ⟨nd, rfl⟩⟩; (try exact ap4))); (repeat (go_quiet (first | (go_at_call 159; (with_reducible refine (b64_digit.calls (bt a0 x5_1) t161 _ A6.out).mono ?_); rintro e w' ⟨rfl, ⟨nd, rfl⟩⟩; (try exact ap4); have p10 : 0 ≤ ((ji7) : Int) := apD; have q10 : (ji7) < (a0.size : Int) := apD; have hx10 := bt_at a0 (ji7); replace p10 := eq_true p10; replace q10 := eq_true q10) | (go_at_call 159; (with_reducible refine (b64_digit.calls (bt a0 (ji7)) t162 _ A11.out).mono ?_); rintro e w' ⟨rfl, ⟨nd, rfl⟩⟩; (try exact ap4))); try go_wp2_with (first | (go_at_call 159; (with_reducible refine (b64_digit.calls (bt a0 x5_1) t161 _ A6.out).mono ?_); rintro e w' ⟨rfl, ⟨nd, rfl⟩⟩; (try exact ap4); have p10 : 0 ≤ ((ji7) : Int) := apD; have q10 : (ji7) < (a0.size : Int) := apD; have hx10 := bt_at a0 (ji7); replace p10 := eq_true p10; replace q10 := eq_true q10) | (go_at_call 159; (with_reducible refine (b64_digit.calls (bt a0 (ji7)) t162 _ A11.out).mono ?_); rintro e w' ⟨rfl, ⟨nd, rfl⟩⟩; (try exact ap4))))); go_ret2; exact ⟨by first | rfl | (simp [errW_none, errW_some, bne_nil8, beq_nil8]; done) | (simp [errW_none, errW_some] <;> rfl) | (simp only [← hji7]; first | rfl | (simp [errW_none, errW_some] <;> rfl)) | (simp [*, errW_none, errW_some] <;> rfl), ap1⟩
     ·intro c12b0 H; revert H; refine spd00 ?_ ?_
      ·intro c13b0 H; simp only [Option.some.injEq, Prod.mk.injEq] at H; obtain ⟨rfl, rfl⟩ := H; have p5 : 0 ≤ (x5_1 : Int) := apD; have q5 : x5_1 < (a0.size : Int) := apD; have hx5 := bt_at a0 x5_1; replace p5 := eq_true p5; replace q5 := eq_true q5; go_wp2_with (first | (go_at_call 159; (with_reducible refine (b64_digit.calls (bt a0 x5_1) t161 _ A6.out).mono ?_); rintro e w' ⟨rfl, ⟨nd, rfl⟩⟩; (try exact ap4); have p10 : 0 ≤ ((ji7) : Int) := apD; have q10 : (ji7) < (a0.size : Int) := apD; have hx10 := bt_at a0 (ji7); replace p10 := eq_true p10; replace q10 := eq_true q10) | (go_at_call 159; (with_reducible refine (b64_digit.calls (bt a0 (ji7)) t162 _ A11.out).mono ?_); rintro e w' ⟨rfl, ⟨nd, rfl⟩⟩; (try exact ap4))); (repeat (go_quiet (first | (go_at_call 159; (with_reducible refine (b64_digit.calls (bt a0 x5_1) t161 _ A6.out).mono ?_); rintro e w' ⟨rfl, ⟨nd, rfl⟩⟩; (try exact ap4); have p10 : 0 ≤ ((ji7) : Int) := apD; have q10 : (ji7) < (a0.size : Int) := apD; have hx10 := bt_at a0 (ji7); replace p10 := eq_true p10; replace q10 := eq_true q10) | (go_at_call 159; (with_reducible refine (b64_digit.calls (bt a0 (ji7)) t162 _ A11.out).mono ?_); rintro e w' ⟨rfl, ⟨nd, rfl⟩⟩; (try exact ap4))); try go_wp2_with (first | (go_at_call 159; (with_reducible refine (b64_digit.calls (bt a0 x5_1) t161 _ A6.out).mono ?_); rintro e w' ⟨rfl, ⟨nd, rfl⟩⟩; (try exact ap4); have p10 : 0 ≤ ((ji7) : Int) := apD; have q10 : (ji7) < (a0.size : Int) := apD; have hx10 := bt_at a0 (ji7); replace p10 := eq_true p10; replace q10 := eq_true q10) | (go_at_call 159; (with_reducible refine (b64_digit.calls (bt a0 (ji7)) t162 _ A11.out).mono ?_); rintro e w' ⟨rfl, ⟨nd, rfl⟩⟩; (try exact ap4))))); go_ret2; exact ⟨by first | rfl | (simp [errW_none, errW_some, bne_nil8, beq_nil8]; done) | (simp [errW_none, errW_some] <;> rfl) | (simp only [← hji7]; first | rfl | (simp [errW_none, errW_some] <;> rfl)) | (simp [*, errW_none, errW_some] <;> rfl), ap1⟩
      ·intro c13b0 H; by_cases c14 : x4_1.length < 140737488355328
       ·rw [if_pos c14] at H; have LMc14 := am c14; clear c14; obtain ⟨y163, hy163⟩ : ∃ y_ : List Int, y_ = (x4_1 ++ [(Go.bits .or .i64 (wrap64 (t161 * 16)) t162) % 256]) := ⟨_, rfl⟩; replace H : (b64_Unhex.l0 k1 a0 y163 (wrap64 (x5_1 + 2))) = some (r1, r2) := apY hy163 H; have Ny163 := am hy163; clear hy163; have H' := am H; clear H; have p5 : 0 ≤ (x5_1 : Int) := apD; have q5 : x5_1 < (a0.size : Int) := apD; have hx5 := bt_at a0 x5_1; replace p5 := eq_true p5; replace q5 := eq_true q5; go_wp2_with (first | (go_at_call 159; (with_reducible refine (b64_digit.calls (bt a0 x5_1) t161 _ A6.out).mono ?_); rintro e w' ⟨rfl, ⟨nd, rfl⟩⟩; (try exact ap4); have p10 : 0 ≤ ((ji7) : Int) := apD; have q10 : (ji7) < (a0.size : Int) := apD; have hx10 := bt_at a0 (ji7); replace p10 := eq_true p10; replace q10 := eq_true q10) | (go_at_call 159; (with_reducible refine (b64_digit.calls (bt a0 (ji7)) t162 _ A11.out).mono ?_); rintro e w' ⟨rfl, ⟨nd, rfl⟩⟩; (try exact ap4)) | ((with_reducible refine gate_builtin (b := .append) (xs := #[.tmp 33, .tmp 39]) rfl ?_); at_builtin; refine Kd.R_append (Kd.int .u8) (w0 := w) w.heap.size rfl (.tmp 33) (.tmp 39) 82 5 (.int .u8 0) 1 rfl Tryz.underlying82 info5 rfl (by decide) (by omega) u4 x4_1 ((Go.bits .or .i64 (wrap64 (t161 * 16)) t162) % 256) [.int .u8 ((Go.bits .or .i64 (wrap64 (t161 * 16)) t162) % 256)] (fun _ => True) (fun _ => False) rfl rfl ?aP (fun _ hk => hk.elim) ?aF ?aO ?aB ?aS ?aL ?_; (case aP => exact rfl); (case aB => exact ap1); (case aF => exact (fun _ _ => trivial)); (case aO => exact (apAR HO_4.out)); (case aS => exact (below_size ap1)); (case aL => have := LMc14.out; omega); intro v164 w15 ho hb hg hat; rw [← Ny163.out] at ho; have HO165 := am (ho); replace HB := am (hb); clear ho hb hg hat)); (repeat (go_quiet (first | (go_at_call 159; (with_reducible refine (b64_digit.calls (bt a0 x5_1) t161 _ A6.out).mono ?_); rintro e w' ⟨rfl, ⟨nd, rfl⟩⟩; (try exact ap4); have p10 : 0 ≤ ((ji7) : Int) := apD; have q10 : (ji7) < (a0.size : Int) := apD; have hx10 := bt_at a0 (ji7); replace p10 := eq_true p10; replace q10 := eq_true q10) | (go_at_call 159; (with_reducible refine (b64_digit.calls (bt a0 (ji7)) t162 _ A11.out).mono ?_); rintro e w' ⟨rfl, ⟨nd, rfl⟩⟩; (try exact ap4)) | ((with_reducible refine gate_builtin (b := .append) (xs := #[.tmp 33, .tmp 39]) rfl ?_); at_builtin; refine Kd.R_append (Kd.int .u8) (w0 := w) w.heap.size rfl (.tmp 33) (.tmp 39) 82 5 (.int .u8 0) 1 rfl Tryz.underlying82 info5 rfl (by decide) (by omega) u4 x4_1 ((Go.bits .or .i64 (wrap64 (t161 * 16)) t162) % 256) [.int .u8 ((Go.bits .or .i64 (wrap64 (t161 * 16)) t162) % 256)] (fun _ => True) (fun _ => False) rfl rfl ?aP (fun _ hk => hk.elim) ?aF ?aO ?aB ?aS ?aL ?_; (case aP => exact rfl); (case aB => exact ap1); (case aF => exact (fun _ _ => trivial)); (case aO => exact (apAR HO_4.out)); (case aS => exact (below_size ap1)); (case aL => have := LMc14.out; omega); intro v164 w15 ho hb hg hat; rw [← Ny163.out] at ho; have HO165 := am (ho); replace HB := am (hb); clear ho hb hg hat)); try go_wp2_with (first | (go_at_call 159; (with_reducible refine (b64_digit.calls (bt a0 x5_1) t161 _ A6.out).mono ?_); rintro e w' ⟨rfl, ⟨nd, rfl⟩⟩; (try exact ap4); have p10 : 0 ≤ ((ji7) : Int) := apD; have q10 : (ji7) < (a0.size : Int) := apD; have hx10 := bt_at a0 (ji7); replace p10 := eq_true p10; replace q10 := eq_true q10) | (go_at_call 159; (with_reducible refine (b64_digit.calls (bt a0 (ji7)) t162 _ A11.out).mono ?_); rintro e w' ⟨rfl, ⟨nd, rfl⟩⟩; (try exact ap4)) | ((with_reducible refine gate_builtin (b := .append) (xs := #[.tmp 33, .tmp 39]) rfl ?_); at_builtin; refine Kd.R_append (Kd.int .u8) (w0 := w) w.heap.size rfl (.tmp 33) (.tmp 39) 82 5 (.int .u8 0) 1 rfl Tryz.underlying82 info5 rfl (by decide) (by omega) u4 x4_1 ((Go.bits .or .i64 (wrap64 (t161 * 16)) t162) % 256) [.int .u8 ((Go.bits .or .i64 (wrap64 (t161 * 16)) t162) % 256)] (fun _ => True) (fun _ => False) rfl rfl ?aP (fun _ hk => hk.elim) ?aF ?aO ?aB ?aS ?aL ?_; (case aP => exact rfl); (case aB => exact ap1); (case aF => exact (fun _ _ => trivial)); (case aO => exact (apAR HO_4.out)); (case aS => exact (below_size ap1)); (case aL => have := LMc14.out; omega); intro v164 w15 ho hb hg hat; rw [← Ny163.out] at ho; have HO165 := am (ho); replace HB := am (hb); clear ho hb hg hat)))); go_roundg k1; (case measure => have := HK1.out; omega); case rel => exact ⟨(y163), (wrap64 (x5_1 + 2)), ap2, H', ⟨by have := HK1.out; omega⟩, ⟨apAR HO165.out⟩, ⟨ap1⟩⟩
       ·rw [if_neg c14] at H; exact absurd H (by simp)
    ·intro c3b0 H; simp only [Option.some.injEq, Prod.mk.injEq] at H; obtain ⟨rfl, rfl⟩ := H; have hcv16 := own_string (P := Tryz.prog) Tryz.underlying82 Tryz.underlying5 Tryz.underlying9 (Kd.own_of_R HO_4.out); go_wp2; (repeat (go_quiet (fail); try go_wp2)); go_ret2; exact ⟨ap9, ap1⟩
 ·intro c2 c2b0 c2b1 H; simp only [Option.some.injEq, Prod.mk.injEq] at H; obtain ⟨rfl, rfl⟩ := H; go_enter Tryz.func144, Tryz.ntmps144; go_wp2; (repeat (go_quiet (fail); try go_wp2)); go_ret2; exact ⟨ap9, ap1⟩
def Dxescaped.j0 : Nat → ByteArray → Bool → ByteArray → Int → Option (Int × Bool × ByteArray × Int)
 | 0, _, _, _, _ => none
 | k + 1, x4, x23, x1000, x1001 => if x23 = true then (if 0 < (x4.size : Int) then (some (bt x4 0, true, x1000, wrap64 (x1001 + 1))) else (none)) else (if (x4.size : Int) < 2 then (some (0, false, x1000, x1001)) else (if 0 ≤ 2 then (if 2 ≤ (x4.size : Int) then ((b64_Unhex.f k (x4.extract 0 2)).bind fun bt167 => (if bt167.2 = 0 then (if 0 < (bt167.1.size : Int) then (some (bt bt167.1 0, true, x1000, wrap64 (x1001 + 2))) else (none)) else (some (0, false, x1000, x1001)))) else (none)) else (none)))
def Dxescaped.f (k : Nat) (s0_0 : ByteArray) (s0_1 : Int) : Option (Int × Bool × ByteArray × Int) := if 0 ≤ s0_1 then (if s0_1 ≤ (s0_0.size : Int) then (if (s0_0.extract (s0_1 : Int).toNat s0_0.size).toList = ([] : List UInt8) then (Dxescaped.j0 k (s0_0.extract (s0_1 : Int).toNat s0_0.size) false s0_0 s0_1) else (if 0 < ((s0_0.extract (s0_1 : Int).toNat s0_0.size).size : Int) then ((strings_IndexByte.f (⟨#[34, 43, 44, 59, 60, 61, 62, 92, 35, 32]⟩ : ByteArray) (bt (s0_0.extract (s0_1 : Int).toNat s0_0.size) 0)).bind fun t166 => (Dxescaped.j0 k (s0_0.extract (s0_1 : Int).toNat s0_0.size) (decide (t166 ≥ 0)) s0_0 s0_1)) else (none))) else (none)) else (none)
theorem Dxescaped.mono_l : ∀ k, (∀ y0 y1 y2 y3, LeO (Dxescaped.j0 k y0 y1 y2 y3) (Dxescaped.j0 (k + 1) y0 y1 y2 y3))
 | 0 => fun _ _ _ _ r h => by simp [Dxescaped.j0] at h
 | k + 1 => by
  have ih0 := Dxescaped.mono_l k
  ·
   intro y0 y1 y2 y3
   unfold Dxescaped.j0
   repeat' first
   | (with_reducible exact ih0 _ _ _ _)
   | (with_reducible exact b64_Unhex.mono _ _)
   | (with_reducible exact LeO.refl _)
   | (with_reducible exact LeO.none _)
   | (with_reducible refine LeO.ite ?_ ?_)
   | (with_reducible refine LeO.bind ?_ (fun _ => ?_))
theorem Dxescaped.mono : ∀ a0 a1 k, LeO (Dxescaped.f k a0 a1) (Dxescaped.f (k + 1) a0 a1) := by
 intro a0 a1 k; have ih0 := Dxescaped.mono_l k; unfold Dxescaped.f; repeat' first
   | (with_reducible exact ih0 _ _ _ _)
   | (with_reducible exact b64_Unhex.mono _ _)
   | (with_reducible exact LeO.refl _)
   | (with_reducible exact LeO.none _)
   | (with_reducible refine LeO.ite ?_ ?_)
   | (with_reducible refine LeO.bind ?_ (fun _ => ?_))
set_option maxHeartbeats 8000000 in
set_option maxRecDepth 100000 in
theorem Dxescaped.calls (k : Nat) (g : Nat) (s0_0 : ByteArray) (s0_1 : Int) (r1 : Int) (r2 : Bool) (r3 : ByteArray) (r4 : Int) (w0 w : World) (hI : IsS120 w0 w g s0_0 s0_1) (hB : Below w0.heap.size w0 w) (h : Dxescaped.f k s0_0 s0_1 = some (r1, r2, r3, r4)) :
  Calls Tryz.prog 124 #[.pointer (some ⟨g, 0, none⟩)] w fun e w' => e = .returned (.tuple #[.int .u8 r1, .bool r2]) ∧ IsS120 w0 w' g r3 r4 ∧ Below w0.heap.size w0 w' ∧ KeepBut w w' g none := by
 have HI0 := am hI
 have HK := am (KeepBut.refl w g none)
 have HL := am hB.size
 clear hI
 have HW0 := am hB.size
 have HB := am hB
 clear hB
 have H : (if 0 ≤ s0_1 then (if s0_1 ≤ (s0_0.size : Int) then (if (s0_0.extract (s0_1 : Int).toNat s0_0.size).toList = ([] : List UInt8) then (Dxescaped.j0 k (s0_0.extract (s0_1 : Int).toNat s0_0.size) false s0_0 s0_1) else (if 0 < ((s0_0.extract (s0_1 : Int).toNat s0_0.size).size : Int) then ((strings_IndexByte.f (⟨#[34, 43, 44, 59, 60, 61, 62, 92, 35, 32]⟩ : ByteArray) (bt (s0_0.extract (s0_1 : Int).toNat s0_0.size) 0)).bind fun t166 => (Dxescaped.j0 k (s0_0.extract (s0_1 : Int).toNat s0_0.size) (decide (t166 ≥ 0)) s0_0 s0_1)) else (none))) else (none)) else (none)) = some (r1, r2, r3, r4) := h
 clear h
 by_cases c2 : 0 ≤ s0_1
 ·rw [if_pos c2] at H; have c2b0 := eq_true c2; have c2b1 := decide_eq_true c2; clear c2; by_cases c3 : s0_1 ≤ (s0_0.size : Int)
  ·rw [if_pos c3] at H; have c3b0 := eq_true c3; have c3b1 := decide_eq_true c3; clear c3; have HC4 := am H; clear H; obtain ⟨HGz5, hgz5⟩ := HI0.out; have hcz5_0 := cellS120_0 HGz5; have hcz5_1 := cellS120_1 HGz5; have hfz5_0 := blk_frozen HGz5 0; have hfz5_1 := blk_frozen HGz5 1; clear HGz5 hgz5; go_enter Tryz.func124, Tryz.ntmps124; go_upto_region 2 with (fail); (repeat (go_quiet (fail); go_upto_region 2 with (fail))); go_cut [23] (fun v23 wc => ∃ (kq : Nat) (x23_3 : Bool), v23 = .bool x23_3 ∧ Aside0 (Dxescaped.j0 kq (s0_0.extract (s0_1 : Int).toNat s0_0.size) x23_3 s0_0 s0_1 = some (r1, r2, r3, r4)) ∧ Aside0 (kq ≤ k) ∧ Aside0 (IsS120 w0 wc g s0_0 s0_1) ∧ Aside0 (KeepBut w wc g none) ∧ Aside0 (Below w0.heap.size w0 wc)); case first =>
    have H := HC4.out; clear HC4; revert H; refine spe11 ?_ ?_
    ·intro c6 c6b0 c6b1 H; have c6e := c6; (try simp only [ByteArray.size_extract, Nat.min_self] at c6e); clear c6; (first | rw [c6b0] | (simp only [i64_w, i32_w]; rw [c6b0]) | skip); have H' := am H; clear H; go_wp2; (repeat (go_quiet (fail); try go_wp2)); (first | go_meet | (simp only [c6b0] at *; go_meet)); case rel => exact ⟨_, (false), ap2, H', ⟨apN⟩, ⟨apI120 HI0.out⟩, ⟨ap5⟩, ⟨apG1 (IsS120.ge HI0.out)⟩⟩
    ·intro c6 c6b0 c6b1 H; (first | rw [c6b0] | (simp only [i64_w, i32_w]; rw [c6b0]) | skip); revert H; refine spn1 ?_; intro c7 c7b0 H; have c7b1 : decide (0 < (s0_0.extract (s0_1 : Int).toNat s0_0.size).size) = true := decide_eq_true (by omega); have c7e := c7; (try simp only [ByteArray.size_extract, Nat.min_self] at c7e); clear c7; replace H := Option.bind_eq_some_iff.mp H; obtain ⟨t166, A90, H⟩ := H; replace H : (Dxescaped.j0 k (s0_0.extract (s0_1 : Int).toNat s0_0.size) (decide (t166 ≥ 0)) s0_0 s0_1) = some (r1, r2, r3, r4) := H; have A9 := am A90; clear A90; have H' := am H; clear H; have p8 : 0 ≤ (0 : Int) := (by omega); have q8 : 0 < (s0_0.extract (s0_1 : Int).toNat s0_0.size).size := (by have : (0 : Int) < ((s0_0.extract (s0_1 : Int).toNat s0_0.size).size : Int) := apD; omega); have hx8 : ∀ h : 0 < (s0_0.extract (s0_1 : Int).toNat s0_0.size).size, (((s0_0.extract (s0_1 : Int).toNat s0_0.size)[0]'h).toNat : Int) = bt (s0_0.extract (s0_1 : Int).toNat s0_0.size) 0 := bt_at (s0_0.extract (s0_1 : Int).toNat s0_0.size) 0; clear p8; have qi8 : (0 < ((s0_0.extract (s0_1 : Int).toNat s0_0.size).size : Int)) = True := eq_true (apD); replace q8 := eq_true q8; go_wp2_with (first | (go_at_call 143; (with_reducible refine (strings_IndexByte.calls (⟨#[34, 43, 44, 59, 60, 61, 62, 92, 35, 32]⟩ : ByteArray) (bt (s0_0.extract (s0_1 : Int).toNat s0_0.size) 0) t166 _ A9.out).mono ?_); rintro e w' ⟨rfl, ⟨nd, rfl⟩⟩; (try exact ap4))); (repeat (go_quiet (first | (go_at_call 143; (with_reducible refine (strings_IndexByte.calls (⟨#[34, 43, 44, 59, 60, 61, 62, 92, 35, 32]⟩ : ByteArray) (bt (s0_0.extract (s0_1 : Int).toNat s0_0.size) 0) t166 _ A9.out).mono ?_); rintro e w' ⟨rfl, ⟨nd, rfl⟩⟩; (try exact ap4))); try go_wp2_with (first | (go_at_call 143; (with_reducible refine (strings_IndexByte.calls (⟨#[34, 43, 44, 59, 60, 61, 62, 92, 35, 32]⟩ : ByteArray) (bt (s0_0.extract (s0_1 : Int).toNat s0_0.size) 0) t166 _ A9.out).mono ?_); rintro e w' ⟨rfl, ⟨nd, rfl⟩⟩; (try exact ap4))))); (first | go_meet | (simp only [c6b0] at *; go_meet) | (simp only [c6b0] at *; go_meet)); case rel => exact ⟨_, (decide (t166 ≥ 0)), ap2, H', ⟨apN⟩, ⟨apI120 HI0.out⟩, ⟨ap5⟩, ⟨apG1 (IsS120.ge HI0.out)⟩⟩
   case rest =>
    clear HC4; (try clear c2); (try clear c2b0); (try clear c2b1); (try clear c3); (try clear c3b0); (try clear c3b1); (try clear hcz5_0); (try clear hcz5_1); (try clear hfz5_0); (try clear hfz5_1); obtain ⟨kq, x23_3, rfl, HA, HJ3, HI0, HK, HB⟩ := hcut; cases kq with
    | zero => exact absurd HA.out (by simp [Dxescaped.j0])
    | succ kj3 =>
     have H := HA.out; clear HA; simp only [Dxescaped.j0] at H; revert H; refine spb ?_ ?_
     ·rintro rfl H; revert H; refine spn1 ?_; intro c11 c11b0 H; have c11b1 : decide (0 < (s0_0.extract (s0_1 : Int).toNat s0_0.size).size) = true := decide_eq_true (by omega); have c11e := c11; (try simp only [ByteArray.size_extract, Nat.min_self] at c11e); clear c11; simp only [Option.some.injEq, Prod.mk.injEq] at H; obtain ⟨rfl, rfl, rfl, rfl⟩ := H; obtain ⟨HGz13, hgz13⟩ := HI0.out; have hcz13_0 := cellS120_0 HGz13; have hcz13_1 := cellS120_1 HGz13; have hfz13_0 := blk_frozen HGz13 0; have hfz13_1 := blk_frozen HGz13 1; clear HGz13 hgz13; have p12 : 0 ≤ (0 : Int) := (by omega); have q12 : 0 < (s0_0.extract (s0_1 : Int).toNat s0_0.size).size := (by have : (0 : Int) < ((s0_0.extract (s0_1 : Int).toNat s0_0.size).size : Int) := apD; omega); have hx12 : ∀ h : 0 < (s0_0.extract (s0_1 : Int).toNat s0_0.size).size, (((s0_0.extract (s0_1 : Int).toNat s0_0.size)[0]'h).toNat : Int) = bt (s0_0.extract (s0_1 : Int).toNat s0_0.size) 0 := bt_at (s0_0.extract (s0_1 : Int).toNat s0_0.size) 0; clear p12; have qi12 : (0 < ((s0_0.extract (s0_1 : Int).toNat s0_0.size).size : Int)) = True := eq_true (apD); replace q12 := eq_true q12; go_wp2; (repeat (go_quiet (fail); try go_wp2)); go_ret2; exact ⟨ap9, apI120 HI0.out, apG1 (IsS120.ge HI0.out), ap5⟩
     ·rintro rfl H; revert H; refine spd11 ?_ ?_
      ·intro c14 c14b0 H; have c14b1 : decide ((s0_0.extract (s0_1 : Int).toNat s0_0.size).size < 2) = true := decide_eq_true (by omega); have c14e := c14; (try simp only [ByteArray.size_extract, Nat.min_self] at c14e); clear c14; simp only [Option.some.injEq, Prod.mk.injEq] at H; obtain ⟨rfl, rfl, rfl, rfl⟩ := H; go_wp2; (repeat (go_quiet (fail); try go_wp2)); go_ret2; exact ⟨ap9, apI120 HI0.out, apG1 (IsS120.ge HI0.out), ap5⟩
      ·intro c14 c14b0 H; have c14b1 : decide ((s0_0.extract (s0_1 : Int).toNat s0_0.size).size < 2) = false := decide_eq_false (by omega); have c14e := c14; (try simp only [ByteArray.size_extract, Nat.min_self] at c14e); clear c14; by_cases c15 : 0 ≤ 2
       ·rw [if_pos c15] at H; have c15b0 := eq_true c15; have c15b1 := decide_eq_true c15; clear c15; by_cases c16 : 2 ≤ ((s0_0.extract (s0_1 : Int).toNat s0_0.size).size : Int)
        ·rw [if_pos c16] at H; have c16b0 := eq_true c16; have c16b1 := decide_eq_true c16; have c16e := c16; (try simp only [ByteArray.size_extract, Nat.min_self] at c16e); clear c16; replace H := Option.bind_eq_some_iff.mp H; obtain ⟨⟨t167, t168⟩, A170, H⟩ := H; replace H : (if t168 = 0 then (if 0 < (t167.size : Int) then (some (bt t167 0, true, s0_0, wrap64 (s0_1 + 2))) else (none)) else (some (0, false, s0_0, s0_1))) = some (r1, r2, r3, r4) := H; have A17 := am A170; clear A170; revert H; refine spe01 ?_ ?_
         ·intro c18b0 c18b1 H; revert H; refine spn1 ?_; intro c19 c19b0 H; have c19b1 : decide (0 < t167.size) = true := decide_eq_true (by omega); clear c19; simp only [Option.some.injEq, Prod.mk.injEq] at H; obtain ⟨rfl, rfl, rfl, rfl⟩ := H; go_wp2_with (first | (go_at_call 144; (with_reducible refine (b64_Unhex.calls kj3 ((s0_0.extract (s0_1 : Int).toNat s0_0.size).extract 0 2) t167 t168 _ A17.out).mono ?_); rintro e w21 ⟨rfl, hb⟩; have n0_ := am (IsS120.below (apI120 HI0.out) hb); have n1_ := am (KeepBut.trans ap5 (KeepBut.of_below hb g none) (.inl rfl)); have n2_ := am (below_step (apS120 HI0.out) hb); clear HI0; clear HK; clear HB; have HI0 := n0_; have HK := n1_; have HB := n2_; clear n0_ n1_ n2_; obtain ⟨HGz22, hgz22⟩ := HI0.out; have hcz22_0 := cellS120_0 HGz22; have hcz22_1 := cellS120_1 HGz22; have hfz22_0 := blk_frozen HGz22 0; have hfz22_1 := blk_frozen HGz22 1; clear HGz22 hgz22; have p20 : 0 ≤ (0 : Int) := (by omega); have q20 : 0 < t167.size := (by have : (0 : Int) < (t167.size : Int) := apD; omega); have hx20 : ∀ h : 0 < t167.size, ((t167[0]'h).toNat : Int) = bt t167 0 := bt_at t167 0; clear p20; have qi20 : (0 < (t167.size : Int)) = True := eq_true (apD); replace q20 := eq_true q20)); (repeat (go_quiet (first | (go_at_call 144; (with_reducible refine (b64_Unhex.calls kj3 ((s0_0.extract (s0_1 : Int).toNat s0_0.size).extract 0 2) t167 t168 _ A17.out).mono ?_); rintro e w21 ⟨rfl, hb⟩; have n0_ := am (IsS120.below (apI120 HI0.out) hb); have n1_ := am (KeepBut.trans ap5 (KeepBut.of_below hb g none) (.inl rfl)); have n2_ := am (below_step (apS120 HI0.out) hb); clear HI0; clear HK; clear HB; have HI0 := n0_; have HK := n1_; have HB := n2_; clear n0_ n1_ n2_; obtain ⟨HGz22, hgz22⟩ := HI0.out; have hcz22_0 := cellS120_0 HGz22; have hcz22_1 := cellS120_1 HGz22; have hfz22_0 := blk_frozen HGz22 0; have hfz22_1 := blk_frozen HGz22 1; clear HGz22 hgz22; have p20 : 0 ≤ (0 : Int) := (by omega); have q20 : 0 < t167.size := (by have : (0 : Int) < (t167.size : Int) := apD; omega); have hx20 : ∀ h : 0 < t167.size, ((t167[0]'h).toNat : Int) = bt t167 0 := bt_at t167 0; clear p20; have qi20 : (0 < (t167.size : Int)) = True := eq_true (apD); replace q20 := eq_true q20)); try go_wp2_with (first | (go_at_call 144; (with_reducible refine (b64_Unhex.calls kj3 ((s0_0.extract (s0_1 : Int).toNat s0_0.size).extract 0 2) t167 t168 _ A17.out).mono ?_); rintro e w21 ⟨rfl, hb⟩; have n0_ := am (IsS120.below (apI120 HI0.out) hb); have n1_ := am (KeepBut.trans ap5 (KeepBut.of_below hb g none) (.inl rfl)); have n2_ := am (below_step (apS120 HI0.out) hb); clear HI0; clear HK; clear HB; have HI0 := n0_; have HK := n1_; have HB := n2_; clear n0_ n1_ n2_; obtain ⟨HGz22, hgz22⟩ := HI0.out; have hcz22_0 := cellS120_0 HGz22; have hcz22_1 := cellS120_1 HGz22; have hfz22_0 := blk_frozen HGz22 0; have hfz22_1 := blk_frozen HGz22 1; clear HGz22 hgz22; have p20 : 0 ≤ (0 : Int) := (by omega); have q20 : 0 < t167.size := (by have : (0 : Int) < (t167.size : Int) := apD; omega); have hx20 : ∀ h : 0 < t167.size, ((t167[0]'h).toNat : Int) = bt t167 0 := bt_at t167 0; clear p20; have qi20 : (0 < (t167.size : Int)) = True := eq_true (apD); replace q20 := eq_true q20)))); go_ret2; exact ⟨ap9, apI120 HI0.out, apG1 (IsS120.ge HI0.out), ap5⟩
         ·intro c18 c18b0 c18b1 H; simp only [Option.some.injEq, Prod.mk.injEq] at H; obtain ⟨rfl, rfl, rfl, rfl⟩ := H; go_wp2_with (first | (go_at_call 144; (with_reducible refine (b64_Unhex.calls kj3 ((s0_0.extract (s0_1 : Int).toNat s0_0.size).extract 0 2) t167 t168 _ A17.out).mono ?_); rintro e w23 ⟨rfl, hb⟩; have n0_ := am (IsS120.below (apI120 HI0.out) hb); have n1_ := am (KeepBut.trans ap5 (KeepBut.of_below hb g none) (.inl rfl)); have n2_ := am (below_step (apS120 HI0.out) hb); clear HI0; clear HK; clear HB; have HI0 := n0_; have HK := n1_; have HB := n2_; clear n0_ n1_ n2_)); (repeat (go_quiet (first | (go_at_call 144; (with_reducible refine (b64_Unhex.calls kj3 ((s0_0.extract (s0_1 : Int).toNat s0_0.size).extract 0 2) t167 t168 _ A17.out).mono ?_); rintro e w23 ⟨rfl, hb⟩; have n0_ := am (IsS120.below (apI120 HI0.out) hb); have n1_ := am (KeepBut.trans ap5 (KeepBut.of_below hb g none) (.inl rfl)); have n2_ := am (below_step (apS120 HI0.out) hb); clear HI0; clear HK; clear HB; have HI0 := n0_; have HK := n1_; have HB := n2_; clear n0_ n1_ n2_)); try go_wp2_with (first | (go_at_call 144; (with_reducible refine (b64_Unhex.calls kj3 ((s0_0.extract (s0_1 : Int).toNat s0_0.size).extract 0 2) t167 t168 _ A17.out).mono ?_); rintro e w23 ⟨rfl, hb⟩; have n0_ := am (IsS120.below (apI120 HI0.out) hb); have n1_ := am (KeepBut.trans ap5 (KeepBut.of_below hb g none) (.inl rfl)); have n2_ := am (below_step (apS120 HI0.out) hb); clear HI0; clear HK; clear HB; have HI0 := n0_; have HK := n1_; have HB := n2_; clear n0_ n1_ n2_)))); go_ret2; exact ⟨ap9, apI120 HI0.out, apG1 (IsS120.ge HI0.out), ap5⟩
        ·rw [if_neg c16] at H; exact absurd H (by simp)
       ·rw [if_neg c15] at H; exact absurd H (by simp)
  ·rw [if_neg c3] at H; exact absurd H (by simp)
 ·rw [if_neg c2] at H; exact absurd H (by simp)
mutual
def Dxvalue.l0 : Nat → List Int → Int → ByteArray → Int → Option (ByteArray × Bool × ByteArray × Int)
 | 0, _, _, _, _ => none
 | k + 1, x4, x5, x1000, x1001 => if x1001 < (x1000.size : Int) then (if 0 ≤ x1001 then (if (bt x1000 x1001) = 44 then (Dxvalue.j1 k x4 x5 (bt x1000 x1001) (bt x1000 x1001) ((bt x1000 x1001) == 44) x1000 x1001) else (if (bt x1000 x1001) = 59 then (Dxvalue.j1 k x4 x5 (bt x1000 x1001) (bt x1000 x1001) ((bt x1000 x1001) == 59) x1000 x1001) else (Dxvalue.j1 k x4 x5 (bt x1000 x1001) (bt x1000 x1001) ((bt x1000 x1001) == 43) x1000 x1001))) else (none)) else (if 0 ≤ x5 then (if x5 ≤ (x4.length : Int) then (some (strOfNums (x4.take (x5 : Int).toNat), true, x1000, x1001)) else (none)) else (none))
def Dxvalue.j1 : Nat → List Int → Int → Int → Int → Bool → ByteArray → Int → Option (ByteArray × Bool × ByteArray × Int)
 | 0, _, _, _, _, _, _, _ => none
 | k + 1, x4, x5, x6, x40, x41, x1000, x1001 => if x41 = true then (if 0 ≤ x5 then (if x5 ≤ (x4.length : Int) then (some (strOfNums (x4.take (x5 : Int).toNat), true, x1000, x1001)) else (none)) else (none)) else (if x40 = 34 then (some ((⟨#[]⟩ : ByteArray), false, x1000, x1001)) else (if x40 = 60 then (some ((⟨#[]⟩ : ByteArray), false, x1000, x1001)) else (if x40 = 62 then (some ((⟨#[]⟩ : ByteArray), false, x1000, x1001)) else (if x6 = 92 then ((Dxescaped.f k x1000 (wrap64 (x1001 + 1))).bind fun bt180 => (if bt180.2.1 = true then (if x4.length < 140737488355328 then ((some (x4 ++ [bt180.1] : List Int)).bind fun y184 => (Dxvalue.l0 k y184 (y184.length : Int) bt180.2.2.1 bt180.2.2.2)) else (none)) else (some ((⟨#[]⟩ : ByteArray), false, bt180.2.2.1, bt180.2.2.2)))) else (if x4.length < 140737488355328 then ((some (x4 ++ [x6] : List Int)).bind fun y187 => (if x6 = 32 then (Dxvalue.l0 k y187 x5 x1000 (wrap64 (x1001 + 1))) else (Dxvalue.l0 k y187 (y187.length : Int) x1000 (wrap64 (x1001 + 1))))) else (none))))))
end
def Dxvalue.f (k : Nat) (s0_0 : ByteArray) (s0_1 : Int) : Option (ByteArray × Bool × ByteArray × Int) := (Dxblanks.f k s0_0 s0_1).bind fun bt169 => (if 0 ≤ bt169.2 then (if bt169.2 ≤ (bt169.1.size : Int) then ((strings_HasPrefix.f (bt169.1.extract (bt169.2 : Int).toNat bt169.1.size) (⟨#[35]⟩ : ByteArray)).bind fun t171 => (if t171 = true then (some ((⟨#[]⟩ : ByteArray), false, bt169.1, bt169.2)) else (Dxvalue.l0 k ([] : List Int) 0 bt169.1 bt169.2))) else (none)) else (none))
theorem Dxvalue.mono_l : ∀ k, (∀ y0 y1 y2 y3, LeO (Dxvalue.l0 k y0 y1 y2 y3) (Dxvalue.l0 (k + 1) y0 y1 y2 y3)) ∧ (∀ y0 y1 y2 y3 y4 y5 y6, LeO (Dxvalue.j1 k y0 y1 y2 y3 y4 y5 y6) (Dxvalue.j1 (k + 1) y0 y1 y2 y3 y4 y5 y6))
 | 0 => ⟨fun _ _ _ _ r h => by simp [Dxvalue.l0] at h, fun _ _ _ _ _ _ _ r h => by simp [Dxvalue.j1] at h⟩
 | k + 1 => by
  obtain ⟨ih0, ih1⟩ := Dxvalue.mono_l k
  refine ⟨?_, ?_⟩
  ·
   intro y0 y1 y2 y3
   unfold Dxvalue.l0
   repeat' first
   | (with_reducible exact ih0 _ _ _ _)
   | (with_reducible exact ih1 _ _ _ _ _ _ _)
   | (with_reducible exact Dxblanks.mono _ _ _)
   | (with_reducible exact Dxescaped.mono _ _ _)
   | (with_reducible exact LeO.refl _)
   | (with_reducible exact LeO.none _)
   | (with_reducible refine LeO.ite ?_ ?_)
   | (with_reducible refine LeO.bind ?_ (fun _ => ?_))
  ·
   intro y0 y1 y2 y3 y4 y5 y6
   unfold Dxvalue.j1
   repeat' first
   | (with_reducible exact ih0 _ _ _ _)
   | (with_reducible exact ih1 _ _ _ _ _ _ _)
   | (with_reducible exact Dxblanks.mono _ _ _)
   | (with_reducible exact Dxescaped.mono _ _ _)
   | (with_reducible exact LeO.refl _)
   | (with_reducible exact LeO.none _)
   | (with_reducible refine LeO.ite ?_ ?_)
   | (with_reducible refine LeO.bind ?_ (fun _ => ?_))
theorem Dxvalue.mono : ∀ a0 a1 k, LeO (Dxvalue.f k a0 a1) (Dxvalue.f (k + 1) a0 a1) := by
 intro a0 a1 k; obtain ⟨ih0, ih1⟩ := Dxvalue.mono_l k; unfold Dxvalue.f; repeat' first
   | (with_reducible exact ih0 _ _ _ _)
   | (with_reducible exact ih1 _ _ _ _ _ _ _)
   | (with_reducible exact Dxblanks.mono _ _ _)
   | (with_reducible exact Dxescaped.mono _ _ _)
   | (with_reducible exact LeO.refl _)
   | (with_reducible exact LeO.none _)
   | (with_reducible refine LeO.ite ?_ ?_)
   | (with_reducible refine LeO.bind ?_ (fun _ => ?_))
set_option maxHeartbeats 8000000 in
set_option maxRecDepth 100000 in
theorem Dxvalue.calls (k : Nat) (g : Nat) (s0_0 : ByteArray) (s0_1 : Int) (r1 : ByteArray) (r2 : Bool) (r3 : ByteArray) (r4 : Int) (w0 w : World) (hI : IsS120 w0 w g s0_0 s0_1) (hB : Below w0.heap.size w0 w) (h : Dxvalue.f k s0_0 s0_1 = some (r1, r2, r3, r4)) :
  Calls Tryz.prog 98 #[.pointer (some ⟨g, 0, none⟩)] w fun e w' => e = .returned (.tuple #[.string r1, .bool r2]) ∧ IsS120 w0 w' g r3 r4 ∧ Below w0.heap.size w0 w' ∧ KeepBut w w' g none := by
 have HI0 := am hI
 have HK := am (KeepBut.refl w g none)
 have HL := am hB.size
 clear hI
 have HW0 := am hB.size
 have HB := am hB
 clear hB
 have H : ((Dxblanks.f k s0_0 s0_1).bind fun bt169 => (if 0 ≤ bt169.2 then (if bt169.2 ≤ (bt169.1.size : Int) then ((strings_HasPrefix.f (bt169.1.extract (bt169.2 : Int).toNat bt169.1.size) (⟨#[35]⟩ : ByteArray)).bind fun t171 => (if t171 = true then (some ((⟨#[]⟩ : ByteArray), false, bt169.1, bt169.2)) else (Dxvalue.l0 k ([] : List Int) 0 bt169.1 bt169.2))) else (none)) else (none))) = some (r1, r2, r3, r4) := h
 clear h
 replace H := Option.bind_eq_some_iff.mp H
 obtain ⟨⟨t169, t170⟩, A20, H⟩ := H
 replace H : (if 0 ≤ t170 then (if t170 ≤ (t169.size : Int) then ((strings_HasPrefix.f (t169.extract (t170 : Int).toNat t169.size) (⟨#[35]⟩ : ByteArray)).bind fun t171 => (if t171 = true then (some ((⟨#[]⟩ : ByteArray), false, t169, t170)) else (Dxvalue.l0 k ([] : List Int) 0 t169 t170))) else (none)) else (none)) = some (r1, r2, r3, r4) := H
 have A2 := am A20
 clear A20
 by_cases c3 : 0 ≤ t170
 ·rw [if_pos c3] at H; have c3b0 := eq_true c3; have c3b1 := decide_eq_true c3; clear c3; by_cases c4 : t170 ≤ (t169.size : Int)
  ·rw [if_pos c4] at H; have c4b0 := eq_true c4; have c4b1 := decide_eq_true c4; clear c4; replace H := Option.bind_eq_some_iff.mp H; obtain ⟨t171, A50, H⟩ := H; replace H : (if t171 = true then (some ((⟨#[]⟩ : ByteArray), false, t169, t170)) else (Dxvalue.l0 k ([] : List Int) 0 t169 t170)) = some (r1, r2, r3, r4) := H; have A5 := am A50; clear A50; revert H; refine spb ?_ ?_
   ·rintro rfl H; simp only [Option.some.injEq, Prod.mk.injEq] at H; obtain ⟨rfl, rfl, rfl, rfl⟩ := H; go_enter Tryz.func98, Tryz.ntmps98; go_wp2_with (first | (go_at_call 96; (with_reducible refine (Dxblanks.calls k g s0_0 s0_1 t169 t170 w0 _ ?side1 ?side2 A2.out).mono ?_); (case side1 => exact apI120 HI0.out); (case side2 => exact apS120 HI0.out); rintro e w7 ⟨rfl, hi, hb, hk⟩; replace HK := am (KeepBut.trans ap5 hk (.inl rfl)); replace HI0 := am (hi); replace HB := am (hb); obtain ⟨HGz8, hgz8⟩ := HI0.out; have hcz8_0 := cellS120_0 HGz8; have hcz8_1 := cellS120_1 HGz8; have hfz8_0 := blk_frozen HGz8 0; have hfz8_1 := blk_frozen HGz8 1; clear HGz8 hgz8) | (go_at_call 113; (with_reducible refine (strings_HasPrefix.calls (t169.extract (t170 : Int).toNat t169.size) (⟨#[35]⟩ : ByteArray) true _ A5.out).mono ?_); rintro e w' ⟨rfl, ⟨nd, rfl⟩⟩; (try exact ap4))); (repeat (go_quiet (first | (go_at_call 96; (with_reducible refine (Dxblanks.calls k g s0_0 s0_1 t169 t170 w0 _ ?side1 ?side2 A2.out).mono ?_); (case side1 => exact apI120 HI0.out); (case side2 => exact apS120 HI0.out); rintro e w7 ⟨rfl, hi, hb, hk⟩; replace HK := am (KeepBut.trans ap5 hk (.inl rfl)); replace HI0 := am (hi); replace HB := am (hb); obtain ⟨HGz8, hgz8⟩ := HI0.out; have hcz8_0 := cellS120_0 HGz8; have hcz8_1 := cellS120_1 HGz8; have hfz8_0 := blk_frozen HGz8 0; have hfz8_1 := blk_frozen HGz8 1; clear HGz8 hgz8) | (go_at_call 113; (with_reducible refine (strings_HasPrefix.calls (t169.extract (t170 : Int).toNat t169.size) (⟨#[35]⟩ : ByteArray) true _ A5.out).mono ?_); rintro e w' ⟨rfl, ⟨nd, rfl⟩⟩; (try exact ap4))); try go_wp2_with (first | (go_at_call 96; (with_reducible refine (Dxblanks.calls k g s0_0 s0_1 t169 t170 w0 _ ?side1 ?side2 A2.out).mono ?_); (case side1 => exact apI120 HI0.out); (case side2 => exact apS120 HI0.out); rintro e w7 ⟨rfl, hi, hb, hk⟩; replace HK := am (KeepBut.trans ap5 hk (.inl rfl)); replace HI0 := am (hi); replace HB := am (hb); obtain ⟨HGz8, hgz8⟩ := HI0.out; have hcz8_0 := cellS120_0 HGz8; have hcz8_1 := cellS120_1 HGz8; have hfz8_0 := blk_frozen HGz8 0; have hfz8_1 := blk_frozen HGz8 1; clear HGz8 hgz8) | (go_at_call 113; (with_reducible refine (strings_HasPrefix.calls (t169.extract (t170 : Int).toNat t169.size) (⟨#[35]⟩ : ByteArray) true _ A5.out).mono ?_); rintro e w' ⟨rfl, ⟨nd, rfl⟩⟩; (try exact ap4))))); go_ret2; exact ⟨ap9, apI120 HI0.out, apG1 (IsS120.ge HI0.out), ap5⟩
   ·rintro rfl H; have H' := am H; clear H; go_enter Tryz.func98, Tryz.ntmps98; go_wp2_with (first | (go_at_call 96; (with_reducible refine (Dxblanks.calls k g s0_0 s0_1 t169 t170 w0 _ ?side1 ?side2 A2.out).mono ?_); (case side1 => exact apI120 HI0.out); (case side2 => exact apS120 HI0.out); rintro e w9 ⟨rfl, hi, hb, hk⟩; replace HK := am (KeepBut.trans ap5 hk (.inl rfl)); replace HI0 := am (hi); replace HB := am (hb); obtain ⟨HGz10, hgz10⟩ := HI0.out; have hcz10_0 := cellS120_0 HGz10; have hcz10_1 := cellS120_1 HGz10; have hfz10_0 := blk_frozen HGz10 0; have hfz10_1 := blk_frozen HGz10 1; clear HGz10 hgz10) | (go_at_call 113; (with_reducible refine (strings_HasPrefix.calls (t169.extract (t170 : Int).toNat t169.size) (⟨#[35]⟩ : ByteArray) false _ A5.out).mono ?_); rintro e w' ⟨rfl, ⟨nd, rfl⟩⟩; (try exact ap4))); (repeat (go_quiet (first | (go_at_call 96; (with_reducible refine (Dxblanks.calls k g s0_0 s0_1 t169 t170 w0 _ ?side1 ?side2 A2.out).mono ?_); (case side1 => exact apI120 HI0.out); (case side2 => exact apS120 HI0.out); rintro e w9 ⟨rfl, hi, hb, hk⟩; replace HK := am (KeepBut.trans ap5 hk (.inl rfl)); replace HI0 := am (hi); replace HB := am (hb); obtain ⟨HGz10, hgz10⟩ := HI0.out; have hcz10_0 := cellS120_0 HGz10; have hcz10_1 := cellS120_1 HGz10; have hfz10_0 := blk_frozen HGz10 0; have hfz10_1 := blk_frozen HGz10 1; clear HGz10 hgz10) | (go_at_call 113; (with_reducible refine (strings_HasPrefix.calls (t169.extract (t170 : Int).toNat t169.size) (⟨#[35]⟩ : ByteArray) false _ A5.out).mono ?_); rintro e w' ⟨rfl, ⟨nd, rfl⟩⟩; (try exact ap4))); try go_wp2_with (first | (go_at_call 96; (with_reducible refine (Dxblanks.calls k g s0_0 s0_1 t169 t170 w0 _ ?side1 ?side2 A2.out).mono ?_); (case side1 => exact apI120 HI0.out); (case side2 => exact apS120 HI0.out); rintro e w9 ⟨rfl, hi, hb, hk⟩; replace HK := am (KeepBut.trans ap5 hk (.inl rfl)); replace HI0 := am (hi); replace HB := am (hb); obtain ⟨HGz10, hgz10⟩ := HI0.out; have hcz10_0 := cellS120_0 HGz10; have hcz10_1 := cellS120_1 HGz10; have hfz10_0 := blk_frozen HGz10 0; have hfz10_1 := blk_frozen HGz10 1; clear HGz10 hgz10) | (go_at_call 113; (with_reducible refine (strings_HasPrefix.calls (t169.extract (t170 : Int).toNat t169.size) (⟨#[35]⟩ : ByteArray) false _ A5.out).mono ?_); rintro e w' ⟨rfl, ⟨nd, rfl⟩⟩; (try exact ap4))))); go_loopg [4, 5] k (fun kq v4 v5 w' => ∃ (x4_1 : List Int) (x5_1 : Int) (x1000_1 : ByteArray) (x1001_1 : Int), v5 = .int .i64 x5_1 ∧ Aside0 (Dxvalue.l0 kq x4_1 x5_1 x1000_1 x1001_1 = some (r1, r2, r3, r4)) ∧ Aside0 (kq ≤ k) ∧ Aside0 (Kd.R (Kd.int .u8) 5 w' w.heap.size (fun _ => True) v4 x4_1) ∧ Aside0 (IsS120 w0 w' g x1000_1 x1001_1) ∧ Aside0 (KeepBut w w' g none) ∧ Aside0 (Below w0.heap.size w0 w')); (case atStart => exact ⟨(([] : List Int)), (0), (t169), (t170), ap2, H', ⟨Nat.le_refl _⟩, ⟨by first | exact Kd.R_nil _ _ _ _ _ | exact Kd.N_nil _ _ _ _ _ | exact Kd.V_nil _ _ _ _ _ | exact Kd.Q_nil _ _ _ _ _ | exact Kd.S_nil _ _ _ _ _⟩, ⟨apI120 HI0.out⟩, ⟨ap5⟩, ⟨apG1 (IsS120.ge HI0.out)⟩⟩); case round =>
     clear H'; (try clear c3); (try clear c3b0); (try clear c3b1); (try clear c4); (try clear c4b0); (try clear c4b1); (try clear c6); (try clear hcz10_0); (try clear hcz10_1); (try clear hfz10_0); (try clear hfz10_1); obtain ⟨x4_1, x5_1, x1000_1, x1001_1, rfl, HA, HK1, HO_4, HI0, HK, HB⟩ := hrel; cases gk with
     | zero => exact absurd HA.out (by simp [Dxvalue.l0])
     | succ k1 =>
      have H := HA.out; clear HA; simp only [Dxvalue.l0] at H; revert H; refine spd00 ?_ ?_
      ·intro c11b0 H; revert H; refine spn0 ?_; intro c12b0 H; have HC14 := am H; clear H; obtain ⟨HGz15, hgz15⟩ := HI0.out; have hcz15_0 := cellS120_0 HGz15; have hcz15_1 := cellS120_1 HGz15; have hfz15_0 := blk_frozen HGz15 0; have hfz15_1 := blk_frozen HGz15 1; clear HGz15 hgz15; have p13 : 0 ≤ (x1001_1 : Int) := apD; have q13 : x1001_1 < (x1000_1.size : Int) := apD; have hx13 := bt_at x1000_1 x1001_1; replace p13 := eq_true p13; replace q13 := eq_true q13; go_upto_if 41 with (fail); (repeat (go_quiet (fail); go_upto_if 41 with (fail))); go_cut [41] (fun v41 wc => ∃ (kq : Nat) (x41_13 : Bool), v41 = .bool x41_13 ∧ Aside0 (Dxvalue.j1 kq x4_1 x5_1 (bt x1000_1 x1001_1) (bt x1000_1 x1001_1) x41_13 x1000_1 x1001_1 = some (r1, r2, r3, r4)) ∧ Aside0 (kq ≤ k1) ∧ Aside0 (Kd.R (Kd.int .u8) 5 wc w.heap.size (fun _ => True) u4 x4_1) ∧ Aside0 (IsS120 w0 wc g x1000_1 x1001_1) ∧ Aside0 (KeepBut w wc g none) ∧ Aside0 (Below w0.heap.size w0 wc)); case first =>
        have H := HC14.out; clear HC14; revert H; refine spe01 ?_ ?_
        ·intro c16b0 c16b1 H; (first | rw [c16b0] | (simp only [i64_w, i32_w]; rw [c16b0]) | skip); have H' := am H; clear H; go_wp2; (repeat (go_quiet (fail); try go_wp2)); (first | go_meet | (simp only [c16b0] at *; go_meet)); case rel => exact ⟨_, (((bt x1000_1 x1001_1) == 44)), ap2, H', ⟨by have := HK1.out; first | omega | exact Nat.le_refl _⟩, ⟨apAR HO_4.out⟩, ⟨apI120 HI0.out⟩, ⟨ap5⟩, ⟨apG1 (IsS120.ge HI0.out)⟩⟩
        ·intro c16 c16b0 c16b1 H; (first | rw [c16b0] | (simp only [i64_w, i32_w]; rw [c16b0]) | skip); revert H; refine spe01 ?_ ?_
         ·intro c17b0 c17b1 H; have H' := am H; clear H; go_wp2; (repeat (go_quiet (fail); try go_wp2)); (first | go_meet | (simp only [c17b0] at *; go_meet) | (simp only [c16b0] at *; go_meet) | (simp only [c16b0] at *; go_meet)); case rel => exact ⟨_, (((bt x1000_1 x1001_1) == 59)), ap2, H', ⟨by have := HK1.out; first | omega | exact Nat.le_refl _⟩, ⟨apAR HO_4.out⟩, ⟨apI120 HI0.out⟩, ⟨ap5⟩, ⟨apG1 (IsS120.ge HI0.out)⟩⟩
         ·intro c17 c17b0 c17b1 H; have H' := am H; clear H; go_wp2; (repeat (go_quiet (fail); try go_wp2)); (first | go_meet | (simp only [c17b0] at *; go_meet) | (simp only [c17b0] at *; go_meet) | (simp only [c16b0] at *; go_meet)); case rel => exact ⟨_, (((bt x1000_1 x1001_1) == 43)), ap2, H', ⟨by have := HK1.out; first | omega | exact Nat.le_refl _⟩, ⟨apAR HO_4.out⟩, ⟨apI120 HI0.out⟩, ⟨ap5⟩, ⟨apG1 (IsS120.ge HI0.out)⟩⟩
       case rest =>
        clear HC14; (try clear c3); (try clear c3b0); (try clear c3b1); (try clear c4); (try clear c4b0); (try clear c4b1); (try clear c6); (try clear c11); (try clear c11b0); (try clear c12); (try clear c12b0); (try clear p13); (try clear q13); (try clear hx13); (try clear hcz10_0); (try clear hcz10_1); (try clear hcz15_0); (try clear hcz15_1); (try clear hfz10_0); (try clear hfz10_1); (try clear hfz15_0); (try clear hfz15_1); (try clear p13); (try clear q13); obtain ⟨kq, x41_13, rfl, HA, HJ13, HO_4, HI0, HK, HB⟩ := hcut; cases kq with
        | zero => exact absurd HA.out (by simp [Dxvalue.j1])
        | succ kj13 =>
         have H := HA.out; clear HA; simp only [Dxvalue.j1] at H; revert H; refine spb ?_ ?_
         ·rintro rfl H; by_cases c19 : 0 ≤ x5_1
          ·rw [if_pos c19] at H; have c19b0 := eq_true c19; have c19b1 := decide_eq_true c19; clear c19; by_cases c20 : x5_1 ≤ (x4_1.length : Int)
           ·rw [if_pos c20] at H; have c20b0 := eq_true c20; have c20b1 := decide_eq_true c20; clear c20; obtain ⟨y176, hy176⟩ : ∃ y_ : List Int, y_ = (x4_1.take (x5_1 : Int).toNat) := ⟨_, rfl⟩; replace H : (some (strOfNums y176, true, x1000_1, x1001_1)) = some (r1, r2, r3, r4) := apY hy176 H; have Ny176 := am hy176; clear hy176; simp only [Option.some.injEq, Prod.mk.injEq] at H; obtain ⟨rfl, rfl, rfl, rfl⟩ := H; obtain ⟨Ao22, co22, eo22⟩ := Kd.R_slice HO_4.out; subst eo22; have q21 : (x5_1 : Int) ≤ ((x4_1.length : Int) : Int) := apD; obtain ⟨i021, hi021, _, hsz21, _⟩ := info_parts info5; have hroom21 : x4_1.length ≤ co22 := (Kd.R_reads' HO_4.out).2.1; have hC21 : Kd.C (Kd.int .u8) _ Ao22 x4_1.length x4_1 := (Kd.R_reads' HO_4.out).2.2; have hcut21 := cut_to (P := Tryz.prog) 82 5 .i64 Tryz.underlying82 hi021 Ao22 x4_1.length co22 x5_1 (apD) q21 hroom21; have hr21 := Kd.C_take (m := (x5_1 : Int).toNat) hC21 (by omega); have hy21 : y176.length = (x5_1 : Int).toNat := (by rw [Ny176.out, List.length_take]; omega); rw [← Ny176.out] at hr21; rw [← hy21] at hcut21; have HR179 := am hr21; have HC179 := am (show y176.length ≤ co22 from by omega); clear hr21 hC21 hroom21 hi021 hsz21; have KY21 := am hy21; clear hy21; have KL21 := am (show (x5_1 : Int).toNat ≤ x4_1.length from by omega); replace q21 := eq_true q21; have hcv23 := Kd.C_string (P := Tryz.prog) (A := Ao22) (c := co22) Tryz.underlying82 Tryz.underlying5 Tryz.underlying9 (apC HR179.out); have hcv23n := fun m_ => Kd.C_string (P := Tryz.prog) (A := Ao22) (c := co22) Tryz.underlying82 Tryz.underlying5 Tryz.underlying9 (Kd.C_drewN (apC HR179.out) m_)
            go_wp2; (repeat (go_quiet (fail); try go_wp2)); go_ret2; exact ⟨ap9, apI120 HI0.out, apG1 (IsS120.ge HI0.out), ap5⟩
           ·rw [if_neg c20] at H; exact absurd H (by simp)
          ·rw [if_neg c19] at H; exact absurd H (by simp)
         ·rintro rfl H; revert H; refine spe01 ?_ ?_
          ·intro c24b0 c24b1 H; simp only [Option.some.injEq, Prod.mk.injEq] at H; obtain ⟨rfl, rfl, rfl, rfl⟩ := H; go_wp2; (repeat (go_quiet (fail); try go_wp2)); go_ret2; exact ⟨ap9, apI120 HI0.out, apG1 (IsS120.ge HI0.out), ap5⟩
          ·intro c24 c24b0 c24b1 H; revert H; refine spe01 ?_ ?_
           ·intro c25b0 c25b1 H; simp only [Option.some.injEq, Prod.mk.injEq] at H; obtain ⟨rfl, rfl, rfl, rfl⟩ := H; go_wp2; (repeat (go_quiet (fail); try go_wp2)); go_ret2; exact ⟨ap9, apI120 HI0.out, apG1 (IsS120.ge HI0.out), ap5⟩
           ·intro c25 c25b0 c25b1 H; revert H; refine spe01 ?_ ?_
            ·intro c26b0 c26b1 H; simp only [Option.some.injEq, Prod.mk.injEq] at H; obtain ⟨rfl, rfl, rfl, rfl⟩ := H; go_wp2; (repeat (go_quiet (fail); try go_wp2)); go_ret2; exact ⟨ap9, apI120 HI0.out, apG1 (IsS120.ge HI0.out), ap5⟩
            ·intro c26 c26b0 c26b1 H; revert H; refine spe01 ?_ ?_
             ·intro c27b0 c27b1 H; replace H := Option.bind_eq_some_iff.mp H; obtain ⟨⟨t180, t181, t182, t183⟩, A280, H⟩ := H; replace H : (if t181 = true then (if x4_1.length < 140737488355328 then ((some (x4_1 ++ [t180] : List Int)).bind fun y184 => (Dxvalue.l0 kj13 y184 (y184.length : Int) t182 t183)) else (none)) else (some ((⟨#[]⟩ : ByteArray), false, t182, t183))) = some (r1, r2, r3, r4) := H; have A28 := am A280; clear A280; revert H; refine spb ?_ ?_
              ·rintro rfl H; by_cases c30 : x4_1.length < 140737488355328
               ·rw [if_pos c30] at H; have LMc30 := am c30; clear c30; obtain ⟨y184, hy184⟩ : ∃ y_ : List Int, y_ = (x4_1 ++ [t180]) := ⟨_, rfl⟩; replace H : (Dxvalue.l0 kj13 y184 (y184.length : Int) t182 t183) = some (r1, r2, r3, r4) := apY hy184 H; have Ny184 := am hy184; clear hy184; have H' := am H; clear H; obtain ⟨HGz31, hgz31⟩ := HI0.out; have hcz31_0 := cellS120_0 HGz31; have hcz31_1 := cellS120_1 HGz31; have hfz31_0 := blk_frozen HGz31 0; have hfz31_1 := blk_frozen HGz31 1; clear HGz31 hgz31; go_wp2_with (first | (go_at_call 124; (with_reducible refine (Dxescaped.calls kj13 g x1000_1 (wrap64 (x1001_1 + 1)) t180 true t182 t183 w0 _ ?side1 ?side2 A28.out).mono ?_); (case side1 => exact apI120 HI0.out); (case side2 => exact apS120 HI0.out); rintro e w32 ⟨rfl, hi, hb, hk⟩; replace HO_4 := am (Kd.R_mono (Kd.R_keep (IsS120.apart (show IsS120 w0 _ g x1000_1 (wrap64 (x1001_1 + 1)) from by repeat (first | (with_reducible first | exact HI0.out | apply IsS120.alloc | apply IsS120.drewN | apply IsS120.drew | apply IsS120.set_0 | apply IsS120.set_1) | exact HI0.out)) (by (with_reducible repeat (first | apply Kd.R_alloc | apply Kd.R_drewN | apply Kd.R_drew)); exact (Kd.R_mono (Kd.R_far (p := ⟨g, 1, none⟩) (IsS120.apart HI0.out HO_4.out (by decide)) (fun _ hk => hk.2) (.int .i64 (wrap64 (x1001_1 + 1)))) (fun _ h_ => h_.1))) (by decide)) hk (fun _ h => h.2)) (fun _ h => h.1)); replace HK := am (KeepBut.trans ap5 hk (.inl rfl)); replace HI0 := am (hi); replace HB := am (hb)) | ((with_reducible refine gate_builtin (b := .append) (xs := #[.tmp 69, .tmp 71]) rfl ?_); at_builtin; refine Kd.R_append (Kd.int .u8) w.heap.size rfl (.tmp 69) (.tmp 71) 82 5 (.int .u8 0) 1 rfl Tryz.underlying82 info5 rfl (by decide) (by omega) u4 x4_1 t180 [.int .u8 t180] (fun _ => True) (fun _ => False) rfl rfl ?aP (fun _ hk => hk.elim) ?aF ?aO (Below.refl _ _) ?aS ?aL ?_; (case aP => exact rfl); (case aF => exact (fun _ _ => trivial)); (case aO => exact (apAR HO_4.out)); (case aS => exact (keep_size (w := w) (g := g) (row := none) ap5)); (case aL => have := LMc30.out; omega); intro v185 w33 ho hb hg hat; rw [← Ny184.out] at ho; have n0_ := am (IsS120.grown (apI120 HI0.out) hg (IsS120.own_ne HI0.out HO_4.out (by decide))); have n1_ := am (below_weaken (apS120 HI0.out) HL.out hb); have n2_ := am (KeepBut.trans ap5 (KeepBut.of_grown hg g) (Kd.R_base2 HO_4.out)); have n3_ := am (ho); clear HI0; clear HB; clear HK; clear HO_4; have HI0 := n0_; have HB := n1_; have HK := n2_; have HO186 := n3_; clear n0_ n1_ n2_ n3_; clear ho hb hg hat; obtain ⟨Ao34, co34, eo34⟩ := Kd.R_slice HO186.out; subst eo34)); (repeat (go_quiet (first | (go_at_call 124; (with_reducible refine (Dxescaped.calls kj13 g x1000_1 (wrap64 (x1001_1 + 1)) t180 true t182 t183 w0 _ ?side1 ?side2 A28.out).mono ?_); (case side1 => exact apI120 HI0.out); (case side2 => exact apS120 HI0.out); rintro e w32 ⟨rfl, hi, hb, hk⟩; replace HO_4 := am (Kd.R_mono (Kd.R_keep (IsS120.apart (show IsS120 w0 _ g x1000_1 (wrap64 (x1001_1 + 1)) from by repeat (first | (with_reducible first | exact HI0.out | apply IsS120.alloc | apply IsS120.drewN | apply IsS120.drew | apply IsS120.set_0 | apply IsS120.set_1) | exact HI0.out)) (by (with_reducible repeat (first | apply Kd.R_alloc | apply Kd.R_drewN | apply Kd.R_drew)); exact (Kd.R_mono (Kd.R_far (p := ⟨g, 1, none⟩) (IsS120.apart HI0.out HO_4.out (by decide)) (fun _ hk => hk.2) (.int .i64 (wrap64 (x1001_1 + 1)))) (fun _ h_ => h_.1))) (by decide)) hk (fun _ h => h.2)) (fun _ h => h.1)); replace HK := am (KeepBut.trans ap5 hk (.inl rfl)); replace HI0 := am (hi); replace HB := am (hb)) | ((with_reducible refine gate_builtin (b := .append) (xs := #[.tmp 69, .tmp 71]) rfl ?_); at_builtin; refine Kd.R_append (Kd.int .u8) w.heap.size rfl (.tmp 69) (.tmp 71) 82 5 (.int .u8 0) 1 rfl Tryz.underlying82 info5 rfl (by decide) (by omega) u4 x4_1 t180 [.int .u8 t180] (fun _ => True) (fun _ => False) rfl rfl ?aP (fun _ hk => hk.elim) ?aF ?aO (Below.refl _ _) ?aS ?aL ?_; (case aP => exact rfl); (case aF => exact (fun _ _ => trivial)); (case aO => exact (apAR HO_4.out)); (case aS => exact (keep_size (w := w) (g := g) (row := none) ap5)); (case aL => have := LMc30.out; omega); intro v185 w33 ho hb hg hat; rw [← Ny184.out] at ho; have n0_ := am (IsS120.grown (apI120 HI0.out) hg (IsS120.own_ne HI0.out HO_4.out (by decide))); have n1_ := am (below_weaken (apS120 HI0.out) HL.out hb); have n2_ := am (KeepBut.trans ap5 (KeepBut.of_grown hg g) (Kd.R_base2 HO_4.out)); have n3_ := am (ho); clear HI0; clear HB; clear HK; clear HO_4; have HI0 := n0_; have HB := n1_; have HK := n2_; have HO186 := n3_; clear n0_ n1_ n2_ n3_; clear ho hb hg hat; obtain ⟨Ao34, co34, eo34⟩ := Kd.R_slice HO186.out; subst eo34)); try go_wp2_with (first | (go_at_call 124; (with_reducible refine (Dxescaped.calls kj13 g x1000_1 (wrap64 (x1001_1 + 1)) t180 true t182 t183 w0 _ ?side1 ?side2 A28.out).mono ?_); (case side1 => exact apI120 HI0.out); (case side2 => exact apS120 HI0.out); rintro e w32 ⟨rfl, hi, hb, hk⟩; replace HO_4 := am (Kd.R_mono (Kd.R_keep (IsS120.apart (show IsS120 w0 _ g x1000_1 (wrap64 (x1001_1 + 1)) from by repeat (first | (with_reducible first | exact HI0.out | apply IsS120.alloc | apply IsS120.drewN | apply IsS120.drew | apply IsS120.set_0 | apply IsS120.set_1) | exact HI0.out)) (by (with_reducible repeat (first | apply Kd.R_alloc | apply Kd.R_drewN | apply Kd.R_drew)); exact (Kd.R_mono (Kd.R_far (p := ⟨g, 1, none⟩) (IsS120.apart HI0.out HO_4.out (by decide)) (fun _ hk => hk.2) (.int .i64 (wrap64 (x1001_1 + 1)))) (fun _ h_ => h_.1))) (by decide)) hk (fun _ h => h.2)) (fun _ h => h.1)); replace HK := am (KeepBut.trans ap5 hk (.inl rfl)); replace HI0 := am (hi); replace HB := am (hb)) | ((with_reducible refine gate_builtin (b := .append) (xs := #[.tmp 69, .tmp 71]) rfl ?_); at_builtin; refine Kd.R_append (Kd.int .u8) w.heap.size rfl (.tmp 69) (.tmp 71) 82 5 (.int .u8 0) 1 rfl Tryz.underlying82 info5 rfl (by decide) (by omega) u4 x4_1 t180 [.int .u8 t180] (fun _ => True) (fun _ => False) rfl rfl ?aP (fun _ hk => hk.elim) ?aF ?aO (Below.refl _ _) ?aS ?aL ?_; (case aP => exact rfl); (case aF => exact (fun _ _ => trivial)); (case aO => exact (apAR HO_4.out)); (case aS => exact (keep_size (w := w) (g := g) (row := none) ap5)); (case aL => have := LMc30.out; omega); intro v185 w33 ho hb hg hat; rw [← Ny184.out] at ho; have n0_ := am (IsS120.grown (apI120 HI0.out) hg (IsS120.own_ne HI0.out HO_4.out (by decide))); have n1_ := am (below_weaken (apS120 HI0.out) HL.out hb); have n2_ := am (KeepBut.trans ap5 (KeepBut.of_grown hg g) (Kd.R_base2 HO_4.out)); have n3_ := am (ho); clear HI0; clear HB; clear HK; clear HO_4; have HI0 := n0_; have HB := n1_; have HK := n2_; have HO186 := n3_; clear n0_ n1_ n2_ n3_; clear ho hb hg hat; obtain ⟨Ao34, co34, eo34⟩ := Kd.R_slice HO186.out; subst eo34)))); go_roundg kj13; (case measure => have := HK1.out; have := HJ13.out; omega); case rel => exact ⟨(y184), ((y184.length : Int)), (t182), (t183), ap2, H', ⟨by have := HK1.out; have := HJ13.out; omega⟩, ⟨apAR HO186.out⟩, ⟨apI120 HI0.out⟩, ⟨ap5⟩, ⟨apG1 (IsS120.ge HI0.out)⟩⟩
               ·rw [if_neg c30] at H; exact absurd H (by simp)
              ·rintro rfl H; simp only [Option.some.injEq, Prod.mk.injEq] at H; obtain ⟨rfl, rfl, rfl, rfl⟩ := H; obtain ⟨HGz35, hgz35⟩ := HI0.out; have hcz35_0 := cellS120_0 HGz35; have hcz35_1 := cellS120_1 HGz35; have hfz35_0 := blk_frozen HGz35 0; have hfz35_1 := blk_frozen HGz35 1; clear HGz35 hgz35; go_wp2_with (first | (go_at_call 124; (with_reducible refine (Dxescaped.calls kj13 g x1000_1 (wrap64 (x1001_1 + 1)) t180 false t182 t183 w0 _ ?side1 ?side2 A28.out).mono ?_); (case side1 => exact apI120 HI0.out); (case side2 => exact apS120 HI0.out); rintro e w36 ⟨rfl, hi, hb, hk⟩; replace HO_4 := am (Kd.R_mono (Kd.R_keep (IsS120.apart (show IsS120 w0 _ g x1000_1 (wrap64 (x1001_1 + 1)) from by repeat (first | (with_reducible first | exact HI0.out | apply IsS120.alloc | apply IsS120.drewN | apply IsS120.drew | apply IsS120.set_0 | apply IsS120.set_1) | exact HI0.out)) (by (with_reducible repeat (first | apply Kd.R_alloc | apply Kd.R_drewN | apply Kd.R_drew)); exact (Kd.R_mono (Kd.R_far (p := ⟨g, 1, none⟩) (IsS120.apart HI0.out HO_4.out (by decide)) (fun _ hk => hk.2) (.int .i64 (wrap64 (x1001_1 + 1)))) (fun _ h_ => h_.1))) (by decide)) hk (fun _ h => h.2)) (fun _ h => h.1)); replace HK := am (KeepBut.trans ap5 hk (.inl rfl)); replace HI0 := am (hi); replace HB := am (hb))); (repeat (go_quiet (first | (go_at_call 124; (with_reducible refine (Dxescaped.calls kj13 g x1000_1 (wrap64 (x1001_1 + 1)) t180 false t182 t183 w0 _ ?side1 ?side2 A28.out).mono ?_); (case side1 => exact apI120 HI0.out); (case side2 => exact apS120 HI0.out); rintro e w36 ⟨rfl, hi, hb, hk⟩; replace HO_4 := am (Kd.R_mono (Kd.R_keep (IsS120.apart (show IsS120 w0 _ g x1000_1 (wrap64 (x1001_1 + 1)) from by repeat (first | (with_reducible first | exact HI0.out | apply IsS120.alloc | apply IsS120.drewN | apply IsS120.drew | apply IsS120.set_0 | apply IsS120.set_1) | exact HI0.out)) (by (with_reducible repeat (first | apply Kd.R_alloc | apply Kd.R_drewN | apply Kd.R_drew)); exact (Kd.R_mono (Kd.R_far (p := ⟨g, 1, none⟩) (IsS120.apart HI0.out HO_4.out (by decide)) (fun _ hk => hk.2) (.int .i64 (wrap64 (x1001_1 + 1)))) (fun _ h_ => h_.1))) (by decide)) hk (fun _ h => h.2)) (fun _ h => h.1)); replace HK := am (KeepBut.trans ap5 hk (.inl rfl)); replace HI0 := am (hi); replace HB := am (hb))); try go_wp2_with (first | (go_at_call 124; (with_reducible refine (Dxescaped.calls kj13 g x1000_1 (wrap64 (x1001_1 + 1)) t180 false t182 t183 w0 _ ?side1 ?side2 A28.out).mono ?_); (case side1 => exact apI120 HI0.out); (case side2 => exact apS120 HI0.out); rintro e w36 ⟨rfl, hi, hb, hk⟩; replace HO_4 := am (Kd.R_mono (Kd.R_keep (IsS120.apart (show IsS120 w0 _ g x1000_1 (wrap64 (x1001_1 + 1)) from by repeat (first | (with_reducible first | exact HI0.out | apply IsS120.alloc | apply IsS120.drewN | apply IsS120.drew | apply IsS120.set_0 | apply IsS120.set_1) | exact HI0.out)) (by (with_reducible repeat (first | apply Kd.R_alloc | apply Kd.R_drewN | apply Kd.R_drew)); exact (Kd.R_mono (Kd.R_far (p := ⟨g, 1, none⟩) (IsS120.apart HI0.out HO_4.out (by decide)) (fun _ hk => hk.2) (.int .i64 (wrap64 (x1001_1 + 1)))) (fun _ h_ => h_.1))) (by decide)) hk (fun _ h => h.2)) (fun _ h => h.1)); replace HK := am (KeepBut.trans ap5 hk (.inl rfl)); replace HI0 := am (hi); replace HB := am (hb))))); go_ret2; exact ⟨ap9, apI120 HI0.out, apG1 (IsS120.ge HI0.out), ap5⟩
             ·intro c27 c27b0 c27b1 H; by_cases c37 : x4_1.length < 140737488355328
              ·rw [if_pos c37] at H; have LMc37 := am c37; clear c37; obtain ⟨y187, hy187⟩ : ∃ y_ : List Int, y_ = (x4_1 ++ [(bt x1000_1 x1001_1)]) := ⟨_, rfl⟩; replace H : (if (bt x1000_1 x1001_1) = 32 then (Dxvalue.l0 kj13 y187 x5_1 x1000_1 (wrap64 (x1001_1 + 1))) else (Dxvalue.l0 kj13 y187 (y187.length : Int) x1000_1 (wrap64 (x1001_1 + 1)))) = some (r1, r2, r3, r4) := apY hy187 H; have Ny187 := am hy187; clear hy187; revert H; refine spe01 ?_ ?_
               ·intro c38b0 c38b1 H; have H' := am H; clear H; obtain ⟨HGz39, hgz39⟩ := HI0.out; have hcz39_0 := cellS120_0 HGz39; have hcz39_1 := cellS120_1 HGz39; have hfz39_0 := blk_frozen HGz39 0; have hfz39_1 := blk_frozen HGz39 1; clear HGz39 hgz39; go_wp2_with (first | ((with_reducible refine gate_builtin (b := .append) (xs := #[.tmp 75, .tmp 77]) rfl ?_); at_builtin; refine Kd.R_append (Kd.int .u8) w.heap.size rfl (.tmp 75) (.tmp 77) 82 5 (.int .u8 0) 1 rfl Tryz.underlying82 info5 rfl (by decide) (by omega) u4 x4_1 (bt x1000_1 x1001_1) [.int .u8 (bt x1000_1 x1001_1)] (fun _ => True) (fun _ => False) rfl (by first | (go_simp; done) | (go_simp; rfl)) ?aP (fun _ hk => hk.elim) ?aF ?aO (Below.refl _ _) ?aS ?aL ?_; (case aP => exact rfl); (case aF => exact (fun _ _ => trivial)); (case aO => exact (by (with_reducible repeat (first | apply Kd.R_alloc | apply Kd.R_drewN | apply Kd.R_drew)); exact Kd.R_mono (Kd.R_far (p := ⟨g, 1, none⟩) (IsS120.apart HI0.out HO_4.out (by decide)) (fun _ hk => hk.2) (.int .i64 (wrap64 (x1001_1 + 1)))) (fun _ hk => trivial))); (case aS => exact (keep_size (w := w) (g := g) (row := none) ap5)); (case aL => have := LMc37.out; omega); intro v188 w40 ho hb hg hat; rw [← Ny187.out] at ho; have n0_ := am (IsS120.grown (apI120 HI0.out) hg (IsS120.own_ne HI0.out HO_4.out (by decide))); have n1_ := am (below_weaken (apS120 HI0.out) HL.out hb); have n2_ := am (KeepBut.trans ap5 (KeepBut.of_grown hg g) (Kd.R_base2 HO_4.out)); have n3_ := am (ho); clear HI0; clear HB; clear HK; clear HO_4; have HI0 := n0_; have HB := n1_; have HK := n2_; have HO189 := n3_; clear n0_ n1_ n2_ n3_; clear ho hb hg hat)); (repeat (go_quiet (first | ((with_reducible refine gate_builtin (b := .append) (xs := #[.tmp 75, .tmp 77]) rfl ?_); at_builtin; refine Kd.R_append (Kd.int .u8) w.heap.size rfl (.tmp 75) (.tmp 77) 82 5 (.int .u8 0) 1 rfl Tryz.underlying82 info5 rfl (by decide) (by omega) u4 x4_1 (bt x1000_1 x1001_1) [.int .u8 (bt x1000_1 x1001_1)] (fun _ => True) (fun _ => False) rfl (by first | (go_simp; done) | (go_simp; rfl)) ?aP (fun _ hk => hk.elim) ?aF ?aO (Below.refl _ _) ?aS ?aL ?_; (case aP => exact rfl); (case aF => exact (fun _ _ => trivial)); (case aO => exact (by (with_reducible repeat (first | apply Kd.R_alloc | apply Kd.R_drewN | apply Kd.R_drew)); exact Kd.R_mono (Kd.R_far (p := ⟨g, 1, none⟩) (IsS120.apart HI0.out HO_4.out (by decide)) (fun _ hk => hk.2) (.int .i64 (wrap64 (x1001_1 + 1)))) (fun _ hk => trivial))); (case aS => exact (keep_size (w := w) (g := g) (row := none) ap5)); (case aL => have := LMc37.out; omega); intro v188 w40 ho hb hg hat; rw [← Ny187.out] at ho; have n0_ := am (IsS120.grown (apI120 HI0.out) hg (IsS120.own_ne HI0.out HO_4.out (by decide))); have n1_ := am (below_weaken (apS120 HI0.out) HL.out hb); have n2_ := am (KeepBut.trans ap5 (KeepBut.of_grown hg g) (Kd.R_base2 HO_4.out)); have n3_ := am (ho); clear HI0; clear HB; clear HK; clear HO_4; have HI0 := n0_; have HB := n1_; have HK := n2_; have HO189 := n3_; clear n0_ n1_ n2_ n3_; clear ho hb hg hat)); try go_wp2_with (first | ((with_reducible refine gate_builtin (b := .append) (xs := #[.tmp 75, .tmp 77]) rfl ?_); at_builtin; refine Kd.R_append (Kd.int .u8) w.heap.size rfl (.tmp 75) (.tmp 77) 82 5 (.int .u8 0) 1 rfl Tryz.underlying82 info5 rfl (by decide) (by omega) u4 x4_1 (bt x1000_1 x1001_1) [.int .u8 (bt x1000_1 x1001_1)] (fun _ => True) (fun _ => False) rfl (by first | (go_simp; done) | (go_simp; rfl)) ?aP (fun _ hk => hk.elim) ?aF ?aO (Below.refl _ _) ?aS ?aL ?_; (case aP => exact rfl); (case aF => exact (fun _ _ => trivial)); (case aO => exact (by (with_reducible repeat (first | apply Kd.R_alloc | apply Kd.R_drewN | apply Kd.R_drew)); exact Kd.R_mono (Kd.R_far (p := ⟨g, 1, none⟩) (IsS120.apart HI0.out HO_4.out (by decide)) (fun _ hk => hk.2) (.int .i64 (wrap64 (x1001_1 + 1)))) (fun _ hk => trivial))); (case aS => exact (keep_size (w := w) (g := g) (row := none) ap5)); (case aL => have := LMc37.out; omega); intro v188 w40 ho hb hg hat; rw [← Ny187.out] at ho; have n0_ := am (IsS120.grown (apI120 HI0.out) hg (IsS120.own_ne HI0.out HO_4.out (by decide))); have n1_ := am (below_weaken (apS120 HI0.out) HL.out hb); have n2_ := am (KeepBut.trans ap5 (KeepBut.of_grown hg g) (Kd.R_base2 HO_4.out)); have n3_ := am (ho); clear HI0; clear HB; clear HK; clear HO_4; have HI0 := n0_; have HB := n1_; have HK := n2_; have HO189 := n3_; clear n0_ n1_ n2_ n3_; clear ho hb hg hat)))); go_roundg kj13; (case measure => have := HK1.out; have := HJ13.out; omega); case rel => exact ⟨(y187), (x5_1), (x1000_1), (wrap64 (x1001_1 + 1)), ap2, H', ⟨by have := HK1.out; have := HJ13.out; omega⟩, ⟨apAR HO189.out⟩, ⟨apI120 HI0.out⟩, ⟨ap5⟩, ⟨apG1 (IsS120.ge HI0.out)⟩⟩
               ·intro c38 c38b0 c38b1 H; have H' := am H; clear H; obtain ⟨HGz41, hgz41⟩ := HI0.out; have hcz41_0 := cellS120_0 HGz41; have hcz41_1 := cellS120_1 HGz41; have hfz41_0 := blk_frozen HGz41 0; have hfz41_1 := blk_frozen HGz41 1; clear HGz41 hgz41; go_wp2_with (first | ((with_reducible refine gate_builtin (b := .append) (xs := #[.tmp 75, .tmp 77]) rfl ?_); at_builtin; refine Kd.R_append (Kd.int .u8) w.heap.size rfl (.tmp 75) (.tmp 77) 82 5 (.int .u8 0) 1 rfl Tryz.underlying82 info5 rfl (by decide) (by omega) u4 x4_1 (bt x1000_1 x1001_1) [.int .u8 (bt x1000_1 x1001_1)] (fun _ => True) (fun _ => False) rfl (by first | (go_simp; done) | (go_simp; rfl)) ?aP (fun _ hk => hk.elim) ?aF ?aO (Below.refl _ _) ?aS ?aL ?_; (case aP => exact rfl); (case aF => exact (fun _ _ => trivial)); (case aO => exact (by (with_reducible repeat (first | apply Kd.R_alloc | apply Kd.R_drewN | apply Kd.R_drew)); exact Kd.R_mono (Kd.R_far (p := ⟨g, 1, none⟩) (IsS120.apart HI0.out HO_4.out (by decide)) (fun _ hk => hk.2) (.int .i64 (wrap64 (x1001_1 + 1)))) (fun _ hk => trivial))); (case aS => exact (keep_size (w := w) (g := g) (row := none) ap5)); (case aL => have := LMc37.out; omega); intro v188 w42 ho hb hg hat; rw [← Ny187.out] at ho; have n0_ := am (IsS120.grown (apI120 HI0.out) hg (IsS120.own_ne HI0.out HO_4.out (by decide))); have n1_ := am (below_weaken (apS120 HI0.out) HL.out hb); have n2_ := am (KeepBut.trans ap5 (KeepBut.of_grown hg g) (Kd.R_base2 HO_4.out)); have n3_ := am (ho); clear HI0; clear HB; clear HK; clear HO_4; have HI0 := n0_; have HB := n1_; have HK := n2_; have HO189 := n3_; clear n0_ n1_ n2_ n3_; clear ho hb hg hat; obtain ⟨Ao43, co43, eo43⟩ := Kd.R_slice HO189.out; subst eo43)); (repeat (go_quiet (first | ((with_reducible refine gate_builtin (b := .append) (xs := #[.tmp 75, .tmp 77]) rfl ?_); at_builtin; refine Kd.R_append (Kd.int .u8) w.heap.size rfl (.tmp 75) (.tmp 77) 82 5 (.int .u8 0) 1 rfl Tryz.underlying82 info5 rfl (by decide) (by omega) u4 x4_1 (bt x1000_1 x1001_1) [.int .u8 (bt x1000_1 x1001_1)] (fun _ => True) (fun _ => False) rfl (by first | (go_simp; done) | (go_simp; rfl)) ?aP (fun _ hk => hk.elim) ?aF ?aO (Below.refl _ _) ?aS ?aL ?_; (case aP => exact rfl); (case aF => exact (fun _ _ => trivial)); (case aO => exact (by (with_reducible repeat (first | apply Kd.R_alloc | apply Kd.R_drewN | apply Kd.R_drew)); exact Kd.R_mono (Kd.R_far (p := ⟨g, 1, none⟩) (IsS120.apart HI0.out HO_4.out (by decide)) (fun _ hk => hk.2) (.int .i64 (wrap64 (x1001_1 + 1)))) (fun _ hk => trivial))); (case aS => exact (keep_size (w := w) (g := g) (row := none) ap5)); (case aL => have := LMc37.out; omega); intro v188 w42 ho hb hg hat; rw [← Ny187.out] at ho; have n0_ := am (IsS120.grown (apI120 HI0.out) hg (IsS120.own_ne HI0.out HO_4.out (by decide))); have n1_ := am (below_weaken (apS120 HI0.out) HL.out hb); have n2_ := am (KeepBut.trans ap5 (KeepBut.of_grown hg g) (Kd.R_base2 HO_4.out)); have n3_ := am (ho); clear HI0; clear HB; clear HK; clear HO_4; have HI0 := n0_; have HB := n1_; have HK := n2_; have HO189 := n3_; clear n0_ n1_ n2_ n3_; clear ho hb hg hat; obtain ⟨Ao43, co43, eo43⟩ := Kd.R_slice HO189.out; subst eo43)); try go_wp2_with (first | ((with_reducible refine gate_builtin (b := .append) (xs := #[.tmp 75, .tmp 77]) rfl ?_); at_builtin; refine Kd.R_append (Kd.int .u8) w.heap.size rfl (.tmp 75) (.tmp 77) 82 5 (.int .u8 0) 1 rfl Tryz.underlying82 info5 rfl (by decide) (by omega) u4 x4_1 (bt x1000_1 x1001_1) [.int .u8 (bt x1000_1 x1001_1)] (fun _ => True) (fun _ => False) rfl (by first | (go_simp; done) | (go_simp; rfl)) ?aP (fun _ hk => hk.elim) ?aF ?aO (Below.refl _ _) ?aS ?aL ?_; (case aP => exact rfl); (case aF => exact (fun _ _ => trivial)); (case aO => exact (by (with_reducible repeat (first | apply Kd.R_alloc | apply Kd.R_drewN | apply Kd.R_drew)); exact Kd.R_mono (Kd.R_far (p := ⟨g, 1, none⟩) (IsS120.apart HI0.out HO_4.out (by decide)) (fun _ hk => hk.2) (.int .i64 (wrap64 (x1001_1 + 1)))) (fun _ hk => trivial))); (case aS => exact (keep_size (w := w) (g := g) (row := none) ap5)); (case aL => have := LMc37.out; omega); intro v188 w42 ho hb hg hat; rw [← Ny187.out] at ho; have n0_ := am (IsS120.grown (apI120 HI0.out) hg (IsS120.own_ne HI0.out HO_4.out (by decide))); have n1_ := am (below_weaken (apS120 HI0.out) HL.out hb); have n2_ := am (KeepBut.trans ap5 (KeepBut.of_grown hg g) (Kd.R_base2 HO_4.out)); have n3_ := am (ho); clear HI0; clear HB; clear HK; clear HO_4; have HI0 := n0_; have HB := n1_; have HK := n2_; have HO189 := n3_; clear n0_ n1_ n2_ n3_; clear ho hb hg hat; obtain ⟨Ao43, co43, eo43⟩ := Kd.R_slice HO189.out; subst eo43)))); go_roundg kj13; (case measure => have := HK1.out; have := HJ13.out; omega); case rel => exact ⟨(y187), ((y187.length : Int)), (x1000_1), (wrap64 (x1001_1 + 1)), ap2, H', ⟨by have := HK1.out; have := HJ13.out; omega⟩, ⟨apAR HO189.out⟩, ⟨apI120 HI0.out⟩, ⟨ap5⟩, ⟨apG1 (IsS120.ge HI0.out)⟩⟩
              ·rw [if_neg c37] at H; exact absurd H (by simp)
      ·intro c11b0 H; by_cases c44 : 0 ≤ x5_1
       ·rw [if_pos c44] at H; have c44b0 := eq_true c44; have c44b1 := decide_eq_true c44; clear c44; by_cases c45 : x5_1 ≤ (x4_1.length : Int)
        ·rw [if_pos c45] at H; have c45b0 := eq_true c45; have c45b1 := decide_eq_true c45; clear c45; obtain ⟨y172, hy172⟩ : ∃ y_ : List Int, y_ = (x4_1.take (x5_1 : Int).toNat) := ⟨_, rfl⟩; replace H : (some (strOfNums y172, true, x1000_1, x1001_1)) = some (r1, r2, r3, r4) := apY hy172 H; have Ny172 := am hy172; clear hy172; simp only [Option.some.injEq, Prod.mk.injEq] at H; obtain ⟨rfl, rfl, rfl, rfl⟩ := H; obtain ⟨HGz46, hgz46⟩ := HI0.out; have hcz46_0 := cellS120_0 HGz46; have hcz46_1 := cellS120_1 HGz46; have hfz46_0 := blk_frozen HGz46 0; have hfz46_1 := blk_frozen HGz46 1; clear HGz46 hgz46; obtain ⟨Ao48, co48, eo48⟩ := Kd.R_slice HO_4.out; subst eo48; have q47 : (x5_1 : Int) ≤ ((x4_1.length : Int) : Int) := apD; obtain ⟨i047, hi047, _, hsz47, _⟩ := info_parts info5; have hroom47 : x4_1.length ≤ co48 := (Kd.R_reads' HO_4.out).2.1; have hC47 : Kd.C (Kd.int .u8) _ Ao48 x4_1.length x4_1 := (Kd.R_reads' HO_4.out).2.2; have hcut47 := cut_to (P := Tryz.prog) 82 5 .i64 Tryz.underlying82 hi047 Ao48 x4_1.length co48 x5_1 (apD) q47 hroom47; have hr47 := Kd.C_take (m := (x5_1 : Int).toNat) hC47 (by omega); have hy47 : y172.length = (x5_1 : Int).toNat := (by rw [Ny172.out, List.length_take]; omega); rw [← Ny172.out] at hr47; rw [← hy47] at hcut47; have HR175 := am hr47; have HC175 := am (show y172.length ≤ co48 from by omega); clear hr47 hC47 hroom47 hi047 hsz47; have KY47 := am hy47; clear hy47; have KL47 := am (show (x5_1 : Int).toNat ≤ x4_1.length from by omega); replace q47 := eq_true q47; have hcv49 := Kd.C_string (P := Tryz.prog) (A := Ao48) (c := co48) Tryz.underlying82 Tryz.underlying5 Tryz.underlying9 (apC HR175.out); have hcv49n := fun m_ => Kd.C_string (P := Tryz.prog) (A := Ao48) (c := co48) Tryz.underlying82 Tryz.underlying5 Tryz.underlying9 (Kd.C_drewN (apC HR175.out) m_)
         go_wp2; (repeat (go_quiet (fail); try go_wp2)); go_ret2; exact ⟨ap9, apI120 HI0.out, apG1 (IsS120.ge HI0.out), ap5⟩
        ·rw [if_neg c45] at H; exact absurd H (by simp)
       ·rw [if_neg c44] at H; exact absurd H (by simp)
  ·rw [if_neg c4] at H; exact absurd H (by simp)
 ·rw [if_neg c3] at H; exact absurd H (by simp)
mutual
def dn_Parse.l0 : Nat → ByteArray → List (List (S96)) → List (S96) → ByteArray → Int → Option ((List (List (S96))) × Int)
 | 0, _, _, _, _, _ => none
 | k + 1, x0, x5, x6, x195000, x195001 => (Dxkind.f k x195000 x195001).bind fun bt197 => (if bt197.2.1 = true then ((Dxvalue.f k bt197.2.2.1 bt197.2.2.2).bind fun bt201 => (if bt201.2.1 = true then (if x6.length < 4398046511104 then ((some (x6 ++ [(⟨bt197.1, bt201.1⟩ : S96)] : List (S96))).bind fun y205 => (if bt201.2.2.2 = (x0.size : Int) then (dn_Parse.j1 k x0 x5 y205 (bt201.2.2.2 == (x0.size : Int)) true bt201.2.2.1 bt201.2.2.2) else (if 0 ≤ bt201.2.2.2 then (if bt201.2.2.2 < (x0.size : Int) then (dn_Parse.j1 k x0 x5 y205 (bt201.2.2.2 == (x0.size : Int)) ((bt x0 bt201.2.2.2) != 43) bt201.2.2.1 bt201.2.2.2) else (none)) else (none)))) else (none)) else (some (([] : List (List (S96))), 4)))) else (some (([] : List (List (S96))), 4)))
def dn_Parse.j1 : Nat → ByteArray → List (List (S96)) → List (S96) → Bool → Bool → ByteArray → Int → Option ((List (List (S96))) × Int)
 | 0, _, _, _, _, _, _, _ => none
 | k + 1, x0, x5, x6, x10, x62, x195000, x195001 => if x62 = true then (if x5.length < 5864062014805 then ((some (x5 ++ [x6] : List (List (S96)))).bind fun y208 => (if x10 = true then ((dn_Right.f k y208).bind fun t211 => (if t211 = true then (some (y208, 0)) else (some (([] : List (List (S96))), 4)))) else (dn_Parse.l0 k x0 y208 ([] : List (S96)) x195000 (wrap64 (x195001 + 1))))) else (none)) else (if x10 = true then ((dn_Right.f k x5).bind fun t212 => (if t212 = true then (some (x5, 0)) else (some (([] : List (List (S96))), 4)))) else (dn_Parse.l0 k x0 x5 x6 x195000 (wrap64 (x195001 + 1))))
end
def dn_Parse.f (k : Nat) (a0 : ByteArray) : Option ((List (List (S96))) × Int) := if (a0.size : Int) > 1000 then (some (([] : List (List (S96))), 5)) else ((Dxblanks.f k a0 0).bind fun bt195 => (if bt195.2 = (a0.size : Int) then (some (([] : List (List (S96))), 0)) else (dn_Parse.l0 k a0 ([] : List (List (S96))) ([] : List (S96)) bt195.1 bt195.2)))
end Go.Proofs.YtpklcnpmppaaoaaGreatDoor.Print
