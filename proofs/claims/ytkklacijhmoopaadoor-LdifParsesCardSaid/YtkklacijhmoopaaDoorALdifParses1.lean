-- laid together by pack.py (a program of this session)
import Derived.Test.YtkklacijhmoopaaDoorALdifParses0
import Derived.Test.YtkklacijhmoopaaDoorProg
import Derived.Lib.OthersKept
import Derived.Lib.FrozenHead2
import Derived.Lib.RuneBytes
import Derived.Lib.UnsafeStr
import Derived.Shelf.Strings.BuilderK
import Derived.BigCall
import Derived.Shelf.Strings.BuilderRune
import Derived.Shelf.Strings.Builder1
import Derived.Shelf.Strings.Builder2
import Derived.Shelf.Strings.OnBuilder
import Derived.Shelf.Strings.Trim
import Derived.Shelf.Small.Utf8
import Derived.Shelf.Small.Bits
import Derived.Shelf.Small.Strs
import Derived.Shelf.Strings.BuilderF
import Derived.Shelf.Strings.Builder2Cap
import Derived.Shelf.Strconv.Itoa0
import Derived.Shelf.Strings.Search1
import Derived.Shelf.Strings.Search2
import Derived.Shelf.Strings.Search3
import Derived.Shelf.Strings.Cut
import Derived.Shelf.Strings.Count
import Derived.Shelf.LaysM
import Derived.Shelf.Strings.Shaped
import Derived.Shelf.Strings.Split
import Derived.Shelf.Strings.Replace
import Derived.Shelf.Strings.SplitShaped
import Derived.Shelf.Strings.Runes
import Derived.Shelf.Strings.AsciiSet
import Derived.Shelf.Unicode.DecodeSlow
import Derived.Shelf.Unicode.DecodeAny
import Derived.Shelf.Strings.MapAny
import Derived.Shelf.Strings.BuilderCap
import Derived.Shelf.Strings.MapGrows
import Derived.Test.YtkklacijhmoopaaDoorTie
import Derived.Test.YtkklacijhmoopaaDoorCards
import Derived.Lib.LaidU8T
import Derived.HandedShaped
import Derived.Handed
import Derived.Lay
import Derived.LaidMore
import Derived.Shelf.Vars
import Derived.ProofKit
import Derived.OpenShut
import Derived.ShutString
import Derived.ChangeOld
import Derived.SizedLaws
import Derived.Stop.Joined
import Derived.SevenTiedAt
namespace Go.Proofs.YtkklacijhmoopaaDoor.Print
def Ev {α : Type} (F : Nat → Option α) (v : α) : Prop := ∃ K, ∀ k, K ≤ k → F k = some v
namespace Ev
variable {α β γ : Type}
theorem const {F : Nat → Option α} {v : α} (h : ∀ k, F k = some v) : Ev F v := ⟨0, fun k _ => h k⟩
theorem step {F G : Nat → Option α} {v : α} (h : ∀ k, F (k + 1) = G k) (hG : Ev G v) : Ev F v := by
  obtain ⟨K, hK⟩ := hG
  refine ⟨K + 1, fun k hk => ?_⟩
  obtain ⟨k', rfl⟩ : ∃ k', k = k' + 1 := ⟨k - 1, by omega⟩
  rw [h]; exact hK k' (by omega)
theorem congr {F G : Nat → Option α} {v : α} (h : ∀ k, F k = G k) (hG : Ev G v) : Ev F v := by
  obtain ⟨K, hK⟩ := hG
  exact ⟨K, fun k hk => by rw [h]; exact hK k hk⟩
theorem bind {F : Nat → Option α} {G : Nat → α → Option β} {u : α} {v : β} (hF : Ev F u) (hG : Ev (fun k => G k u) v) : Ev (fun k => (F k).bind (G k)) v := by
  obtain ⟨K, hK⟩ := hF
  obtain ⟨L, hL⟩ := hG
  refine ⟨K + L, fun k hk => ?_⟩
  show (F k).bind (G k) = some v
  rw [hK k (by omega)]
  exact hL k (by omega)
theorem bindc {o : Option α} {G : Nat → α → Option β} {u : α} {v : β} (hF : o = some u) (hG : Ev (fun k => G k u) v) : Ev (fun k => o.bind (G k)) v := by
  subst hF; exact hG
theorem pos {p : Prop} [Decidable p] {F G : Nat → Option α} {v : α} (hp : p) (h : Ev F v) : Ev (fun k => if p then F k else G k) v := congr (fun k => if_pos hp) h
theorem neg {p : Prop} [Decidable p] {F G : Nat → Option α} {v : α} (hp : ¬ p) (h : Ev G v) : Ev (fun k => if p then F k else G k) v := congr (fun k => if_neg hp) h
theorem some' {F : Nat → Option α} {v : α} (h : Ev F v) : ∃ k, F k = some v := by
  obtain ⟨K, hK⟩ := h
  exact ⟨K, hK K (Nat.le_refl _)⟩
theorem rfl' {v : α} : Ev (fun _ => some v) v := const fun _ => rfl
end Ev
end Go.Proofs.YtkklacijhmoopaaDoor.Print
namespace Go.Proofs.YtkklacijhmoopaaDoor.Print
theorem ap0 {p : Prop} (h : p := by first | (with_reducible assumption) | assumption) : p := h
theorem ap2 {p : Prop} (h : p := by first | rfl | (simp; done) | (simp [bne_nil8, beq_nil8]; done) | (simp [*]; done)) : p := h
theorem ap7 {p : Prop} (h : p := by repeat (first | exact Drawn0.refl _ | apply Drawn0.step)) : p := h
theorem ap1 {p : Prop} (h : p := by repeat (first | (with_reducible first | exact HB.out | apply below_alloc | apply pw_below_drewN | apply below_drew1) | exact HB.out)) : p := h
theorem ap3 {p : Prop} (h : p := by (try simp only [List.map_toArray, List.map_cons, List.map_nil]); first | done | rfl | (simp only [List.length_drop, List.length_take]; rfl)) : p := h
theorem apAR {p q : Prop} (a : p) (h : p → q := by intro a_; (with_reducible repeat (first | apply Kd.R_alloc | apply Kd.R_drewN | apply Kd.R_drew)); exact a_) : q := h a
theorem apC {p q : Prop} (a : p) (h : p → q := by intro a_; repeat (first | (with_reducible exact a_) | (with_reducible refine Kd.C_alloc ?_ _) | (with_reducible refine Kd.C_drewN ?_ _) | (with_reducible refine Kd.C_drew ?_) | exact a_)) : q := h a
theorem ap6 {p : Prop} (h : p := by first | exact HG.out | (refine Gw.below HG.out ?_; repeat (first | (with_reducible first | exact HB.out | apply below_alloc | apply pw_below_drewN | apply below_drew1) | exact HB.out))) : p := h
theorem apG {p q : Prop} (a : p) (h : p → q := by intro a_; repeat (first | (with_reducible first | exact HB.out | apply below_alloc | apply pw_below_drewN | apply below_drew1 | refine below_set ?_ a_) | exact HB.out)) : q := h a
theorem apB {p q : Prop} (a : p) (h : p → q := by intro a_; (with_reducible repeat (first | refine blk_drewN ?_ _ | refine blk_drew ?_ | refine blk_alloc ?_ _)); exact a_) : q := h a
theorem apAS {p q : Prop} (a : p) (h : p → q := by intro a_; (with_reducible repeat (first | apply Kd.S_alloc | apply Kd.S_drewN | apply Kd.S_drew)); exact a_) : q := h a
end Go.Proofs.YtkklacijhmoopaaDoor.Print
namespace Go.Proofs.YtkklacijhmoopaaDoor.Print
open Go.RowKit Go.Proofs.YtkklacijhmoopaaDoorW.PrintWords Go.Proofs.YtkklacijhmoopaaDoorW.PrintLast Go.Proofs.YtkklacijhmoopaaDoorW.PrintMore
attribute [local go_sem] max2_int min2_int max_two min_two max_three min_three max_four min_four
set_option linter.unusedVariables false
set_option linter.unusedSimpArgs false
def errW : Option Int → Value
 | none => .nilIface
 | some c => .iface 0 (.int .i64 c)
theorem errW_none : errW none = .nilIface := rfl
theorem errW_some (c : Int) : errW (some c) = .iface 0 (.int .i64 c) := rfl
theorem bne_nil8 (l : List UInt8) : (l != []) = !l.isEmpty := by cases l <;> rfl
theorem beq_nil8 (l : List UInt8) : (l == []) = l.isEmpty := by cases l <;> rfl
theorem info5 : (Tryd.prog.info? 5).map (fun i => (i.zero, i.size, i.bytes)) = some (some (.int .u8 0), 1, 1) := by kernel_rfl
theorem info40 : (Tryd.prog.info? 40).map (fun i => (i.zero, i.size, i.bytes)) = some (some (.agg #[(.string ⟨#[]⟩), (.string ⟨#[]⟩)]), 2, 32) := by kernel_rfl
theorem info43 : (Tryd.prog.info? 43).map (fun i => (i.zero, i.size, i.bytes)) = some (some (.agg #[(.string ⟨#[]⟩), (.slice none 0 0)]), 2, 40) := by kernel_rfl
theorem info49 : (Tryd.prog.info? 49).map (fun i => (i.zero, i.size, i.bytes)) = some (some (.agg #[(.string ⟨#[]⟩), (.int .i64 0)]), 2, 24) := by kernel_rfl
theorem info56 : (Tryd.prog.info? 56).map (fun i => (i.zero, i.size, i.bytes)) = some (some (.agg #[(.string ⟨#[]⟩), (.int .i64 0), (.bool false)]), 3, 32) := by kernel_rfl
structure S49 where
 f0 : ByteArray
 f1 : Int
def z49 : S49 := ⟨(⟨#[]⟩ : ByteArray), (0 : Int)⟩
def k49 : Kd S49 := Kd.iso (Kd.pair Kd.string (Kd.int .i64)) (fun x : S49 => (x.f0, x.f1))
theorem k49_open {w : World} {x : S49} {cs : List Value} (h : k49.K w x cs) : cs = [.string x.f0, .int .i64 x.f1] := by
 obtain ⟨_, _, rfl, rfl, rfl⟩ := h
 exact rfl
theorem k49_openM {w : World} {base : Nat} {ok : Nat → Prop} {x : S49} {cs : List Value} (h : k49.M w base ok x cs) : cs = [.string x.f0, .int .i64 x.f1] := by
 obtain ⟨_, _, rfl, rfl, rfl⟩ := h
 exact rfl
theorem k49_mkM (w : World) (base : Nat) (ok : Nat → Prop) (x : S49)  : k49.M w base ok x [.string x.f0, .int .i64 x.f1] := ⟨[.string x.f0], [.int .i64 x.f1], rfl, rfl, rfl⟩
def rd_T49 (xs : List S49) (i : Int) : S49 := xs.getD i.toNat z49
theorem at_T49 {w : World} {A : Option Addr} {n : Nat} {xs : List S49} (h : Kd.C k49 w A n xs) (i : Int) (h0 : 0 ≤ i) (h1 : i < n) : ∃ ad , A = some ad ∧ w.cell? (ad.add (i.toNat * 2)) = some (.string (rd_T49 xs i).f0) ∧ w.cell? ⟨(ad.add (i.toNat * 2)).block, (ad.add (i.toNat * 2)).off + 1, none⟩ = some (.int .i64 (rd_T49 xs i).f1) := by
 obtain ⟨ad, c, e, _, hK, hc0⟩ := Kd.C_get h z49 i h0 h1
 have hc : ∀ j u, c[j]? = some u → w.cell? (ad.add (i.toNat * 2 + j)) = some u := hc0
 obtain rfl := k49_open hK
 exact ⟨ad, e, hc 0 _ rfl, by rw [← add_field _ _ 1 (by omega)]; exact hc 1 _ rfl⟩
structure S40 where
 f0 : ByteArray
 f1 : ByteArray
def z40 : S40 := ⟨(⟨#[]⟩ : ByteArray), (⟨#[]⟩ : ByteArray)⟩
def k40 : Kd S40 := Kd.iso (Kd.pair Kd.string Kd.string) (fun x : S40 => (x.f0, x.f1))
theorem k40_open {w : World} {x : S40} {cs : List Value} (h : k40.K w x cs) : cs = [.string x.f0, .string x.f1] := by
 obtain ⟨_, _, rfl, rfl, rfl⟩ := h
 exact rfl
theorem k40_mkM (w : World) (base : Nat) (ok : Nat → Prop) (x : S40)  : k40.M w base ok x [.string x.f0, .string x.f1] := ⟨[.string x.f0], [.string x.f1], rfl, rfl, rfl⟩
def rd_T40 (xs : List S40) (i : Int) : S40 := xs.getD i.toNat z40
theorem at_T40 {w : World} {A : Option Addr} {n : Nat} {xs : List S40} (h : Kd.C k40 w A n xs) (i : Int) (h0 : 0 ≤ i) (h1 : i < n) : ∃ ad , A = some ad ∧ w.cell? (ad.add (i.toNat * 2)) = some (.string (rd_T40 xs i).f0) ∧ w.cell? ⟨(ad.add (i.toNat * 2)).block, (ad.add (i.toNat * 2)).off + 1, none⟩ = some (.string (rd_T40 xs i).f1) := by
 obtain ⟨ad, c, e, _, hK, hc0⟩ := Kd.C_get h z40 i h0 h1
 have hc : ∀ j u, c[j]? = some u → w.cell? (ad.add (i.toNat * 2 + j)) = some u := hc0
 obtain rfl := k40_open hK
 exact ⟨ad, e, hc 0 _ rfl, by rw [← add_field _ _ 1 (by omega)]; exact hc 1 _ rfl⟩
structure S43 where
 f0 : ByteArray
 f1 : (List S40)
def z43 : S43 := ⟨(⟨#[]⟩ : ByteArray), ([] : List S40)⟩
def k43 : Kd S43 := Kd.iso (Kd.pair Kd.string (Kd.slice 40 k40)) (fun x : S43 => (x.f0, x.f1))
theorem k43_open {w : World} {x : S43} {cs : List Value} (h : k43.K w x cs) : ∃ A1 c1, cs = [.string x.f0, .slice A1 x.f1.length c1] ∧ x.f1.length ≤ c1 ∧ k40.C w A1 x.f1.length x.f1 := by
 obtain ⟨_, _, rfl, rfl, ⟨A1, c1, rfl, l1, g1⟩⟩ := h
 exact ⟨A1, c1, rfl, l1, g1⟩
theorem k43_openM {w : World} {base : Nat} {ok : Nat → Prop} {x : S43} {cs : List Value} (h : k43.M w base ok x cs) : ∃ v1, cs = [.string x.f0, v1] ∧ k40.R 40 w base ok v1 x.f1 := by
 obtain ⟨_, _, rfl, rfl, ⟨v1, rfl, g1⟩⟩ := h
 exact ⟨v1, rfl, g1⟩
theorem k43_mkM (w : World) (base : Nat) (ok : Nat → Prop) (x : S43) {v1 : Value} (g1 : k40.R 40 w base ok v1 x.f1) : k43.M w base ok x [.string x.f0, v1] := ⟨[.string x.f0], [v1], rfl, rfl, ⟨v1, rfl, g1⟩⟩
def rd_T43 (xs : List S43) (i : Int) : S43 := xs.getD i.toNat z43
theorem at_T43 {w : World} {A : Option Addr} {n : Nat} {xs : List S43} (h : Kd.C k43 w A n xs) (i : Int) (h0 : 0 ≤ i) (h1 : i < n) : ∃ ad A1 c1, A = some ad ∧ w.cell? (ad.add (i.toNat * 2)) = some (.string (rd_T43 xs i).f0) ∧ w.cell? ⟨(ad.add (i.toNat * 2)).block, (ad.add (i.toNat * 2)).off + 1, none⟩ = some (.slice A1 (rd_T43 xs i).f1.length c1) ∧ (rd_T43 xs i).f1.length ≤ c1 ∧ k40.C w A1 (rd_T43 xs i).f1.length (rd_T43 xs i).f1 := by
 obtain ⟨ad, c, e, _, hK, hc0⟩ := Kd.C_get h z43 i h0 h1
 have hc : ∀ j u, c[j]? = some u → w.cell? (ad.add (i.toNat * 2 + j)) = some u := hc0
 obtain ⟨A1, c1, rfl, l1, g1⟩ := k43_open hK
 exact ⟨ad, A1, c1, e, hc 0 _ rfl, by rw [← add_field _ _ 1 (by omega)]; exact hc 1 _ rfl, l1, g1⟩
structure S56 where
 f0 : ByteArray
 f1 : Int
 f2 : Bool
def z56 : S56 := ⟨(⟨#[]⟩ : ByteArray), (0 : Int), false⟩
def k56 : Kd S56 := Kd.iso (Kd.pair Kd.string (Kd.pair (Kd.int .i64) Kd.bool)) (fun x : S56 => (x.f0, x.f1, x.f2))
theorem k56_open {w : World} {x : S56} {cs : List Value} (h : k56.K w x cs) : cs = [.string x.f0, .int .i64 x.f1, .bool x.f2] := by
 obtain ⟨_, _, rfl, rfl, ⟨_, _, rfl, rfl, rfl⟩⟩ := h
 exact rfl
theorem k56_openM {w : World} {base : Nat} {ok : Nat → Prop} {x : S56} {cs : List Value} (h : k56.M w base ok x cs) : cs = [.string x.f0, .int .i64 x.f1, .bool x.f2] := by
 obtain ⟨_, _, rfl, rfl, ⟨_, _, rfl, rfl, rfl⟩⟩ := h
 exact rfl
theorem k56_mkM (w : World) (base : Nat) (ok : Nat → Prop) (x : S56)  : k56.M w base ok x [.string x.f0, .int .i64 x.f1, .bool x.f2] := ⟨[.string x.f0], [.int .i64 x.f1, .bool x.f2], rfl, rfl, ⟨[.int .i64 x.f1], [.bool x.f2], rfl, rfl, rfl⟩⟩
def rd_T56 (xs : List S56) (i : Int) : S56 := xs.getD i.toNat z56
theorem at_T56 {w : World} {A : Option Addr} {n : Nat} {xs : List S56} (h : Kd.C k56 w A n xs) (i : Int) (h0 : 0 ≤ i) (h1 : i < n) : ∃ ad , A = some ad ∧ w.cell? (ad.add (i.toNat * 3)) = some (.string (rd_T56 xs i).f0) ∧ w.cell? ⟨(ad.add (i.toNat * 3)).block, (ad.add (i.toNat * 3)).off + 1, none⟩ = some (.int .i64 (rd_T56 xs i).f1) ∧ w.cell? ⟨(ad.add (i.toNat * 3)).block, (ad.add (i.toNat * 3)).off + 2, none⟩ = some (.bool (rd_T56 xs i).f2) := by
 obtain ⟨ad, c, e, _, hK, hc0⟩ := Kd.C_get h z56 i h0 h1
 have hc : ∀ j u, c[j]? = some u → w.cell? (ad.add (i.toNat * 3 + j)) = some u := hc0
 obtain rfl := k56_open hK
 exact ⟨ad, e, hc 0 _ rfl, by rw [← add_field _ _ 1 (by omega)]; exact hc 1 _ rfl, by rw [← add_field _ _ 2 (by omega)]; exact hc 2 _ rfl⟩
end Go.Proofs.YtkklacijhmoopaaDoor.Print
namespace Go.Proofs.YtkklacijhmoopaaDoor.Print
open Go.RowKit Go.Proofs.YtkklacijhmoopaaDoorW.PrintWords Go.Proofs.YtkklacijhmoopaaDoorW.PrintLast Go.Proofs.YtkklacijhmoopaaDoorW.PrintMore
set_option linter.unusedVariables false
set_option linter.unusedSimpArgs false
theorem bld_size : (Tryd.prog.info? 89).map (·.size) = some 2 := by kernel_rfl
theorem bld_lies : liesAt Tryd.prog Tryd.prog.depth 89 (2 / Tryd.prog.cellsOf 89) 0 89 1 = true := by kernel_rfl
theorem bld_byte : (Tryd.prog.info? 5).map (fun i => (i.zero, i.size, i.bytes)) = some (some (.int .u8 0), 1, 1) := by kernel_rfl
abbrev Bld (B b : Nat) (bs : List Value) (w : World) : Prop := Lib.IsBuilderF 89 5 B b bs w
set_option maxHeartbeats 1000000 in
set_option maxRecDepth 1000000 in
theorem bld_check_used (b : Nat) (w : World) (h0 : w.cell? ⟨b, 0, none⟩ = some (.pointer (some ⟨b, 0, none⟩))) :
    Calls Tryd.prog 90 #[.pointer (some ⟨b, 0, none⟩)] w fun e w' => e = .returned (.tuple #[]) ∧ w = w' := by
  obtain ⟨j, hj, _⟩ := Option.map_eq_some_iff.1 bld_size
  go_enter Tryd.func90, Tryd.ntmps90
  go_wp2
  rw [Lib.run_neq_ptr_same w _ Tryd.underlying87 hj]
  go_wp2
  go_end0
  exact ⟨rfl, rfl⟩
set_option maxHeartbeats 1000000 in
set_option maxRecDepth 1000000 in
theorem bld_check_fresh (b : Nat) (w : World) (h0 : w.cell? ⟨b, 0, none⟩ = some (.pointer none)) (hsh : w.shape? b = some (89, 2)) (hfz : w.frozen? ⟨b, 0, none⟩ = false) :
    Calls Tryd.prog 90 #[.pointer (some ⟨b, 0, none⟩)] w fun e w' => e = .returned (.tuple #[]) ∧ w.setCell ⟨b, 0, none⟩ (.pointer (some ⟨b, 0, none⟩)) = w' := by
  obtain ⟨j, hj, hjs⟩ := Option.map_eq_some_iff.1 bld_size
  go_enter Tryd.func90, Tryd.ntmps90
  go_wp2
  rw [Lib.run_to_unsafe w ⟨b, 0, none⟩ Tryd.underlying87 Tryd.underlying125 hj (by rw [hjs]; decide) hsh (Nat.zero_lt_succ 1)]
  simp only [Result.andThen]
  rw [Oper.upon_value]
  go_wp2
  rw [run_callFunc_extern Tryd.func109 (by kernel_rfl) (by kernel_rfl) (by kernel_rfl) (e := Extern.AbiNoEscape.same) (by kernel_rfl)]
  rw [Lib.run_noEscape]
  simp only [Result.andThen]
  rw [Oper.upon_value]
  go_wp2
  rw [Lib.run_from_unsafe w ⟨b, 0, none⟩ Tryd.underlying125 Tryd.underlying87 hj hsh bld_lies]
  simp only [Result.andThen]
  rw [Oper.upon_value]
  go_wp2
  go_end0
  exact ⟨rfl, rfl⟩
theorem bld_check (B b : Nat) (bs : List Value) (w : World) (h : Bld B b bs w) :
    Calls Tryd.prog 90 #[.pointer (some ⟨b, 0, none⟩)] w fun e w' => e = .returned (.tuple #[]) ∧ (Lib.BuilderAtF 89 5 B b (.pointer (some ⟨b, 0, none⟩)) bs w' ∧ Below B w w' ∧ Lib.OthersKept 5 (some b) w w') := by
  rcases h with h | h
  · refine (bld_check_fresh b w h.cell0 h.shape h.frozen0).mono ?_
    rintro e w' ⟨rfl, rfl⟩
    exact ⟨rfl, h.used _, (Below.refl B w).setCell (p := ⟨b, 0, none⟩) h.1 _, (Lib.OthersKept.refl _ _ w).setCell ⟨b, 0, none⟩ rfl _⟩
  · refine (bld_check_used b w h.cell0).mono ?_
    rintro e w' ⟨rfl, rfl⟩
    exact ⟨rfl, h, Below.refl B _, Lib.OthersKept.refl _ _ _⟩
set_option maxHeartbeats 2000000 in
set_option maxRecDepth 100000 in
theorem bld_WriteByte (B b : Nat) (bs : List Value) (c : Int) (w : World) (h : Bld B b bs w) (hlen : bs.length + 1 ≤ 140737488355328) (hBw : B ≤ w.heap.size) :
    Calls Tryd.prog 67 #[.pointer (some ⟨b, 0, none⟩), .int .u8 c] w fun e w' => e = .returned .nilIface ∧ (Bld B b (bs ++ [.int .u8 c]) w' ∧ Below B w w' ∧ Lib.OthersKept 5 (some b) w w') := by
  obtain ⟨i0, hi, hz0, hz1, hz2⟩ := info_parts bld_byte
  go_enter Tryd.func67, Tryd.ntmps67
  go_wp2_with (go_at_call 90; refine (bld_check B b bs _ h).mono ?_)
  rintro e w1 ⟨rfl, h1, hb1, hk1⟩
  obtain ⟨hB, v, hbk, hown, hne⟩ := h1
  have c0 : w1.cell? ⟨b, 0, none⟩ = some (.pointer (some ⟨b, 0, none⟩)) := by rw [Lib.cell_of_heap hbk]; rfl
  have c1 : w1.cell? ⟨b, 1, none⟩ = some v := by rw [Lib.cell_of_heap hbk]; rfl
  go_wp2_with (at_builtin; refine wpList_append_ownF _ rfl _ _ 72 rfl B 5 i0 (.int .u8 0) 1 1 Tryd.underlying72 hi hz0 hz1 hz2 rfl (by decide) _ _ _ rfl (hown.alloc _) ⟨w1.heap.size, 0, none⟩ 1 1 [.int .u8 c] rfl rfl ?c1 ?c2 ?c3 ?c4 ?c5 ?_)
  case c1 =>
    intro j u hj
    match j, hj with
    | 0, hj => simp at hj; subst hj; simp [Addr.add]
  case c2 => intro u hu; simp at hu; subst hu; rfl
  case c3 => unfold maxLen; omega
  case c4 => omega
  case c5 => have := hb1.size; simp; omega
  intro v' w2 hown' hgrow _
  have hlt : b < w1.heap.size := by
    rcases Nat.lt_or_ge b w1.heap.size with h' | h'
    · exact h'
    · simp [Array.getElem?_eq_none h'] at hbk
  have hb2 : w2.heap[b]? = some (.cells #[.pointer (some ⟨b, 0, none⟩), v] 89 (0, 0)) := by
    rw [hgrow.block b (by simp; omega) (fun e => hne e.symm), Lib.alloc_old w1 _ b hlt]
    exact hbk
  have d0 : w2.cell? ⟨b, 0, none⟩ = some (.pointer (some ⟨b, 0, none⟩)) := by rw [Lib.cell_of_heap hb2]; rfl
  have d1 : w2.cell? ⟨b, 1, none⟩ = some v := by rw [Lib.cell_of_heap hb2]; rfl
  have f1 : w2.frozen? ⟨b, 1, none⟩ = false := Lib.frozen_of_heap hb2 1
  obtain ⟨g, cap, rfl⟩ : ∃ g cap, v' = .slice (some ⟨g, 0, none⟩) (bs.length + 1) cap := by
    rcases hown'.2 with ⟨_, h0⟩ | ⟨g, cap, cur, fz, hv, _⟩
    · omega
    · exact ⟨g, cap, hv⟩
  go_wp2
  go_ret
  refine ⟨rfl, Or.inr ?_, ?_, ((hk1.alloc _).grown hgrow (Lib.ownsRowF_kind (hown.alloc _))).setCell ⟨b, 1, none⟩ rfl _⟩
  · exact Lib.BuilderAtF.put (T := 89) (e := 5) hB hb2 (bs' := bs ++ [.int .u8 c]) (by simpa using hown') (by decide)
  · exact ((hb1.alloc (by have := hb1.size; omega) _).grown hgrow (by have := hb1.size; simp; omega) (fun k hk => (hown.lt k hk).1)).setCell (p := ⟨b, 1, none⟩) hB _
end Go.Proofs.YtkklacijhmoopaaDoor.Print
namespace Go.Proofs
open Go.Shelf
def Tryd.lays145_ren : Go.Shelf.Ren := ⟨fun | 145 => 47 | 220 => 75 | 219 => 97 | 217 => 78 | 225 => 119 | 224 => 120 | 267 => 121 | 266 => 99 | 314 => 147 | n => n, fun | 9 => 9 | 4 => 4 | 59 => 78 | 3 => 3 | 5 => 5 | 46 => 111 | 146 => 156 | 51 => 153 | n => n, fun | 1 => 0 | n => n⟩
theorem Tryd.lays145 : Go.Proofs.Lays.n145 Tryd.prog Tryd.lays145_ren := {
  mixed := by kernel_rfl
  f145 := Tryd.func47.trans (congrArg some (by kernel_rfl))
  f217 := Tryd.func78.trans (congrArg some (by kernel_rfl))
  f219 := Tryd.func97.trans (congrArg some (by kernel_rfl))
  f220 := Tryd.func75.trans (congrArg some (by kernel_rfl))
  f224 := Tryd.func120.trans (congrArg some (by kernel_rfl))
  f225 := Tryd.func119.trans (congrArg some (by kernel_rfl))
  f266 := Tryd.func99.trans (congrArg some (by kernel_rfl))
  f267 := Tryd.func121.trans (congrArg some (by kernel_rfl))
  f314 := Tryd.func147.trans (congrArg some (by kernel_rfl))
  t3 := Tryd.underlying3
  a3 := Tryd.isAgg3
  z3 := Tryd.sizeOf3
  v3 := Tryd.zeroValue3
  t4 := Tryd.underlying4
  a4 := Tryd.isAgg4
  z4 := Tryd.sizeOf4
  v4 := Tryd.zeroValue4
  t5 := Tryd.underlying5
  a5 := Tryd.isAgg5
  z5 := Tryd.sizeOf5
  v5 := Tryd.zeroValue5
  t9 := Tryd.underlying9
  a9 := Tryd.isAgg9
  z9 := Tryd.sizeOf9
  v9 := Tryd.zeroValue9
  t46 := Tryd.underlying111
  a46 := Tryd.isAgg111
  z46 := Tryd.sizeOf111
  v46 := Tryd.zeroValue111
  t51 := Tryd.underlying153
  a51 := Tryd.isAgg153
  z51 := Tryd.sizeOf153
  v51 := Tryd.zeroValue153
  t59 := Tryd.underlying78
  a59 := Tryd.isAgg78
  z59 := Tryd.sizeOf78
  v59 := Tryd.zeroValue78
  t146 := Tryd.underlying156
  a146 := Tryd.isAgg156
  z146 := Tryd.sizeOf156
  v146 := Tryd.zeroValue156
  g1 := by kernel_rfl }
open Go.RowKit Go.Lib in
theorem Tryd.strings_Cut (s sep : ByteArray) (m : Int) (w : World) (hs : s.size < 4294967281) (hm : w.cell? ⟨0, 0, none⟩ = some (.int .i64 m)) :
    Calls Tryd.prog 47 #[.string s, .string sep] w fun e w' => e = .returned (.tuple #[.string ⟨(Lib.cut s.data.toList sep.data.toList).1.toArray⟩, .string ⟨(Lib.cut s.data.toList sep.data.toList).2.1.toArray⟩, .bool (Lib.cut s.data.toList sep.data.toList).2.2]) ∧ ∃ n, w' = w.drewN n := Any.strings_Cut Tryd.lays145 s sep m w hs hm
def Tryd.lays137_ren : Go.Shelf.Ren := ⟨fun | 137 => 50 | 217 => 78 | 266 => 99 | n => n, fun | 9 => 9 | 5 => 5 | 3 => 3 | n => n, fun | n => n⟩
theorem Tryd.lays137 : Go.Proofs.Lays.n137 Tryd.prog Tryd.lays137_ren := {
  mixed := by kernel_rfl
  f137 := Tryd.func50.trans (congrArg some (by kernel_rfl))
  f217 := Tryd.func78.trans (congrArg some (by kernel_rfl))
  f266 := Tryd.func99.trans (congrArg some (by kernel_rfl))
  t3 := Tryd.underlying3
  a3 := Tryd.isAgg3
  z3 := Tryd.sizeOf3
  v3 := Tryd.zeroValue3
  t5 := Tryd.underlying5
  a5 := Tryd.isAgg5
  z5 := Tryd.sizeOf5
  v5 := Tryd.zeroValue5
  t9 := Tryd.underlying9
  a9 := Tryd.isAgg9
  z9 := Tryd.sizeOf9
  v9 := Tryd.zeroValue9 }
open Go.RowKit in
theorem Tryd.strings_IndexByte (s : ByteArray) (c : Int) (w : World) :
    Calls Tryd.prog 50 #[.string s, .int .u8 c] w fun e w' => e = .returned (.int .i64 (Lib.indexByte s.data.toList c.toNat.toUInt8)) ∧ w' = w := Any.strings_IndexByte Tryd.lays137 s c w
def Tryd.lays161_ren : Go.Shelf.Ren := ⟨fun | 161 => 54 | 231 => 81 | 227 => 82 | 233 => 83 | 235 => 84 | 228 => 100 | 197 => 101 | 151 => 102 | 260 => 122 | 152 => 123 | 137 => 50 | 119 => 148 | 224 => 120 | 225 => 119 | 217 => 78 | 266 => 99 | n => n, fun | 9 => 9 | 4 => 4 | 3 => 3 | 5 => 5 | 117 => 105 | 116 => 104 | 0 => 0 | 124 => 108 | 105 => 118 | 21 => 21 | 119 => 158 | 46 => 111 | 139 => 161 | 138 => 160 | n => n, fun | 3 => 1 | 4 => 2 | n => n⟩
theorem Tryd.lays161 : Go.Proofs.Lays.n161 Tryd.prog Tryd.lays161_ren := {
  mixed := by kernel_rfl
  f119 := Tryd.func148.trans (congrArg some (by kernel_rfl))
  f137 := Tryd.func50.trans (congrArg some (by kernel_rfl))
  f151 := Tryd.func102.trans (congrArg some (by kernel_rfl))
  f152 := Tryd.func123.trans (congrArg some (by kernel_rfl))
  f161 := Tryd.func54.trans (congrArg some (by kernel_rfl))
  f197 := Tryd.func101.trans (congrArg some (by kernel_rfl))
  f217 := Tryd.func78.trans (congrArg some (by kernel_rfl))
  f224 := Tryd.func120.trans (congrArg some (by kernel_rfl))
  f225 := Tryd.func119.trans (congrArg some (by kernel_rfl))
  f227 := Tryd.func82.trans (congrArg some (by kernel_rfl))
  f228 := Tryd.func100.trans (congrArg some (by kernel_rfl))
  f231 := Tryd.func81.trans (congrArg some (by kernel_rfl))
  f233 := Tryd.func83.trans (congrArg some (by kernel_rfl))
  f235 := Tryd.func84.trans (congrArg some (by kernel_rfl))
  f260 := Tryd.func122.trans (congrArg some (by kernel_rfl))
  f266 := Tryd.func99.trans (congrArg some (by kernel_rfl))
  t0 := Tryd.underlying0
  a0 := Tryd.isAgg0
  z0 := Tryd.sizeOf0
  v0 := Tryd.zeroValue0
  t3 := Tryd.underlying3
  a3 := Tryd.isAgg3
  z3 := Tryd.sizeOf3
  v3 := Tryd.zeroValue3
  t4 := Tryd.underlying4
  a4 := Tryd.isAgg4
  z4 := Tryd.sizeOf4
  v4 := Tryd.zeroValue4
  t5 := Tryd.underlying5
  a5 := Tryd.isAgg5
  z5 := Tryd.sizeOf5
  v5 := Tryd.zeroValue5
  t9 := Tryd.underlying9
  a9 := Tryd.isAgg9
  z9 := Tryd.sizeOf9
  v9 := Tryd.zeroValue9
  t21 := Tryd.underlying21
  a21 := Tryd.isAgg21
  z21 := Tryd.sizeOf21
  v21 := Tryd.zeroValue21
  t46 := Tryd.underlying111
  a46 := Tryd.isAgg111
  z46 := Tryd.sizeOf111
  v46 := Tryd.zeroValue111
  t105 := Tryd.underlying118
  a105 := Tryd.isAgg118
  z105 := Tryd.sizeOf118
  v105 := Tryd.zeroValue118
  t116 := Tryd.underlying104
  a116 := Tryd.isAgg104
  z116 := Tryd.sizeOf104
  t117 := Tryd.underlying105
  a117 := Tryd.isAgg105
  z117 := Tryd.sizeOf105
  v117 := Tryd.zeroValue105
  t119 := Tryd.underlying158
  a119 := Tryd.isAgg158
  z119 := Tryd.sizeOf158
  t124 := Tryd.underlying108
  a124 := Tryd.isAgg108
  z124 := Tryd.sizeOf108
  v124 := Tryd.zeroValue108
  t138 := Tryd.underlying160
  a138 := Tryd.isAgg160
  z138 := Tryd.sizeOf160
  v138 := Tryd.zeroValue160
  t139 := Tryd.underlying161
  a139 := Tryd.isAgg161
  z139 := Tryd.sizeOf161
  v139 := Tryd.zeroValue161
  g3 := by kernel_rfl
  g4 := by kernel_rfl }
open Go.RowKit in
theorem Tryd.strings_TrimLeft_one (s : ByteArray) (c : UInt8) (hc : c.toNat < 128) (w : World) :
    Calls Tryd.prog 54 #[.string s, .string ⟨#[c]⟩] w fun e w' => e = .returned (.string ⟨(Lib.trimLeftB s.data.toList c).toArray⟩) ∧ w' = w := Any.strings_TrimLeft_one Tryd.lays161 s c hc w
def Tryd.lays169_ren : Go.Shelf.Ren := ⟨fun | 169 => 68 | n => n, fun | 70 => 87 | 9 => 9 | 0 => 0 | 72 => 89 | 37 => 72 | 127 => 112 | 3 => 3 | 5 => 5 | n => n, fun | n => n⟩
theorem Tryd.Builder_Extra_169 : Builder.Extra Tryd.prog Tryd.lays169_ren := {
  sizeBuilder := by kernel_rfl
  liesBuilder := by kernel_rfl
  t5 := Tryd.underlying5
  a5 := Tryd.isAgg5
  z5 := Tryd.sizeOf5
  v5 := Tryd.zeroValue5
  infoByte := by kernel_rfl
  cellsByte := by kernel_rfl
  sizeByte := by kernel_rfl
  neB5 := by decide }
theorem Tryd.lays169 : Go.Proofs.Lays.n169 Tryd.prog Tryd.lays169_ren := {
  mixed := by kernel_rfl
  f169 := Tryd.func68.trans (congrArg some (by kernel_rfl))
  t0 := Tryd.underlying0
  a0 := Tryd.isAgg0
  z0 := Tryd.sizeOf0
  v0 := Tryd.zeroValue0
  t3 := Tryd.underlying3
  a3 := Tryd.isAgg3
  z3 := Tryd.sizeOf3
  v3 := Tryd.zeroValue3
  t9 := Tryd.underlying9
  a9 := Tryd.isAgg9
  z9 := Tryd.sizeOf9
  v9 := Tryd.zeroValue9
  t37 := Tryd.underlying72
  a37 := Tryd.isAgg72
  z37 := Tryd.sizeOf72
  v37 := Tryd.zeroValue72
  t70 := Tryd.underlying87
  a70 := Tryd.isAgg87
  z70 := Tryd.sizeOf87
  v70 := Tryd.zeroValue87
  t72 := Tryd.underlying89
  a72 := Tryd.isAgg89
  z72 := Tryd.sizeOf89
  v72 := Tryd.zeroValue89
  t127 := Tryd.underlying112
  a127 := Tryd.isAgg112
  z127 := Tryd.sizeOf112
  v127 := Tryd.zeroValue112 }
open Go.RowKit in
theorem Tryd.Builder_String_any_k (B b : Nat) (l : List UInt8) (w : World) (h : Lib.IsBuilderF 89 5 B b (Lib.byteCells l) w) (hBw : B ≤ w.heap.size) :
    Calls Tryd.prog 68 #[.pointer (some ⟨b, 0, none⟩)] w fun e w' => e = .returned (.string ⟨l.toArray⟩) ∧ (Lib.IsBuilderF 89 5 B b (Lib.byteCells l) w' ∧ Below B w w' ∧ Lib.OthersKept 5 (some b) w w') := Any.Builder_String_any_k Tryd.lays169 Tryd.Builder_Extra_169 B b l w h hBw
end Go.Proofs
namespace Go.Proofs.YtkklacijhmoopaaDoor.Print
open Go.RowKit Go.Proofs.YtkklacijhmoopaaDoorW.PrintWords
theorem bld_String (B b : Nat) (l : List UInt8) (w : World) (h : Bld B b (Lib.byteCells l) w) (hBw : B ≤ w.heap.size) :
    Calls Tryd.prog 68 #[.pointer (some ⟨b, 0, none⟩)] w fun e w' => e = .returned (.string ⟨l.toArray⟩) ∧ Below B w w' := by
  refine (Tryd.Builder_String_any_k B b l w h hBw).mono ?_
  rintro e w' ⟨he, _, hb, _⟩
  exact ⟨he, hb⟩
end Go.Proofs.YtkklacijhmoopaaDoor.Print
namespace Go.Proofs.YtkklacijhmoopaaDoor.Print
open Go.RowKit Go.Proofs.YtkklacijhmoopaaDoorW.PrintWords Go.Proofs.YtkklacijhmoopaaDoorW.PrintLast Go.Proofs.YtkklacijhmoopaaDoorW.PrintMore
set_option linter.unusedVariables false
set_option linter.unusedSimpArgs false
theorem byte_getD (a : Array UInt8) (n : Nat) (h : n < (ByteArray.mk a).size) : (ByteArray.mk a)[n] = a.getD n 0 := by
  have h' : n < a.size := h
  show a[n] = _
  simp [Array.getD, h']
def b64Tab : Array UInt8 := #[65, 66, 67, 68, 69, 70, 71, 72, 73, 74, 75, 76, 77, 78, 79, 80, 81, 82, 83, 84, 85, 86, 87, 88, 89, 90, 97, 98, 99, 100, 101, 102, 103, 104, 105, 106, 107, 108, 109, 110, 111, 112, 113, 114, 115, 116, 117, 118, 119, 120, 121, 122, 48, 49, 50, 51, 52, 53, 54, 55, 56, 57, 43, 47]
def b64Let (n : Nat) : UInt8 := b64Tab.getD n 0
def nAt (s : List UInt8) : Nat → Nat
  | 0 => 0
  | i + 1 => nAt s i * 256 + (s.getD i 0).toNat
def encPart (s : List UInt8) : List UInt8 :=
  [b64Let (nAt s 3 / 262144 % 64), b64Let (nAt s 3 / 4096 % 64), if 1 < s.length then b64Let (nAt s 3 / 64 % 64) else 61, if 2 < s.length then b64Let (nAt s 3 % 64) else 61]
def b64Enc : List UInt8 → List UInt8
  | [] => []
  | [a] => encPart [a]
  | [a, b] => encPart [a, b]
  | a :: b :: c :: r => encPart (a :: b :: c :: r) ++ b64Enc r
theorem nAt_lt (s : List UInt8) : ∀ i, nAt s i < 256 ^ i
  | 0 => by simp [nAt]
  | i + 1 => by
    have := nAt_lt s i
    have h := (s.getD i 0).toNat_lt
    rw [nAt, Nat.pow_succ]; omega
theorem b64Enc_step (s : List UInt8) (h : s ≠ []) : b64Enc s = encPart s ++ b64Enc (s.drop 3) := by
  match s, h with
  | [a], _ => simp [b64Enc]
  | [a, b], _ => simp [b64Enc]
  | a :: b :: c :: r, _ => simp [b64Enc]
def strSz : Value → Nat
  | .string s => s.size
  | _ => 0
def b64_Encode.f (a0 : ByteArray) : Option ByteArray := if a0.size ≤ 1000000 then some ⟨(b64Enc a0.data.toList).toArray⟩ else none
theorem ofInt64 (a : Nat) (h : a < 18446744073709551616) : (BitVec.ofInt 64 (a : Int)).toNat = a := by
  rw [BitVec.ofInt_natCast, BitVec.toNat_ofNat]; exact Nat.mod_eq_of_lt (by omega)
theorem wrap_i64' (n : Int) : IntKind.i64.wrap n = (n + 9223372036854775808) % 18446744073709551616 - 9223372036854775808 := by rw [i64_w]; unfold wrap64; rfl
theorem or_shift (x b k : Nat) (hb : b < 2 ^ k) (hx : x * 2 ^ k + b < 1000000000) : Go.bits .or .i64 ((x * 2 ^ k : Nat) : Int) (b : Int) = ((x * 2 ^ k + b : Nat) : Int) := by
  have h3 : x * 2 ^ k ||| b = x * 2 ^ k + b := by
    rw [← Nat.shiftLeft_eq, Nat.shiftLeft_add_eq_or_of_lt hb]
  show IntKind.i64.wrap ((BitVec.ofInt 64 ((x * 2 ^ k : Nat) : Int) ||| BitVec.ofInt 64 (b : Int)).toNat : Int) = _
  rw [BitVec.toNat_or, ofInt64 _ (by omega), ofInt64 _ (by omega), h3, wrap_i64']
  omega
theorem and63 (n : Nat) (hn : n < 1000000000) : Go.bits .and .i64 (n : Int) 63 = ((n % 64 : Nat) : Int) := by
  have h63 : (BitVec.ofInt 64 63).toNat = 2 ^ 6 - 1 := by decide
  show IntKind.i64.wrap ((BitVec.ofInt 64 (n : Int) &&& BitVec.ofInt 64 63).toNat : Int) = _
  rw [BitVec.toNat_and, ofInt64 _ (by omega), h63, Nat.and_two_pow_sub_one_eq_mod, wrap_i64']
  omega
theorem b64Let_at (n : Nat) (h : n < (ByteArray.mk #[65, 66, 67, 68, 69, 70, 71, 72, 73, 74, 75, 76, 77, 78, 79, 80, 81, 82, 83, 84, 85, 86, 87, 88, 89, 90, 97, 98, 99, 100, 101, 102, 103, 104, 105, 106, 107, 108, 109, 110, 111, 112, 113, 114, 115, 116, 117, 118, 119, 120, 121, 122, 48, 49, 50, 51, 52, 53, 54, 55, 56, 57, 43, 47]).size) : (ByteArray.mk #[65, 66, 67, 68, 69, 70, 71, 72, 73, 74, 75, 76, 77, 78, 79, 80, 81, 82, 83, 84, 85, 86, 87, 88, 89, 90, 97, 98, 99, 100, 101, 102, 103, 104, 105, 106, 107, 108, 109, 110, 111, 112, 113, 114, 115, 116, 117, 118, 119, 120, 121, 122, 48, 49, 50, 51, 52, 53, 54, 55, 56, 57, 43, 47])[n] = b64Let n := byte_getD _ n h
theorem take_get {α : Type} {l : List α} {i : Nat} {x : α} (h : l[i]? = some x) : l.take (i + 1) = l.take i ++ [x] := by
  obtain ⟨h1, h2⟩ := List.getElem?_eq_some_iff.1 h
  rw [List.take_succ_eq_append_getElem h1, h2]
theorem drop_min (s : ByteArray) : (s.extract (min 3 s.size) s.size).data.toList = s.data.toList.drop 3 := by
  have e : s.data.toList.drop 3 = s.data.toList.drop (min 3 s.size) := by
    by_cases h : 3 ≤ s.size
    · rw [Nat.min_eq_left h]
    · rw [Nat.min_eq_right (by omega), List.drop_eq_nil_of_le (by simp; omega), List.drop_eq_nil_of_le (by simp)]
  rw [e, ByteArray.data_extract, Array.toList_extract, List.extract_eq_take_drop, List.take_of_length_le (by simp)]
theorem nAt_next (s : ByteArray) (i : Nat) (hi : i < 3) (h : i < s.size) : Go.bits .or .i64 (wrap64 ((nAt s.data.toList i : Int) * 256)) (s[i].toNat : Int) = (nAt s.data.toList (i + 1) : Int) := by
  have h1 := nAt_lt s.data.toList i
  have h2 : (256 : Nat) ^ i ≤ 256 ^ 2 := Nat.pow_le_pow_right (by omega) (by omega)
  have hb := s[i].toNat_lt
  have e : s.data.toList.getD i 0 = s[i] := by
    rw [List.getD_eq_getElem?_getD, List.getElem?_eq_getElem (by simpa using h)]; rfl
  have hw : wrap64 ((nAt s.data.toList i : Int) * 256) = ((nAt s.data.toList i * 2 ^ 8 : Nat) : Int) := by unfold wrap64; omega
  rw [hw, or_shift _ _ 8 (by omega) (by omega), nAt, e]
theorem nAt_none (s : ByteArray) (i : Nat) (hi : i < 3) (h : ¬ i < s.size) : wrap64 ((nAt s.data.toList i : Int) * 256) = (nAt s.data.toList (i + 1) : Int) := by
  have h1 := nAt_lt s.data.toList i
  have h2 : (256 : Nat) ^ i ≤ 256 ^ 2 := Nat.pow_le_pow_right (by omega) (by omega)
  have e : s.data.toList.getD i 0 = 0 := by
    rw [List.getD_eq_getElem?_getD, List.getElem?_eq_none (by simpa using h)]; rfl
  rw [nAt, e]
  unfold wrap64
  show _ = (((nAt s.data.toList i * 256 + 0 : Nat)) : Int)
  omega
set_option maxHeartbeats 4000000 in
set_option maxRecDepth 1000000 in
theorem b64_Encode.calls (a0 : ByteArray) (r1 : ByteArray) (w : World) (h : b64_Encode.f a0 = some r1) :
    Calls Tryd.prog 80 #[.string a0] w fun e w' => e = .returned (.string r1) ∧ Below w.heap.size w w' := by
  have hsz : a0.size ≤ 1000000 := by unfold b64_Encode.f at h; by_cases c : a0.size ≤ 1000000 <;> simp_all
  have hof : (⟨(b64Enc a0.data.toList).toArray⟩ : ByteArray) = r1 := by
    unfold b64_Encode.f at h; rw [if_pos hsz] at h; simpa using h
  subst hof
  clear h
  go_enter Tryd.func80, Tryd.ntmps80
  go_wp2
  go_loopw [0] (fun v wr => ∃ (s : ByteArray) (acc : List UInt8), v = .string s ∧ s.size ≤ a0.size ∧ Aside0 (Bld w.heap.size w.heap.size (Lib.byteCells acc) wr) ∧ Aside0 (Below w.heap.size w wr) ∧ Aside0 (b64Enc a0.data.toList = acc ++ b64Enc s.data.toList) ∧ Aside0 (acc.length ≤ 4 * (a0.size - s.size))) (fun v _ => strSz v)
  case atStart =>
    exact ⟨a0, [], rfl, Nat.le_refl _, ⟨Lib.IsBuilderF.of (Lib.fresh_isBuilder 89 5 w)⟩, ⟨(Below.refl _ w).alloc (Nat.le_refl _) _⟩, ⟨rfl⟩, ⟨by simp⟩⟩
  case round =>
    obtain ⟨s, acc, rfl, hs, HB, hbw, hacc, hacl⟩ := hrel
    by_cases hne : s = ⟨#[]⟩
    · subst hne
      have hE : acc = b64Enc a0.data.toList := by
        have := hacc.out
        rw [show b64Enc (⟨#[]⟩ : ByteArray).data.toList = [] from rfl, List.append_nil] at this
        exact this.symm
      subst hE
      go_wp2_with (go_at_call 68; (with_reducible refine (bld_String w.heap.size w.heap.size _ _ HB.out ?h1).mono ?_); (case h1 => have := hbw.out.size; omega); rintro e w2 ⟨rfl, h2⟩; replace h2 := Aside0.mk h2)
      go_ret
      exact ⟨rfl, hbw.out.trans h2.out⟩
    · have hne0 : 0 < s.size := by
        rcases Nat.eq_zero_or_pos s.size with h | h
        · exact absurd (ByteArray.ext (Array.eq_empty_of_size_eq_zero h)) hne
        · exact h
      have hq : (!s.toList.isEmpty) = true := by
        rw [Lib.toList_data]
        cases hd : s.data.toList with
        | nil => have h2 : s.data.toList.length = s.size := by simp
                 rw [hd] at h2; simp at h2; omega
        | cons _ _ => rfl
      go_wp2
      go_loopw [4, 14] (fun vn vi wr => ∃ i : Nat, i ≤ 3 ∧ vi = .int .i64 i ∧ vn = .int .i64 (nAt s.data.toList i) ∧ Aside0 (Bld w.heap.size w.heap.size (Lib.byteCells acc) wr) ∧ Aside0 (Below w.heap.size w wr)) (fun vn vi wr => 3 - (intOf vi).toNat)
      case atStart => exact ⟨0, by omega, rfl, rfl, HB, hbw⟩
      case round =>
        clear HB hbw
        obtain ⟨i, hi, rfl, rfl, HB, hbw⟩ := hrel
        by_cases hlt : i < 3
        · by_cases hin : i < s.size
          · have hby : (s[i].toNat : Int) < 256 := by have := s[i].toNat_lt; omega
            have hnx := nAt_next s i hlt hin
            go_wp2
            go_roundw
            case rel => exact ⟨i + 1, by omega, by go_num, rfl, HB, hbw⟩
            case measure => simp [intOf]; omega
          · have hnx := nAt_none s i hlt hin
            go_wp2
            go_roundw
            case rel => exact ⟨i + 1, by omega, by go_num, by rw [hnx], HB, hbw⟩
            case measure => simp [intOf]; omega
        · obtain rfl : i = 3 := by omega
          have hN := nAt_lt s.data.toList 3
          generalize hNe : nAt s.data.toList 3 = N at *
          have HNe := Aside0.mk hNe
          clear hNe
          go_wp2
          go_loopw [30] (fun vi wr => ∃ (i : Nat) (acc2 : List UInt8), i ≤ 4 ∧ vi = .int .i64 i ∧ Aside0 (Bld w.heap.size w.heap.size (Lib.byteCells acc2) wr) ∧ Aside0 (Below w.heap.size w wr) ∧ Aside0 (acc2 = acc ++ (encPart s.data.toList).take i)) (fun vi wr => 4 - (intOf vi).toNat)
          case atStart => exact ⟨0, acc, by omega, rfl, HB, hbw, ⟨by simp⟩⟩
          case round =>
            clear HB hbw
            obtain ⟨i, acc2, hi4, rfl, HB, hbw, hac2⟩ := hrel
            by_cases hi0 : i < 4
            · have hlen2 : acc2.length ≤ 8000000 := by
                rw [hac2.out, List.length_append, List.length_take]; have := hacl.out; omega
              have hsl : s.data.toList.length = s.size := by simp
              rcases (show i = 0 ∨ i = 1 ∨ i = 2 ∨ i = 3 by omega) with rfl | rfl | rfl | rfl
              · have hm : N / 262144 % 64 < 64 := Nat.mod_lt _ (by omega)
                have hand : Go.bits .and .i64 ((N : Int) / 262144) 63 = ((N / 262144 % 64 : Nat) : Int) := by rw [show (N : Int) / 262144 = ((N / 262144 : Nat) : Int) by omega]; exact and63 _ (by omega)
                have hE := Aside0.mk (show (encPart s.data.toList)[0]? = some (b64Let (N / 262144 % 64)) by rw [encPart, HNe.out]; rfl)
                generalize N / 262144 % 64 = m at *
                go_wp2_with (go_at_call 67; (with_reducible refine (bld_WriteByte w.heap.size w.heap.size _ _ _ HB.out (by rw [Lib.byteCells_length]; have := hlen2; omega) (by have := hbw.out.size; omega)).mono ?_); rintro e w1 ⟨rfl, g1, g2, _⟩; replace g1 := Aside0.mk g1; replace g2 := Aside0.mk g2)
                go_roundw
                case rel =>
                  refine ⟨_, _, _, _, _, _, _, _, _, _, _, _, _, _, _, _, _, _, ⟨1, acc2 ++ [b64Let m], by omega, rfl, ⟨?_⟩, ⟨hbw.out.trans g2.out⟩, ⟨?_⟩⟩, rfl⟩
                  · have := g1.out
                    rw [b64Let_at] at this
                    rw [Lib.byteCells_append]
                    exact this
                  · rw [hac2.out, take_get hE.out, List.append_assoc]
                case measure => exact (show 4 - (intOf (.int .i64 1)).toNat < 4 - (intOf (.int .i64 0)).toNat by decide)
              · have hm : N / 4096 % 64 < 64 := Nat.mod_lt _ (by omega)
                have hand : Go.bits .and .i64 ((N : Int) / 4096) 63 = ((N / 4096 % 64 : Nat) : Int) := by rw [show (N : Int) / 4096 = ((N / 4096 : Nat) : Int) by omega]; exact and63 _ (by omega)
                have hE := Aside0.mk (show (encPart s.data.toList)[1]? = some (b64Let (N / 4096 % 64)) by rw [encPart, HNe.out]; rfl)
                generalize N / 4096 % 64 = m at *
                go_wp2_with (go_at_call 67; (with_reducible refine (bld_WriteByte w.heap.size w.heap.size _ _ _ HB.out (by rw [Lib.byteCells_length]; have := hlen2; omega) (by have := hbw.out.size; omega)).mono ?_); rintro e w1 ⟨rfl, g1, g2, _⟩; replace g1 := Aside0.mk g1; replace g2 := Aside0.mk g2)
                go_roundw
                case rel =>
                  refine ⟨_, _, _, _, _, _, _, _, _, _, _, _, _, _, _, _, _, _, ⟨2, acc2 ++ [b64Let m], by omega, rfl, ⟨?_⟩, ⟨hbw.out.trans g2.out⟩, ⟨?_⟩⟩, rfl⟩
                  · have := g1.out
                    rw [b64Let_at] at this
                    rw [Lib.byteCells_append]
                    exact this
                  · rw [hac2.out, take_get hE.out, List.append_assoc]
                case measure => exact (show 4 - (intOf (.int .i64 2)).toNat < 4 - (intOf (.int .i64 1)).toNat by decide)
              · by_cases c1 : 1 < s.size
                · have hm : N / 64 % 64 < 64 := Nat.mod_lt _ (by omega)
                  have hand : Go.bits .and .i64 ((N : Int) / 64) 63 = ((N / 64 % 64 : Nat) : Int) := by rw [show (N : Int) / 64 = ((N / 64 : Nat) : Int) by omega]; exact and63 _ (by omega)
                  have hE := Aside0.mk (show (encPart s.data.toList)[2]? = some (b64Let (N / 64 % 64)) by rw [encPart, HNe.out]; simp; omega)
                  generalize N / 64 % 64 = m at *
                  go_wp2_with (go_at_call 67; (with_reducible refine (bld_WriteByte w.heap.size w.heap.size _ _ _ HB.out (by rw [Lib.byteCells_length]; have := hlen2; omega) (by have := hbw.out.size; omega)).mono ?_); rintro e w1 ⟨rfl, g1, g2, _⟩; replace g1 := Aside0.mk g1; replace g2 := Aside0.mk g2)
                  go_roundw
                  case rel =>
                    refine ⟨_, _, _, _, _, _, _, _, _, _, _, _, _, _, _, _, _, _, ⟨3, acc2 ++ [b64Let m], by omega, rfl, ⟨?_⟩, ⟨hbw.out.trans g2.out⟩, ⟨?_⟩⟩, rfl⟩
                    · have := g1.out
                      rw [b64Let_at] at this
                      rw [Lib.byteCells_append]
                      exact this
                    · rw [hac2.out, take_get hE.out, List.append_assoc]
                  case measure => exact (show 4 - (intOf (.int .i64 3)).toNat < 4 - (intOf (.int .i64 2)).toNat by decide)
                · have hE := Aside0.mk (show (encPart s.data.toList)[2]? = some 61 by rw [encPart]; simp; omega)
                  go_wp2_with (go_at_call 67; (with_reducible refine (bld_WriteByte w.heap.size w.heap.size _ _ _ HB.out (by rw [Lib.byteCells_length]; have := hlen2; omega) (by have := hbw.out.size; omega)).mono ?_); rintro e w1 ⟨rfl, g1, g2, _⟩; replace g1 := Aside0.mk g1; replace g2 := Aside0.mk g2)
                  go_roundw
                  case rel =>
                    refine ⟨_, _, _, _, _, _, _, _, _, _, _, _, _, _, _, _, _, _, ⟨3, acc2 ++ [61], by omega, rfl, ⟨?_⟩, ⟨hbw.out.trans g2.out⟩, ⟨?_⟩⟩, rfl⟩
                    · have := g1.out
                      rw [Lib.byteCells_append]
                      exact this
                    · rw [hac2.out, take_get hE.out, List.append_assoc]
                  case measure => exact (show 4 - (intOf (.int .i64 3)).toNat < 4 - (intOf (.int .i64 2)).toNat by decide)
              · by_cases c1 : 2 < s.size
                · have hm : N / 1 % 64 < 64 := Nat.mod_lt _ (by omega)
                  have hand : Go.bits .and .i64 ((N : Int)) 63 = ((N / 1 % 64 : Nat) : Int) := by rw [Nat.div_one]; exact and63 _ (by omega)
                  have hE := Aside0.mk (show (encPart s.data.toList)[3]? = some (b64Let (N / 1 % 64)) by rw [encPart, HNe.out]; simp; omega)
                  generalize N / 1 % 64 = m at *
                  go_wp2_with (go_at_call 67; (with_reducible refine (bld_WriteByte w.heap.size w.heap.size _ _ _ HB.out (by rw [Lib.byteCells_length]; have := hlen2; omega) (by have := hbw.out.size; omega)).mono ?_); rintro e w1 ⟨rfl, g1, g2, _⟩; replace g1 := Aside0.mk g1; replace g2 := Aside0.mk g2)
                  go_roundw
                  case rel =>
                    refine ⟨_, _, _, _, _, _, _, _, _, _, _, _, _, _, _, _, _, _, ⟨4, acc2 ++ [b64Let m], by omega, rfl, ⟨?_⟩, ⟨hbw.out.trans g2.out⟩, ⟨?_⟩⟩, rfl⟩
                    · have := g1.out
                      rw [b64Let_at] at this
                      rw [Lib.byteCells_append]
                      exact this
                    · rw [hac2.out, take_get hE.out, List.append_assoc]
                  case measure => exact (show 4 - (intOf (.int .i64 4)).toNat < 4 - (intOf (.int .i64 3)).toNat by decide)
                · have hE := Aside0.mk (show (encPart s.data.toList)[3]? = some 61 by rw [encPart]; simp; omega)
                  go_wp2_with (go_at_call 67; (with_reducible refine (bld_WriteByte w.heap.size w.heap.size _ _ _ HB.out (by rw [Lib.byteCells_length]; have := hlen2; omega) (by have := hbw.out.size; omega)).mono ?_); rintro e w1 ⟨rfl, g1, g2, _⟩; replace g1 := Aside0.mk g1; replace g2 := Aside0.mk g2)
                  go_roundw
                  case rel =>
                    refine ⟨_, _, _, _, _, _, _, _, _, _, _, _, _, _, _, _, _, _, ⟨4, acc2 ++ [61], by omega, rfl, ⟨?_⟩, ⟨hbw.out.trans g2.out⟩, ⟨?_⟩⟩, rfl⟩
                    · have := g1.out
                      rw [Lib.byteCells_append]
                      exact this
                    · rw [hac2.out, take_get hE.out, List.append_assoc]
                  case measure => exact (show 4 - (intOf (.int .i64 4)).toNat < 4 - (intOf (.int .i64 3)).toNat by decide)
            · obtain rfl : i = 4 := by omega
              go_wp2
              go_roundw
              case rel =>
                have hmin : (min 3 (s.size : Int)).toNat = min 3 s.size := by omega
                have hsl : s.data.toList.length = s.size := by simp
                have hps : (encPart s.data.toList).length = 4 := rfl
                refine ⟨s.extract (min 3 (s.size : Int)).toNat s.size, acc2, rfl, by rw [ByteArray.size_extract]; omega, HB, hbw, ⟨?_⟩, ⟨?_⟩⟩
                · rw [hacc.out, b64Enc_step _ (fun h => by rw [h] at hsl; simp at hsl; omega), hac2.out, List.take_of_length_le (by omega), List.append_assoc, hmin, drop_min s]
                · rw [hac2.out, List.length_append, List.length_take, hps, ByteArray.size_extract, hmin]
                  have := hacl.out; omega
              case measure =>
                show (s.extract (min 3 (s.size : Int)).toNat s.size).size < s.size
                rw [ByteArray.size_extract]; omega
end Go.Proofs.YtkklacijhmoopaaDoor.Print
namespace Go.Proofs.YtkklacijhmoopaaDoor.Print
open Go.RowKit Go.Proofs.YtkklacijhmoopaaDoorW.PrintWords Go.Proofs.YtkklacijhmoopaaDoorW.PrintLast Go.Proofs.YtkklacijhmoopaaDoorW.PrintMore
attribute [local go_sem] max2_int min2_int max_two min_two max_three min_three max_four min_four
set_option linter.unusedVariables false
set_option linter.unusedSimpArgs false
def R14Bit.l0 : Nat → Int → Int → Int → Option (Int)
 | 0, _, _, _ => none
 | k + 1, x1, x5, x6 => if x6 < (wrap64 (7 - (Int.tmod x1 8))) then (R14Bit.l0 k x1 (wrap64 (Int.tdiv x5 2)) (wrap64 (x6 + 1))) else (some (Int.tmod x5 2))
def R14Bit.f (k : Nat) (a0 : ByteArray) (a1 : Int) : Option (Int) := if (wrap64 (Int.tdiv a1 8)) ≥ (a0.size : Int) then (some 0) else (if 0 ≤ (wrap64 (Int.tdiv a1 8)) then (if (wrap64 (Int.tdiv a1 8)) < (a0.size : Int) then (R14Bit.l0 k a1 (wrap64 (bt a0 (wrap64 (Int.tdiv a1 8)))) 0) else (none)) else (none))
set_option maxHeartbeats 8000000 in
set_option maxRecDepth 100000 in
theorem R14Bit.calls (k : Nat) (a0 : ByteArray) (a1 : Int) (r : Int) (w : World) (h : R14Bit.f k a0 a1 = some r) :
  Calls Tryd.prog 104 #[.string a0, .int .i64 a1] w fun e w' => e = .returned (.int .i64 r) ∧ Drawn0 w w' := by
 have H : (if (wrap64 (Int.tdiv a1 8)) ≥ (a0.size : Int) then (some 0) else (if 0 ≤ (wrap64 (Int.tdiv a1 8)) then (if (wrap64 (Int.tdiv a1 8)) < (a0.size : Int) then (R14Bit.l0 k a1 (wrap64 (bt a0 (wrap64 (Int.tdiv a1 8)))) 0) else (none)) else (none))) = some r := h
 clear h
 by_cases c3 : (wrap64 (Int.tdiv a1 8)) ≥ (a0.size : Int)
 ·
  rw [if_pos c3] at H
  have c3b0 := decide_eq_true c3
  clear c3
  obtain rfl := Option.some.inj H
  go_enter Tryd.func104, Tryd.ntmps104
  go_wp2
  go_ret
  exact ⟨ap2, ap7⟩
 ·
  rw [if_neg c3] at H
  have c3b0 := decide_eq_false c3
  clear c3
  obtain ⟨ji4, hji4⟩ : ∃ j_ : Int, (wrap64 (Int.tdiv a1 8)) = j_ := ⟨_, rfl⟩
  replace H : (if 0 ≤ (ji4) then (if (ji4) < (a0.size : Int) then (R14Bit.l0 k a1 (wrap64 (bt a0 (ji4))) 0) else (none)) else (none)) = some r := by first | (rw [hji4] at H; exact H) | (simp only [hji4] at H ⊢; exact H)
  (try rw [hji4] at c3b0)
  have hji4w : (IntKind.i64.wrap (Int.tdiv a1 8)) = ji4 := (i64_w _).trans hji4
  by_cases c5 : 0 ≤ (ji4)
  ·
   rw [if_pos c5] at H
   have c5b0 := decide_eq_true c5
   clear c5
   by_cases c6 : (ji4) < (a0.size : Int)
   ·
    rw [if_pos c6] at H
    have c6b0 := decide_eq_true c6
    clear c6
    have H' := Aside0.mk H
    clear H
    have p7 : 0 ≤ ((ji4) : Int) := of_decide_eq_true ap0
    have q7 : (ji4) < (a0.size : Int) := of_decide_eq_true ap0
    have hx7 := bt_at a0 (ji4)
    replace p7 := eq_true p7
    replace q7 := eq_true q7
    go_enter Tryd.func104, Tryd.ntmps104
    go_wp2
    go_loopg [5, 6] k (fun kq v5 v6 w' => ∃ (x5_1 : Int) (x6_1 : Int), v5 = .int .i64 x5_1 ∧ v6 = .int .i64 x6_1 ∧ Aside0 (R14Bit.l0 kq a1 x5_1 x6_1 = some r) ∧ Aside0 (kq ≤ k) ∧ Drawn0 w w')
    case atStart => exact ⟨(wrap64 (bt a0 (ji4))), (0), (by first | rfl | (simp; done) | (simp only [← hji4] <;> (first | rfl | simp)) | (simp [*]; done)), ap2, H', ⟨Nat.le_refl _⟩, by repeat (first | exact Drawn0.refl _ | apply Drawn0.step)⟩
    case round =>
     clear H'
     try clear c1
     try clear p2
     try clear c3
     try clear c3b0
     try clear c5
     try clear c5b0
     try clear c6
     try clear c6b0
     try clear p6
     try clear p7
     try clear q7
     try clear hx7
     try clear p7
     try clear q7
     obtain ⟨x5_1, x6_1, rfl, rfl, HA, HK1, ⟨m1, rfl⟩⟩ := hrel
     cases gk with
     | zero => exact absurd HA.out (by simp [R14Bit.l0])
     | succ k1 =>
      have H := HA.out
      clear HA
      simp only [R14Bit.l0] at H
      by_cases c8 : x6_1 < (wrap64 (7 - (Int.tmod a1 8)))
      ·
       rw [if_pos c8] at H
       have c8b0 := decide_eq_true c8
       clear c8
       have H' := Aside0.mk H
       clear H
       go_wp2
       go_roundg k1
       case measure => have := HK1.out; omega
       case rel => exact ⟨(wrap64 (Int.tdiv x5_1 2)), (wrap64 (x6_1 + 1)), ap2, ap2, H', ⟨by have := HK1.out; omega⟩, by repeat (first | exact Drawn0.refl _ | apply Drawn0.step)⟩
      ·
       rw [if_neg c8] at H
       have c8b0 := decide_eq_false c8
       clear c8
       obtain rfl := Option.some.inj H
       go_wp2
       go_ret
       exact ⟨by first | rfl | (simp; done) | (simp only [← hji4] <;> (first | rfl | simp)) | (simp [*]; done), by repeat (first | exact Drawn0.refl _ | apply Drawn0.step)⟩
   ·
    rw [if_neg c6] at H
    exact absurd H (by simp)
  ·
   rw [if_neg c5] at H
   exact absurd H (by simp)
def R14Letter.f (a0 : Int) : Option (Int) := if a0 < 26 then (some ((wrap64 (65 + a0)) % 256)) else (if a0 < 52 then (some ((wrap64 ((wrap64 (97 + a0)) - 26)) % 256)) else (if a0 < 62 then (some ((wrap64 ((wrap64 (48 + a0)) - 52)) % 256)) else (if a0 = 62 then (some 43) else (some 47))))
set_option maxHeartbeats 8000000 in
set_option maxRecDepth 100000 in
theorem R14Letter.calls (a0 : Int) (r : Int) (w : World) (h : R14Letter.f a0 = some r) :
  Calls Tryd.prog 103 #[.int .i64 a0] w fun e w' => e = .returned (.int .u8 r) ∧ Drawn0 w w' := by
 have H : (if a0 < 26 then (some ((wrap64 (65 + a0)) % 256)) else (if a0 < 52 then (some ((wrap64 ((wrap64 (97 + a0)) - 26)) % 256)) else (if a0 < 62 then (some ((wrap64 ((wrap64 (48 + a0)) - 52)) % 256)) else (if a0 = 62 then (some 43) else (some 47))))) = some r := h
 clear h
 by_cases c2 : a0 < 26
 ·
  rw [if_pos c2] at H
  have c2b0 := decide_eq_true c2
  clear c2
  obtain rfl := Option.some.inj H
  go_enter Tryd.func103, Tryd.ntmps103
  go_wp2
  go_ret
  exact ⟨ap2, ap7⟩
 ·
  rw [if_neg c2] at H
  have c2b0 := decide_eq_false c2
  clear c2
  by_cases c3 : a0 < 52
  ·
   rw [if_pos c3] at H
   have c3b0 := decide_eq_true c3
   clear c3
   obtain rfl := Option.some.inj H
   go_enter Tryd.func103, Tryd.ntmps103
   go_wp2
   go_ret
   exact ⟨ap2, ap7⟩
  ·
   rw [if_neg c3] at H
   have c3b0 := decide_eq_false c3
   clear c3
   by_cases c4 : a0 < 62
   ·
    rw [if_pos c4] at H
    have c4b0 := decide_eq_true c4
    clear c4
    obtain rfl := Option.some.inj H
    go_enter Tryd.func103, Tryd.ntmps103
    go_wp2
    go_ret
    exact ⟨ap2, ap7⟩
   ·
    rw [if_neg c4] at H
    have c4b0 := decide_eq_false c4
    clear c4
    by_cases c5 : a0 = 62
    ·
     rw [if_pos c5] at H
     have c5b0 : (a0 == 62) = true := beq_iff_eq.mpr c5
     have c5b1 : (a0 != 62) = false := bne_eq_false_iff_eq.mpr c5
     clear c5
     obtain rfl := Option.some.inj H
     go_enter Tryd.func103, Tryd.ntmps103
     go_wp2
     go_ret
     exact ⟨ap2, ap7⟩
    ·
     rw [if_neg c5] at H
     have c5b0 : (a0 == 62) = false := beq_eq_false_iff_ne.mpr c5
     have c5b1 : (a0 != 62) = true := bne_iff_ne.mpr c5
     obtain rfl := Option.some.inj H
     go_enter Tryd.func103, Tryd.ntmps103
     go_wp2
     go_ret
     exact ⟨ap2, ap7⟩
mutual
def R14Encode.l0 : Nat → ByteArray → List Int → Int → Option (ByteArray)
 | 0, _, _, _ => none
 | k + 1, x0, x3, x4 => if x4 < (wrap64 (8 * (x0.size : Int))) then (R14Encode.l1 k x0 x3 x4 0 0) else (R14Encode.l2 k x3)
def R14Encode.l1 : Nat → ByteArray → List Int → Int → Int → Int → Option (ByteArray)
 | 0, _, _, _, _, _ => none
 | k + 1, x0, x3, x4, x5, x6 => if x6 < 6 then ((R14Bit.f k x0 (wrap64 (x4 + x6))).bind fun t203 => (R14Encode.l1 k x0 x3 x4 (wrap64 ((wrap64 (2 * x5)) + t203)) (wrap64 (x6 + 1)))) else ((R14Letter.f x5).bind fun t204 => (if x3.length < 140737488355328 then (R14Encode.l0 k x0 (x3 ++ [t204]) (wrap64 (x4 + 6))) else (none)))
def R14Encode.l2 : Nat → List Int → Option (ByteArray)
 | 0, _ => none
 | k + 1, x3 => if ((x3.length : Int) % 4) = 0 then (some (strOfNums x3)) else (if x3.length < 140737488355328 then (R14Encode.l2 k (x3 ++ [61])) else (none))
end
def R14Encode.f (k : Nat) (a0 : ByteArray) : Option (ByteArray) := R14Encode.l0 k a0 (([] : List Int)) 0
set_option maxHeartbeats 8000000 in
set_option maxRecDepth 100000 in
theorem R14Encode.calls (k : Nat) (a0 : ByteArray) (r : ByteArray) (w : World) (h : R14Encode.f k a0 = some r) :
  Calls Tryd.prog 86 #[.string a0] w fun e w' => e = .returned (.string r) ∧ Below w.heap.size w w' := by
 have HB := Aside0.mk (Below.refl w.heap.size w)
 have H : (R14Encode.l0 k a0 (([] : List Int)) 0) = some r := h
 clear h
 obtain ⟨y200, hy200⟩ : ∃ y_ : List Int, y_ = (([] : List Int)) := ⟨_, rfl⟩
 replace H : (R14Encode.l0 k a0 y200 0) = some r := by first | (rw [hy200]; with_reducible exact H) | (have H2_ := (Option.bind_some _ _).symm.trans H; rw [hy200]; with_reducible exact H2_) | (have H2_ := (Option.bind_some _ _).symm.trans H; with_reducible exact H2_) | with_reducible exact H | (rw [hy200]; exact H) | exact H
 have Ny200 := Aside0.mk hy200
 clear hy200
 have H' := Aside0.mk H
 clear H
 go_enter Tryd.func86, Tryd.ntmps86
 go_wp2_with (first | ((with_reducible refine gate_dst (N := 7) rfl ?_); refine Kd.R_lit (Kd.int .u8) _ 5 ?hg (N := 7) ?hd (xs := ([] : List Int)) (inner := []) (ok := fun _ => True) (okp := fun _ => True) ?hr ?hp (fun _ hk => hk) trivial (Below.refl _ _) (Nat.le_refl _) (by simp) ?_; (case hd => rfl); (case hg => rfl); (case hr => first | (go_simp; done) | (go_simp; rfl)); (case hp => exact (Reps.none _ _)); intro v201 w2 ho3 hb hg_ hnew_; clear hg_ hnew_; (first | rw [← Ny200.out] at ho3 | (simp only [Int.reduceToNat] at ho3; rw [← Ny200.out] at ho3)); have n0_ := Aside0.mk (Kd.R_lower ho3 (below_size ap1)); have n1_ := Aside0.mk (below_step ap1 hb); clear HB; have HO202 := n0_; have HB := n1_; clear n0_ n1_; clear hb ho3))
 go_loopg [3, 4] k (fun kq v3 v4 w' => ∃ (x3_1 : List Int) (x4_1 : Int), v4 = .int .i64 x4_1 ∧ Aside0 (R14Encode.l0 kq a0 x3_1 x4_1 = some r) ∧ Aside0 (kq ≤ k) ∧ Aside0 (Kd.R (Kd.int .u8) 5 w' w.heap.size (fun _ => True) v3 x3_1) ∧ Aside0 (Below w.heap.size w w'))
 case atStart => exact ⟨(y200), (0), ap2, H', ⟨Nat.le_refl _⟩, ⟨by (with_reducible repeat (first | apply Kd.R_alloc | apply Kd.R_drewN | apply Kd.R_drew)); exact HO202.out⟩, ⟨by repeat (first | (with_reducible first | exact HB.out | apply below_alloc | apply pw_below_drewN | apply below_drew1) | exact HB.out)⟩⟩
 case round =>
  clear H'
  try clear p2
  obtain ⟨x3_1, x4_1, rfl, HA, HK1, HO_3, HB⟩ := hrel
  cases gk with
  | zero => exact absurd HA.out (by simp [R14Encode.l0])
  | succ k1 =>
   have H := HA.out
   clear HA
   simp only [R14Encode.l0] at H
   by_cases c4 : x4_1 < (wrap64 (8 * (a0.size : Int)))
   ·
    rw [if_pos c4] at H
    have c4b0 := decide_eq_true c4
    clear c4
    have H' := Aside0.mk H
    clear H
    go_wp2
    go_loopg [5, 6] k1 (fun kq v5 v6 w' => ∃ (x5_2 : Int) (x6_2 : Int), v5 = .int .i64 x5_2 ∧ v6 = .int .i64 x6_2 ∧ Aside0 (R14Encode.l1 kq a0 x3_1 x4_1 x5_2 x6_2 = some r) ∧ Aside0 (kq ≤ k1) ∧ Aside0 (Kd.R (Kd.int .u8) 5 w' w.heap.size (fun _ => True) u3 x3_1) ∧ Aside0 (Below w.heap.size w w'))
    case atStart => exact ⟨(0), (0), ap2, ap2, H', ⟨Nat.le_refl _⟩, ⟨by (with_reducible repeat (first | apply Kd.R_alloc | apply Kd.R_drewN | apply Kd.R_drew)); exact HO_3.out⟩, ⟨by repeat (first | (with_reducible first | exact HB.out | apply below_alloc | apply pw_below_drewN | apply below_drew1) | exact HB.out)⟩⟩
    case round =>
     clear H'
     try clear p2
     try clear c4
     try clear c4b0
     try clear p2
     obtain ⟨x5_2, x6_2, rfl, rfl, HA, HK2, HO_3, HB⟩ := hrel
     cases gk with
     | zero => exact absurd HA.out (by simp [R14Encode.l1])
     | succ k2 =>
      have H := HA.out
      clear HA
      simp only [R14Encode.l1] at H
      by_cases c5 : x6_2 < 6
      ·
       rw [if_pos c5] at H
       have c5b0 := decide_eq_true c5
       clear c5
       replace H := Option.bind_eq_some_iff.mp H
       obtain ⟨t203, A60, H⟩ := H
       replace H : (R14Encode.l1 k2 a0 x3_1 x4_1 (wrap64 ((wrap64 (2 * x5_2)) + t203)) (wrap64 (x6_2 + 1))) = some r := H
       have A6 := Aside0.mk A60
       clear A60
       have H' := Aside0.mk H
       clear H
       go_wp2_with (first | ((with_reducible refine gate_callee (f := 104) rfl ?_); refine goesL_ (some 25) rfl rfl Tryd.func104 (by kernel_rfl) rfl #[.string a0, .int .i64 (wrap64 (x4_1 + x6_2))] rfl ap3 ?_; (with_reducible refine (R14Bit.calls k2 a0 (wrap64 (x4_1 + x6_2)) t203 _ A6.out).mono ?_); rintro e w' ⟨rfl, ⟨nd, rfl⟩⟩; refine ⟨_, rfl, ?_⟩))
       go_roundg k2
       case measure => have := HK1.out; have := HK2.out; omega
       case rel => exact ⟨(wrap64 ((wrap64 (2 * x5_2)) + t203)), (wrap64 (x6_2 + 1)), ap2, ap2, H', ⟨by have := HK1.out; have := HK2.out; omega⟩, ⟨by (with_reducible repeat (first | apply Kd.R_alloc | apply Kd.R_drewN | apply Kd.R_drew)); exact HO_3.out⟩, ⟨by repeat (first | (with_reducible first | exact HB.out | apply below_alloc | apply pw_below_drewN | apply below_drew1) | exact HB.out)⟩⟩
      ·
       rw [if_neg c5] at H
       have c5b0 := decide_eq_false c5
       clear c5
       replace H := Option.bind_eq_some_iff.mp H
       obtain ⟨t204, A70, H⟩ := H
       replace H : (if x3_1.length < 140737488355328 then (R14Encode.l0 k2 a0 (x3_1 ++ [t204]) (wrap64 (x4_1 + 6))) else (none)) = some r := H
       have A7 := Aside0.mk A70
       clear A70
       by_cases c8 : x3_1.length < 140737488355328
       ·
        rw [if_pos c8] at H
        have LMc8 := Aside0.mk c8
        clear c8
        obtain ⟨y205, hy205⟩ : ∃ y_ : List Int, y_ = (x3_1 ++ [t204]) := ⟨_, rfl⟩
        replace H : (R14Encode.l0 k2 a0 y205 (wrap64 (x4_1 + 6))) = some r := by first | (rw [hy205]; with_reducible exact H) | (have H2_ := (Option.bind_some _ _).symm.trans H; rw [hy205]; with_reducible exact H2_) | (have H2_ := (Option.bind_some _ _).symm.trans H; with_reducible exact H2_) | with_reducible exact H | (rw [hy205]; exact H) | exact H
        have Ny205 := Aside0.mk hy205
        clear hy205
        have H' := Aside0.mk H
        clear H
        go_wp2_with (first | ((with_reducible refine gate_callee (f := 103) rfl ?_); refine goesL_ (some 29) rfl rfl Tryd.func103 (by kernel_rfl) rfl #[.int .i64 x5_2] rfl ap3 ?_; (with_reducible refine (R14Letter.calls x5_2 t204 _ A7.out).mono ?_); rintro e w' ⟨rfl, ⟨nd, rfl⟩⟩; refine ⟨_, rfl, ?_⟩) | ((with_reducible refine gate_builtin (b := .append) (xs := #[.tmp 27, .tmp 30]) rfl ?_); at_builtin; refine Kd.R_append (Kd.int .u8) (w0 := w) w.heap.size rfl (.tmp 27) (.tmp 30) 72 5 (.int .u8 0) 1 rfl Tryd.underlying72 info5 rfl (by decide) (by omega) u3 x3_1 t204 [.int .u8 t204] (fun _ => True) (fun _ => False) rfl rfl ?aP (fun _ hk => hk.elim) ?aF ?aO ?aB ?aS ?aL ?_; (case aP => exact rfl); (case aB => exact ap1); (case aF => exact (fun _ _ => trivial)); (case aO => exact (apAR HO_3.out)); (case aS => exact (below_size ap1)); (case aL => have := LMc8.out; omega); intro v206 w9 ho hb hg hat; rw [← Ny205.out] at ho; have n0_ := Aside0.mk (hb); have n1_ := Aside0.mk (ho); clear HB; clear HO_3; have HB := n0_; have HO207 := n1_; clear n0_ n1_; clear ho hb hg hat))
        go_roundg k2
        case measure => have := HK1.out; have := HK2.out; omega
        case rel => exact ⟨(y205), (wrap64 (x4_1 + 6)), ap2, H', ⟨by have := HK1.out; have := HK2.out; omega⟩, ⟨by (with_reducible repeat (first | apply Kd.R_alloc | apply Kd.R_drewN | apply Kd.R_drew)); exact HO207.out⟩, ⟨by repeat (first | (with_reducible first | exact HB.out | apply below_alloc | apply pw_below_drewN | apply below_drew1) | exact HB.out)⟩⟩
       ·
        rw [if_neg c8] at H
        exact absurd H (by simp)
   ·
    rw [if_neg c4] at H
    have c4b0 := decide_eq_false c4
    clear c4
    have H' := Aside0.mk H
    clear H
    go_wp2
    go_loopg [3] k1 (fun kq v3 w' => ∃ (x3_2 : List Int), Aside0 (R14Encode.l2 kq x3_2 = some r) ∧ Aside0 (kq ≤ k1) ∧ Aside0 (Kd.R (Kd.int .u8) 5 w' w.heap.size (fun _ => True) v3 x3_2) ∧ Aside0 (Below w.heap.size w w'))
    case atStart => exact ⟨(x3_1), H', ⟨Nat.le_refl _⟩, ⟨by (with_reducible repeat (first | apply Kd.R_alloc | apply Kd.R_drewN | apply Kd.R_drew)); exact HO_3.out⟩, ⟨by repeat (first | (with_reducible first | exact HB.out | apply below_alloc | apply pw_below_drewN | apply below_drew1) | exact HB.out)⟩⟩
    case round =>
     clear H'
     try clear c1
     try clear p2
     try clear c4
     try clear c4b0
     try clear c5
     try clear c5b0
     try clear p6
     try clear c8
     try clear p2
     obtain ⟨x3_2, HA, HK2, HO_3, HB⟩ := hrel
     cases gk with
     | zero => exact absurd HA.out (by simp [R14Encode.l2])
     | succ k2 =>
      have H := HA.out
      clear HA
      simp only [R14Encode.l2] at H
      by_cases c10 : ((x3_2.length : Int) % 4) = 0
      ·
       rw [if_pos c10] at H
       have c10b0 : (((x3_2.length : Int) % 4) == 0) = true := beq_iff_eq.mpr c10
       have c10b1 : (((x3_2.length : Int) % 4) != 0) = false := bne_eq_false_iff_eq.mpr c10
       clear c10
       obtain rfl := Option.some.inj H
       obtain ⟨Ao11, co11, eo11⟩ := Kd.R_slice HO_3.out
       subst eo11
       have hcv12 := own_string (P := Tryd.prog) Tryd.underlying72 Tryd.underlying5 Tryd.underlying9 (Kd.own_of_R HO_3.out)
       go_wp2
       go_ret
       exact ⟨by first | rfl | (simp [errW_none, errW_some, bne_nil8, beq_nil8]; done) | (simp [errW_none, errW_some] <;> rfl) | (simp [*, errW_none, errW_some] <;> rfl), by repeat (first | (with_reducible first | exact HB.out | apply below_alloc | apply pw_below_drewN | apply below_drew1) | exact HB.out)⟩
      ·
       rw [if_neg c10] at H
       have c10b0 : (((x3_2.length : Int) % 4) == 0) = false := beq_eq_false_iff_ne.mpr c10
       have c10b1 : (((x3_2.length : Int) % 4) != 0) = true := bne_iff_ne.mpr c10
       by_cases c13 : x3_2.length < 140737488355328
       ·
        rw [if_pos c13] at H
        have LMc13 := Aside0.mk c13
        clear c13
        obtain ⟨y208, hy208⟩ : ∃ y_ : List Int, y_ = (x3_2 ++ [61]) := ⟨_, rfl⟩
        replace H : (R14Encode.l2 k2 y208) = some r := by first | (rw [hy208]; with_reducible exact H) | (have H2_ := (Option.bind_some _ _).symm.trans H; rw [hy208]; with_reducible exact H2_) | (have H2_ := (Option.bind_some _ _).symm.trans H; with_reducible exact H2_) | with_reducible exact H | (rw [hy208]; exact H) | exact H
        have Ny208 := Aside0.mk hy208
        clear hy208
        have H' := Aside0.mk H
        clear H
        obtain ⟨Ao14, co14, eo14⟩ := Kd.R_slice HO_3.out
        subst eo14
        go_wp2_with (first | ((with_reducible refine gate_builtin (b := .append) (xs := #[.tmp 36, .tmp 37]) rfl ?_); at_builtin; refine Kd.R_append (Kd.int .u8) (w0 := w) w.heap.size rfl (.tmp 36) (.tmp 37) 72 5 (.int .u8 0) 1 rfl Tryd.underlying72 info5 rfl (by decide) (by omega) (.slice Ao14 x3_2.length co14) x3_2 61 [.int .u8 61] (fun _ => True) (fun _ => False) rfl rfl ?aP (fun _ hk => hk.elim) ?aF ?aO ?aB ?aS ?aL ?_; (case aP => exact rfl); (case aB => exact ap1); (case aF => exact (fun _ _ => trivial)); (case aO => exact (apAR HO_3.out)); (case aS => exact (below_size ap1)); (case aL => have := LMc13.out; omega); intro v209 w15 ho hb hg hat; rw [← Ny208.out] at ho; have n0_ := Aside0.mk (hb); have n1_ := Aside0.mk (ho); clear HB; clear HO_3; have HB := n0_; have HO210 := n1_; clear n0_ n1_; clear ho hb hg hat))
        go_roundg k2
        case measure => have := HK1.out; have := HK2.out; omega
        case rel => exact ⟨(y208), H', ⟨by have := HK1.out; have := HK2.out; omega⟩, ⟨by (with_reducible repeat (first | apply Kd.R_alloc | apply Kd.R_drewN | apply Kd.R_drew)); exact HO210.out⟩, ⟨by repeat (first | (with_reducible first | exact HB.out | apply below_alloc | apply pw_below_drewN | apply below_drew1) | exact HB.out)⟩⟩
       ·
        rw [if_neg c13] at H
        exact absurd H (by simp)
def R14Number.l0 : Nat → Int → Int → Option (Int)
 | 0, _, _ => none
 | k + 1, x0, x3 => if x3 < 64 then ((R14Letter.f x3).bind fun t199 => (if t199 = x0 then (some x3) else (R14Number.l0 k x0 (wrap64 (x3 + 1))))) else (some (-1))
def R14Number.f (k : Nat) (a0 : Int) : Option (Int) := R14Number.l0 k a0 0
theorem R14Number.mono_l : ∀ k, (∀ y0 y1, LeO (R14Number.l0 k y0 y1) (R14Number.l0 (k + 1) y0 y1))
 | 0 => fun _ _ r h => by simp [R14Number.l0] at h
 | k + 1 => by
  have ih0 := R14Number.mono_l k
  ·
   intro y0 y1
   unfold R14Number.l0
   repeat' first
   | (with_reducible exact ih0 _ _)
   | (with_reducible exact LeO.refl _)
   | (with_reducible exact LeO.none _)
   | (with_reducible refine LeO.ite ?_ ?_)
   | (with_reducible refine LeO.bind ?_ (fun _ => ?_))
theorem R14Number.mono : ∀ a0 k, LeO (R14Number.f k a0) (R14Number.f (k + 1) a0) := by
 intro a0 k
 have ih0 := R14Number.mono_l k
 unfold R14Number.f
 repeat' first
   | (with_reducible exact ih0 _ _)
   | (with_reducible exact LeO.refl _)
   | (with_reducible exact LeO.none _)
   | (with_reducible refine LeO.ite ?_ ?_)
   | (with_reducible refine LeO.bind ?_ (fun _ => ?_))
set_option maxHeartbeats 8000000 in
set_option maxRecDepth 100000 in
theorem R14Number.calls (k : Nat) (a0 : Int) (r : Int) (w : World) (h : R14Number.f k a0 = some r) :
  Calls Tryd.prog 85 #[.int .u8 a0] w fun e w' => e = .returned (.int .i64 r) ∧ Drawn0 w w' := by
 have H : (R14Number.l0 k a0 0) = some r := h
 clear h
 have H' := Aside0.mk H
 clear H
 go_enter Tryd.func85, Tryd.ntmps85
 go_wp2
 go_loopg [3] k (fun kq v3 w' => ∃ (x3_1 : Int), v3 = .int .i64 x3_1 ∧ Aside0 (R14Number.l0 kq a0 x3_1 = some r) ∧ Aside0 (kq ≤ k) ∧ Drawn0 w w')
 case atStart => exact ⟨(0), ap2, H', ⟨Nat.le_refl _⟩, by repeat (first | exact Drawn0.refl _ | apply Drawn0.step)⟩
 case round =>
  clear H'
  obtain ⟨x3_1, rfl, HA, HK1, ⟨m1, rfl⟩⟩ := hrel
  cases gk with
  | zero => exact absurd HA.out (by simp [R14Number.l0])
  | succ k1 =>
   have H := HA.out
   clear HA
   simp only [R14Number.l0] at H
   by_cases c2 : x3_1 < 64
   ·
    rw [if_pos c2] at H
    have c2b0 := decide_eq_true c2
    clear c2
    replace H := Option.bind_eq_some_iff.mp H
    obtain ⟨t199, A30, H⟩ := H
    replace H : (if t199 = a0 then (some x3_1) else (R14Number.l0 k1 a0 (wrap64 (x3_1 + 1)))) = some r := H
    have A3 := Aside0.mk A30
    clear A30
    by_cases c4 : t199 = a0
    ·
     rw [if_pos c4] at H
     have c4b0 : (t199 == a0) = true := beq_iff_eq.mpr c4
     have c4b1 : (t199 != a0) = false := bne_eq_false_iff_eq.mpr c4
     clear c4
     obtain rfl := Option.some.inj H
     go_wp2_with (first | ((with_reducible refine gate_callee (f := 103) rfl ?_); refine goesL_ (some 9) rfl rfl Tryd.func103 (by kernel_rfl) rfl #[.int .i64 x3_1] rfl ap3 ?_; (with_reducible refine (R14Letter.calls x3_1 t199 _ A3.out).mono ?_); rintro e w' ⟨rfl, ⟨nd, rfl⟩⟩; refine ⟨_, rfl, ?_⟩))
     go_ret
     exact ⟨ap2, ap7⟩
    ·
     rw [if_neg c4] at H
     have c4b0 : (t199 == a0) = false := beq_eq_false_iff_ne.mpr c4
     have c4b1 : (t199 != a0) = true := bne_iff_ne.mpr c4
     have H' := Aside0.mk H
     clear H
     go_wp2_with (first | ((with_reducible refine gate_callee (f := 103) rfl ?_); refine goesL_ (some 9) rfl rfl Tryd.func103 (by kernel_rfl) rfl #[.int .i64 x3_1] rfl ap3 ?_; (with_reducible refine (R14Letter.calls x3_1 t199 _ A3.out).mono ?_); rintro e w' ⟨rfl, ⟨nd, rfl⟩⟩; refine ⟨_, rfl, ?_⟩))
     go_roundg k1
     case measure => have := HK1.out; omega
     case rel => exact ⟨(wrap64 (x3_1 + 1)), ap2, H', ⟨by have := HK1.out; omega⟩, by repeat (first | exact Drawn0.refl _ | apply Drawn0.step)⟩
   ·
    rw [if_neg c2] at H
    have c2b0 := decide_eq_false c2
    clear c2
    obtain rfl := Option.some.inj H
    go_wp2
    go_ret
    exact ⟨ap2, ap7⟩
mutual
def R14Decode.l0 : Nat → ByteArray → List Int → Int → Int → Int → Option (ByteArray × Int)
 | 0, _, _, _, _, _ => none
 | k + 1, x0, x4, x5, x6, x7 => if x7 < (x0.size : Int) then (if 0 ≤ x7 then (R14Decode.j1 k x0 x4 x5 x6 x7 ((bt x0 x7) != 61)) else (none)) else (R14Decode.j1 k x0 x4 x5 x6 x7 false)
def R14Decode.j1 : Nat → ByteArray → List Int → Int → Int → Int → Bool → Option (ByteArray × Int)
 | 0, _, _, _, _, _, _ => none
 | k + 1, x0, x4, x5, x6, x7, x21 => if x21 = true then (if 0 ≤ x7 then (if x7 < (x0.size : Int) then ((R14Number.f k (bt x0 x7)).bind fun t215 => (if t215 < 0 then (some ((⟨#[]⟩ : ByteArray), 4)) else (if (wrap64 (x6 + 6)) ≥ 8 then (R14Decode.l1 k x0 x4 (wrap64 ((wrap64 (x5 * 64)) + t215)) (wrap64 (x6 + 6)) x7 1 8) else (R14Decode.l0 k x0 x4 (wrap64 ((wrap64 (x5 * 64)) + t215)) (wrap64 (x6 + 6)) (wrap64 (x7 + 1)))))) else (none)) else (none)) else ((R14Encode.f k (strOfNums x4)).bind fun t214 => (if t214.toList = x0.toList then (some (strOfNums x4, 0)) else (some ((⟨#[]⟩ : ByteArray), 4))))
def R14Decode.l1 : Nat → ByteArray → List Int → Int → Int → Int → Int → Int → Option (ByteArray × Int)
 | 0, _, _, _, _, _, _, _ => none
 | k + 1, x0, x4, x5, x6, x7, x9, x10 => if x10 < x6 then (R14Decode.l1 k x0 x4 x5 x6 x7 (wrap64 (x9 * 2)) (wrap64 (x10 + 1))) else (if x9 = 0 then (none) else (if x4.length < 140737488355328 then (R14Decode.l0 k x0 (x4 ++ [(wrap64 (Int.tdiv x5 x9)) % 256]) (Int.tmod x5 x9) (wrap64 (x6 - 8)) (wrap64 (x7 + 1))) else (none)))
end
def R14Decode.f (k : Nat) (a0 : ByteArray) : Option (ByteArray × Int) := R14Decode.l0 k a0 (([] : List Int)) 0 0 0
set_option maxHeartbeats 8000000 in
set_option maxRecDepth 100000 in
theorem R14Decode.calls (k : Nat) (a0 : ByteArray) (r1 : ByteArray) (r2 : Int) (w : World) (h : R14Decode.f k a0 = some (r1, r2)) :
  Calls Tryd.prog 57 #[.string a0] w fun e w' => e = .returned (.tuple #[.string r1, .int .i64 r2]) ∧ Below w.heap.size w w' := by
 have HB := Aside0.mk (Below.refl w.heap.size w)
 have H : (R14Decode.l0 k a0 (([] : List Int)) 0 0 0) = some (r1, r2) := h
 clear h
 obtain ⟨y211, hy211⟩ : ∃ y_ : List Int, y_ = (([] : List Int)) := ⟨_, rfl⟩
 replace H : (R14Decode.l0 k a0 y211 0 0 0) = some (r1, r2) := by first | (rw [hy211]; with_reducible exact H) | (have H2_ := (Option.bind_some _ _).symm.trans H; rw [hy211]; with_reducible exact H2_) | (have H2_ := (Option.bind_some _ _).symm.trans H; with_reducible exact H2_) | with_reducible exact H | (rw [hy211]; exact H) | exact H
 have Ny211 := Aside0.mk hy211
 clear hy211
 have H' := Aside0.mk H
 clear H
 go_enter Tryd.func57, Tryd.ntmps57
 go_wp2_with (first | ((with_reducible refine gate_dst (N := 11) rfl ?_); refine Kd.R_lit (Kd.int .u8) _ 5 ?hg (N := 11) ?hd (xs := ([] : List Int)) (inner := []) (ok := fun _ => True) (okp := fun _ => True) ?hr ?hp (fun _ hk => hk) trivial (Below.refl _ _) (Nat.le_refl _) (by simp) ?_; (case hd => rfl); (case hg => rfl); (case hr => first | (go_simp; done) | (go_simp; rfl)); (case hp => exact (Reps.none _ _)); intro v212 w2 ho3 hb hg_ hnew_; clear hg_ hnew_; (first | rw [← Ny211.out] at ho3 | (simp only [Int.reduceToNat] at ho3; rw [← Ny211.out] at ho3)); have n0_ := Aside0.mk (Kd.R_lower ho3 (below_size ap1)); have n1_ := Aside0.mk (below_step ap1 hb); clear HB; have HO213 := n0_; have HB := n1_; clear n0_ n1_; clear hb ho3))
 go_loopg [4, 5, 6, 7] k (fun kq v4 v5 v6 v7 w' => ∃ (x4_1 : List Int) (x5_1 : Int) (x6_1 : Int) (x7_1 : Int), v5 = .int .i64 x5_1 ∧ v6 = .int .i64 x6_1 ∧ v7 = .int .i64 x7_1 ∧ Aside0 (R14Decode.l0 kq a0 x4_1 x5_1 x6_1 x7_1 = some (r1, r2)) ∧ Aside0 (kq ≤ k) ∧ Aside0 (Kd.R (Kd.int .u8) 5 w' w.heap.size (fun _ => True) v4 x4_1) ∧ Aside0 (Below w.heap.size w w'))
 case atStart => exact ⟨(y211), (0), (0), (0), ap2, ap2, ap2, H', ⟨Nat.le_refl _⟩, ⟨by (with_reducible repeat (first | apply Kd.R_alloc | apply Kd.R_drewN | apply Kd.R_drew)); exact HO213.out⟩, ⟨by repeat (first | (with_reducible first | exact HB.out | apply below_alloc | apply pw_below_drewN | apply below_drew1) | exact HB.out)⟩⟩
 case round =>
  clear H'
  try clear p2
  obtain ⟨x4_1, x5_1, x6_1, x7_1, rfl, rfl, rfl, HA, HK1, HO_4, HB⟩ := hrel
  cases gk with
  | zero => exact absurd HA.out (by simp [R14Decode.l0])
  | succ k1 =>
   have H := HA.out
   clear HA
   simp only [R14Decode.l0] at H
   have HC4 := Aside0.mk H
   clear H
   go_upto_region 5 with (fail)
   go_cut [21] (fun v21 wc => ∃ (kq : Nat) (x21_3 : Bool), v21 = .bool x21_3 ∧ Aside0 (R14Decode.j1 kq a0 x4_1 x5_1 x6_1 x7_1 x21_3 = some (r1, r2)) ∧ Aside0 (kq ≤ k1) ∧ Aside0 (Kd.R (Kd.int .u8) 5 wc w.heap.size (fun _ => True) u4 x4_1) ∧ Aside0 (Below w.heap.size w wc))
   case first =>
    have H := HC4.out
    clear HC4
    by_cases c5 : x7_1 < (a0.size : Int)
    ·
     rw [if_pos c5] at H
     have c5b0 := decide_eq_true c5
     clear c5
     (first | rw [c5b0] | (simp only [i64_w, i32_w]; rw [c5b0]) | skip)
     by_cases c6 : 0 ≤ x7_1
     ·
      rw [if_pos c6] at H
      have c6b0 := decide_eq_true c6
      clear c6
      have H' := Aside0.mk H
      clear H
      have p7 : 0 ≤ (x7_1 : Int) := of_decide_eq_true ap0
      have q7 : x7_1 < (a0.size : Int) := of_decide_eq_true ap0
      have hx7 := bt_at a0 x7_1
      replace p7 := eq_true p7
      replace q7 := eq_true q7
      go_wp2
      go_meet
      case rel => exact ⟨_, (((bt a0 x7_1) != 61)), ap2, H', ⟨by have := HK1.out; first | omega | exact Nat.le_refl _⟩, ⟨by (with_reducible repeat (first | apply Kd.R_alloc | apply Kd.R_drewN | apply Kd.R_drew)); exact HO_4.out⟩, ⟨by repeat (first | (with_reducible first | exact HB.out | apply below_alloc | apply pw_below_drewN | apply below_drew1) | exact HB.out)⟩⟩
     ·
      rw [if_neg c6] at H
      exact absurd H (by simp)
    ·
     rw [if_neg c5] at H
     have c5b0 := decide_eq_false c5
     clear c5
     (first | rw [c5b0] | (simp only [i64_w, i32_w]; rw [c5b0]) | skip)
     have H' := Aside0.mk H
     clear H
     go_wp2
     go_meet
     case rel => exact ⟨_, (false), ap2, H', ⟨by have := HK1.out; first | omega | exact Nat.le_refl _⟩, ⟨by (with_reducible repeat (first | apply Kd.R_alloc | apply Kd.R_drewN | apply Kd.R_drew)); exact HO_4.out⟩, ⟨by repeat (first | (with_reducible first | exact HB.out | apply below_alloc | apply pw_below_drewN | apply below_drew1) | exact HB.out)⟩⟩
   case rest =>
    clear HC4
    try clear p2
    try clear c5
    try clear c5b0
    try clear c6
    try clear c6b0
    try clear p7
    try clear q7
    try clear hx7
    try clear p2
    try clear p7
    try clear q7
    obtain ⟨kq, x21_3, rfl, HA, HJ3, HO_4, HB⟩ := hcut
    cases kq with
    | zero => exact absurd HA.out (by simp [R14Decode.j1])
    | succ kj3 =>
     have H := HA.out
     clear HA
     simp only [R14Decode.j1] at H
     by_cases c8 : x21_3 = true
     ·
      subst c8
      rw [if_pos rfl] at H
      by_cases c9 : 0 ≤ x7_1
      ·
       rw [if_pos c9] at H
       have c9b0 := decide_eq_true c9
       clear c9
       by_cases c10 : x7_1 < (a0.size : Int)
       ·
        rw [if_pos c10] at H
        have c10b0 := decide_eq_true c10
        clear c10
        replace H := Option.bind_eq_some_iff.mp H
        obtain ⟨t215, A120, H⟩ := H
        replace H : (if t215 < 0 then (some ((⟨#[]⟩ : ByteArray), 4)) else (if (wrap64 (x6_1 + 6)) ≥ 8 then (R14Decode.l1 kj3 a0 x4_1 (wrap64 ((wrap64 (x5_1 * 64)) + t215)) (wrap64 (x6_1 + 6)) x7_1 1 8) else (R14Decode.l0 kj3 a0 x4_1 (wrap64 ((wrap64 (x5_1 * 64)) + t215)) (wrap64 (x6_1 + 6)) (wrap64 (x7_1 + 1))))) = some (r1, r2) := H
        have A12 := Aside0.mk A120
        clear A120
        by_cases c13 : t215 < 0
        ·
         rw [if_pos c13] at H
         have c13b0 := decide_eq_true c13
         clear c13
         simp only [Option.some.injEq, Prod.mk.injEq] at H
         obtain ⟨rfl, rfl⟩ := H
         have p11 : 0 ≤ (x7_1 : Int) := of_decide_eq_true ap0
         have q11 : x7_1 < (a0.size : Int) := of_decide_eq_true ap0
         have hx11 := bt_at a0 x7_1
         replace p11 := eq_true p11
         replace q11 := eq_true q11
         go_wp2_with (first | ((with_reducible refine gate_callee (f := 85) rfl ?_); refine goesL_ (some 27) rfl rfl Tryd.func85 (by kernel_rfl) rfl #[.int .u8 (bt a0 x7_1)] rfl ap3 ?_; (with_reducible refine (R14Number.calls kj3 (bt a0 x7_1) t215 _ A12.out).mono ?_); rintro e w' ⟨rfl, ⟨nd, rfl⟩⟩; refine ⟨_, rfl, ?_⟩))
         go_ret2
         exact ⟨by first | rfl | (simp [errW_none, errW_some, bne_nil8, beq_nil8]; done) | (simp [errW_none, errW_some] <;> rfl) | (simp [*, errW_none, errW_some] <;> rfl), by repeat (first | (with_reducible first | exact HB.out | apply below_alloc | apply pw_below_drewN | apply below_drew1) | exact HB.out)⟩
        ·
         rw [if_neg c13] at H
         have c13b0 := decide_eq_false c13
         clear c13
         by_cases c14 : (wrap64 (x6_1 + 6)) ≥ 8
         ·
          rw [if_pos c14] at H
          have c14b0 := decide_eq_true c14
          clear c14
          have H' := Aside0.mk H
          clear H
          have p11 : 0 ≤ (x7_1 : Int) := of_decide_eq_true ap0
          have q11 : x7_1 < (a0.size : Int) := of_decide_eq_true ap0
          have hx11 := bt_at a0 x7_1
          replace p11 := eq_true p11
          replace q11 := eq_true q11
          go_wp2_with (first | ((with_reducible refine gate_callee (f := 85) rfl ?_); refine goesL_ (some 27) rfl rfl Tryd.func85 (by kernel_rfl) rfl #[.int .u8 (bt a0 x7_1)] rfl ap3 ?_; (with_reducible refine (R14Number.calls kj3 (bt a0 x7_1) t215 _ A12.out).mono ?_); rintro e w' ⟨rfl, ⟨nd, rfl⟩⟩; refine ⟨_, rfl, ?_⟩))
          go_loopg [9, 10] kj3 (fun kq v9 v10 w' => ∃ (x9_3 : Int) (x10_3 : Int), v9 = .int .i64 x9_3 ∧ v10 = .int .i64 x10_3 ∧ Aside0 (R14Decode.l1 kq a0 x4_1 (wrap64 ((wrap64 (x5_1 * 64)) + t215)) (wrap64 (x6_1 + 6)) x7_1 x9_3 x10_3 = some (r1, r2)) ∧ Aside0 (kq ≤ kj3) ∧ Aside0 (Kd.R (Kd.int .u8) 5 w' w.heap.size (fun _ => True) u4 x4_1) ∧ Aside0 (Below w.heap.size w w'))
          case atStart => exact ⟨(1), (8), ap2, ap2, H', ⟨Nat.le_refl _⟩, ⟨by (with_reducible repeat (first | apply Kd.R_alloc | apply Kd.R_drewN | apply Kd.R_drew)); exact HO_4.out⟩, ⟨by repeat (first | (with_reducible first | exact HB.out | apply below_alloc | apply pw_below_drewN | apply below_drew1) | exact HB.out)⟩⟩
          case round =>
           clear H'
           try clear c1
           try clear p1
           try clear q1
           try clear hx1
           try clear p2
           try clear c5
           try clear c5b0
           try clear c6
           try clear c6b0
           try clear p6
           try clear p7
           try clear q7
           try clear hx7
           try clear c8
           try clear c9
           try clear c9b0
           try clear c10
           try clear c10b0
           try clear p11
           try clear q11
           try clear hx11
           try clear c13
           try clear c13b0
           try clear c14
           try clear c14b0
           try clear p11
           try clear p2
           try clear p7
           try clear q11
           try clear q7
           obtain ⟨x9_3, x10_3, rfl, rfl, HA, HK3, HO_4, HB⟩ := hrel
           cases gk with
           | zero => exact absurd HA.out (by simp [R14Decode.l1])
           | succ k3 =>
            have H := HA.out
            clear HA
            simp only [R14Decode.l1] at H
            by_cases c15 : x10_3 < (wrap64 (x6_1 + 6))
            ·
             rw [if_pos c15] at H
             have c15b0 := decide_eq_true c15
             clear c15
             have H' := Aside0.mk H
             clear H
             go_wp2
             go_roundg k3
             case measure => have := HK1.out; have := HJ3.out; have := HK3.out; omega
             case rel => exact ⟨(wrap64 (x9_3 * 2)), (wrap64 (x10_3 + 1)), ap2, ap2, H', ⟨by have := HK1.out; have := HJ3.out; have := HK3.out; omega⟩, ⟨by (with_reducible repeat (first | apply Kd.R_alloc | apply Kd.R_drewN | apply Kd.R_drew)); exact HO_4.out⟩, ⟨by repeat (first | (with_reducible first | exact HB.out | apply below_alloc | apply pw_below_drewN | apply below_drew1) | exact HB.out)⟩⟩
            ·
             rw [if_neg c15] at H
             have c15b0 := decide_eq_false c15
             clear c15
             by_cases c16 : x9_3 = 0
             ·
              rw [if_pos c16] at H
              exact absurd H (by simp)
             ·
              rw [if_neg c16] at H
              have c16b0 : (x9_3 == 0) = false := beq_eq_false_iff_ne.mpr c16
              have c16b1 : (x9_3 != 0) = true := bne_iff_ne.mpr c16
              by_cases c17 : x4_1.length < 140737488355328
              ·
               rw [if_pos c17] at H
               have LMc17 := Aside0.mk c17
               clear c17
               obtain ⟨y216, hy216⟩ : ∃ y_ : List Int, y_ = (x4_1 ++ [(wrap64 (Int.tdiv (wrap64 ((wrap64 (x5_1 * 64)) + t215)) x9_3)) % 256]) := ⟨_, rfl⟩
               replace H : (R14Decode.l0 k3 a0 y216 (Int.tmod (wrap64 ((wrap64 (x5_1 * 64)) + t215)) x9_3) (wrap64 ((wrap64 (x6_1 + 6)) - 8)) (wrap64 (x7_1 + 1))) = some (r1, r2) := by first | (rw [hy216]; with_reducible exact H) | (have H2_ := (Option.bind_some _ _).symm.trans H; rw [hy216]; with_reducible exact H2_) | (have H2_ := (Option.bind_some _ _).symm.trans H; with_reducible exact H2_) | with_reducible exact H | (rw [hy216]; exact H) | exact H
               have Ny216 := Aside0.mk hy216
               clear hy216
               have H' := Aside0.mk H
               clear H
               go_wp2_with (first | ((with_reducible refine gate_builtin (b := .append) (xs := #[.tmp 45, .tmp 50]) rfl ?_); at_builtin; refine Kd.R_append (Kd.int .u8) (w0 := w) w.heap.size rfl (.tmp 45) (.tmp 50) 72 5 (.int .u8 0) 1 rfl Tryd.underlying72 info5 rfl (by decide) (by omega) u4 x4_1 ((wrap64 (Int.tdiv (wrap64 ((wrap64 (x5_1 * 64)) + t215)) x9_3)) % 256) [.int .u8 ((wrap64 (Int.tdiv (wrap64 ((wrap64 (x5_1 * 64)) + t215)) x9_3)) % 256)] (fun _ => True) (fun _ => False) rfl rfl ?aP (fun _ hk => hk.elim) ?aF ?aO ?aB ?aS ?aL ?_; (case aP => exact rfl); (case aB => exact ap1); (case aF => exact (fun _ _ => trivial)); (case aO => exact (apAR HO_4.out)); (case aS => exact (below_size ap1)); (case aL => have := LMc17.out; omega); intro v217 w18 ho hb hg hat; rw [← Ny216.out] at ho; have n0_ := Aside0.mk (hb); have n1_ := Aside0.mk (ho); clear HB; clear HO_4; have HB := n0_; have HO218 := n1_; clear n0_ n1_; clear ho hb hg hat))
               go_roundg k3
               case measure => have := HK1.out; have := HJ3.out; have := HK3.out; omega
               case rel => exact ⟨(y216), (Int.tmod (wrap64 ((wrap64 (x5_1 * 64)) + t215)) x9_3), (wrap64 ((wrap64 (x6_1 + 6)) - 8)), (wrap64 (x7_1 + 1)), ap2, ap2, ap2, H', ⟨by have := HK1.out; have := HJ3.out; have := HK3.out; omega⟩, ⟨by (with_reducible repeat (first | apply Kd.R_alloc | apply Kd.R_drewN | apply Kd.R_drew)); exact HO218.out⟩, ⟨by repeat (first | (with_reducible first | exact HB.out | apply below_alloc | apply pw_below_drewN | apply below_drew1) | exact HB.out)⟩⟩
              ·
               rw [if_neg c17] at H
               exact absurd H (by simp)
         ·
          rw [if_neg c14] at H
          have c14b0 := decide_eq_false c14
          clear c14
          have H' := Aside0.mk H
          clear H
          have p11 : 0 ≤ (x7_1 : Int) := of_decide_eq_true ap0
          have q11 : x7_1 < (a0.size : Int) := of_decide_eq_true ap0
          have hx11 := bt_at a0 x7_1
          replace p11 := eq_true p11
          replace q11 := eq_true q11
          go_wp2_with (first | ((with_reducible refine gate_callee (f := 85) rfl ?_); refine goesL_ (some 27) rfl rfl Tryd.func85 (by kernel_rfl) rfl #[.int .u8 (bt a0 x7_1)] rfl ap3 ?_; (with_reducible refine (R14Number.calls kj3 (bt a0 x7_1) t215 _ A12.out).mono ?_); rintro e w' ⟨rfl, ⟨nd, rfl⟩⟩; refine ⟨_, rfl, ?_⟩))
          go_roundg kj3
          case measure => have := HK1.out; have := HJ3.out; omega
          case rel => exact ⟨(x4_1), (wrap64 ((wrap64 (x5_1 * 64)) + t215)), (wrap64 (x6_1 + 6)), (wrap64 (x7_1 + 1)), ap2, ap2, ap2, H', ⟨by have := HK1.out; have := HJ3.out; omega⟩, ⟨by (with_reducible repeat (first | apply Kd.R_alloc | apply Kd.R_drewN | apply Kd.R_drew)); exact HO_4.out⟩, ⟨by repeat (first | (with_reducible first | exact HB.out | apply below_alloc | apply pw_below_drewN | apply below_drew1) | exact HB.out)⟩⟩
       ·
        rw [if_neg c10] at H
        exact absurd H (by simp)
      ·
       rw [if_neg c9] at H
       exact absurd H (by simp)
     ·
      replace c8 := Bool.eq_false_iff.mpr c8
      subst c8
      rw [if_neg (show ¬ (false = true) by decide)] at H
      replace H := Option.bind_eq_some_iff.mp H
      obtain ⟨t214, A190, H⟩ := H
      replace H : (if t214.toList = a0.toList then (some (strOfNums x4_1, 0)) else (some ((⟨#[]⟩ : ByteArray), 4))) = some (r1, r2) := H
      have A19 := Aside0.mk A190
      clear A190
      by_cases c20 : t214.toList = a0.toList
      ·
       rw [if_pos c20] at H
       have c20b0 : (t214.toList == a0.toList) = true := beq_iff_eq.mpr c20
       have c20b1 : (t214.toList != a0.toList) = false := bne_eq_false_iff_eq.mpr c20
       clear c20
       simp only [Option.some.injEq, Prod.mk.injEq] at H
       obtain ⟨rfl, rfl⟩ := H
       have hcv21 := own_string (P := Tryd.prog) Tryd.underlying72 Tryd.underlying5 Tryd.underlying9 (Kd.own_of_R HO_4.out)
       go_wp2_with (first | ((with_reducible refine gate_callee (f := 86) rfl ?_); refine goesL_ (some 59) rfl rfl Tryd.func86 (by kernel_rfl) rfl #[.string (strOfNums x4_1)] rfl ap3 ?_; (with_reducible refine (R14Encode.calls kj3 (strOfNums x4_1) t214 _ A19.out).mono ?_); rintro e w22 ⟨rfl, hb⟩; refine ⟨_, rfl, ?_⟩; have n0_ := Aside0.mk (Kd.R_below (apAR HO_4.out) hb); have n1_ := Aside0.mk (below_step ap1 hb); clear HO_4; clear HB; have HO_4 := n0_; have HB := n1_; clear n0_ n1_; (try clear hb); (try clear hb2); (try clear hk); (try clear hi); have hcv23 := own_string (P := Tryd.prog) Tryd.underlying72 Tryd.underlying5 Tryd.underlying9 (Kd.own_of_R HO_4.out)))
       go_ret2
       exact ⟨by first | rfl | (simp [errW_none, errW_some, bne_nil8, beq_nil8]; done) | (simp [errW_none, errW_some] <;> rfl) | (simp [*, errW_none, errW_some] <;> rfl), by repeat (first | (with_reducible first | exact HB.out | apply below_alloc | apply pw_below_drewN | apply below_drew1) | exact HB.out)⟩
      ·
       rw [if_neg c20] at H
       have c20b0 : (t214.toList == a0.toList) = false := beq_eq_false_iff_ne.mpr c20
       have c20b1 : (t214.toList != a0.toList) = true := bne_iff_ne.mpr c20
       simp only [Option.some.injEq, Prod.mk.injEq] at H
       obtain ⟨rfl, rfl⟩ := H
       have hcv24 := own_string (P := Tryd.prog) Tryd.underlying72 Tryd.underlying5 Tryd.underlying9 (Kd.own_of_R HO_4.out)
       go_wp2_with (first | ((with_reducible refine gate_callee (f := 86) rfl ?_); refine goesL_ (some 59) rfl rfl Tryd.func86 (by kernel_rfl) rfl #[.string (strOfNums x4_1)] rfl ap3 ?_; (with_reducible refine (R14Encode.calls kj3 (strOfNums x4_1) t214 _ A19.out).mono ?_); rintro e w25 ⟨rfl, hb⟩; refine ⟨_, rfl, ?_⟩; have n0_ := Aside0.mk (Kd.R_below (apAR HO_4.out) hb); have n1_ := Aside0.mk (below_step ap1 hb); clear HO_4; clear HB; have HO_4 := n0_; have HB := n1_; clear n0_ n1_; (try clear hb); (try clear hb2); (try clear hk); (try clear hi)))
       go_ret2
       exact ⟨by first | rfl | (simp [errW_none, errW_some, bne_nil8, beq_nil8]; done) | (simp [errW_none, errW_some] <;> rfl) | (simp [*, errW_none, errW_some] <;> rfl), by repeat (first | (with_reducible first | exact HB.out | apply below_alloc | apply pw_below_drewN | apply below_drew1) | exact HB.out)⟩
end Go.Proofs.YtkklacijhmoopaaDoor.Print
namespace Go.Proofs.YtkklacijhmoopaaDoor.Print
open Go.RowKit Go.Proofs.YtkklacijhmoopaaDoorW.PrintWords Go.Proofs.YtkklacijhmoopaaDoorW.PrintLast Go.Proofs.YtkklacijhmoopaaDoorW.PrintMore
set_option linter.unusedVariables false
set_option linter.unusedSimpArgs false
namespace B64
abbrev bl (s : ByteArray) : List UInt8 := s.data.toList
abbrev mkB (l : List UInt8) : ByteArray := ⟨l.toArray⟩
def ints (l : List UInt8) : List Int := l.map fun c => (c.toNat : Int)
theorem bl_length (s : ByteArray) : (bl s).length = s.size := by simp [bl]
theorem mkB_size (l : List UInt8) : (mkB l).size = l.length := by rw [← bl_length]
theorem ints_app (a b : List UInt8) : ints a ++ ints b = ints (a ++ b) := by simp [ints]
theorem ints_length (l : List UInt8) : (ints l).length = l.length := by simp [ints]
theorem strOf (l : List UInt8) : strOfNums (ints l) = mkB l := by
  unfold strOfNums ints mkB
  congr 1
  rw [List.map_map]
  congr 1
  conv => rhs; rw [← List.map_id l]
  refine List.map_congr_left fun c _ => ?_
  show UInt8.ofNat (c.toNat : Int).toNat = c
  rw [Int.toNat_natCast]; exact UInt8.ofNat_toNat
theorem w_id (n : Nat) (h : n ≤ 1000000000) : wrap64 (n : Int) = (n : Int) := by unfold wrap64; omega
theorem bt_at' {s : ByteArray} {p : Nat} (h : p < s.size) : bt s (p : Int) = (((bl s).getD p 0).toNat : Int) := by
  have e : (bl s).getD p 0 = s[p] := by
    rw [List.getD_eq_getElem?_getD, List.getElem?_eq_getElem (by rw [bl_length]; exact h)]; rfl
  rw [e]
  unfold bt
  simp [h]
theorem letter_all : ∀ n : Nat, n < 64 → R14Letter.f (n : Int) = some ((b64Let n).toNat : Int) := by decide +kernel
def bitL (l : List UInt8) (k : Nat) : Nat := (l.getD (k / 8) 0).toNat / 2 ^ (7 - k % 8) % 2
theorem bit_loop (k0 : Nat) (hk : k0 ≤ 100000000) (b : Nat) (hb : b < 256) : ∀ (m i x : Nat), 7 - k0 % 8 - i = m → i ≤ 7 - k0 % 8 → x = b / 2 ^ i → Ev (fun k => R14Bit.l0 k (k0 : Int) (x : Int) (i : Int)) ((b / 2 ^ (7 - k0 % 8) % 2 : Nat) : Int) := by
  have e : wrap64 (7 - (Int.tmod (k0 : Int) 8)) = ((7 - k0 % 8 : Nat) : Int) := by
    rw [Int.tmod_eq_emod_of_nonneg (by omega)]; unfold wrap64; omega
  intro m
  induction m with
  | zero =>
    intro i x hm hi hx
    refine Ev.step (fun k => by rw [R14Bit.l0]) ?_
    rw [e]
    refine Ev.neg (by omega) ?_
    obtain rfl : i = 7 - k0 % 8 := by omega
    rw [Int.tmod_eq_emod_of_nonneg (by omega)]
    subst hx
    refine Ev.const fun _ => ?_
    congr 1
  | succ m ih =>
    intro i x hm hi hx
    have hx2 : x / 2 = b / 2 ^ (i + 1) := by rw [hx, Nat.pow_succ, Nat.div_div_eq_div_mul]
    have hxl : x ≤ 256 := by rw [hx]; exact Nat.le_trans (Nat.div_le_self _ _) (by omega)
    have := ih (i + 1) (x / 2) (by omega) (by omega) hx2
    refine Ev.step (fun k => by rw [R14Bit.l0]) ?_
    rw [e, Int.tdiv_eq_ediv_of_nonneg (by omega), show wrap64 ((x : Int) / 2) = ((x / 2 : Nat) : Int) by unfold wrap64; omega, show wrap64 ((i : Int) + 1) = ((i + 1 : Nat) : Int) by unfold wrap64; omega]
    exact Ev.pos (by omega) this
theorem bit_ev (s : ByteArray) (hs : s.size ≤ 10000000) (k0 : Nat) (hk : k0 ≤ 100000000) : Ev (fun k => R14Bit.f k s (k0 : Int)) (bitL (bl s) k0 : Int) := by
  unfold R14Bit.f
  have e : wrap64 (Int.tdiv (k0 : Int) 8) = ((k0 / 8 : Nat) : Int) := by rw [Int.tdiv_eq_ediv_of_nonneg (by omega)]; unfold wrap64; omega
  rw [e]
  by_cases h : s.size ≤ k0 / 8
  · refine Ev.pos (by omega) ?_
    have : bitL (bl s) k0 = 0 := by
      unfold bitL
      rw [List.getD_eq_getElem?_getD, List.getElem?_eq_none (by rw [bl_length]; exact h)]
      simp
    rw [this]; exact Ev.rfl'
  · refine Ev.neg (by omega) (Ev.pos (by omega) (Ev.pos (by omega) ?_))
    rw [bt_at' (by omega)]
    have hb := ((bl s).getD (k0 / 8) 0).toNat_lt
    rw [w_id _ (by omega)]
    exact bit_loop k0 hk _ (by omega) _ 0 _ rfl (Nat.zero_le _) (by simp)
def six (l : List UInt8) (k : Nat) : Nat := 32 * bitL l k + 16 * bitL l (k + 1) + 8 * bitL l (k + 2) + 4 * bitL l (k + 3) + 2 * bitL l (k + 4) + bitL l (k + 5)
theorem bitL_lt (l : List UInt8) (k : Nat) : bitL l k < 2 := Nat.mod_lt _ (by omega)
theorem six_lt (l : List UInt8) (k : Nat) : six l k < 64 := by
  have h0 := bitL_lt l k; have h1 := bitL_lt l (k + 1); have h2 := bitL_lt l (k + 2); have h3 := bitL_lt l (k + 3); have h4 := bitL_lt l (k + 4); have h5 := bitL_lt l (k + 5)
  unfold six; omega
def part6 (l : List UInt8) (k : Nat) : Nat → Nat
  | 0 => 0
  | i + 1 => 2 * part6 l k i + bitL l (k + i)
theorem part6_lt (l : List UInt8) (k : Nat) : ∀ i, part6 l k i < 2 ^ i
  | 0 => by simp [part6]
  | i + 1 => by
    have := part6_lt l k i
    have h := bitL_lt l (k + i)
    rw [part6, Nat.pow_succ]; omega
theorem part6_six (l : List UInt8) (k : Nat) : part6 l k 6 = six l k := by simp only [part6, six, Nat.add_zero]; omega
theorem two_bit (x b : Nat) (hx : x < 1000) (hb : b < 2) : wrap64 ((wrap64 (2 * (x : Int))) + (b : Int)) = ((2 * x + b : Nat) : Int) := by unfold wrap64; omega
theorem enc_l1 (s : ByteArray) (hs : s.size ≤ 1000000) (k0 : Nat) (hk : k0 ≤ 10000000) (acc : List UInt8) (hacc : acc.length ≤ 100000000) {o : ByteArray}
    (hnext : Ev (fun k => R14Encode.l0 k s (ints (acc ++ [b64Let (six (bl s) k0)])) ((k0 + 6 : Nat) : Int)) o) :
    ∀ (m i : Nat), 6 - i = m → i ≤ 6 → Ev (fun k => R14Encode.l1 k s (ints acc) (k0 : Int) (part6 (bl s) k0 i : Int) (i : Int)) o := by
  intro m
  induction m with
  | zero =>
    intro i hm hi
    obtain rfl : i = 6 := by omega
    refine Ev.step (fun k => by rw [R14Encode.l1]) ?_
    rw [part6_six]
    refine Ev.neg (by omega) (Ev.bindc (letter_all _ (six_lt _ _)) ?_)
    rw [show wrap64 ((k0 : Int) + 6) = ((k0 + 6 : Nat) : Int) by unfold wrap64; omega, show ints acc ++ [((b64Let (six (bl s) k0)).toNat : Int)] = ints (acc ++ [b64Let (six (bl s) k0)]) from ints_app acc [_]]
    exact Ev.pos (by rw [ints_length]; omega) hnext
  | succ m ih =>
    intro i hm hi
    have := ih (i + 1) (by omega) (by omega)
    have hlt := part6_lt (bl s) k0 i
    have h2 : (2 : Nat) ^ i ≤ 2 ^ 6 := Nat.pow_le_pow_right (by omega) (by omega)
    have hb := bitL_lt (bl s) (k0 + i)
    refine Ev.step (fun k => by rw [R14Encode.l1]) ?_
    rw [show wrap64 ((k0 : Int) + (i : Int)) = ((k0 + i : Nat) : Int) by unfold wrap64; omega, show wrap64 ((i : Int) + 1) = ((i + 1 : Nat) : Int) by unfold wrap64; omega]
    refine Ev.pos (by omega) (Ev.bind (bit_ev s (by omega) (k0 + i) (by omega)) ?_)
    rw [part6] at this
    rw [two_bit _ _ (by omega) hb]
    exact this
theorem enc_letter (s : ByteArray) (hs : s.size ≤ 1000000) (k0 : Nat) (hk : k0 < 8 * s.size) (acc : List UInt8) (hacc : acc.length ≤ 100000000) {o : ByteArray}
    (hnext : Ev (fun k => R14Encode.l0 k s (ints (acc ++ [b64Let (six (bl s) k0)])) ((k0 + 6 : Nat) : Int)) o) :
    Ev (fun k => R14Encode.l0 k s (ints acc) (k0 : Int)) o := by
  refine Ev.step (fun k => by rw [R14Encode.l0]) ?_
  rw [show wrap64 (8 * (s.size : Int)) = ((8 * s.size : Nat) : Int) by unfold wrap64; omega]
  have h6 := enc_l1 s hs k0 (by omega) acc hacc hnext 6 0 rfl (by omega)
  rw [show ((part6 (bl s) k0 0 : Nat) : Int) = 0 from rfl, show ((0 : Nat) : Int) = 0 from rfl] at h6
  exact Ev.pos (by omega) h6
theorem enc_pad (acc : List UInt8) : ∀ (m : Nat), m ≤ 3 → (acc.length + m) % 4 = 0 → acc.length + m ≤ 200000000 → Ev (fun k => R14Encode.l2 k (ints acc)) (mkB (acc ++ List.replicate m 61)) := by
  intro m
  induction m generalizing acc with
  | zero =>
    intro _ h hl
    refine Ev.step (fun k => by rw [R14Encode.l2]) ?_
    rw [ints_length, strOf]
    exact Ev.pos (by omega) (by simpa using Ev.rfl')
  | succ m ih =>
    intro hm h hl
    have := ih (acc ++ [61]) (by omega) (by rw [List.length_append]; simp only [List.length_cons, List.length_nil]; omega) (by rw [List.length_append]; simp only [List.length_cons, List.length_nil]; omega)
    refine Ev.step (fun k => by rw [R14Encode.l2]) ?_
    rw [ints_length]
    refine Ev.neg (by omega) (Ev.pos (by omega) ?_)
    rw [show ints acc ++ [61] = ints (acc ++ [61]) from ints_app acc [61]]
    rw [List.append_assoc] at this
    exact this
theorem bit_drop (l : List UInt8) (j t : Nat) : bitL l (24 * j + t) = bitL (l.drop (3 * j)) t := by
  unfold bitL
  rw [show (24 * j + t) / 8 = 3 * j + t / 8 by omega, show (24 * j + t) % 8 = t % 8 by omega, List.getD_eq_getElem?_getD, List.getD_eq_getElem?_getD, List.getElem?_drop]
theorem six_drop (l : List UInt8) (j t : Nat) : six l (24 * j + t) = six (l.drop (3 * j)) t := by
  unfold six
  simp only [Nat.add_assoc, bit_drop]
theorem b_0 : ∀ A : Nat, A < 256 → 32 * (A / 128 % 2) + 16 * (A / 64 % 2) + 8 * (A / 32 % 2) + 4 * (A / 16 % 2) + 2 * (A / 8 % 2) + A / 4 % 2 = A / 4 := by decide +kernel
theorem b_1 : ∀ A : Nat, A < 256 → 32 * (A / 2 % 2) + 16 * (A / 1 % 2) = A % 4 * 16 := by decide +kernel
theorem b_2 : ∀ A : Nat, A < 256 → 8 * (A / 128 % 2) + 4 * (A / 64 % 2) + 2 * (A / 32 % 2) + A / 16 % 2 = A / 16 := by decide +kernel
theorem b_3 : ∀ A : Nat, A < 256 → 32 * (A / 8 % 2) + 16 * (A / 4 % 2) + 8 * (A / 2 % 2) + 4 * (A / 1 % 2) = A % 16 * 4 := by decide +kernel
theorem b_4 : ∀ A : Nat, A < 256 → 2 * (A / 128 % 2) + A / 64 % 2 = A / 64 := by decide +kernel
theorem b_5 : ∀ A : Nat, A < 256 → 32 * (A / 32 % 2) + 16 * (A / 16 % 2) + 8 * (A / 8 % 2) + 4 * (A / 4 % 2) + 2 * (A / 2 % 2) + A / 1 % 2 = A % 64 := by decide +kernel
theorem nAt3 (g : List UInt8) : nAt g 3 = ((g.getD 0 0).toNat * 256 + (g.getD 1 0).toNat) * 256 + (g.getD 2 0).toNat := by
  simp only [nAt]; omega
theorem sixes (g : List UInt8) : six g 0 = nAt g 3 / 262144 % 64 ∧ six g 6 = nAt g 3 / 4096 % 64 ∧ six g 12 = nAt g 3 / 64 % 64 ∧ six g 18 = nAt g 3 % 64 := by
  rw [nAt3]
  have hA := (g.getD 0 0).toNat_lt
  have hB := (g.getD 1 0).toNat_lt
  have hC := (g.getD 2 0).toNat_lt
  have e : ∀ t, bitL g t = (g.getD (t / 8) 0).toNat / 2 ^ (7 - t % 8) % 2 := fun _ => rfl
  unfold six
  simp only [e, Nat.reduceAdd, Nat.reduceDiv, Nat.reduceMod, Nat.reduceSub, Nat.reducePow]
  generalize (g.getD 0 0).toNat = A at *
  generalize (g.getD 1 0).toNat = B at *
  generalize (g.getD 2 0).toNat = C at *
  have a0 := b_0 A (by omega); have a1 := b_1 A (by omega); have a2 := b_2 B (by omega); have a3 := b_3 B (by omega); have a4 := b_4 C (by omega); have a5 := b_5 C (by omega)
  refine ⟨?_, ?_, ?_, ?_⟩ <;> omega
theorem enc_loop (s : ByteArray) (hs : s.size ≤ 1000000) : ∀ (m j : Nat) (acc : List UInt8), (bl s).length - 3 * j ≤ 3 * m → 3 * j ≤ (bl s).length → acc.length = 4 * j → Ev (fun k => R14Encode.l0 k s (ints acc) ((24 * j : Nat) : Int)) (mkB (acc ++ b64Enc ((bl s).drop (3 * j)))) := by
  have hsz := bl_length s
  have hstop : ∀ (k0 : Nat) (acc : List UInt8) (p : Nat), k0 ≤ 100000000 → 8 * s.size ≤ k0 → p ≤ 3 → (acc.length + p) % 4 = 0 → acc.length ≤ 100000000 → Ev (fun k => R14Encode.l0 k s (ints acc) (k0 : Int)) (mkB (acc ++ List.replicate p 61)) := by
    intro k0 acc p h0 h1 h2 h3 h4
    refine Ev.step (fun k => by rw [R14Encode.l0]) ?_
    rw [show wrap64 (8 * (s.size : Int)) = ((8 * s.size : Nat) : Int) by unfold wrap64; omega]
    exact Ev.neg (by omega) (enc_pad acc p h2 h3 (by omega))
  intro m
  induction m with
  | zero =>
    intro j acc hm hj hacc
    have : (bl s).drop (3 * j) = [] := List.drop_eq_nil_of_le (by omega)
    rw [this]
    exact hstop (24 * j) acc 0 (by omega) (by omega) (by omega) (by omega) (by omega)
  | succ m ih =>
    intro j acc hm hj hacc
    have hd : (bl s).length - 3 * j = ((bl s).drop (3 * j)).length := by rw [List.length_drop]
    have hx := sixes ((bl s).drop (3 * j))
    have e0 := six_drop (bl s) j 0
    have e6 := six_drop (bl s) j 6
    have e12 := six_drop (bl s) j 12
    have e18 := six_drop (bl s) j 18
    rw [Nat.add_zero] at e0
    have hdd : (bl s).drop (3 * (j + 1)) = ((bl s).drop (3 * j)).drop 3 := by rw [List.drop_drop]; congr 1
    have hih : 3 * (j + 1) ≤ (bl s).length → ∀ acc' : List UInt8, acc'.length = 4 * (j + 1) → Ev (fun k => R14Encode.l0 k s (ints acc') ((24 * (j + 1) : Nat) : Int)) (mkB (acc' ++ b64Enc ((bl s).drop (3 * (j + 1))))) := fun h acc' h' => ih (j + 1) acc' (by omega) h h'
    rw [hdd] at hih
    generalize (bl s).drop (3 * j) = g at *
    have hg : ∀ x : UInt8, ∀ a : List UInt8, (a ++ [x]).length = a.length + 1 := fun x a => by simp
    match g, hd, hx, e0, e6, e12, e18, hih with
    | [], hd, hx, e0, e6, e12, e18, hih =>
      exact hstop (24 * j) acc 0 (by omega) (by simp at hd; omega) (by omega) (by omega) (by omega)
    | [a], hd, hx, e0, e6, e12, e18, hih =>
      simp only [List.length_cons, List.length_nil] at hd
      refine enc_letter s hs (24 * j) (by omega) acc (by omega) ?_
      refine enc_letter s hs (24 * j + 6) (by omega) _ (by rw [hg]; omega) ?_
      have := hstop (24 * j + 6 + 6) (acc ++ [b64Let (six (bl s) (24 * j))] ++ [b64Let (six (bl s) (24 * j + 6))]) 2 (by omega) (by omega) (by omega) (by rw [hg, hg]; omega) (by rw [hg, hg]; omega)
      rw [e0, e6, hx.1, hx.2.1] at this ⊢
      simp only [List.append_assoc, List.cons_append, List.nil_append] at this ⊢
      exact this
    | [a, b], hd, hx, e0, e6, e12, e18, hih =>
      simp only [List.length_cons, List.length_nil] at hd
      refine enc_letter s hs (24 * j) (by omega) acc (by omega) ?_
      refine enc_letter s hs (24 * j + 6) (by omega) _ (by rw [hg]; omega) ?_
      refine enc_letter s hs (24 * j + 6 + 6) (by omega) _ (by rw [hg, hg]; omega) ?_
      have := hstop (24 * j + 6 + 6 + 6) (acc ++ [b64Let (six (bl s) (24 * j))] ++ [b64Let (six (bl s) (24 * j + 6))] ++ [b64Let (six (bl s) (24 * j + 12))]) 1 (by omega) (by omega) (by omega) (by rw [hg, hg, hg]; omega) (by rw [hg, hg, hg]; omega)
      rw [show 24 * j + 6 + 6 = 24 * j + 12 by omega] at this ⊢
      rw [e0, e6, e12, hx.1, hx.2.1, hx.2.2.1] at this ⊢
      simp only [List.append_assoc, List.cons_append, List.nil_append] at this ⊢
      exact this
    | a :: b :: c :: r, hd, hx, e0, e6, e12, e18, hih =>
      simp only [List.length_cons] at hd
      refine enc_letter s hs (24 * j) (by omega) acc (by omega) ?_
      refine enc_letter s hs (24 * j + 6) (by omega) _ (by rw [hg]; omega) ?_
      refine enc_letter s hs (24 * j + 6 + 6) (by omega) _ (by rw [hg, hg]; omega) ?_
      refine enc_letter s hs (24 * j + 6 + 6 + 6) (by omega) _ (by rw [hg, hg, hg]; omega) ?_
      have := hih (by omega) (acc ++ [b64Let (six (bl s) (24 * j))] ++ [b64Let (six (bl s) (24 * j + 6))] ++ [b64Let (six (bl s) (24 * j + 12))] ++ [b64Let (six (bl s) (24 * j + 18))]) (by rw [hg, hg, hg, hg]; omega)
      rw [show 24 * j + 6 + 6 = 24 * j + 12 by omega, show 24 * j + 12 + 6 = 24 * j + 18 by omega, show 24 * j + 18 + 6 = 24 * (j + 1) by omega]
      rw [e0, e6, e12, e18, hx.1, hx.2.1, hx.2.2.1, hx.2.2.2] at this ⊢
      rw [b64Enc_step (a :: b :: c :: r) (by simp)]
      have hp : encPart (a :: b :: c :: r) = [b64Let (nAt (a :: b :: c :: r) 3 / 262144 % 64), b64Let (nAt (a :: b :: c :: r) 3 / 4096 % 64), b64Let (nAt (a :: b :: c :: r) 3 / 64 % 64), b64Let (nAt (a :: b :: c :: r) 3 % 64)] := by
        unfold encPart
        rw [if_pos (by simp), if_pos (by simp)]
      rw [hp]
      simp only [List.append_assoc, List.cons_append, List.nil_append] at this ⊢
      exact this
theorem refEncode_ev (s : ByteArray) (hs : s.size ≤ 1000000) : Ev (fun k => R14Encode.f k s) (mkB (b64Enc (bl s))) := by
  unfold R14Encode.f
  have := enc_loop s hs ((bl s).length) 0 [] (by omega) (by omega) rfl
  exact this
end B64
end Go.Proofs.YtkklacijhmoopaaDoor.Print
namespace Go.Proofs.YtkklacijhmoopaaDoor.Print
open Go.RowKit Go.Proofs.YtkklacijhmoopaaDoorW.PrintWords
def strings_IndexByte.f (a0 : ByteArray) (a1 : Int) : Option Int := some (Lib.indexByte a0.data.toList a1.toNat.toUInt8)
theorem strings_IndexByte.calls (a0 : ByteArray) (a1 : Int) (r : Int) (w : World) (h : strings_IndexByte.f a0 a1 = some r) :
    Calls Tryd.prog 50 #[.string a0, .int .u8 a1] w fun e w' => e = .returned (.int .i64 r) ∧ Drawn0 w w' := by
  unfold strings_IndexByte.f at h
  injection h with h; subst h
  refine (Tryd.strings_IndexByte a0 a1 w).mono ?_
  rintro e w' ⟨he, rfl⟩
  exact ⟨he, Drawn0.refl _⟩
end Go.Proofs.YtkklacijhmoopaaDoor.Print
namespace Go.Proofs.YtkklacijhmoopaaDoor.Print
open Go.RowKit Go.Proofs.YtkklacijhmoopaaDoorW.PrintWords Go.Proofs.YtkklacijhmoopaaDoorW.PrintLast Go.Proofs.YtkklacijhmoopaaDoorW.PrintMore
attribute [local go_sem] max2_int min2_int max_two min_two max_three min_three max_four min_four
set_option linter.unusedVariables false
set_option linter.unusedSimpArgs false
def b64_four.l0 : Nat → ByteArray → List Int → Int → Int → Int → Option (List Int × Bool)
 | 0, _, _, _, _, _ => none
 | k + 1, x0, x1, x6, x7, x11 => if x11 < 4 then (if 0 ≤ x11 then (if x11 < (x0.size : Int) then ((strings_IndexByte.f (⟨#[65, 66, 67, 68, 69, 70, 71, 72, 73, 74, 75, 76, 77, 78, 79, 80, 81, 82, 83, 84, 85, 86, 87, 88, 89, 90, 97, 98, 99, 100, 101, 102, 103, 104, 105, 106, 107, 108, 109, 110, 111, 112, 113, 114, 115, 116, 117, 118, 119, 120, 121, 122, 48, 49, 50, 51, 52, 53, 54, 55, 56, 57, 43, 47]⟩ : ByteArray) (bt x0 x11)).bind fun t130 => (if (bt x0 x11) = 61 then (if 0 < 0 then (some (([] : List Int), false)) else (if (wrap64 (x7 + 1)) > 0 then (b64_four.l0 k x0 x1 (Go.bits .or .i64 (wrap64 (x6 * 64)) 0) (wrap64 (x7 + 1)) (wrap64 (x11 + 1))) else (b64_four.l0 k x0 x1 (Go.bits .or .i64 (wrap64 (x6 * 64)) 0) (wrap64 (x7 + 1)) (wrap64 (x11 + 1))))) else (if t130 < 0 then (some (([] : List Int), false)) else (if x7 > 0 then (some (([] : List Int), false)) else (b64_four.l0 k x0 x1 (Go.bits .or .i64 (wrap64 (x6 * 64)) t130) x7 (wrap64 (x11 + 1))))))) else (none)) else (none)) else (if x7 > 2 then (some (([] : List Int), false)) else ((some (([(x6 / 65536) % 256, (x6 / 256) % 256, (x6) % 256] : List Int) : List Int)).bind fun y120 => (if 0 ≤ (wrap64 (3 - x7)) then (if (wrap64 (3 - x7)) ≤ (y120.length : Int) then ((some (y120.take ((wrap64 (3 - x7)) : Int).toNat : List Int)).bind fun y123 => (if x1.length + y123.length < 140737488355328 then (some ((x1 ++ y123), true)) else (none))) else (none)) else (none))))
def b64_four.f (k : Nat) (a0 : ByteArray) (l1 : List Int) : Option (List Int × Bool) := b64_four.l0 k a0 l1 0 0 0
set_option maxHeartbeats 8000000 in
set_option maxRecDepth 100000 in
theorem b64_four.calls (k : Nat) (a0 : ByteArray) (P1_ : Nat → Prop) (u9000_ : Value) (l1 : List Int) (r1 : List Int) (r2 : Bool) (w0 w : World) (hB : Below w0.heap.size w0 w) (ho1 : Kd.R (Kd.int .u8) 5 w w0.heap.size P1_ u9000_ l1) (h : b64_four.f k a0 l1 = some (r1, r2)) :
  Calls Tryd.prog 79 #[.string a0, u9000_] w fun e w' => ∃ v0_ : Value, e = .returned (.tuple #[v0_, .bool r2]) ∧ Kd.R (Kd.int .u8) 5 w' w0.heap.size (fun k_ => (P1_ k_ ∨ w.heap.size ≤ k_)) v0_ r1 ∧ Below w0.heap.size w0 w' ∧ Kept w w' (fun k_ => P1_ k_) := by
 have HO1 := Aside0.mk (show Kd.R (Kd.int .u8) 5 w w0.heap.size (fun k_ => (P1_ k_ ∨ w.heap.size ≤ k_)) u9000_ l1 from Kd.R_mono ho1 (fun k_ hk => (.inl hk)))
 have HK := Aside0.mk (Kept.refl w (fun k_ => P1_ k_))
 have HW0 := Aside0.mk hB.size
 have HB := Aside0.mk hB
 clear hB
 have H : (b64_four.l0 k a0 l1 0 0 0) = some (r1, r2) := h
 clear h
 have H' := Aside0.mk H
 clear H
 go_enter Tryd.func79, Tryd.ntmps79
 go_wp2
 go_loopg [6, 7, 11] k (fun kq v6 v7 v11 w' => ∃ (x6_1 : Int) (x7_1 : Int) (x11_1 : Int), v6 = .int .i64 x6_1 ∧ v7 = .int .i64 x7_1 ∧ v11 = .int .i64 x11_1 ∧ Aside0 (b64_four.l0 kq a0 l1 x6_1 x7_1 x11_1 = some (r1, r2)) ∧ Aside0 (kq ≤ k) ∧ Aside0 (Kd.R (Kd.int .u8) 5 w' w0.heap.size (fun k_ => (P1_ k_ ∨ w.heap.size ≤ k_)) u9000_ l1) ∧ Aside0 (Kept w w' (fun k_ => P1_ k_)) ∧ Aside0 (Below w0.heap.size w0 w'))
 case atStart => exact ⟨(0), (0), (0), ap2, ap2, ap2, H', ⟨Nat.le_refl _⟩, ⟨by (with_reducible repeat (first | apply Kd.R_alloc | apply Kd.R_drewN | apply Kd.R_drew)); exact HO1.out⟩, ⟨by repeat (first | (with_reducible first | exact HK.out | apply Kept.alloc | apply Kept.drewN | apply Kept.drew) | exact HK.out)⟩, ⟨by repeat (first | (with_reducible first | exact HB.out | apply below_alloc | apply pw_below_drewN | apply below_drew1) | exact HB.out)⟩⟩
 case round =>
  clear H'
  try clear p2
  obtain ⟨x6_1, x7_1, x11_1, rfl, rfl, rfl, HA, HK1, HO_1, HK, HB⟩ := hrel
  cases gk with
  | zero => exact absurd HA.out (by simp [b64_four.l0])
  | succ k1 =>
   have H := HA.out
   clear HA
   simp only [b64_four.l0] at H
   by_cases c3 : x11_1 < 4
   ·
    rw [if_pos c3] at H
    have c3b0 := decide_eq_true c3
    clear c3
    by_cases c4 : 0 ≤ x11_1
    ·
     rw [if_pos c4] at H
     have c4b0 := decide_eq_true c4
     clear c4
     by_cases c5 : x11_1 < (a0.size : Int)
     ·
      rw [if_pos c5] at H
      have c5b0 := decide_eq_true c5
      clear c5
      replace H := Option.bind_eq_some_iff.mp H
      obtain ⟨t130, A70, H⟩ := H
      replace H : (if (bt a0 x11_1) = 61 then (if 0 < 0 then (some (([] : List Int), false)) else (if (wrap64 (x7_1 + 1)) > 0 then (b64_four.l0 k1 a0 l1 (Go.bits .or .i64 (wrap64 (x6_1 * 64)) 0) (wrap64 (x7_1 + 1)) (wrap64 (x11_1 + 1))) else (b64_four.l0 k1 a0 l1 (Go.bits .or .i64 (wrap64 (x6_1 * 64)) 0) (wrap64 (x7_1 + 1)) (wrap64 (x11_1 + 1))))) else (if t130 < 0 then (some (([] : List Int), false)) else (if x7_1 > 0 then (some (([] : List Int), false)) else (b64_four.l0 k1 a0 l1 (Go.bits .or .i64 (wrap64 (x6_1 * 64)) t130) x7_1 (wrap64 (x11_1 + 1)))))) = some (r1, r2) := H
      have A7 := Aside0.mk A70
      clear A70
      by_cases c9 : (bt a0 x11_1) = 61
      ·
       rw [if_pos c9] at H
       have c9b0 : ((bt a0 x11_1) == 61) = true := beq_iff_eq.mpr c9
       have c9b1 : ((bt a0 x11_1) != 61) = false := bne_eq_false_iff_eq.mpr c9
       clear c9
       by_cases c10 : 0 < 0
       ·
        exact absurd c10 (by decide)
       ·
        rw [if_neg c10] at H
        have c10b0 := decide_eq_false c10
        clear c10
        by_cases c11 : (wrap64 (x7_1 + 1)) > 0
        ·
         rw [if_pos c11] at H
         have c11b0 := decide_eq_true c11
         clear c11
         have H' := Aside0.mk H
         clear H
         have p6 : 0 ≤ (x11_1 : Int) := of_decide_eq_true ap0
         have q6 : x11_1 < (a0.size : Int) := of_decide_eq_true ap0
         have hx6 := bt_at a0 x11_1
         replace p6 := eq_true p6
         replace q6 := eq_true q6
         go_wp2_with (first | ((with_reducible refine gate_callee (f := 50) rfl ?_); refine goesL_ (some 17) rfl rfl Tryd.func50 (by kernel_rfl) rfl #[.string (⟨#[65, 66, 67, 68, 69, 70, 71, 72, 73, 74, 75, 76, 77, 78, 79, 80, 81, 82, 83, 84, 85, 86, 87, 88, 89, 90, 97, 98, 99, 100, 101, 102, 103, 104, 105, 106, 107, 108, 109, 110, 111, 112, 113, 114, 115, 116, 117, 118, 119, 120, 121, 122, 48, 49, 50, 51, 52, 53, 54, 55, 56, 57, 43, 47]⟩ : ByteArray), .int .u8 (bt a0 x11_1)] rfl ap3 ?_; (with_reducible refine (strings_IndexByte.calls (⟨#[65, 66, 67, 68, 69, 70, 71, 72, 73, 74, 75, 76, 77, 78, 79, 80, 81, 82, 83, 84, 85, 86, 87, 88, 89, 90, 97, 98, 99, 100, 101, 102, 103, 104, 105, 106, 107, 108, 109, 110, 111, 112, 113, 114, 115, 116, 117, 118, 119, 120, 121, 122, 48, 49, 50, 51, 52, 53, 54, 55, 56, 57, 43, 47]⟩ : ByteArray) (bt a0 x11_1) t130 _ A7.out).mono ?_); rintro e w' ⟨rfl, ⟨nd, rfl⟩⟩; refine ⟨_, rfl, ?_⟩; have p8 : 0 ≤ (x11_1 : Int) := of_decide_eq_true ap0; have q8 : x11_1 < (a0.size : Int) := of_decide_eq_true ap0; have hx8 := bt_at a0 x11_1; replace p8 := eq_true p8; replace q8 := eq_true q8; have p12 : 0 ≤ (x11_1 : Int) := of_decide_eq_true ap0; have q12 : x11_1 < (a0.size : Int) := of_decide_eq_true ap0; have hx12 := bt_at a0 x11_1; replace p12 := eq_true p12; replace q12 := eq_true q12))
         go_roundg k1
         case measure => have := HK1.out; omega
         case rel => exact ⟨(Go.bits .or .i64 (wrap64 (x6_1 * 64)) 0), (wrap64 (x7_1 + 1)), (wrap64 (x11_1 + 1)), ap2, ap2, ap2, H', ⟨by have := HK1.out; omega⟩, ⟨by (with_reducible repeat (first | apply Kd.R_alloc | apply Kd.R_drewN | apply Kd.R_drew)); exact HO_1.out⟩, ⟨by repeat (first | (with_reducible first | exact HK.out | apply Kept.alloc | apply Kept.drewN | apply Kept.drew) | exact HK.out)⟩, ⟨by repeat (first | (with_reducible first | exact HB.out | apply below_alloc | apply pw_below_drewN | apply below_drew1) | exact HB.out)⟩⟩
        ·
         rw [if_neg c11] at H
         have c11b0 := decide_eq_false c11
         clear c11
         have H' := Aside0.mk H
         clear H
         have p6 : 0 ≤ (x11_1 : Int) := of_decide_eq_true ap0
         have q6 : x11_1 < (a0.size : Int) := of_decide_eq_true ap0
         have hx6 := bt_at a0 x11_1
         replace p6 := eq_true p6
         replace q6 := eq_true q6
         go_wp2_with (first | ((with_reducible refine gate_callee (f := 50) rfl ?_); refine goesL_ (some 17) rfl rfl Tryd.func50 (by kernel_rfl) rfl #[.string (⟨#[65, 66, 67, 68, 69, 70, 71, 72, 73, 74, 75, 76, 77, 78, 79, 80, 81, 82, 83, 84, 85, 86, 87, 88, 89, 90, 97, 98, 99, 100, 101, 102, 103, 104, 105, 106, 107, 108, 109, 110, 111, 112, 113, 114, 115, 116, 117, 118, 119, 120, 121, 122, 48, 49, 50, 51, 52, 53, 54, 55, 56, 57, 43, 47]⟩ : ByteArray), .int .u8 (bt a0 x11_1)] rfl ap3 ?_; (with_reducible refine (strings_IndexByte.calls (⟨#[65, 66, 67, 68, 69, 70, 71, 72, 73, 74, 75, 76, 77, 78, 79, 80, 81, 82, 83, 84, 85, 86, 87, 88, 89, 90, 97, 98, 99, 100, 101, 102, 103, 104, 105, 106, 107, 108, 109, 110, 111, 112, 113, 114, 115, 116, 117, 118, 119, 120, 121, 122, 48, 49, 50, 51, 52, 53, 54, 55, 56, 57, 43, 47]⟩ : ByteArray) (bt a0 x11_1) t130 _ A7.out).mono ?_); rintro e w' ⟨rfl, ⟨nd, rfl⟩⟩; refine ⟨_, rfl, ?_⟩; have p8 : 0 ≤ (x11_1 : Int) := of_decide_eq_true ap0; have q8 : x11_1 < (a0.size : Int) := of_decide_eq_true ap0; have hx8 := bt_at a0 x11_1; replace p8 := eq_true p8; replace q8 := eq_true q8))
         go_roundg k1
         case measure => have := HK1.out; omega
         case rel => exact ⟨(Go.bits .or .i64 (wrap64 (x6_1 * 64)) 0), (wrap64 (x7_1 + 1)), (wrap64 (x11_1 + 1)), ap2, ap2, ap2, H', ⟨by have := HK1.out; omega⟩, ⟨by (with_reducible repeat (first | apply Kd.R_alloc | apply Kd.R_drewN | apply Kd.R_drew)); exact HO_1.out⟩, ⟨by repeat (first | (with_reducible first | exact HK.out | apply Kept.alloc | apply Kept.drewN | apply Kept.drew) | exact HK.out)⟩, ⟨by repeat (first | (with_reducible first | exact HB.out | apply below_alloc | apply pw_below_drewN | apply below_drew1) | exact HB.out)⟩⟩
      ·
       rw [if_neg c9] at H
       have c9b0 : ((bt a0 x11_1) == 61) = false := beq_eq_false_iff_ne.mpr c9
       have c9b1 : ((bt a0 x11_1) != 61) = true := bne_iff_ne.mpr c9
       by_cases c13 : t130 < 0
       ·
        rw [if_pos c13] at H
        have c13b0 := decide_eq_true c13
        clear c13
        simp only [Option.some.injEq, Prod.mk.injEq] at H
        obtain ⟨rfl, rfl⟩ := H
        have p6 : 0 ≤ (x11_1 : Int) := of_decide_eq_true ap0
        have q6 : x11_1 < (a0.size : Int) := of_decide_eq_true ap0
        have hx6 := bt_at a0 x11_1
        replace p6 := eq_true p6
        replace q6 := eq_true q6
        go_wp2_with (first | ((with_reducible refine gate_callee (f := 50) rfl ?_); refine goesL_ (some 17) rfl rfl Tryd.func50 (by kernel_rfl) rfl #[.string (⟨#[65, 66, 67, 68, 69, 70, 71, 72, 73, 74, 75, 76, 77, 78, 79, 80, 81, 82, 83, 84, 85, 86, 87, 88, 89, 90, 97, 98, 99, 100, 101, 102, 103, 104, 105, 106, 107, 108, 109, 110, 111, 112, 113, 114, 115, 116, 117, 118, 119, 120, 121, 122, 48, 49, 50, 51, 52, 53, 54, 55, 56, 57, 43, 47]⟩ : ByteArray), .int .u8 (bt a0 x11_1)] rfl ap3 ?_; (with_reducible refine (strings_IndexByte.calls (⟨#[65, 66, 67, 68, 69, 70, 71, 72, 73, 74, 75, 76, 77, 78, 79, 80, 81, 82, 83, 84, 85, 86, 87, 88, 89, 90, 97, 98, 99, 100, 101, 102, 103, 104, 105, 106, 107, 108, 109, 110, 111, 112, 113, 114, 115, 116, 117, 118, 119, 120, 121, 122, 48, 49, 50, 51, 52, 53, 54, 55, 56, 57, 43, 47]⟩ : ByteArray) (bt a0 x11_1) t130 _ A7.out).mono ?_); rintro e w' ⟨rfl, ⟨nd, rfl⟩⟩; refine ⟨_, rfl, ?_⟩; have p8 : 0 ≤ (x11_1 : Int) := of_decide_eq_true ap0; have q8 : x11_1 < (a0.size : Int) := of_decide_eq_true ap0; have hx8 := bt_at a0 x11_1; replace p8 := eq_true p8; replace q8 := eq_true q8))
        go_ret2
        exact ⟨_, by first | rfl | (simp [errW_none, errW_some, bne_nil8, beq_nil8]; done) | (simp [errW_none, errW_some] <;> rfl) | (simp [*, errW_none, errW_some] <;> rfl), by first | exact Kd.R_nil _ _ _ _ _ | exact Kd.N_nil _ _ _ _ _ | exact Kd.V_nil _ _ _ _ _ | exact Kd.Q_nil _ _ _ _ _ | exact Kd.S_nil _ _ _ _ _, by repeat (first | (with_reducible first | exact HB.out | apply below_alloc | apply pw_below_drewN | apply below_drew1) | exact HB.out), by repeat (first | (with_reducible first | exact HK.out | apply Kept.alloc | apply Kept.drewN | apply Kept.drew) | exact HK.out)⟩
       ·
        rw [if_neg c13] at H
        have c13b0 := decide_eq_false c13
        clear c13
        by_cases c14 : x7_1 > 0
        ·
         rw [if_pos c14] at H
         have c14b0 := decide_eq_true c14
         clear c14
         simp only [Option.some.injEq, Prod.mk.injEq] at H
         obtain ⟨rfl, rfl⟩ := H
         have p6 : 0 ≤ (x11_1 : Int) := of_decide_eq_true ap0
         have q6 : x11_1 < (a0.size : Int) := of_decide_eq_true ap0
         have hx6 := bt_at a0 x11_1
         replace p6 := eq_true p6
         replace q6 := eq_true q6
         go_wp2_with (first | ((with_reducible refine gate_callee (f := 50) rfl ?_); refine goesL_ (some 17) rfl rfl Tryd.func50 (by kernel_rfl) rfl #[.string (⟨#[65, 66, 67, 68, 69, 70, 71, 72, 73, 74, 75, 76, 77, 78, 79, 80, 81, 82, 83, 84, 85, 86, 87, 88, 89, 90, 97, 98, 99, 100, 101, 102, 103, 104, 105, 106, 107, 108, 109, 110, 111, 112, 113, 114, 115, 116, 117, 118, 119, 120, 121, 122, 48, 49, 50, 51, 52, 53, 54, 55, 56, 57, 43, 47]⟩ : ByteArray), .int .u8 (bt a0 x11_1)] rfl ap3 ?_; (with_reducible refine (strings_IndexByte.calls (⟨#[65, 66, 67, 68, 69, 70, 71, 72, 73, 74, 75, 76, 77, 78, 79, 80, 81, 82, 83, 84, 85, 86, 87, 88, 89, 90, 97, 98, 99, 100, 101, 102, 103, 104, 105, 106, 107, 108, 109, 110, 111, 112, 113, 114, 115, 116, 117, 118, 119, 120, 121, 122, 48, 49, 50, 51, 52, 53, 54, 55, 56, 57, 43, 47]⟩ : ByteArray) (bt a0 x11_1) t130 _ A7.out).mono ?_); rintro e w' ⟨rfl, ⟨nd, rfl⟩⟩; refine ⟨_, rfl, ?_⟩; have p8 : 0 ≤ (x11_1 : Int) := of_decide_eq_true ap0; have q8 : x11_1 < (a0.size : Int) := of_decide_eq_true ap0; have hx8 := bt_at a0 x11_1; replace p8 := eq_true p8; replace q8 := eq_true q8; have p15 : 0 ≤ (x11_1 : Int) := of_decide_eq_true ap0; have q15 : x11_1 < (a0.size : Int) := of_decide_eq_true ap0; have hx15 := bt_at a0 x11_1; replace p15 := eq_true p15; replace q15 := eq_true q15))
         go_ret2
         exact ⟨_, by first | rfl | (simp [errW_none, errW_some, bne_nil8, beq_nil8]; done) | (simp [errW_none, errW_some] <;> rfl) | (simp [*, errW_none, errW_some] <;> rfl), by first | exact Kd.R_nil _ _ _ _ _ | exact Kd.N_nil _ _ _ _ _ | exact Kd.V_nil _ _ _ _ _ | exact Kd.Q_nil _ _ _ _ _ | exact Kd.S_nil _ _ _ _ _, by repeat (first | (with_reducible first | exact HB.out | apply below_alloc | apply pw_below_drewN | apply below_drew1) | exact HB.out), by repeat (first | (with_reducible first | exact HK.out | apply Kept.alloc | apply Kept.drewN | apply Kept.drew) | exact HK.out)⟩
        ·
         rw [if_neg c14] at H
         have c14b0 := decide_eq_false c14
         clear c14
         have H' := Aside0.mk H
         clear H
         have p6 : 0 ≤ (x11_1 : Int) := of_decide_eq_true ap0
         have q6 : x11_1 < (a0.size : Int) := of_decide_eq_true ap0
         have hx6 := bt_at a0 x11_1
         replace p6 := eq_true p6
         replace q6 := eq_true q6
         go_wp2_with (first | ((with_reducible refine gate_callee (f := 50) rfl ?_); refine goesL_ (some 17) rfl rfl Tryd.func50 (by kernel_rfl) rfl #[.string (⟨#[65, 66, 67, 68, 69, 70, 71, 72, 73, 74, 75, 76, 77, 78, 79, 80, 81, 82, 83, 84, 85, 86, 87, 88, 89, 90, 97, 98, 99, 100, 101, 102, 103, 104, 105, 106, 107, 108, 109, 110, 111, 112, 113, 114, 115, 116, 117, 118, 119, 120, 121, 122, 48, 49, 50, 51, 52, 53, 54, 55, 56, 57, 43, 47]⟩ : ByteArray), .int .u8 (bt a0 x11_1)] rfl ap3 ?_; (with_reducible refine (strings_IndexByte.calls (⟨#[65, 66, 67, 68, 69, 70, 71, 72, 73, 74, 75, 76, 77, 78, 79, 80, 81, 82, 83, 84, 85, 86, 87, 88, 89, 90, 97, 98, 99, 100, 101, 102, 103, 104, 105, 106, 107, 108, 109, 110, 111, 112, 113, 114, 115, 116, 117, 118, 119, 120, 121, 122, 48, 49, 50, 51, 52, 53, 54, 55, 56, 57, 43, 47]⟩ : ByteArray) (bt a0 x11_1) t130 _ A7.out).mono ?_); rintro e w' ⟨rfl, ⟨nd, rfl⟩⟩; refine ⟨_, rfl, ?_⟩; have p8 : 0 ≤ (x11_1 : Int) := of_decide_eq_true ap0; have q8 : x11_1 < (a0.size : Int) := of_decide_eq_true ap0; have hx8 := bt_at a0 x11_1; replace p8 := eq_true p8; replace q8 := eq_true q8))
         go_roundg k1
         case measure => have := HK1.out; omega
         case rel => exact ⟨(Go.bits .or .i64 (wrap64 (x6_1 * 64)) t130), (x7_1), (wrap64 (x11_1 + 1)), ap2, ap2, ap2, H', ⟨by have := HK1.out; omega⟩, ⟨by (with_reducible repeat (first | apply Kd.R_alloc | apply Kd.R_drewN | apply Kd.R_drew)); exact HO_1.out⟩, ⟨by repeat (first | (with_reducible first | exact HK.out | apply Kept.alloc | apply Kept.drewN | apply Kept.drew) | exact HK.out)⟩, ⟨by repeat (first | (with_reducible first | exact HB.out | apply below_alloc | apply pw_below_drewN | apply below_drew1) | exact HB.out)⟩⟩
     ·
      rw [if_neg c5] at H
      exact absurd H (by simp)
    ·
     rw [if_neg c4] at H
     exact absurd H (by simp)
   ·
    rw [if_neg c3] at H
    have c3b0 := decide_eq_false c3
    clear c3
    by_cases c16 : x7_1 > 2
    ·
     rw [if_pos c16] at H
     have c16b0 := decide_eq_true c16
     clear c16
     simp only [Option.some.injEq, Prod.mk.injEq] at H
     obtain ⟨rfl, rfl⟩ := H
     go_wp2
     go_ret2
     exact ⟨_, by first | rfl | (simp [errW_none, errW_some, bne_nil8, beq_nil8]; done) | (simp [errW_none, errW_some] <;> rfl) | (simp [*, errW_none, errW_some] <;> rfl), by first | exact Kd.R_nil _ _ _ _ _ | exact Kd.N_nil _ _ _ _ _ | exact Kd.V_nil _ _ _ _ _ | exact Kd.Q_nil _ _ _ _ _ | exact Kd.S_nil _ _ _ _ _, by repeat (first | (with_reducible first | exact HB.out | apply below_alloc | apply pw_below_drewN | apply below_drew1) | exact HB.out), by repeat (first | (with_reducible first | exact HK.out | apply Kept.alloc | apply Kept.drewN | apply Kept.drew) | exact HK.out)⟩
    ·
     rw [if_neg c16] at H
     have c16b0 := decide_eq_false c16
     clear c16
     obtain ⟨y120, hy120⟩ : ∃ y_ : List Int, y_ = (([(x6_1 / 65536) % 256, (x6_1 / 256) % 256, (x6_1) % 256] : List Int)) := ⟨_, rfl⟩
     replace H : (if 0 ≤ (wrap64 (3 - x7_1)) then (if (wrap64 (3 - x7_1)) ≤ (y120.length : Int) then ((some (y120.take ((wrap64 (3 - x7_1)) : Int).toNat : List Int)).bind fun y123 => (if l1.length + y123.length < 140737488355328 then (some ((l1 ++ y123), true)) else (none))) else (none)) else (none)) = some (r1, r2) := by first | (rw [hy120]; with_reducible exact H) | (have H2_ := (Option.bind_some _ _).symm.trans H; rw [hy120]; with_reducible exact H2_) | (have H2_ := (Option.bind_some _ _).symm.trans H; with_reducible exact H2_) | with_reducible exact H | (rw [hy120]; exact H) | exact H
     have Ny120 := Aside0.mk hy120
     clear hy120
     obtain ⟨ji17, hji17⟩ : ∃ j_ : Int, (wrap64 (3 - x7_1)) = j_ := ⟨_, rfl⟩
     replace H : (if 0 ≤ (ji17) then (if (ji17) ≤ (y120.length : Int) then ((some (y120.take ((ji17) : Int).toNat : List Int)).bind fun y123 => (if l1.length + y123.length < 140737488355328 then (some ((l1 ++ y123), true)) else (none))) else (none)) else (none)) = some (r1, r2) := by first | (rw [hji17] at H; exact H) | (simp only [hji17] at H ⊢; exact H)
     have hji17w : (IntKind.i64.wrap (3 - x7_1)) = ji17 := (i64_w _).trans hji17
     by_cases c18 : 0 ≤ (ji17)
     ·
      rw [if_pos c18] at H
      have c18b0 := eq_true c18
      have c18b1 := decide_eq_true c18
      clear c18
      by_cases c19 : (ji17) ≤ (y120.length : Int)
      ·
       rw [if_pos c19] at H
       have c19b0 := eq_true c19
       have c19b1 := decide_eq_true c19
       clear c19
       obtain ⟨y123, hy123⟩ : ∃ y_ : List Int, y_ = (y120.take ((ji17) : Int).toNat) := ⟨_, rfl⟩
       replace H : (if l1.length + y123.length < 140737488355328 then (some ((l1 ++ y123), true)) else (none)) = some (r1, r2) := by first | (rw [hy123]; with_reducible exact H) | (have H2_ := (Option.bind_some _ _).symm.trans H; rw [hy123]; with_reducible exact H2_) | (have H2_ := (Option.bind_some _ _).symm.trans H; with_reducible exact H2_) | with_reducible exact H | (rw [hy123]; exact H) | exact H
       have Ny123 := Aside0.mk hy123
       clear hy123
       by_cases c20 : l1.length + y123.length < 140737488355328
       ·
        rw [if_pos c20] at H
        have LMc20 := Aside0.mk c20
        clear c20
        obtain ⟨y127, hy127⟩ : ∃ y_ : List Int, y_ = (l1 ++ y123) := ⟨_, rfl⟩
        replace H : (some (y127, true)) = some (r1, r2) := by first | (rw [hy127]; with_reducible exact H) | (have H2_ := (Option.bind_some _ _).symm.trans H; rw [hy127]; with_reducible exact H2_) | (have H2_ := (Option.bind_some _ _).symm.trans H; with_reducible exact H2_) | with_reducible exact H | (rw [hy127]; exact H) | exact H
        have Ny127 := Aside0.mk hy127
        clear hy127
        simp only [Option.some.injEq, Prod.mk.injEq] at H
        obtain ⟨rfl, rfl⟩ := H
        go_wp2_with (first | ((with_reducible refine gate_dst (N := 51) rfl ?_); refine Kd.R_lit (Kd.int .u8) _ 5 ?hg (N := 51) ?hd (xs := ([(x6_1 / 65536) % 256, (x6_1 / 256) % 256, (x6_1) % 256] : List Int)) (inner := [.int .u8 ((x6_1 / 65536) % 256), .int .u8 ((x6_1 / 256) % 256), .int .u8 ((x6_1) % 256)]) (ok := fun _ => True) (okp := fun _ => True) ?hr ?hp (fun _ hk => hk) trivial (Below.refl _ _) (Nat.le_refl _) (by simp) ?_; (case hd => rfl); (case hg => rfl); (case hr => first | (go_simp; done) | (go_simp; rfl)); (case hp => exact (Reps.one (show Kd.M (Kd.int .u8) _ _ _ ((x6_1 / 65536) % 256) [.int .u8 ((x6_1 / 65536) % 256)] from rfl) (Reps.one (show Kd.M (Kd.int .u8) _ _ _ ((x6_1 / 256) % 256) [.int .u8 ((x6_1 / 256) % 256)] from rfl) (Reps.one (show Kd.M (Kd.int .u8) _ _ _ ((x6_1) % 256) [.int .u8 ((x6_1) % 256)] from rfl) (Reps.none _ _))))); intro v121 w21 ho22 hb hg_ hnew_; clear hg_ hnew_; (first | rw [← Ny120.out] at ho22 | (simp only [Int.reduceToNat] at ho22; rw [← Ny120.out] at ho22)); have n0_ := Aside0.mk (Kd.R_elder' (apAR HO_1.out) (Kd.R_base ho22) hb); have n1_ := Aside0.mk (Kd.R_lower (Kd.R_new' (Kd.R_newM (M := fun k_ => (P1_ k_ ∨ w.heap.size ≤ k_)) ho22 (by first | exact HK.out.1 | exact (show Kept w _ (fun k_ => P1_ k_) from by repeat (first | (with_reducible first | exact HK.out | apply Kept.alloc | apply Kept.drewN | apply Kept.drew) | exact HK.out)).1) (fun k_ h_ => .inr h_)) (Kd.R_lt (apAR HO_1.out))) (below_size ap1)); have n2_ := Aside0.mk (Kept.below (S := (fun k_ => P1_ k_)) (by repeat (first | (with_reducible first | exact HK.out | apply Kept.alloc | apply Kept.drewN | apply Kept.drew) | exact HK.out)) hb); have n3_ := Aside0.mk (below_step ap1 hb); clear HO_1; clear HK; clear HB; have HO_1 := n0_; have HO122 := n1_; have HK := n2_; have HB := n3_; clear n0_ n1_ n2_ n3_; clear hb ho22; obtain ⟨Ao24, co24, eo24⟩ := Kd.R_slice HO122.out; subst eo24; have q23 : ((ji17) : Int) ≤ ((y120.length : Int) : Int) := of_decide_eq_true ap0; obtain ⟨i023, hi023, _, hsz23, _⟩ := info_parts info5; have hroom23 : y120.length ≤ co24 := (Kd.R_reads' HO122.out).2.1; have hC23 : Kd.C (Kd.int .u8) _ Ao24 y120.length y120 := (Kd.R_reads' HO122.out).2.2; have hcut23 := cut_to (P := Tryd.prog) 72 5 .i64 Tryd.underlying72 hi023 Ao24 y120.length co24 (ji17) (of_decide_eq_true ap0) q23 hroom23; have hr23 := Kd.C_take (m := ((ji17) : Int).toNat) hC23 (by omega); have hy23 : y123.length = ((ji17) : Int).toNat := (by rw [Ny123.out, List.length_take]; omega); rw [← Ny123.out] at hr23; rw [← hy23] at hcut23; have HR126 := Aside0.mk hr23; have HC126 := Aside0.mk (show y123.length ≤ co24 from by omega); clear hr23 hC23 hroom23 hi023 hsz23; have KY23 := Aside0.mk hy23; clear hy23; have KL23 := Aside0.mk (show ((ji17) : Int).toNat ≤ y120.length from by omega); replace q23 := eq_true q23) | ((with_reducible refine gate_builtin (b := .append) (xs := #[.tmp 52, .tmp 56]) rfl ?_); at_builtin; refine Kd.R_append_rows (Kd.int .u8) (w0 := w0) w0.heap.size rfl (.tmp 52) (.tmp 56) 72 5 (.int .u8 0) 1 rfl Tryd.underlying72 info5 rfl (by decide) (by omega) u9000_ l1 y123 _ _ _ (fun k_ => (P1_ k_ ∨ w.heap.size ≤ k_) ∧ some k_ ≠ (.slice Ao24 y120.length co24 : Value).ownBlock) (fun _ => False) rfl rfl ?aO ?aR (fun _ _ h => h) (fun _ h => h.elim) ?aF ?aB ?aS ?aL ?_; (case aR => repeat (first | exact (apC HR126.out) | (with_reducible refine Kd.C_alloc ?_ _) | (with_reducible refine Kd.C_drewN ?_ _) | (with_reducible refine Kd.C_drew ?_))); (case aB => exact ap1); (case aF => exact (fun k_ hk => ⟨(.inr (Nat.le_trans (by first | exact HK.out.1 | exact (show Kept w _ (fun k_ => P1_ k_) from by repeat (first | (with_reducible first | exact HK.out | apply Kept.alloc | apply Kept.drewN | apply Kept.drew) | exact HK.out)).1) hk)), Kd.fresh' (Kd.R_lt (apAR HO122.out)) k_ hk⟩)); (case aO => exact (apAR HO_1.out)); (case aS => exact (below_size ap1)); (case aL => have := LMc20.out; omega); intro v128 w25 ho hb hg hat; rw [← Ny127.out] at ho; have n0_ := Aside0.mk (Kd.R_after (ok := (fun k_ => (P1_ k_ ∨ w.heap.size ≤ k_))) (by (with_reducible repeat (first | apply Kd.R_alloc | apply Kd.R_drewN | apply Kd.R_drew)); exact Kd.R_mono HO122.out (fun _ hk => ⟨hk.1.1, hk.2⟩)) hg hat); have n1_ := Aside0.mk (hb); have n2_ := Aside0.mk (Kept.of_grown (S := (fun k_ => P1_ k_)) hg (by repeat (first | (with_reducible first | exact HK.out | apply Kept.alloc | apply Kept.drewN | apply Kept.drew) | exact HK.out)) (fun k_ e_ => (HO_1.out.1 k_ e_).1)); have n3_ := Aside0.mk ((show Kd.C (Kd.int .u8) w25 Ao24 y123.length y123 from by rw [Ny123.out]; exact Kd.C_take (m := ((ji17) : Int).toNat) ((Kd.R_reads' (Kd.R_after (ok := (fun k_ => (P1_ k_ ∨ w.heap.size ≤ k_))) (by (with_reducible repeat (first | apply Kd.R_alloc | apply Kd.R_drewN | apply Kd.R_drew)); exact Kd.R_mono HO122.out (fun _ hk => ⟨hk.1.1, hk.2⟩)) hg hat)).2.2) KL23.out)); have n4_ := Aside0.mk (ho); clear HO122; clear HB; clear HK; clear HR126; clear HO_1; have HO122 := n0_; have HB := n1_; have HK := n2_; have HR126 := n3_; have HO129 := n4_; clear n0_ n1_ n2_ n3_ n4_; clear ho hb hg hat))
        go_ret2
        exact ⟨_, by first | rfl | (simp [errW_none, errW_some, bne_nil8, beq_nil8]; done) | (simp [errW_none, errW_some] <;> rfl) | (simp only [← hji17]; first | rfl | (simp [errW_none, errW_some] <;> rfl)) | (simp [*, errW_none, errW_some] <;> rfl), by (with_reducible repeat (first | apply Kd.R_alloc | apply Kd.R_drewN | apply Kd.R_drew)); exact Kd.R_mono HO129.out (fun _ hk => hk.1), by repeat (first | (with_reducible first | exact HB.out | apply below_alloc | apply pw_below_drewN | apply below_drew1) | exact HB.out), by repeat (first | (with_reducible first | exact HK.out | apply Kept.alloc | apply Kept.drewN | apply Kept.drew) | exact HK.out)⟩
       ·
        rw [if_neg c20] at H
        exact absurd H (by simp)
      ·
       rw [if_neg c19] at H
       exact absurd H (by simp)
     ·
      rw [if_neg c18] at H
      exact absurd H (by simp)
def b64_Decode.l0 : Nat → ByteArray → List Int → Int → Option (ByteArray × Int)
 | 0, _, _, _ => none
 | k + 1, x0, x4, x5 => if x5 < (x0.size : Int) then (if 0 ≤ x5 then (if x5 ≤ (wrap64 (x5 + 4)) then (if (wrap64 (x5 + 4)) ≤ (x0.size : Int) then ((b64_four.f k (x0.extract (x5 : Int).toNat ((wrap64 (x5 + 4)) : Int).toNat) x4).bind fun bt131 => (if bt131.2 = true then (b64_Decode.l0 k x0 bt131.1 (wrap64 (x5 + 4))) else (some ((⟨#[]⟩ : ByteArray), 4)))) else (none)) else (none)) else (none)) else ((b64_Encode.f (strOfNums x4)).bind fun t135 => (if t135.toList = x0.toList then (some (strOfNums x4, 0)) else (some ((⟨#[]⟩ : ByteArray), 4))))
def b64_Decode.f (k : Nat) (a0 : ByteArray) : Option (ByteArray × Int) := if ((a0.size : Int) % 4) = 0 then (b64_Decode.l0 k a0 ([] : List Int) 0) else (some ((⟨#[]⟩ : ByteArray), 4))
set_option maxHeartbeats 8000000 in
set_option maxRecDepth 100000 in
theorem b64_Decode.calls (k : Nat) (a0 : ByteArray) (r1 : ByteArray) (r2 : Int) (w : World) (h : b64_Decode.f k a0 = some (r1, r2)) :
  Calls Tryd.prog 53 #[.string a0] w fun e w' => e = .returned (.tuple #[.string r1, .int .i64 r2]) ∧ Below w.heap.size w w' := by
 have HB := Aside0.mk (Below.refl w.heap.size w)
 have H : (if ((a0.size : Int) % 4) = 0 then (b64_Decode.l0 k a0 ([] : List Int) 0) else (some ((⟨#[]⟩ : ByteArray), 4))) = some (r1, r2) := h
 clear h
 by_cases c2 : ((a0.size : Int) % 4) = 0
 ·
  rw [if_pos c2] at H
  have c2b0 : (((a0.size : Int) % 4) == 0) = true := beq_iff_eq.mpr c2
  have c2b1 : (((a0.size : Int) % 4) != 0) = false := bne_eq_false_iff_eq.mpr c2
  clear c2
  have H' := Aside0.mk H
  clear H
  go_enter Tryd.func53, Tryd.ntmps53
  go_wp2
  go_loopg [4, 5] k (fun kq v4 v5 w' => ∃ (x4_1 : List Int) (x5_1 : Int), v5 = .int .i64 x5_1 ∧ Aside0 (b64_Decode.l0 kq a0 x4_1 x5_1 = some (r1, r2)) ∧ Aside0 (kq ≤ k) ∧ Aside0 (Kd.R (Kd.int .u8) 5 w' w.heap.size (fun _ => True) v4 x4_1) ∧ Aside0 (Below w.heap.size w w'))
  case atStart => exact ⟨(([] : List Int)), (0), ap2, H', ⟨Nat.le_refl _⟩, ⟨by first | exact Kd.R_nil _ _ _ _ _ | exact Kd.N_nil _ _ _ _ _ | exact Kd.V_nil _ _ _ _ _ | exact Kd.Q_nil _ _ _ _ _ | exact Kd.S_nil _ _ _ _ _⟩, ⟨by repeat (first | (with_reducible first | exact HB.out | apply below_alloc | apply pw_below_drewN | apply below_drew1) | exact HB.out)⟩⟩
  case round =>
   clear H'
   try clear c2
   try clear c2b0
   try clear c2b1
   try clear p2
   obtain ⟨x4_1, x5_1, rfl, HA, HK1, HO_4, HB⟩ := hrel
   cases gk with
   | zero => exact absurd HA.out (by simp [b64_Decode.l0])
   | succ k1 =>
    have H := HA.out
    clear HA
    simp only [b64_Decode.l0] at H
    by_cases c3 : x5_1 < (a0.size : Int)
    ·
     rw [if_pos c3] at H
     have c3b0 := decide_eq_true c3
     clear c3
     by_cases c4 : 0 ≤ x5_1
     ·
      rw [if_pos c4] at H
      have c4b0 := eq_true c4
      have c4b1 := decide_eq_true c4
      clear c4
      by_cases c5 : x5_1 ≤ (wrap64 (x5_1 + 4))
      ·
       rw [if_pos c5] at H
       have c5b0 := eq_true c5
       have c5b1 := decide_eq_true c5
       by_cases c6 : (wrap64 (x5_1 + 4)) ≤ (a0.size : Int)
       ·
        rw [if_pos c6] at H
        have c6b0 := eq_true c6
        have c6b1 := decide_eq_true c6
        replace H := Option.bind_eq_some_iff.mp H
        obtain ⟨⟨t131, t134⟩, A70, H⟩ := H
        replace H : (if t134 = true then (b64_Decode.l0 k1 a0 t131 (wrap64 (x5_1 + 4))) else (some ((⟨#[]⟩ : ByteArray), 4))) = some (r1, r2) := H
        have A7 := Aside0.mk A70
        clear A70
        by_cases c8 : t134 = true
        ·
         subst c8
         rw [if_pos rfl] at H
         have H' := Aside0.mk H
         clear H
         obtain ⟨Ao9, co9, eo9⟩ := Kd.R_slice HO_4.out
         subst eo9
         go_wp2_with (first | ((with_reducible refine gate_callee (f := 79) rfl ?_); refine goesL_ (some 25) rfl rfl Tryd.func79 (by kernel_rfl) rfl #[.string (a0.extract (x5_1 : Int).toNat ((wrap64 (x5_1 + 4)) : Int).toNat), .slice Ao9 x4_1.length co9] rfl ap3 ?_; (with_reducible refine (b64_four.calls k1 (a0.extract (x5_1 : Int).toNat ((wrap64 (x5_1 + 4)) : Int).toNat) (fun k_ => some k_ = (.slice Ao9 x4_1.length co9 : Value).ownBlock) (.slice Ao9 x4_1.length co9) x4_1 t131 true w _ ?side1 ?side2 A7.out).mono ?_); (case side1 => repeat (first | (with_reducible first | exact HB.out | apply below_alloc | apply pw_below_drewN | apply below_drew1) | exact HB.out)); (case side2 => exact Kd.R_tight rfl HO_4.out); rintro e w10 ⟨v132, rfl, ho0, hb, hkp⟩; refine ⟨_, rfl, ?_⟩; have n0_ := Aside0.mk (Kd.R_mono (ok' := fun k_ => True) ho0 (fun k_ hk_ => trivial)); have n1_ := Aside0.mk (hb); clear HB; clear HO_4; have HO133 := n0_; have HB := n1_; clear n0_ n1_; (try clear hb); (try clear hkp); (try clear ho0)))
         go_roundg k1
         case measure => have := HK1.out; omega
         case rel => exact ⟨(t131), (wrap64 (x5_1 + 4)), ap2, H', ⟨by have := HK1.out; omega⟩, ⟨by (with_reducible repeat (first | apply Kd.R_alloc | apply Kd.R_drewN | apply Kd.R_drew)); exact HO133.out⟩, ⟨by repeat (first | (with_reducible first | exact HB.out | apply below_alloc | apply pw_below_drewN | apply below_drew1) | exact HB.out)⟩⟩
        ·
         replace c8 := Bool.eq_false_iff.mpr c8
         subst c8
         rw [if_neg (show ¬ (false = true) by decide)] at H
         simp only [Option.some.injEq, Prod.mk.injEq] at H
         obtain ⟨rfl, rfl⟩ := H
         obtain ⟨Ao11, co11, eo11⟩ := Kd.R_slice HO_4.out
         subst eo11
         go_wp2_with (first | ((with_reducible refine gate_callee (f := 79) rfl ?_); refine goesL_ (some 25) rfl rfl Tryd.func79 (by kernel_rfl) rfl #[.string (a0.extract (x5_1 : Int).toNat ((wrap64 (x5_1 + 4)) : Int).toNat), .slice Ao11 x4_1.length co11] rfl ap3 ?_; (with_reducible refine (b64_four.calls k1 (a0.extract (x5_1 : Int).toNat ((wrap64 (x5_1 + 4)) : Int).toNat) (fun k_ => some k_ = (.slice Ao11 x4_1.length co11 : Value).ownBlock) (.slice Ao11 x4_1.length co11) x4_1 t131 false w _ ?side1 ?side2 A7.out).mono ?_); (case side1 => repeat (first | (with_reducible first | exact HB.out | apply below_alloc | apply pw_below_drewN | apply below_drew1) | exact HB.out)); (case side2 => exact Kd.R_tight rfl HO_4.out); rintro e w12 ⟨v132, rfl, ho0, hb, hkp⟩; refine ⟨_, rfl, ?_⟩; have n0_ := Aside0.mk (Kd.R_mono (ok' := fun k_ => True) ho0 (fun k_ hk_ => trivial)); have n1_ := Aside0.mk (hb); clear HB; clear HO_4; have HO133 := n0_; have HB := n1_; clear n0_ n1_; (try clear hb); (try clear hkp); (try clear ho0)))
         go_ret2
         exact ⟨by first | rfl | (simp [errW_none, errW_some, bne_nil8, beq_nil8]; done) | (simp [errW_none, errW_some] <;> rfl) | (simp [*, errW_none, errW_some] <;> rfl), by repeat (first | (with_reducible first | exact HB.out | apply below_alloc | apply pw_below_drewN | apply below_drew1) | exact HB.out)⟩
       ·
        rw [if_neg c6] at H
        exact absurd H (by simp)
      ·
       rw [if_neg c5] at H
       exact absurd H (by simp)
     ·
      rw [if_neg c4] at H
      exact absurd H (by simp)
    ·
     rw [if_neg c3] at H
     have c3b0 := decide_eq_false c3
     clear c3
     replace H := Option.bind_eq_some_iff.mp H
     obtain ⟨t135, A130, H⟩ := H
     replace H : (if t135.toList = a0.toList then (some (strOfNums x4_1, 0)) else (some ((⟨#[]⟩ : ByteArray), 4))) = some (r1, r2) := H
     have A13 := Aside0.mk A130
     clear A130
     by_cases c14 : t135.toList = a0.toList
     ·
      rw [if_pos c14] at H
      have c14b0 : (t135.toList == a0.toList) = true := beq_iff_eq.mpr c14
      have c14b1 : (t135.toList != a0.toList) = false := bne_eq_false_iff_eq.mpr c14
      clear c14
      simp only [Option.some.injEq, Prod.mk.injEq] at H
      obtain ⟨rfl, rfl⟩ := H
      have hcv15 := own_string (P := Tryd.prog) Tryd.underlying72 Tryd.underlying5 Tryd.underlying9 (Kd.own_of_R HO_4.out)
      go_wp2_with (first | ((with_reducible refine gate_callee (f := 80) rfl ?_); refine goesL_ (some 33) rfl rfl Tryd.func80 (by kernel_rfl) rfl #[.string (strOfNums x4_1)] rfl ap3 ?_; (with_reducible refine (b64_Encode.calls (strOfNums x4_1) t135 _ A13.out).mono ?_); rintro e w16 ⟨rfl, hb⟩; refine ⟨_, rfl, ?_⟩; have n0_ := Aside0.mk (Kd.R_below (apAR HO_4.out) hb); have n1_ := Aside0.mk (below_step ap1 hb); clear HO_4; clear HB; have HO_4 := n0_; have HB := n1_; clear n0_ n1_; (try clear hb); (try clear hb2); (try clear hk); (try clear hi); have hcv17 := own_string (P := Tryd.prog) Tryd.underlying72 Tryd.underlying5 Tryd.underlying9 (Kd.own_of_R HO_4.out)))
      go_ret2
      exact ⟨by first | rfl | (simp [errW_none, errW_some, bne_nil8, beq_nil8]; done) | (simp [errW_none, errW_some] <;> rfl) | (simp [*, errW_none, errW_some] <;> rfl), by repeat (first | (with_reducible first | exact HB.out | apply below_alloc | apply pw_below_drewN | apply below_drew1) | exact HB.out)⟩
     ·
      rw [if_neg c14] at H
      have c14b0 : (t135.toList == a0.toList) = false := beq_eq_false_iff_ne.mpr c14
      have c14b1 : (t135.toList != a0.toList) = true := bne_iff_ne.mpr c14
      simp only [Option.some.injEq, Prod.mk.injEq] at H
      obtain ⟨rfl, rfl⟩ := H
      have hcv18 := own_string (P := Tryd.prog) Tryd.underlying72 Tryd.underlying5 Tryd.underlying9 (Kd.own_of_R HO_4.out)
      go_wp2_with (first | ((with_reducible refine gate_callee (f := 80) rfl ?_); refine goesL_ (some 33) rfl rfl Tryd.func80 (by kernel_rfl) rfl #[.string (strOfNums x4_1)] rfl ap3 ?_; (with_reducible refine (b64_Encode.calls (strOfNums x4_1) t135 _ A13.out).mono ?_); rintro e w19 ⟨rfl, hb⟩; refine ⟨_, rfl, ?_⟩; have n0_ := Aside0.mk (Kd.R_below (apAR HO_4.out) hb); have n1_ := Aside0.mk (below_step ap1 hb); clear HO_4; clear HB; have HO_4 := n0_; have HB := n1_; clear n0_ n1_; (try clear hb); (try clear hb2); (try clear hk); (try clear hi)))
      go_ret2
      exact ⟨by first | rfl | (simp [errW_none, errW_some, bne_nil8, beq_nil8]; done) | (simp [errW_none, errW_some] <;> rfl) | (simp [*, errW_none, errW_some] <;> rfl), by repeat (first | (with_reducible first | exact HB.out | apply below_alloc | apply pw_below_drewN | apply below_drew1) | exact HB.out)⟩
 ·
  rw [if_neg c2] at H
  have c2b0 : (((a0.size : Int) % 4) == 0) = false := beq_eq_false_iff_ne.mpr c2
  have c2b1 : (((a0.size : Int) % 4) != 0) = true := bne_iff_ne.mpr c2
  simp only [Option.some.injEq, Prod.mk.injEq] at H
  obtain ⟨rfl, rfl⟩ := H
  go_enter Tryd.func53, Tryd.ntmps53
  go_wp2
  go_ret2
  exact ⟨by first | rfl | (simp [errW_none, errW_some, bne_nil8, beq_nil8]; done) | (simp [errW_none, errW_some] <;> rfl) | (simp [*, errW_none, errW_some] <;> rfl), by repeat (first | (with_reducible first | exact HB.out | apply below_alloc | apply pw_below_drewN | apply below_drew1) | exact HB.out)⟩
end Go.Proofs.YtkklacijhmoopaaDoor.Print
namespace Go.Proofs.YtkklacijhmoopaaDoor.Print
open Go.RowKit Go.Proofs.YtkklacijhmoopaaDoorW.PrintWords Go.Proofs.YtkklacijhmoopaaDoorW.PrintLast Go.Proofs.YtkklacijhmoopaaDoorW.PrintMore
set_option linter.unusedVariables false
set_option linter.unusedSimpArgs false
namespace B64
def numI (c : UInt8) : Int := Lib.indexByte b64Tab.toList c
theorem num_let : ∀ n : Nat, n < 64 → numI (b64Let n) = (n : Int) ∧ b64Let n ≠ 61 := by decide +kernel
theorem num_all : ∀ n : Nat, n < 256 → numI (UInt8.ofNat n) < 64 := by decide +kernel
theorem num_lt (c : UInt8) : numI c < 64 := by
  have := num_all c.toNat c.toNat_lt
  rwa [UInt8.ofNat_toNat] at this
theorem refnum_all : ∀ n : Nat, n < 256 → R14Number.f 70 (n : Int) = some (numI (UInt8.ofNat n)) := by decide +kernel
theorem refnum_ev (c : UInt8) : Ev (fun k => R14Number.f k (c.toNat : Int)) (numI c) := by
  have h := refnum_all c.toNat c.toNat_lt
  rw [UInt8.ofNat_toNat] at h
  exact ⟨70, fun k hk => at_rounds (fun k => R14Number.mono _ k) hk h⟩
def fourGo : List UInt8 → Nat → Nat → Option (Nat × Nat)
  | [], n, p => some (n, p)
  | c :: r, n, p => if c = 61 then fourGo r (n * 64) (p + 1) else if numI c < 0 then none else if 0 < p then none else fourGo r (n * 64 + (numI c).toNat) p
def four4 (g : List UInt8) : Option (List UInt8) := match fourGo g 0 0 with
  | none => none
  | some (n, p) => if 2 < p then none else some (([(n / 65536 % 256).toUInt8, (n / 256 % 256).toUInt8, (n % 256).toUInt8]).take (3 - p))
def progDec : List UInt8 → List UInt8 → Option (List UInt8)
  | a :: b :: c :: d :: r, acc => match four4 [a, b, c, d] with
    | none => none
    | some x => progDec r (acc ++ x)
  | _, acc => some acc
theorem or_six (x b : Nat) (hb : b < 64) (hx : x < 1000000) : Go.bits .or .i64 (wrap64 ((x : Int) * 64)) (b : Int) = ((x * 64 + b : Nat) : Int) := by
  rw [show wrap64 ((x : Int) * 64) = ((x * 2 ^ 6 : Nat) : Int) by unfold wrap64; omega, or_shift x b 6 (by omega) (by omega)]
theorem u8n (n : Nat) (h : n < 256) : n.toUInt8.toNat = n := by
  show (UInt8.ofNat n).toNat = n
  rw [UInt8.toNat_ofNat']; exact Nat.mod_eq_of_lt (by omega)
def fourR (acc : List UInt8) : Option (List UInt8) → List Int × Bool
  | none => ([], false)
  | some x => (ints (acc ++ x), true)
theorem four_fin (s : ByteArray) (acc : List UInt8) (hacc : acc.length ≤ 100000000) (n p : Nat) (hn : n < 16777216) (hp : p ≤ 4) :
    Ev (fun k => b64_four.l0 k s (ints acc) (n : Int) (p : Int) 4) (fourR acc (if 2 < p then none else some (([(n / 65536 % 256).toUInt8, (n / 256 % 256).toUInt8, (n % 256).toUInt8]).take (3 - p)))) := by
  refine Ev.step (fun k => by rw [b64_four.l0]) ?_
  refine Ev.neg (by omega) ?_
  by_cases h : 2 < p
  · rw [if_pos h]; exact Ev.pos (by omega) Ev.rfl'
  · rw [if_neg h]
    refine Ev.neg (by omega) (Ev.bindc rfl ?_)
    rw [show wrap64 (3 - (p : Int)) = ((3 - p : Nat) : Int) by unfold wrap64; omega, Int.toNat_natCast]
    refine Ev.pos (by omega) (Ev.pos (by simp only [List.length_cons, List.length_nil]; omega) (Ev.bindc rfl ?_))
    have e : [((n : Int) / 65536) % 256, ((n : Int) / 256) % 256, (n : Int) % 256] = ints [(n / 65536 % 256).toUInt8, (n / 256 % 256).toUInt8, (n % 256).toUInt8] := by
      simp only [ints, List.map_cons, List.map_nil]
      rw [u8n _ (by omega), u8n _ (by omega), u8n _ (by omega)]
      simp
    rw [e, show (ints [(n / 65536 % 256).toUInt8, (n / 256 % 256).toUInt8, (n % 256).toUInt8]).take (3 - p) = ints (([(n / 65536 % 256).toUInt8, (n / 256 % 256).toUInt8, (n % 256).toUInt8]).take (3 - p)) by unfold ints; rw [List.map_take], ints_app]
    refine Ev.pos (by rw [ints_length, ints_length, List.length_take]; simp only [List.length_cons, List.length_nil]; omega) ?_
    exact Ev.rfl'
theorem four_loop (s : ByteArray) (hs : s.size = 4) (acc : List UInt8) (hacc : acc.length ≤ 100000000) : ∀ (m i n p : Nat), 4 - i = m → i ≤ 4 → n < 64 ^ i → p ≤ i →
    Ev (fun k => b64_four.l0 k s (ints acc) (n : Int) (p : Int) (i : Int)) (fourR acc (match fourGo ((bl s).drop i) n p with
      | none => none
      | some (n, p) => if 2 < p then none else some (([(n / 65536 % 256).toUInt8, (n / 256 % 256).toUInt8, (n % 256).toUInt8]).take (3 - p)))) := by
  have hl := bl_length s
  intro m
  induction m with
  | zero =>
    intro i n p hm hi hn hp
    obtain rfl : i = 4 := by omega
    rw [List.drop_eq_nil_of_le (by omega)]
    exact four_fin s acc hacc n p (by have : (64 : Nat) ^ 4 = 16777216 := by decide
                                      omega) hp
  | succ m ih =>
    intro i n p hm hi hn hp
    have hlt : i < (bl s).length := by omega
    have hd : (bl s).drop i = (bl s)[i] :: (bl s).drop (i + 1) := List.drop_eq_getElem_cons hlt
    have hb : bt s (i : Int) = ((bl s)[i].toNat : Int) := by
      rw [bt_at' (by omega), List.getD_eq_getElem?_getD, List.getElem?_eq_getElem hlt]; rfl
    have hpow : (64 : Nat) ^ i ≤ 64 ^ 3 := Nat.pow_le_pow_right (by omega) (by omega)
    have hpow2 : (64 : Nat) ^ (i + 1) = 64 ^ i * 64 := Nat.pow_succ _ _
    have h643 : (64 : Nat) ^ 3 = 262144 := by decide
    have ihn := ih (i + 1)
    rw [hd, fourGo]
    generalize (bl s)[i] = c at *
    refine Ev.step (fun k => by rw [b64_four.l0]) ?_
    rw [hb, show wrap64 ((i : Int) + 1) = ((i + 1 : Nat) : Int) by unfold wrap64; omega, show wrap64 ((p : Int) + 1) = ((p + 1 : Nat) : Int) by unfold wrap64; omega]
    have hi4 : strings_IndexByte.f (⟨#[65, 66, 67, 68, 69, 70, 71, 72, 73, 74, 75, 76, 77, 78, 79, 80, 81, 82, 83, 84, 85, 86, 87, 88, 89, 90, 97, 98, 99, 100, 101, 102, 103, 104, 105, 106, 107, 108, 109, 110, 111, 112, 113, 114, 115, 116, 117, 118, 119, 120, 121, 122, 48, 49, 50, 51, 52, 53, 54, 55, 56, 57, 43, 47]⟩ : ByteArray) (c.toNat : Int) = some (numI c) := by
      unfold strings_IndexByte.f numI b64Tab
      rw [Int.toNat_natCast, show c.toNat.toUInt8 = c from UInt8.ofNat_toNat]
    refine Ev.pos (by omega) (Ev.pos (by omega) (Ev.pos (by omega) (Ev.bindc hi4 ?_)))
    by_cases h61 : c = 61
    · rw [if_pos h61]
      have ho := or_six n 0 (by omega) (by omega)
      rw [show ((0 : Nat) : Int) = 0 from rfl, Nat.add_zero] at ho
      rw [ho]
      subst h61
      exact Ev.pos rfl (Ev.neg (by omega) (Ev.pos (by omega) (ihn (n * 64) (p + 1) (by omega) (by omega) (by omega) (by omega))))
    · rw [if_neg h61]
      refine Ev.neg (fun h => h61 (UInt8.toNat_inj.1 (by have : (61 : UInt8).toNat = 61 := rfl
                                                         omega))) ?_
      by_cases hneg : numI c < 0
      · rw [if_pos hneg]; exact Ev.pos hneg Ev.rfl'
      · rw [if_neg hneg]
        refine Ev.neg hneg ?_
        by_cases hp0 : 0 < p
        · rw [if_pos hp0]; exact Ev.pos (by omega) Ev.rfl'
        · rw [if_neg hp0]
          have hc := num_lt c
          generalize numI c = z at *
          obtain ⟨q, rfl⟩ := Int.eq_ofNat_of_zero_le (Int.not_lt.1 hneg)
          rw [or_six n q (by omega) (by omega), Int.toNat_natCast]
          refine Ev.neg (by omega) (ihn (n * 64 + q) p (by omega) (by omega) ?_ (by omega))
          rw [hpow2]; omega
theorem four_ev (s : ByteArray) (hs : s.size = 4) (acc : List UInt8) (hacc : acc.length ≤ 100000000) : Ev (fun k => b64_four.f k s (ints acc)) (fourR acc (four4 (bl s))) := by
  unfold b64_four.f four4
  exact four_loop s hs acc hacc 4 0 0 0 rfl (by omega) (by decide) (by omega)
def decFin (s : ByteArray) : Option (List UInt8) → ByteArray × Int
  | none => (⟨#[]⟩, 4)
  | some b => if b64Enc b = bl s then (mkB b, 0) else (⟨#[]⟩, 4)
theorem take_len3 {x : List UInt8} (l : List UInt8) (n : Nat) (h : four4 l = some x) : x.length ≤ 3 := by
  unfold four4 at h
  split at h
  · cases h
  · split at h
    · cases h
    · injection h with h
      subst h
      rw [List.length_take]; simp only [List.length_cons, List.length_nil]; omega
theorem ba_list' {a b : ByteArray} : a.toList = b.toList ↔ bl a = bl b := by rw [Lib.toList_data, Lib.toList_data]
theorem dec_loop (s : ByteArray) (hs : s.size ≤ 1000000) (h4 : s.size % 4 = 0) : ∀ (m j : Nat) (acc : List UInt8), s.size - 4 * j = 4 * m → 4 * j ≤ s.size → acc.length ≤ 3 * j →
    Ev (fun k => b64_Decode.l0 k s (ints acc) ((4 * j : Nat) : Int)) (decFin s (progDec ((bl s).drop (4 * j)) acc)) := by
  have hl := bl_length s
  intro m
  induction m with
  | zero =>
    intro j acc hm hj hacc
    rw [List.drop_eq_nil_of_le (by omega)]
    have e : progDec [] acc = some acc := rfl
    rw [e]
    refine Ev.step (fun k => by rw [b64_Decode.l0]) ?_
    rw [strOf]
    refine Ev.neg (by omega) (Ev.bindc (show b64_Encode.f (mkB acc) = some (mkB (b64Enc acc)) by unfold b64_Encode.f; rw [if_pos (by rw [mkB_size]; omega)]) ?_)
    unfold decFin
    by_cases h : b64Enc acc = bl s
    · simp only [if_pos h]
      exact Ev.pos (ba_list'.2 h) Ev.rfl'
    · simp only [if_neg h]
      exact Ev.neg (fun h' => h (ba_list'.1 h')) Ev.rfl'
  | succ m ih =>
    intro j acc hm hj hacc
    have hlen : ((bl s).drop (4 * j)).length = s.size - 4 * j := by rw [List.length_drop, hl]
    have hdd : (bl s).drop (4 * (j + 1)) = ((bl s).drop (4 * j)).drop 4 := by rw [List.drop_drop]; congr 1
    have hex : bl (s.extract (4 * j) (4 * j + 4)) = ((bl s).drop (4 * j)).take 4 := by
      show (s.extract (4 * j) (4 * j + 4)).data.toList = _
      rw [ByteArray.data_extract, Array.toList_extract, List.extract_eq_take_drop, Nat.add_sub_cancel_left]
    have hsz4 : (s.extract (4 * j) (4 * j + 4)).size = 4 := by rw [ByteArray.size_extract]; omega
    have h4e := four_ev (s.extract (4 * j) (4 * j + 4)) hsz4 acc (by omega)
    rw [hex] at h4e
    have ihj := fun acc' h => ih (j + 1) acc' (by omega) (by omega) h
    rw [hdd] at ihj
    generalize (bl s).drop (4 * j) = g at *
    refine Ev.step (fun k => by rw [b64_Decode.l0]) ?_
    rw [show wrap64 (((4 * j : Nat) : Int) + 4) = ((4 * j + 4 : Nat) : Int) by unfold wrap64; omega, Int.toNat_natCast, Int.toNat_natCast]
    refine Ev.pos (by omega) (Ev.pos (by omega) (Ev.pos (by omega) (Ev.pos (by omega) (Ev.bind h4e ?_))))
    match g, hlen with
    | a :: b :: c :: d :: r, hlen =>
      rw [show (a :: b :: c :: d :: r).take 4 = [a, b, c, d] from rfl, progDec]
      cases h : four4 [a, b, c, d] with
      | none => exact Ev.neg (by simp [fourR]) Ev.rfl'
      | some x =>
        have hx := take_len3 _ 0 h
        have := ihj (acc ++ x) (by rw [List.length_append]; omega)
        rw [show 4 * (j + 1) = 4 * j + 4 by omega] at this
        exact Ev.pos rfl this
    | [a, b, c], hlen => simp only [List.length_cons, List.length_nil] at hlen; omega
    | [a, b], hlen => simp only [List.length_cons, List.length_nil] at hlen; omega
    | [a], hlen => simp only [List.length_cons, List.length_nil] at hlen; omega
    | [], hlen => simp only [List.length_nil] at hlen; omega
theorem dec_ev (s : ByteArray) (hs : s.size ≤ 1000000) : Ev (fun k => b64_Decode.f k s) (if s.size % 4 = 0 then decFin s (progDec (bl s) []) else (⟨#[]⟩, 4)) := by
  unfold b64_Decode.f
  by_cases h : s.size % 4 = 0
  · rw [if_pos h]
    refine Ev.pos (by omega) ?_
    have := dec_loop s hs h (s.size / 4) 0 [] (by omega) (by omega) (by simp)
    exact this
  · rw [if_neg h]; exact Ev.neg (by omega) Ev.rfl'
end B64
end Go.Proofs.YtkklacijhmoopaaDoor.Print
namespace Go.Proofs.YtkklacijhmoopaaDoor.Print
open Go.RowKit Go.Proofs.YtkklacijhmoopaaDoorW.PrintWords Go.Proofs.YtkklacijhmoopaaDoorW.PrintLast Go.Proofs.YtkklacijhmoopaaDoorW.PrintMore
set_option linter.unusedVariables false
set_option linter.unusedSimpArgs false
namespace B64
def refDec : List UInt8 → Nat → Nat → List UInt8 → Option (List UInt8)
  | [], _, _, acc => some acc
  | c :: r, n, bits, acc => if c = 61 then some acc else if numI c < 0 then none else
    if 2 ≤ bits then refDec r ((n * 64 + (numI c).toNat) % 2 ^ (bits - 2)) (bits - 2) (acc ++ [((n * 64 + (numI c).toNat) / 2 ^ (bits - 2)).toUInt8]) else refDec r (n * 64 + (numI c).toNat) (bits + 6) acc
theorem ne61 {c : UInt8} (h : c ≠ 61) : (c.toNat : Int) ≠ 61 := by
  intro h'
  apply h
  apply UInt8.toNat_inj.1
  have : (61 : UInt8).toNat = 61 := rfl
  omega
theorem pow_loop (s : ByteArray) (acc : List Int) (hacc : acc.length ≤ 100000000) (n D i : Nat) (hD : D ≤ 4) (hn : n < 10000000) (hi : i ≤ 10000000) {o : ByteArray × Int}
    (hnext : Ev (fun k => R14Decode.l0 k s (acc ++ [((n / 2 ^ D % 256 : Nat) : Int)]) ((n % 2 ^ D : Nat) : Int) (D : Int) ((i + 1 : Nat) : Int)) o) :
    ∀ (m t : Nat), D - t = m → t ≤ D → Ev (fun k => R14Decode.l1 k s acc (n : Int) ((8 + D : Nat) : Int) (i : Int) ((2 ^ t : Nat) : Int) ((8 + t : Nat) : Int)) o := by
  intro m
  induction m with
  | zero =>
    intro t hm ht
    obtain rfl : t = D := by omega
    have hp : 0 < (2 : Nat) ^ t := Nat.pow_pos (by omega)
    refine Ev.step (fun k => by rw [R14Decode.l1]) ?_
    have hq : n / 2 ^ t ≤ n := Nat.div_le_self _ _
    rw [Int.tdiv_eq_ediv_of_nonneg (by omega), Int.tmod_eq_emod_of_nonneg (by omega), show (n : Int) / ((2 ^ t : Nat) : Int) = ((n / 2 ^ t : Nat) : Int) from rfl, show (n : Int) % ((2 ^ t : Nat) : Int) = ((n % 2 ^ t : Nat) : Int) from rfl]
    generalize n / 2 ^ t = q at *
    generalize n % 2 ^ t = z at *
    generalize (2 : Nat) ^ t = y at *
    rw [w_id q (by omega), show wrap64 (((8 + t : Nat) : Int) - 8) = (t : Int) by unfold wrap64; omega, show wrap64 ((i : Int) + 1) = ((i + 1 : Nat) : Int) by unfold wrap64; omega, show ((q : Int) % 256) = ((q % 256 : Nat) : Int) from rfl]
    exact Ev.neg (by omega) (Ev.neg (by omega) (Ev.pos (by omega) hnext))
  | succ m ih =>
    intro t hm ht
    have := ih (t + 1) (by omega) (by omega)
    have hle : (2 : Nat) ^ t ≤ 2 ^ 4 := Nat.pow_le_pow_right (by omega) (by omega)
    rw [Nat.pow_succ] at this
    refine Ev.step (fun k => by rw [R14Decode.l1]) ?_
    generalize (2 : Nat) ^ t = y at *
    rw [show wrap64 ((y : Int) * 2) = ((y * 2 : Nat) : Int) by unfold wrap64; omega, show wrap64 (((8 + t : Nat) : Int) + 1) = ((8 + (t + 1) : Nat) : Int) by unfold wrap64; omega]
    exact Ev.pos (by omega) this
theorem six_sum (n q : Nat) (hn : n < 1000) (hq : q < 64) : wrap64 ((wrap64 ((n : Int) * 64)) + (q : Int)) = ((n * 64 + q : Nat) : Int) := by unfold wrap64; omega
theorem refdec_loop (s : ByteArray) (hs : s.size ≤ 1000000) : ∀ (m i n bits : Nat) (acc : List UInt8), s.size - i = m → i ≤ s.size → bits ≤ 6 → bits % 2 = 0 → n < 2 ^ bits → acc.length ≤ i →
    Ev (fun k => R14Decode.l0 k s (ints acc) (n : Int) (bits : Int) (i : Int)) (decFin s (refDec ((bl s).drop i) n bits acc)) := by
  have hl := bl_length s
  have hfin : ∀ (i n bits : Nat) (acc : List UInt8), acc.length ≤ 1000000 → Ev (fun k => R14Decode.j1 k s (ints acc) (n : Int) (bits : Int) (i : Int) false) (decFin s (some acc)) := by
    intro i n bits acc ha
    refine Ev.step (fun k => by rw [R14Decode.j1]) ?_
    rw [strOf]
    refine Ev.neg (by simp) (Ev.bind (refEncode_ev (mkB acc) (by rw [mkB_size]; exact ha)) ?_)
    unfold decFin
    by_cases h : b64Enc acc = bl s
    · simp only [if_pos h]
      exact Ev.pos (ba_list'.2 h) Ev.rfl'
    · simp only [if_neg h]
      exact Ev.neg (fun h' => h (ba_list'.1 h')) Ev.rfl'
  intro m
  induction m with
  | zero =>
    intro i n bits acc hm hi hb he hn ha
    rw [List.drop_eq_nil_of_le (by omega), refDec]
    refine Ev.step (fun k => by rw [R14Decode.l0]) ?_
    exact Ev.neg (by omega) (hfin i n bits acc (by omega))
  | succ m ih =>
    intro i n bits acc hm hi hb he hn ha
    have hlt : i < (bl s).length := by omega
    have hd : (bl s).drop i = (bl s)[i] :: (bl s).drop (i + 1) := List.drop_eq_getElem_cons hlt
    have hbt : bt s (i : Int) = ((bl s)[i].toNat : Int) := by
      rw [bt_at' (by omega), List.getD_eq_getElem?_getD, List.getElem?_eq_getElem hlt]; rfl
    have ihn := ih (i + 1)
    rw [hd, refDec]
    generalize (bl s)[i] = c at *
    refine Ev.step (fun k => by rw [R14Decode.l0]) ?_
    rw [hbt]
    refine Ev.pos (by omega) (Ev.pos (by omega) ?_)
    have e61 : ((c.toNat : Int) != 61) = decide (c ≠ 61) := by
      by_cases h : c = 61
      · subst h; rfl
      · rw [decide_eq_true h]
        exact bne_iff_ne.2 (ne61 h)
    rw [e61]
    by_cases h61 : c = 61
    · rw [if_pos h61, show decide (c ≠ 61) = false from decide_eq_false (fun h => h h61)]
      exact hfin i n bits acc (by omega)
    · rw [if_neg h61, show decide (c ≠ 61) = true from decide_eq_true h61]
      refine Ev.step (fun k => by rw [R14Decode.j1]) ?_
      rw [hbt]
      refine Ev.pos rfl (Ev.pos (by omega) (Ev.pos (by omega) (Ev.bind (refnum_ev c) ?_)))
      by_cases hneg : numI c < 0
      · rw [if_pos hneg]; exact Ev.pos hneg Ev.rfl'
      · rw [if_neg hneg]
        refine Ev.neg hneg ?_
        have hc := num_lt c
        generalize numI c = z at *
        obtain ⟨q, rfl⟩ := Int.eq_ofNat_of_zero_le (Int.not_lt.1 hneg)
        have hc' : q < 64 := by omega
        have hp6 : (2 : Nat) ^ bits ≤ 2 ^ 6 := Nat.pow_le_pow_right (by omega) hb
        have h64 : (2 : Nat) ^ 6 = 64 := by decide
        rw [Int.toNat_natCast, show wrap64 ((bits : Int) + 6) = ((bits + 6 : Nat) : Int) by unfold wrap64; omega, six_sum n q (by omega) hc']
        by_cases h2 : 2 ≤ bits
        · rw [if_pos h2]
          refine Ev.pos (by omega) ?_
          have hN : n * 64 + q < 2 ^ (bits + 6) := by rw [Nat.pow_add, h64]; omega
          have hq : (n * 64 + q) / 2 ^ (bits - 2) < 256 := by
            apply Nat.div_lt_of_lt_mul
            have : (2 : Nat) ^ (bits - 2) * 256 = 2 ^ (bits + 6) := by
              rw [show (256 : Nat) = 2 ^ 8 by decide, ← Nat.pow_add]; congr 1; omega
            omega
          have hmod : (n * 64 + q) % 2 ^ (bits - 2) < 2 ^ (bits - 2) := Nat.mod_lt _ (Nat.pow_pos (by omega))
          have hih := ihn ((n * 64 + q) % 2 ^ (bits - 2)) (bits - 2) (acc ++ [((n * 64 + q) / 2 ^ (bits - 2)).toUInt8]) (by omega) (by omega) (by omega) (by omega) hmod (by rw [List.length_append]; simp only [List.length_cons, List.length_nil]; omega)
          rw [← ints_app, show ints [((n * 64 + q) / 2 ^ (bits - 2)).toUInt8] = [(((n * 64 + q) / 2 ^ (bits - 2) % 256 : Nat) : Int)] by
            simp only [ints, List.map_cons, List.map_nil]
            rw [u8n _ hq, Nat.mod_eq_of_lt hq]] at hih
          have := pow_loop s (ints acc) (by rw [ints_length]; omega) (n * 64 + q) (bits - 2) i (by omega) (by omega) (by omega) hih (bits - 2) 0 rfl (Nat.zero_le _)
          rw [show 8 + (bits - 2) = bits + 6 by omega] at this
          exact this
        · rw [if_neg h2]
          refine Ev.neg (by omega) ?_
          rw [show wrap64 ((i : Int) + 1) = ((i + 1 : Nat) : Int) by unfold wrap64; omega]
          have hb0 : bits = 0 := by omega
          subst hb0
          exact ihn (n * 64 + q) 6 acc (by omega) (by omega) (by omega) (by omega) (by omega) (by omega)
theorem refDecode_ev (s : ByteArray) (hs : s.size ≤ 1000000) : Ev (fun k => R14Decode.f k s) (decFin s (refDec (bl s) 0 0 [])) := by
  unfold R14Decode.f
  exact refdec_loop s hs _ 0 0 0 [] rfl (Nat.zero_le _) (by omega) rfl (by decide) (by simp)
theorem nums (A B C : Nat) (hA : A < 256) (hB : B < 256) (hC : C < 256) : ∃ n1 n2 n3 n4, n1 < 64 ∧ n2 < 64 ∧ n3 < 64 ∧ n4 < 64 ∧ ((A * 256 + B) * 256 + C) / 262144 % 64 = n1 ∧ ((A * 256 + B) * 256 + C) / 4096 % 64 = n2 ∧ ((A * 256 + B) * 256 + C) / 64 % 64 = n3 ∧ ((A * 256 + B) * 256 + C) % 64 = n4 ∧ ((n1 * 64 + n2) * 64 + n3) * 64 + n4 = (A * 256 + B) * 256 + C :=
  ⟨_, _, _, _, Nat.mod_lt _ (by omega), Nat.mod_lt _ (by omega), Nat.mod_lt _ (by omega), Nat.mod_lt _ (by omega), rfl, rfl, rfl, rfl, by omega⟩
theorem u8b (a : UInt8) : a.toNat.toUInt8 = a := UInt8.ofNat_toNat
theorem go_let (n1 : Nat) (h : n1 < 64) (r : List UInt8) (n : Nat) : fourGo (b64Let n1 :: r) n 0 = fourGo r (n * 64 + n1) 0 := by
  obtain ⟨e1, e2⟩ := num_let n1 h
  rw [fourGo, if_neg e2, e1, if_neg (by omega), if_neg (by omega), Int.toNat_natCast]
theorem go_pad (r : List UInt8) (n p : Nat) : fourGo (61 :: r) n p = fourGo r (n * 64) (p + 1) := by rw [fourGo, if_pos rfl]
theorem rd_let (n1 : Nat) (h : n1 < 64) (r : List UInt8) (n bits : Nat) (acc : List UInt8) : refDec (b64Let n1 :: r) n bits acc = if 2 ≤ bits then refDec r ((n * 64 + n1) % 2 ^ (bits - 2)) (bits - 2) (acc ++ [((n * 64 + n1) / 2 ^ (bits - 2)).toUInt8]) else refDec r (n * 64 + n1) (bits + 6) acc := by
  obtain ⟨e1, e2⟩ := num_let n1 h
  rw [refDec, if_neg e2, e1, if_neg (by omega), Int.toNat_natCast]
theorem both_enc : ∀ (x acc : List UInt8), progDec (b64Enc x) acc = some (acc ++ x) ∧ refDec (b64Enc x) 0 0 acc = some (acc ++ x) ∧ (b64Enc x).length % 4 = 0
  | [], acc => by simp [b64Enc, progDec, refDec]
  | [a], acc => by
    obtain ⟨n1, n2, n3, n4, h1, h2, h3, h4, e1, e2, e3, e4, e⟩ := nums a.toNat 0 0 a.toNat_lt (by omega) (by omega)
    have hp : b64Enc [a] = [b64Let n1, b64Let n2, 61, 61] := by
      show encPart [a] = _
      unfold encPart
      rw [nAt3]
      simp only [List.getD_cons_zero, List.getD_cons_succ, List.getD_nil, List.length_cons, List.length_nil]
      rw [← e1, ← e2]; rfl
    rw [hp]
    refine ⟨?_, ?_, by simp⟩
    · rw [progDec, four4, go_let _ h1, go_let _ h2, go_pad, go_pad, fourGo]
      simp only [progDec]
      rw [if_neg (by omega), show (((0 * 64 + n1) * 64 + n2) * 64 * 64) / 65536 % 256 = a.toNat by omega, u8b]; rfl
    · rw [rd_let _ h1, if_neg (by omega), rd_let _ h2, if_pos (by omega), refDec, if_pos rfl]
      rw [show (2 : Nat) ^ (0 + 6 - 2) = 16 from rfl, show ((0 * 64 + n1) * 64 + n2) / 16 = a.toNat by omega, u8b]
  | [a, b], acc => by
    obtain ⟨n1, n2, n3, n4, h1, h2, h3, h4, e1, e2, e3, e4, e⟩ := nums a.toNat b.toNat 0 a.toNat_lt b.toNat_lt (by omega)
    have ha := a.toNat_lt; have hb := b.toNat_lt
    have hp : b64Enc [a, b] = [b64Let n1, b64Let n2, b64Let n3, 61] := by
      show encPart [a, b] = _
      unfold encPart
      rw [nAt3]
      simp only [List.getD_cons_zero, List.getD_cons_succ, List.getD_nil, List.length_cons, List.length_nil]
      rw [← e1, ← e2, ← e3]; rfl
    rw [hp]
    refine ⟨?_, ?_, by simp⟩
    · rw [progDec, four4, go_let _ h1, go_let _ h2, go_let _ h3, go_pad, fourGo]
      simp only [progDec]
      rw [if_neg (by omega), show (((0 * 64 + n1) * 64 + n2) * 64 + n3) * 64 / 65536 % 256 = a.toNat by omega, show (((0 * 64 + n1) * 64 + n2) * 64 + n3) * 64 / 256 % 256 = b.toNat by omega, u8b, u8b]; rfl
    · rw [rd_let _ h1, if_neg (by omega), rd_let _ h2, if_pos (by omega), rd_let _ h3, if_pos (by omega), refDec, if_pos rfl]
      rw [show (2 : Nat) ^ (0 + 6 - 2) = 16 from rfl, show (2 : Nat) ^ (0 + 6 - 2 - 2) = 4 from rfl, show ((0 * 64 + n1) * 64 + n2) / 16 = a.toNat by omega, show ((((0 * 64 + n1) * 64 + n2) % 16) * 64 + n3) / 4 = b.toNat by omega, u8b, u8b]; simp
  | a :: b :: c :: r, acc => by
    obtain ⟨n1, n2, n3, n4, h1, h2, h3, h4, e1, e2, e3, e4, e⟩ := nums a.toNat b.toNat c.toNat a.toNat_lt b.toNat_lt c.toNat_lt
    have ha := a.toNat_lt; have hb := b.toNat_lt; have hc := c.toNat_lt
    obtain ⟨i1, i2, i3⟩ := both_enc r (acc ++ [a, b, c])
    have hp : b64Enc (a :: b :: c :: r) = b64Let n1 :: b64Let n2 :: b64Let n3 :: b64Let n4 :: b64Enc r := by
      rw [b64Enc_step _ (by simp)]
      unfold encPart
      rw [nAt3, if_pos (by simp), if_pos (by simp)]
      simp only [List.getD_cons_zero, List.getD_cons_succ]
      rw [← e1, ← e2, ← e3, ← e4]; rfl
    rw [hp]
    refine ⟨?_, ?_, by simp only [List.length_cons]; omega⟩
    · rw [progDec, four4, go_let _ h1, go_let _ h2, go_let _ h3, go_let _ h4, fourGo]
      simp only []
      rw [if_neg (by omega), show (((0 * 64 + n1) * 64 + n2) * 64 + n3) * 64 + n4 = (a.toNat * 256 + b.toNat) * 256 + c.toNat by omega, show ((a.toNat * 256 + b.toNat) * 256 + c.toNat) / 65536 % 256 = a.toNat by omega, show ((a.toNat * 256 + b.toNat) * 256 + c.toNat) / 256 % 256 = b.toNat by omega, show ((a.toNat * 256 + b.toNat) * 256 + c.toNat) % 256 = c.toNat by omega, u8b, u8b, u8b]
      rw [show acc ++ a :: b :: c :: r = (acc ++ [a, b, c]) ++ r by simp]
      exact i1
    · rw [rd_let _ h1, if_neg (by omega), rd_let _ h2, if_pos (by omega), rd_let _ h3, if_pos (by omega), rd_let _ h4, if_pos (by omega)]
      rw [show (2 : Nat) ^ (0 + 6 - 2) = 16 from rfl, show (2 : Nat) ^ (0 + 6 - 2 - 2) = 4 from rfl, show (2 : Nat) ^ (0 + 6 - 2 - 2 - 2) = 1 from rfl, show ((0 * 64 + n1) * 64 + n2) / 16 = a.toNat by omega, show ((((0 * 64 + n1) * 64 + n2) % 16) * 64 + n3) / 4 = b.toNat by omega,
        show (((((0 * 64 + n1) * 64 + n2) % 16) * 64 + n3) % 4 * 64 + n4) / 1 = c.toNat by omega, Nat.mod_one, u8b, u8b, u8b]
      rw [show acc ++ a :: b :: c :: r = (acc ++ [a, b, c]) ++ r by simp]
      simp only [List.append_assoc, List.cons_append, List.nil_append] at i2 ⊢
      exact i2
def decR (s : ByteArray) : ByteArray × Int := if s.size % 4 = 0 then decFin s (progDec (bl s) []) else (⟨#[]⟩, 4)
theorem decR_ref (s : ByteArray) : decFin s (refDec (bl s) 0 0 []) = decR s := by
  by_cases h : ∃ x, b64Enc x = bl s
  · obtain ⟨x, hx⟩ := h
    obtain ⟨h1, h2, h3⟩ := both_enc x []
    rw [hx] at h1 h2 h3
    rw [bl_length] at h3
    unfold decR
    rw [h1, h2, if_pos h3]
  · have hno : ∀ o, decFin s o = (⟨#[]⟩, 4) := by
      intro o
      cases o with
      | none => rfl
      | some b => exact if_neg fun e => h ⟨b, e⟩
    unfold decR
    rw [hno, hno]
    split <;> rfl
theorem progDecode (s : ByteArray) (hs : s.size ≤ 1000000) : Ev (fun k => b64_Decode.f k s) (decR s) := dec_ev s hs
theorem refDecode (s : ByteArray) (hs : s.size ≤ 1000000) : Ev (fun k => R14Decode.f k s) (decR s) := by
  rw [← decR_ref]; exact refDecode_ev s hs
end B64
end Go.Proofs.YtkklacijhmoopaaDoor.Print
namespace Go.Proofs.YtkklacijhmoopaaDoor.Print
open Go.RowKit Go.Proofs.YtkklacijhmoopaaDoorW.PrintWords
structure Gw (w : World) : Prop where
  maxLen : ∃ m : Int, w.cell? ⟨0, 0, none⟩ = some (.int .i64 m)
  tabs : Lib.Utf8Tabs 1 2 w
theorem Gw.below {w W : World} (h : Gw w) (hb : Below w.heap.size w W) : Gw W := by
  obtain ⟨m, hm⟩ := h.maxLen
  exact ⟨⟨m, (hb.cell (World.block_lt_of_cell? w _ hm)).trans hm⟩, Utf8Tabs_below h.tabs hb⟩
theorem Gw.drawn {w W : World} (h : Gw w) (hb : Drawn0 w W) : Gw W := h.below hb.below
theorem Gw.drewN {w : World} (h : Gw w) (n : Nat) : Gw (w.drewN n) := h.drawn ⟨⟨n, rfl⟩⟩
theorem Gw.alloc {w : World} (h : Gw w) (o : Obj) : Gw (w.alloc o) := h.below (below_alloc (Below.refl _ _) o)
end Go.Proofs.YtkklacijhmoopaaDoor.Print
namespace Go.Proofs.YtkklacijhmoopaaDoor.Print
open Go.RowKit Go.Proofs.YtkklacijhmoopaaDoorW.PrintWords Go.Proofs.YtkklacijhmoopaaDoorW.PrintLast Go.Proofs.YtkklacijhmoopaaDoorW.PrintMore
set_option linter.unusedVariables false
def ldif_firstN.f (k : Nat) (l0 : List S49) (a1 : ByteArray) (a2 : Int) : Option Int := none
theorem ldif_firstN.calls (k : Nat) (A0 : Option Addr) (c0 : Nat) (l0 : List S49) (a1 : ByteArray) (a2 : Int) (r : Int) (w : World) (hr0 : Kd.C k49 w A0 l0.length l0) (hc0 : l0.length ≤ c0) (hG : Gw w) (h : ldif_firstN.f k l0 a1 a2 = some r) :
    Calls Tryd.prog 26 #[.slice A0 l0.length c0, .string a1, .int .i64 a2] w fun e w' => e = .returned (.int .i64 r) ∧ Below w.heap.size w w' := by
  cases h
end Go.Proofs.YtkklacijhmoopaaDoor.Print
namespace Go.Proofs.YtkklacijhmoopaaDoor.Print
open Go.RowKit Go.Proofs.YtkklacijhmoopaaDoorW.PrintWords Go.Proofs.YtkklacijhmoopaaDoorW.PrintLast Go.Proofs.YtkklacijhmoopaaDoorW.PrintMore
attribute [local go_sem] max2_int min2_int max_two min_two max_three min_three max_four min_four
set_option linter.unusedVariables false
set_option linter.unusedSimpArgs false
def ldif_isName.f (a0 : ByteArray) : Option (Bool) := if (a0.size : Int) = 2 then (if 0 < (a0.size : Int) then (if (bt a0 0) = 100 then (if 1 < (a0.size : Int) then (if (bt a0 1) = 110 then (some true) else (some ((bt a0 1) == 78))) else (none)) else (if (bt a0 0) = 68 then (if 1 < (a0.size : Int) then (if (bt a0 1) = 110 then (some true) else (some ((bt a0 1) == 78))) else (none)) else (some false))) else (none)) else (some false)
set_option maxHeartbeats 8000000 in
set_option maxRecDepth 100000 in
theorem ldif_isName.calls (a0 : ByteArray) (r : Bool) (w : World) (h : ldif_isName.f a0 = some r) :
  Calls Tryd.prog 29 #[.string a0] w fun e w' => e = .returned (.bool r) ∧ Drawn0 w w' := by
 have H : (if (a0.size : Int) = 2 then (if 0 < (a0.size : Int) then (if (bt a0 0) = 100 then (if 1 < (a0.size : Int) then (if (bt a0 1) = 110 then (some true) else (some ((bt a0 1) == 78))) else (none)) else (if (bt a0 0) = 68 then (if 1 < (a0.size : Int) then (if (bt a0 1) = 110 then (some true) else (some ((bt a0 1) == 78))) else (none)) else (some false))) else (none)) else (some false)) = some r := h
 clear h
 by_cases c2 : (a0.size : Int) = 2
 ·
  rw [if_pos c2] at H
  have c2b0 : ((a0.size : Int) == 2) = true := beq_iff_eq.mpr c2
  have c2b1 : ((a0.size : Int) != 2) = false := bne_eq_false_iff_eq.mpr c2
  clear c2
  by_cases c3 : 0 < (a0.size : Int)
  ·
   rw [if_pos c3] at H
   have c3b0 := decide_eq_true c3
   have c3b1 : decide (0 < a0.size) = true := decide_eq_true (by omega)
   clear c3
   by_cases c5 : (bt a0 0) = 100
   ·
    rw [if_pos c5] at H
    have c5b0 : ((bt a0 0) == 100) = true := beq_iff_eq.mpr c5
    have c5b1 : ((bt a0 0) != 100) = false := bne_eq_false_iff_eq.mpr c5
    clear c5
    by_cases c6 : 1 < (a0.size : Int)
    ·
     rw [if_pos c6] at H
     have c6b0 := decide_eq_true c6
     have c6b1 : decide (1 < a0.size) = true := decide_eq_true (by omega)
     clear c6
     by_cases c8 : (bt a0 1) = 110
     ·
      rw [if_pos c8] at H
      have c8b0 : ((bt a0 1) == 110) = true := beq_iff_eq.mpr c8
      have c8b1 : ((bt a0 1) != 110) = false := bne_eq_false_iff_eq.mpr c8
      clear c8
      obtain rfl := Option.some.inj H
      have p4 : 0 ≤ (0 : Int) := (by omega)
      have q4 : 0 < a0.size := (by have : (0 : Int) < (a0.size : Int) := of_decide_eq_true ap0; omega)
      have hx4 : ∀ h : 0 < a0.size, ((a0[0]'h).toNat : Int) = bt a0 0 := bt_at a0 0
      clear p4
      have qi4 : (0 < (a0.size : Int)) = True := eq_true (of_decide_eq_true ap0)
      replace q4 := eq_true q4
      have p7 : 0 ≤ (1 : Int) := (by omega)
      have q7 : 1 < a0.size := (by have : (1 : Int) < (a0.size : Int) := of_decide_eq_true ap0; omega)
      have hx7 : ∀ h : 1 < a0.size, ((a0[1]'h).toNat : Int) = bt a0 1 := bt_at a0 1
      clear p7
      have qi7 : (1 < (a0.size : Int)) = True := eq_true (of_decide_eq_true ap0)
      replace q7 := eq_true q7
      go_enter Tryd.func29, Tryd.ntmps29
      go_wp2
      go_ret
      exact ⟨ap2, ap7⟩
     ·
      rw [if_neg c8] at H
      have c8b0 : ((bt a0 1) == 110) = false := beq_eq_false_iff_ne.mpr c8
      have c8b1 : ((bt a0 1) != 110) = true := bne_iff_ne.mpr c8
      obtain rfl := Option.some.inj H
      have p4 : 0 ≤ (0 : Int) := (by omega)
      have q4 : 0 < a0.size := (by have : (0 : Int) < (a0.size : Int) := of_decide_eq_true ap0; omega)
      have hx4 : ∀ h : 0 < a0.size, ((a0[0]'h).toNat : Int) = bt a0 0 := bt_at a0 0
      clear p4
      have qi4 : (0 < (a0.size : Int)) = True := eq_true (of_decide_eq_true ap0)
      replace q4 := eq_true q4
      have p7 : 0 ≤ (1 : Int) := (by omega)
      have q7 : 1 < a0.size := (by have : (1 : Int) < (a0.size : Int) := of_decide_eq_true ap0; omega)
      have hx7 : ∀ h : 1 < a0.size, ((a0[1]'h).toNat : Int) = bt a0 1 := bt_at a0 1
      clear p7
      have qi7 : (1 < (a0.size : Int)) = True := eq_true (of_decide_eq_true ap0)
      replace q7 := eq_true q7
      have p9 : 0 ≤ (1 : Int) := (by omega)
      have q9 : 1 < a0.size := (by have : (1 : Int) < (a0.size : Int) := of_decide_eq_true ap0; omega)
      have hx9 : ∀ h : 1 < a0.size, ((a0[1]'h).toNat : Int) = bt a0 1 := bt_at a0 1
      clear p9
      have qi9 : (1 < (a0.size : Int)) = True := eq_true (of_decide_eq_true ap0)
      replace q9 := eq_true q9
      go_enter Tryd.func29, Tryd.ntmps29
      go_wp2
      go_ret
      exact ⟨ap2, ap7⟩
    ·
     rw [if_neg c6] at H
     exact absurd H (by simp)
   ·
    rw [if_neg c5] at H
    have c5b0 : ((bt a0 0) == 100) = false := beq_eq_false_iff_ne.mpr c5
    have c5b1 : ((bt a0 0) != 100) = true := bne_iff_ne.mpr c5
    by_cases c11 : (bt a0 0) = 68
    ·
     rw [if_pos c11] at H
     have c11b0 : ((bt a0 0) == 68) = true := beq_iff_eq.mpr c11
     have c11b1 : ((bt a0 0) != 68) = false := bne_eq_false_iff_eq.mpr c11
     clear c11
     by_cases c12 : 1 < (a0.size : Int)
     ·
      rw [if_pos c12] at H
      have c12b0 := decide_eq_true c12
      have c12b1 : decide (1 < a0.size) = true := decide_eq_true (by omega)
      clear c12
      by_cases c14 : (bt a0 1) = 110
      ·
       rw [if_pos c14] at H
       have c14b0 : ((bt a0 1) == 110) = true := beq_iff_eq.mpr c14
       have c14b1 : ((bt a0 1) != 110) = false := bne_eq_false_iff_eq.mpr c14
       clear c14
       obtain rfl := Option.some.inj H
       have p4 : 0 ≤ (0 : Int) := (by omega)
       have q4 : 0 < a0.size := (by have : (0 : Int) < (a0.size : Int) := of_decide_eq_true ap0; omega)
       have hx4 : ∀ h : 0 < a0.size, ((a0[0]'h).toNat : Int) = bt a0 0 := bt_at a0 0
       clear p4
       have qi4 : (0 < (a0.size : Int)) = True := eq_true (of_decide_eq_true ap0)
       replace q4 := eq_true q4
       have p10 : 0 ≤ (0 : Int) := (by omega)
       have q10 : 0 < a0.size := (by have : (0 : Int) < (a0.size : Int) := of_decide_eq_true ap0; omega)
       have hx10 : ∀ h : 0 < a0.size, ((a0[0]'h).toNat : Int) = bt a0 0 := bt_at a0 0
       clear p10
       have qi10 : (0 < (a0.size : Int)) = True := eq_true (of_decide_eq_true ap0)
       replace q10 := eq_true q10
       have p13 : 0 ≤ (1 : Int) := (by omega)
       have q13 : 1 < a0.size := (by have : (1 : Int) < (a0.size : Int) := of_decide_eq_true ap0; omega)
       have hx13 : ∀ h : 1 < a0.size, ((a0[1]'h).toNat : Int) = bt a0 1 := bt_at a0 1
       clear p13
       have qi13 : (1 < (a0.size : Int)) = True := eq_true (of_decide_eq_true ap0)
       replace q13 := eq_true q13
       go_enter Tryd.func29, Tryd.ntmps29
       go_wp2
       go_ret
       exact ⟨ap2, ap7⟩
      ·
       rw [if_neg c14] at H
       have c14b0 : ((bt a0 1) == 110) = false := beq_eq_false_iff_ne.mpr c14
       have c14b1 : ((bt a0 1) != 110) = true := bne_iff_ne.mpr c14
       obtain rfl := Option.some.inj H
       have p4 : 0 ≤ (0 : Int) := (by omega)
       have q4 : 0 < a0.size := (by have : (0 : Int) < (a0.size : Int) := of_decide_eq_true ap0; omega)
       have hx4 : ∀ h : 0 < a0.size, ((a0[0]'h).toNat : Int) = bt a0 0 := bt_at a0 0
       clear p4
       have qi4 : (0 < (a0.size : Int)) = True := eq_true (of_decide_eq_true ap0)
       replace q4 := eq_true q4
       have p10 : 0 ≤ (0 : Int) := (by omega)
       have q10 : 0 < a0.size := (by have : (0 : Int) < (a0.size : Int) := of_decide_eq_true ap0; omega)
       have hx10 : ∀ h : 0 < a0.size, ((a0[0]'h).toNat : Int) = bt a0 0 := bt_at a0 0
       clear p10
       have qi10 : (0 < (a0.size : Int)) = True := eq_true (of_decide_eq_true ap0)
       replace q10 := eq_true q10
       have p13 : 0 ≤ (1 : Int) := (by omega)
       have q13 : 1 < a0.size := (by have : (1 : Int) < (a0.size : Int) := of_decide_eq_true ap0; omega)
       have hx13 : ∀ h : 1 < a0.size, ((a0[1]'h).toNat : Int) = bt a0 1 := bt_at a0 1
       clear p13
       have qi13 : (1 < (a0.size : Int)) = True := eq_true (of_decide_eq_true ap0)
       replace q13 := eq_true q13
       have p15 : 0 ≤ (1 : Int) := (by omega)
       have q15 : 1 < a0.size := (by have : (1 : Int) < (a0.size : Int) := of_decide_eq_true ap0; omega)
       have hx15 : ∀ h : 1 < a0.size, ((a0[1]'h).toNat : Int) = bt a0 1 := bt_at a0 1
       clear p15
       have qi15 : (1 < (a0.size : Int)) = True := eq_true (of_decide_eq_true ap0)
       replace q15 := eq_true q15
       go_enter Tryd.func29, Tryd.ntmps29
       go_wp2
       go_ret
       exact ⟨ap2, ap7⟩
     ·
      rw [if_neg c12] at H
      exact absurd H (by simp)
    ·
     rw [if_neg c11] at H
     have c11b0 : ((bt a0 0) == 68) = false := beq_eq_false_iff_ne.mpr c11
     have c11b1 : ((bt a0 0) != 68) = true := bne_iff_ne.mpr c11
     obtain rfl := Option.some.inj H
     have p4 : 0 ≤ (0 : Int) := (by omega)
     have q4 : 0 < a0.size := (by have : (0 : Int) < (a0.size : Int) := of_decide_eq_true ap0; omega)
     have hx4 : ∀ h : 0 < a0.size, ((a0[0]'h).toNat : Int) = bt a0 0 := bt_at a0 0
     clear p4
     have qi4 : (0 < (a0.size : Int)) = True := eq_true (of_decide_eq_true ap0)
     replace q4 := eq_true q4
     have p10 : 0 ≤ (0 : Int) := (by omega)
     have q10 : 0 < a0.size := (by have : (0 : Int) < (a0.size : Int) := of_decide_eq_true ap0; omega)
     have hx10 : ∀ h : 0 < a0.size, ((a0[0]'h).toNat : Int) = bt a0 0 := bt_at a0 0
     clear p10
     have qi10 : (0 < (a0.size : Int)) = True := eq_true (of_decide_eq_true ap0)
     replace q10 := eq_true q10
     go_enter Tryd.func29, Tryd.ntmps29
     go_wp2
     go_ret
     exact ⟨ap2, ap7⟩
  ·
   rw [if_neg c3] at H
   exact absurd H (by simp)
 ·
  rw [if_neg c2] at H
  have c2b0 : ((a0.size : Int) == 2) = false := beq_eq_false_iff_ne.mpr c2
  have c2b1 : ((a0.size : Int) != 2) = true := bne_iff_ne.mpr c2
  obtain rfl := Option.some.inj H
  go_enter Tryd.func29, Tryd.ntmps29
  go_wp2
  go_ret
  exact ⟨ap2, ap7⟩
end Go.Proofs.YtkklacijhmoopaaDoor.Print
namespace Go.Proofs.YtkklacijhmoopaaDoor.Print
open Go.RowKit Go.Proofs.YtkklacijhmoopaaDoorW.PrintWords
def strings_Cut.f (a0 a1 : ByteArray) : Option (ByteArray × ByteArray × Bool) :=
  if a0.size ≤ 1000000 then some (⟨(Lib.cut a0.data.toList a1.data.toList).1.toArray⟩, ⟨(Lib.cut a0.data.toList a1.data.toList).2.1.toArray⟩, (Lib.cut a0.data.toList a1.data.toList).2.2) else none
theorem strings_Cut.calls (a0 a1 : ByteArray) (r1 r2 : ByteArray) (r3 : Bool) (w : World) (hG : Gw w) (h : strings_Cut.f a0 a1 = some (r1, r2, r3)) :
    Calls Tryd.prog 47 #[.string a0, .string a1] w fun e w' => e = .returned (.tuple #[.string r1, .string r2, .bool r3]) ∧ Below w.heap.size w w' := by
  unfold strings_Cut.f at h
  by_cases c : a0.size ≤ 1000000
  · rw [if_pos c] at h
    simp only [Option.some.injEq, Prod.mk.injEq] at h
    obtain ⟨rfl, rfl, rfl⟩ := h
    obtain ⟨m, hm⟩ := hG.maxLen
    refine (Tryd.strings_Cut a0 a1 m w (by omega) hm).mono ?_
    rintro e w' ⟨he, hd⟩
    exact ⟨he, Drawn0.below ⟨hd⟩⟩
  · rw [if_neg c] at h; cases h
end Go.Proofs.YtkklacijhmoopaaDoor.Print
namespace Go.Proofs.YtkklacijhmoopaaDoor.Print
open Go.RowKit Go.Proofs.YtkklacijhmoopaaDoorW.PrintWords Go.Proofs.YtkklacijhmoopaaDoorW.PrintLast Go.Proofs.YtkklacijhmoopaaDoorW.PrintMore
attribute [local go_sem] max2_int min2_int max_two min_two max_three min_three max_four min_four
set_option linter.unusedVariables false
set_option linter.unusedSimpArgs false
def stringslite_HasPrefix.f (a0 : ByteArray) (a1 : ByteArray) : Option (Bool) := if (a0.size : Int) ≥ (a1.size : Int) then (if 0 ≤ (a1.size : Int) then (if (a1.size : Int) ≤ (a0.size : Int) then (some ((a0.extract 0 ((a1.size : Int) : Int).toNat).toList == a1.toList)) else (none)) else (none)) else (some false)
set_option maxHeartbeats 8000000 in
set_option maxRecDepth 100000 in
theorem stringslite_HasPrefix.calls (a0 : ByteArray) (a1 : ByteArray) (r : Bool) (w : World) (h : stringslite_HasPrefix.f a0 a1 = some r) :
  Calls Tryd.prog 51 #[.string a0, .string a1] w fun e w' => e = .returned (.bool r) ∧ Drawn0 w w' := by
 have H : (if (a0.size : Int) ≥ (a1.size : Int) then (if 0 ≤ (a1.size : Int) then (if (a1.size : Int) ≤ (a0.size : Int) then (some ((a0.extract 0 ((a1.size : Int) : Int).toNat).toList == a1.toList)) else (none)) else (none)) else (some false)) = some r := h
 clear h
 by_cases c3 : (a0.size : Int) ≥ (a1.size : Int)
 ·
  rw [if_pos c3] at H
  have c3b0 := decide_eq_true c3
  have c3b1 : decide (a1.size ≤ a0.size) = true := decide_eq_true (Int.ofNat_le.mp c3)
  clear c3
  by_cases c4 : 0 ≤ (a1.size : Int)
  ·
   rw [if_pos c4] at H
   have c4b0 := eq_true c4
   have c4b1 := decide_eq_true c4
   clear c4
   by_cases c5 : (a1.size : Int) ≤ (a0.size : Int)
   ·
    rw [if_pos c5] at H
    have c5b0 := eq_true c5
    have c5b1 := decide_eq_true c5
    clear c5
    obtain rfl := Option.some.inj H
    go_enter Tryd.func51, Tryd.ntmps51
    go_wp2
    go_ret
    exact ⟨ap2, ap7⟩
   ·
    rw [if_neg c5] at H
    exact absurd H (by simp)
  ·
   rw [if_neg c4] at H
   exact absurd H (by simp)
 ·
  rw [if_neg c3] at H
  have c3b0 := decide_eq_false c3
  have c3b1 : decide (a1.size ≤ a0.size) = false := decide_eq_false (fun h => c3 (Int.ofNat_le.mpr h))
  clear c3
  obtain rfl := Option.some.inj H
  go_enter Tryd.func51, Tryd.ntmps51
  go_wp2
  go_ret
  exact ⟨ap2, ap7⟩
def stringslite_CutPrefix.f (a0 : ByteArray) (a1 : ByteArray) : Option (ByteArray × Bool) := (stringslite_HasPrefix.f a0 a1).bind fun t105 => (if t105 = true then (if 0 ≤ (a1.size : Int) then (if (a1.size : Int) ≤ (a0.size : Int) then (some (a0.extract ((a1.size : Int) : Int).toNat a0.size, true)) else (none)) else (none)) else (some (a0, false)))
set_option maxHeartbeats 8000000 in
set_option maxRecDepth 100000 in
theorem stringslite_CutPrefix.calls (a0 : ByteArray) (a1 : ByteArray) (r1 : ByteArray) (r2 : Bool) (w : World) (h : stringslite_CutPrefix.f a0 a1 = some (r1, r2)) :
  Calls Tryd.prog 77 #[.string a0, .string a1] w fun e w' => e = .returned (.tuple #[.string r1, .bool r2]) ∧ Drawn0 w w' := by
 have H : ((stringslite_HasPrefix.f a0 a1).bind fun t105 => (if t105 = true then (if 0 ≤ (a1.size : Int) then (if (a1.size : Int) ≤ (a0.size : Int) then (some (a0.extract ((a1.size : Int) : Int).toNat a0.size, true)) else (none)) else (none)) else (some (a0, false)))) = some (r1, r2) := h
 clear h
 replace H := Option.bind_eq_some_iff.mp H
 obtain ⟨t105, A30, H⟩ := H
 replace H : (if t105 = true then (if 0 ≤ (a1.size : Int) then (if (a1.size : Int) ≤ (a0.size : Int) then (some (a0.extract ((a1.size : Int) : Int).toNat a0.size, true)) else (none)) else (none)) else (some (a0, false))) = some (r1, r2) := H
 have A3 := Aside0.mk A30
 clear A30
 by_cases c4 : t105 = true
 ·
  subst c4
  rw [if_pos rfl] at H
  by_cases c5 : 0 ≤ (a1.size : Int)
  ·
   rw [if_pos c5] at H
   have c5b0 := eq_true c5
   have c5b1 := decide_eq_true c5
   clear c5
   by_cases c6 : (a1.size : Int) ≤ (a0.size : Int)
   ·
    rw [if_pos c6] at H
    have c6b0 := eq_true c6
    have c6b1 := decide_eq_true c6
    clear c6
    simp only [Option.some.injEq, Prod.mk.injEq] at H
    obtain ⟨rfl, rfl⟩ := H
    go_enter Tryd.func77, Tryd.ntmps77
    go_wp2_with (first | ((with_reducible refine gate_callee (f := 51) rfl ?_); refine goesL_ (some 8) rfl rfl Tryd.func51 (by kernel_rfl) rfl #[.string a0, .string a1] rfl ap3 ?_; (with_reducible refine (stringslite_HasPrefix.calls a0 a1 true _ A3.out).mono ?_); rintro e w' ⟨rfl, ⟨nd, rfl⟩⟩; refine ⟨_, rfl, ?_⟩))
    go_ret2
    exact ⟨ap2, ap7⟩
   ·
    rw [if_neg c6] at H
    exact absurd H (by simp)
  ·
   rw [if_neg c5] at H
   exact absurd H (by simp)
 ·
  replace c4 := Bool.eq_false_iff.mpr c4
  subst c4
  rw [if_neg (show ¬ (false = true) by decide)] at H
  simp only [Option.some.injEq, Prod.mk.injEq] at H
  obtain ⟨rfl, rfl⟩ := H
  go_enter Tryd.func77, Tryd.ntmps77
  go_wp2_with (first | ((with_reducible refine gate_callee (f := 51) rfl ?_); refine goesL_ (some 8) rfl rfl Tryd.func51 (by kernel_rfl) rfl #[.string a0, .string a1] rfl ap3 ?_; (with_reducible refine (stringslite_HasPrefix.calls a0 a1 false _ A3.out).mono ?_); rintro e w' ⟨rfl, ⟨nd, rfl⟩⟩; refine ⟨_, rfl, ?_⟩))
  go_ret2
  exact ⟨ap2, ap7⟩
def strings_CutPrefix.f (a0 : ByteArray) (a1 : ByteArray) : Option (ByteArray × Bool) := (stringslite_CutPrefix.f a0 a1).bind fun bt106 => (some (bt106.1, bt106.2))
set_option maxHeartbeats 8000000 in
set_option maxRecDepth 100000 in
theorem strings_CutPrefix.calls (a0 : ByteArray) (a1 : ByteArray) (r1 : ByteArray) (r2 : Bool) (w : World) (h : strings_CutPrefix.f a0 a1 = some (r1, r2)) :
  Calls Tryd.prog 49 #[.string a0, .string a1] w fun e w' => e = .returned (.tuple #[.string r1, .bool r2]) ∧ Drawn0 w w' := by
 have H : ((stringslite_CutPrefix.f a0 a1).bind fun bt106 => (some (bt106.1, bt106.2))) = some (r1, r2) := h
 clear h
 replace H := Option.bind_eq_some_iff.mp H
 obtain ⟨⟨t106, t107⟩, A30, H⟩ := H
 replace H : (some (t106, t107)) = some (r1, r2) := H
 have A3 := Aside0.mk A30
 clear A30
 simp only [Option.some.injEq, Prod.mk.injEq] at H
 obtain ⟨rfl, rfl⟩ := H
 go_enter Tryd.func49, Tryd.ntmps49
 go_wp2_with (first | ((with_reducible refine gate_callee (f := 77) rfl ?_); refine goesL_ (some 8) rfl rfl Tryd.func77 (by kernel_rfl) rfl #[.string a0, .string a1] rfl ap3 ?_; (with_reducible refine (stringslite_CutPrefix.calls a0 a1 t106 t107 _ A3.out).mono ?_); rintro e w' ⟨rfl, ⟨nd, rfl⟩⟩; refine ⟨_, rfl, ?_⟩))
 go_ret2
 exact ⟨ap2, ap7⟩
def stringslite_HasSuffix.f (a0 : ByteArray) (a1 : ByteArray) : Option (Bool) := if (a0.size : Int) ≥ (a1.size : Int) then (if 0 ≤ (wrap64 ((a0.size : Int) - (a1.size : Int))) then (if (wrap64 ((a0.size : Int) - (a1.size : Int))) ≤ (a0.size : Int) then (some ((a0.extract ((wrap64 ((a0.size : Int) - (a1.size : Int))) : Int).toNat a0.size).toList == a1.toList)) else (none)) else (none)) else (some false)
set_option maxHeartbeats 8000000 in
set_option maxRecDepth 100000 in
theorem stringslite_HasSuffix.calls (a0 : ByteArray) (a1 : ByteArray) (r : Bool) (w : World) (h : stringslite_HasSuffix.f a0 a1 = some r) :
  Calls Tryd.prog 98 #[.string a0, .string a1] w fun e w' => e = .returned (.bool r) ∧ Drawn0 w w' := by
 have H : (if (a0.size : Int) ≥ (a1.size : Int) then (if 0 ≤ (wrap64 ((a0.size : Int) - (a1.size : Int))) then (if (wrap64 ((a0.size : Int) - (a1.size : Int))) ≤ (a0.size : Int) then (some ((a0.extract ((wrap64 ((a0.size : Int) - (a1.size : Int))) : Int).toNat a0.size).toList == a1.toList)) else (none)) else (none)) else (some false)) = some r := h
 clear h
 by_cases c3 : (a0.size : Int) ≥ (a1.size : Int)
 ·
  rw [if_pos c3] at H
  have c3b0 := decide_eq_true c3
  have c3b1 : decide (a1.size ≤ a0.size) = true := decide_eq_true (Int.ofNat_le.mp c3)
  clear c3
  obtain ⟨ji4, hji4⟩ : ∃ j_ : Int, (wrap64 ((a0.size : Int) - (a1.size : Int))) = j_ := ⟨_, rfl⟩
  replace H : (if 0 ≤ (ji4) then (if (ji4) ≤ (a0.size : Int) then (some ((a0.extract ((ji4) : Int).toNat a0.size).toList == a1.toList)) else (none)) else (none)) = some r := by first | (rw [hji4] at H; exact H) | (simp only [hji4] at H ⊢; exact H)
  have hji4w : (IntKind.i64.wrap ((a0.size : Int) - (a1.size : Int))) = ji4 := (i64_w _).trans hji4
  by_cases c5 : 0 ≤ (ji4)
  ·
   rw [if_pos c5] at H
   have c5b0 := eq_true c5
   have c5b1 := decide_eq_true c5
   clear c5
   by_cases c6 : (ji4) ≤ (a0.size : Int)
   ·
    rw [if_pos c6] at H
    have c6b0 := eq_true c6
    have c6b1 := decide_eq_true c6
    clear c6
    obtain rfl := Option.some.inj H
    go_enter Tryd.func98, Tryd.ntmps98
    go_wp2
    go_ret
    exact ⟨by first | rfl | (simp; done) | (simp only [← hji4] <;> (first | rfl | simp)) | (simp [*]; done), by repeat (first | exact Drawn0.refl _ | apply Drawn0.step)⟩
   ·
    rw [if_neg c6] at H
    exact absurd H (by simp)
  ·
   rw [if_neg c5] at H
   exact absurd H (by simp)
 ·
  rw [if_neg c3] at H
  have c3b0 := decide_eq_false c3
  have c3b1 : decide (a1.size ≤ a0.size) = false := decide_eq_false (fun h => c3 (Int.ofNat_le.mpr h))
  clear c3
  obtain rfl := Option.some.inj H
  go_enter Tryd.func98, Tryd.ntmps98
  go_wp2
  go_ret
  exact ⟨ap2, ap7⟩
def stringslite_TrimSuffix.f (a0 : ByteArray) (a1 : ByteArray) : Option (ByteArray) := (stringslite_HasSuffix.f a0 a1).bind fun t103 => (if t103 = true then (if 0 ≤ (wrap64 ((a0.size : Int) - (a1.size : Int))) then (if (wrap64 ((a0.size : Int) - (a1.size : Int))) ≤ (a0.size : Int) then (some (a0.extract 0 ((wrap64 ((a0.size : Int) - (a1.size : Int))) : Int).toNat)) else (none)) else (none)) else (some a0))
set_option maxHeartbeats 8000000 in
set_option maxRecDepth 100000 in
theorem stringslite_TrimSuffix.calls (a0 : ByteArray) (a1 : ByteArray) (r : ByteArray) (w : World) (h : stringslite_TrimSuffix.f a0 a1 = some r) :
  Calls Tryd.prog 76 #[.string a0, .string a1] w fun e w' => e = .returned (.string r) ∧ Drawn0 w w' := by
 have H : ((stringslite_HasSuffix.f a0 a1).bind fun t103 => (if t103 = true then (if 0 ≤ (wrap64 ((a0.size : Int) - (a1.size : Int))) then (if (wrap64 ((a0.size : Int) - (a1.size : Int))) ≤ (a0.size : Int) then (some (a0.extract 0 ((wrap64 ((a0.size : Int) - (a1.size : Int))) : Int).toNat)) else (none)) else (none)) else (some a0))) = some r := h
 clear h
 replace H := Option.bind_eq_some_iff.mp H
 obtain ⟨t103, A30, H⟩ := H
 replace H : (if t103 = true then (if 0 ≤ (wrap64 ((a0.size : Int) - (a1.size : Int))) then (if (wrap64 ((a0.size : Int) - (a1.size : Int))) ≤ (a0.size : Int) then (some (a0.extract 0 ((wrap64 ((a0.size : Int) - (a1.size : Int))) : Int).toNat)) else (none)) else (none)) else (some a0)) = some r := H
 have A3 := Aside0.mk A30
 clear A30
 by_cases c4 : t103 = true
 ·
  subst c4
  rw [if_pos rfl] at H
  obtain ⟨ji5, hji5⟩ : ∃ j_ : Int, (wrap64 ((a0.size : Int) - (a1.size : Int))) = j_ := ⟨_, rfl⟩
  replace H : (if 0 ≤ (ji5) then (if (ji5) ≤ (a0.size : Int) then (some (a0.extract 0 ((ji5) : Int).toNat)) else (none)) else (none)) = some r := by first | (rw [hji5] at H; exact H) | (simp only [hji5] at H ⊢; exact H)
  (try rw [hji5] at A3)
  have hji5w : (IntKind.i64.wrap ((a0.size : Int) - (a1.size : Int))) = ji5 := (i64_w _).trans hji5
  by_cases c6 : 0 ≤ (ji5)
  ·
   rw [if_pos c6] at H
   have c6b0 := eq_true c6
   have c6b1 := decide_eq_true c6
   clear c6
   by_cases c7 : (ji5) ≤ (a0.size : Int)
   ·
    rw [if_pos c7] at H
    have c7b0 := eq_true c7
    have c7b1 := decide_eq_true c7
    clear c7
    obtain rfl := Option.some.inj H
    go_enter Tryd.func76, Tryd.ntmps76
    go_wp2_with (first | ((with_reducible refine gate_callee (f := 98) rfl ?_); refine goesL_ (some 7) rfl rfl Tryd.func98 (by kernel_rfl) rfl #[.string a0, .string a1] rfl ap3 ?_; (with_reducible refine (stringslite_HasSuffix.calls a0 a1 true _ A3.out).mono ?_); rintro e w' ⟨rfl, ⟨nd, rfl⟩⟩; refine ⟨_, rfl, ?_⟩))
    go_ret
    exact ⟨by first | rfl | (simp; done) | (simp only [← hji5] <;> (first | rfl | simp)) | (simp [*]; done), by repeat (first | exact Drawn0.refl _ | apply Drawn0.step)⟩
   ·
    rw [if_neg c7] at H
    exact absurd H (by simp)
  ·
   rw [if_neg c6] at H
   exact absurd H (by simp)
 ·
  replace c4 := Bool.eq_false_iff.mpr c4
  subst c4
  rw [if_neg (show ¬ (false = true) by decide)] at H
  obtain rfl := Option.some.inj H
  go_enter Tryd.func76, Tryd.ntmps76
  go_wp2_with (first | ((with_reducible refine gate_callee (f := 98) rfl ?_); refine goesL_ (some 7) rfl rfl Tryd.func98 (by kernel_rfl) rfl #[.string a0, .string a1] rfl ap3 ?_; (with_reducible refine (stringslite_HasSuffix.calls a0 a1 false _ A3.out).mono ?_); rintro e w' ⟨rfl, ⟨nd, rfl⟩⟩; refine ⟨_, rfl, ?_⟩))
  go_ret
  exact ⟨ap2, ap7⟩
def strings_TrimSuffix.f (a0 : ByteArray) (a1 : ByteArray) : Option (ByteArray) := (stringslite_TrimSuffix.f a0 a1).bind fun t104 => (some t104)
set_option maxHeartbeats 8000000 in
set_option maxRecDepth 100000 in
theorem strings_TrimSuffix.calls (a0 : ByteArray) (a1 : ByteArray) (r : ByteArray) (w : World) (h : strings_TrimSuffix.f a0 a1 = some r) :
  Calls Tryd.prog 48 #[.string a0, .string a1] w fun e w' => e = .returned (.string r) ∧ Drawn0 w w' := by
 have H : ((stringslite_TrimSuffix.f a0 a1).bind fun t104 => (some t104)) = some r := h
 clear h
 replace H := Option.bind_eq_some_iff.mp H
 obtain ⟨t104, A30, H⟩ := H
 replace H : (some t104) = some r := H
 have A3 := Aside0.mk A30
 clear A30
 obtain rfl := Option.some.inj H
 go_enter Tryd.func48, Tryd.ntmps48
 go_wp2_with (first | ((with_reducible refine gate_callee (f := 76) rfl ?_); refine goesL_ (some 7) rfl rfl Tryd.func76 (by kernel_rfl) rfl #[.string a0, .string a1] rfl ap3 ?_; (with_reducible refine (stringslite_TrimSuffix.calls a0 a1 t104 _ A3.out).mono ?_); rintro e w' ⟨rfl, ⟨nd, rfl⟩⟩; refine ⟨_, rfl, ?_⟩))
 go_ret
 exact ⟨ap2, ap7⟩
mutual
def ldif_lines.l0 : Nat → ByteArray → List (S49) → Bool → Int → Option ((List (S49)) × Int × Bool)
 | 0, _, _, _, _ => none
 | k + 1, x0, x5, x6, x7 => if x0.toList = ([] : List UInt8) then (some (x5, 0, true)) else ((strings_Cut.f x0 (⟨#[10]⟩ : ByteArray)).bind fun bt108 => (if bt108.2.2 = true then ((strings_TrimSuffix.f bt108.1 (⟨#[13]⟩ : ByteArray)).bind fun t111 => (ldif_lines.j1 k bt108.2.1 x5 x6 (wrap64 (x7 + 1)) t111)) else (ldif_lines.j1 k bt108.2.1 x5 x6 (wrap64 (x7 + 1)) bt108.1)))
def ldif_lines.j1 : Nat → ByteArray → List (S49) → Bool → Int → ByteArray → Option ((List (S49)) × Int × Bool)
 | 0, _, _, _, _, _ => none
 | k + 1, x0, x5, x6, x7, x8 => (strings_CutPrefix.f x8 (⟨#[32]⟩ : ByteArray)).bind fun bt112 => (if bt112.2 = true then (ldif_lines.j2 k x0 x5 x6 x7 x8 bt112.1 bt112.2 (!x6)) else (ldif_lines.j2 k x0 x5 x6 x7 x8 bt112.1 bt112.2 false))
def ldif_lines.j2 : Nat → ByteArray → List (S49) → Bool → Int → ByteArray → ByteArray → Bool → Bool → Option ((List (S49)) × Int × Bool)
 | 0, _, _, _, _, _, _, _, _ => none
 | k + 1, x0, x5, x6, x7, x8, x11, x12, x40 => if x40 = true then (some (([] : List (S49)), x7, false)) else (if x12 = true then (if 0 ≤ (wrap64 ((x5.length : Int) - 1)) then (if (wrap64 ((x5.length : Int) - 1)) < (x5.length : Int) then (if ((rd_T49 x5 (wrap64 ((x5.length : Int) - 1))).f0).size + x11.size ≤ 9223372036854775807 then (ldif_lines.l0 k x0 (x5.set ((wrap64 ((x5.length : Int) - 1)) : Int).toNat (⟨((rd_T49 x5 (wrap64 ((x5.length : Int) - 1))).f0) ++ x11, (rd_T49 x5 (wrap64 ((x5.length : Int) - 1))).f1⟩ : S49)) x6 x7) else (none)) else (none)) else (none)) else (if x5.length < 5864062014805 then (ldif_lines.l0 k x0 (x5 ++ [(⟨x8, x7⟩ : S49)]) (x8.toList != ([] : List UInt8)) x7) else (none)))
end
def ldif_lines.f (k : Nat) (a0 : ByteArray) : Option ((List (S49)) × Int × Bool) := ldif_lines.l0 k a0 ([] : List (S49)) false 0
set_option maxHeartbeats 8000000 in
set_option maxRecDepth 100000 in
theorem ldif_lines.calls (k : Nat) (a0 : ByteArray) (r1 : List (S49)) (r2 : Int) (r3 : Bool) (w : World) (hG : Gw w) (h : ldif_lines.f k a0 = some (r1, r2, r3)) :
  Calls Tryd.prog 25 #[.string a0] w fun e w' => ∃ v0_ : Value, e = .returned (.tuple #[v0_, .int .i64 r2, .bool r3]) ∧ Kd.R k49 49 w' w.heap.size (fun _ => True) v0_ r1 ∧ Below w.heap.size w w' := by
 have hu49 := Tryd.underlying49
 have HB := Aside0.mk (Below.refl w.heap.size w)
 have HG := Aside0.mk hG
 clear hG
 have H : (ldif_lines.l0 k a0 ([] : List (S49)) false 0) = some (r1, r2, r3) := h
 clear h
 have H' := Aside0.mk H
 clear H
 go_enter Tryd.func25, Tryd.ntmps25
 go_wp2
 go_loopg [0, 5, 6, 7] k (fun kq v0 v5 v6 v7 w' => ∃ (x0_1 : ByteArray) (x5_1 : List (S49)) (x6_1 : Bool) (x7_1 : Int), v0 = .string x0_1 ∧ v6 = .bool x6_1 ∧ v7 = .int .i64 x7_1 ∧ Aside0 (ldif_lines.l0 kq x0_1 x5_1 x6_1 x7_1 = some (r1, r2, r3)) ∧ Aside0 (kq ≤ k) ∧ Aside0 (Kd.R k49 49 w' w.heap.size (fun _ => True) v5 x5_1) ∧ Aside0 (Below w.heap.size w w'))
 case atStart => exact ⟨(a0), (([] : List (S49))), (false), (0), ap2, ap2, ap2, H', ⟨Nat.le_refl _⟩, ⟨by first | exact Kd.R_nil _ _ _ _ _ | exact Kd.N_nil _ _ _ _ _ | exact Kd.V_nil _ _ _ _ _ | exact Kd.Q_nil _ _ _ _ _ | exact Kd.S_nil _ _ _ _ _⟩, ⟨by repeat (first | (with_reducible first | exact HB.out | apply below_alloc | apply pw_below_drewN | apply below_drew1) | exact HB.out)⟩⟩
 case round =>
  clear H'
  obtain ⟨x0_1, x5_1, x6_1, x7_1, rfl, rfl, rfl, HA, HK1, HO_5, HB⟩ := hrel
  cases gk with
  | zero => exact absurd HA.out (by simp [ldif_lines.l0])
  | succ k1 =>
   have H := HA.out
   clear HA
   simp only [ldif_lines.l0] at H
   by_cases c2 : x0_1.toList = ([] : List UInt8)
   ·
    rw [if_pos c2] at H
    have c2b0 : (x0_1.toList == ([] : List UInt8)) = true := beq_iff_eq.mpr c2
    have c2b1 : (x0_1.toList != ([] : List UInt8)) = false := bne_eq_false_iff_eq.mpr c2
    clear c2
    simp only [Option.some.injEq, Prod.mk.injEq] at H
    obtain ⟨rfl, rfl, rfl⟩ := H
    go_wp2
    go_ret3
    exact ⟨_, by first | rfl | (simp [errW_none, errW_some, bne_nil8, beq_nil8]; done) | (simp [errW_none, errW_some] <;> rfl) | (simp [*, errW_none, errW_some] <;> rfl), by (with_reducible repeat (first | apply Kd.R_alloc | apply Kd.R_drewN | apply Kd.R_drew)); exact HO_5.out, by repeat (first | (with_reducible first | exact HB.out | apply below_alloc | apply pw_below_drewN | apply below_drew1) | exact HB.out)⟩
   ·
    rw [if_neg c2] at H
    have c2b0 : (x0_1.toList == ([] : List UInt8)) = false := beq_eq_false_iff_ne.mpr c2
    have c2b1 : (x0_1.toList != ([] : List UInt8)) = true := bne_iff_ne.mpr c2
    replace H := Option.bind_eq_some_iff.mp H
    obtain ⟨⟨t108, t109, t110⟩, A30, H⟩ := H
    replace H : (if t110 = true then ((strings_TrimSuffix.f t108 (⟨#[13]⟩ : ByteArray)).bind fun t111 => (ldif_lines.j1 k1 t109 x5_1 x6_1 (wrap64 (x7_1 + 1)) t111)) else (ldif_lines.j1 k1 t109 x5_1 x6_1 (wrap64 (x7_1 + 1)) t108)) = some (r1, r2, r3) := H
    have A3 := Aside0.mk A30
    clear A30
    have HC4 := Aside0.mk H
    clear H
    go_upto_if 24 with (first | ((with_reducible refine gate_callee (f := 47) rfl ?_); refine goesL_ (some 19) rfl rfl Tryd.func47 (by kernel_rfl) rfl #[.string x0_1, .string (⟨#[10]⟩ : ByteArray)] rfl ap3 ?_; (with_reducible refine (strings_Cut.calls x0_1 (⟨#[10]⟩ : ByteArray) t108 t109 t110 _ ?side1 A3.out).mono ?_); (case side1 => exact ap6); rintro e w5 ⟨rfl, hb⟩; refine ⟨_, rfl, ?_⟩; have n0_ := Aside0.mk (Kd.R_below (apAR HO_5.out) hb); have n1_ := Aside0.mk (below_step ap1 hb); clear HO_5; clear HB; have HO_5 := n0_; have HB := n1_; clear n0_ n1_; (try clear hb); (try clear hb2); (try clear hk); (try clear hi)))
    (try simp only [Act.put, List.setIfInBounds_toArray, List.set_cons_zero, List.set_cons_succ])
    go_cut [8] (fun v8 wc => ∃ (kq : Nat) (x8_3 : ByteArray), v8 = .string x8_3 ∧ Aside0 (ldif_lines.j1 kq t109 x5_1 x6_1 (wrap64 (x7_1 + 1)) x8_3 = some (r1, r2, r3)) ∧ Aside0 (kq ≤ k1) ∧ Aside0 (Kd.R k49 49 wc w.heap.size (fun _ => True) u5 x5_1) ∧ Aside0 (Below w.heap.size w wc))
    case first =>
     have H := HC4.out
     clear HC4
     by_cases c6 : t110 = true
     ·
      subst c6
      rw [if_pos rfl] at H
      replace H := Option.bind_eq_some_iff.mp H
      obtain ⟨t111, A70, H⟩ := H
      replace H : (ldif_lines.j1 k1 t109 x5_1 x6_1 (wrap64 (x7_1 + 1)) t111) = some (r1, r2, r3) := H
      have A7 := Aside0.mk A70
      clear A70
      have H' := Aside0.mk H
      clear H
      go_wp2_with (first | ((with_reducible refine gate_callee (f := 48) rfl ?_); refine goesL_ (some 26) rfl rfl Tryd.func48 (by kernel_rfl) rfl #[.string t108, .string (⟨#[13]⟩ : ByteArray)] rfl ap3 ?_; (with_reducible refine (strings_TrimSuffix.calls t108 (⟨#[13]⟩ : ByteArray) t111 _ A7.out).mono ?_); rintro e w' ⟨rfl, ⟨nd, rfl⟩⟩; refine ⟨_, rfl, ?_⟩))
      first | go_meet | (simp only [c2b0] at *; go_meet) | (simp only [c2b0] at *; go_meet)
      case rel => exact ⟨_, (t111), ap2, H', ⟨by have := HK1.out; first | omega | exact Nat.le_refl _⟩, ⟨by (with_reducible repeat (first | apply Kd.R_alloc | apply Kd.R_drewN | apply Kd.R_drew)); exact HO_5.out⟩, ⟨by repeat (first | (with_reducible first | exact HB.out | apply below_alloc | apply pw_below_drewN | apply below_drew1) | exact HB.out)⟩⟩
     ·
      replace c6 := Bool.eq_false_iff.mpr c6
      subst c6
      rw [if_neg (show ¬ (false = true) by decide)] at H
      have H' := Aside0.mk H
      clear H
      go_wp2
      first | go_meet | (simp only [c2b0] at *; go_meet) | (simp only [c2b0] at *; go_meet)
      case rel => exact ⟨_, (t108), ap2, H', ⟨by have := HK1.out; first | omega | exact Nat.le_refl _⟩, ⟨by (with_reducible repeat (first | apply Kd.R_alloc | apply Kd.R_drewN | apply Kd.R_drew)); exact HO_5.out⟩, ⟨by repeat (first | (with_reducible first | exact HB.out | apply below_alloc | apply pw_below_drewN | apply below_drew1) | exact HB.out)⟩⟩
    case rest =>
     clear HC4
     try clear c2
     try clear c2b0
     try clear c2b1
     try clear p2
     try clear c4
     try clear c6
     try clear p6
     obtain ⟨kq, x8_3, rfl, HA, HJ3, HO_5, HB⟩ := hcut
     cases kq with
     | zero => exact absurd HA.out (by simp [ldif_lines.j1])
     | succ kj3 =>
      have H := HA.out
      clear HA
      simp only [ldif_lines.j1] at H
      replace H := Option.bind_eq_some_iff.mp H
      obtain ⟨⟨t112, t113⟩, A80, H⟩ := H
      replace H : (if t113 = true then (ldif_lines.j2 kj3 t109 x5_1 x6_1 (wrap64 (x7_1 + 1)) x8_3 t112 t113 (!x6_1)) else (ldif_lines.j2 kj3 t109 x5_1 x6_1 (wrap64 (x7_1 + 1)) x8_3 t112 t113 false)) = some (r1, r2, r3) := H
      have A8 := Aside0.mk A80
      clear A80
      have HC9 := Aside0.mk H
      clear H
      go_upto_region 13 with (first | ((with_reducible refine gate_callee (f := 49) rfl ?_); refine goesL_ (some 29) rfl rfl Tryd.func49 (by kernel_rfl) rfl #[.string x8_3, .string (⟨#[32]⟩ : ByteArray)] rfl ap3 ?_; (with_reducible refine (strings_CutPrefix.calls x8_3 (⟨#[32]⟩ : ByteArray) t112 t113 _ A8.out).mono ?_); rintro e w' ⟨rfl, ⟨nd, rfl⟩⟩; refine ⟨_, rfl, ?_⟩))
      (try simp only [Act.put, List.setIfInBounds_toArray, List.set_cons_zero, List.set_cons_succ])
      go_cut [40] (fun v40 wc => ∃ (kq : Nat) (x40_8 : Bool), v40 = .bool x40_8 ∧ Aside0 (ldif_lines.j2 kq t109 x5_1 x6_1 (wrap64 (x7_1 + 1)) x8_3 t112 t113 x40_8 = some (r1, r2, r3)) ∧ Aside0 (kq ≤ kj3) ∧ Aside0 (Kd.R k49 49 wc w.heap.size (fun _ => True) u5 x5_1) ∧ Aside0 (Below w.heap.size w wc))
      case first =>
       have H := HC9.out
       clear HC9
       by_cases c10 : t113 = true
       ·
        subst c10
        rw [if_pos rfl] at H
        have H' := Aside0.mk H
        clear H
        go_wp2
        first | go_meet | (simp only [c2b0] at *; go_meet) | (simp only [c2b0] at *; go_meet)
        case rel => exact ⟨_, (!x6_1), ap2, H', ⟨by have := HK1.out; have := HJ3.out; first | omega | exact Nat.le_refl _⟩, ⟨by (with_reducible repeat (first | apply Kd.R_alloc | apply Kd.R_drewN | apply Kd.R_drew)); exact HO_5.out⟩, ⟨by repeat (first | (with_reducible first | exact HB.out | apply below_alloc | apply pw_below_drewN | apply below_drew1) | exact HB.out)⟩⟩
       ·
        replace c10 := Bool.eq_false_iff.mpr c10
        subst c10
        rw [if_neg (show ¬ (false = true) by decide)] at H
        have H' := Aside0.mk H
        clear H
        go_wp2
        first | go_meet | (simp only [c2b0] at *; go_meet) | (simp only [c2b0] at *; go_meet)
        case rel => exact ⟨_, (false), ap2, H', ⟨by have := HK1.out; have := HJ3.out; first | omega | exact Nat.le_refl _⟩, ⟨by (with_reducible repeat (first | apply Kd.R_alloc | apply Kd.R_drewN | apply Kd.R_drew)); exact HO_5.out⟩, ⟨by repeat (first | (with_reducible first | exact HB.out | apply below_alloc | apply pw_below_drewN | apply below_drew1) | exact HB.out)⟩⟩
      case rest =>
       clear HC9
       try clear c1
       try clear c2
       try clear c2b0
       try clear c2b1
       try clear p2
       try clear c4
       try clear c6
       try clear p6
       try clear c10
       try clear p2
       try clear p6
       obtain ⟨kq, x40_8, rfl, HA, HJ8, HO_5, HB⟩ := hcut
       cases kq with
       | zero => exact absurd HA.out (by simp [ldif_lines.j2])
       | succ kj8 =>
        have H := HA.out
        clear HA
        simp only [ldif_lines.j2] at H
        by_cases c11 : x40_8 = true
        ·
         subst c11
         rw [if_pos rfl] at H
         simp only [Option.some.injEq, Prod.mk.injEq] at H
         obtain ⟨rfl, rfl, rfl⟩ := H
         go_wp2
         go_ret3
         exact ⟨_, by first | rfl | (simp [errW_none, errW_some, bne_nil8, beq_nil8]; done) | (simp [errW_none, errW_some] <;> rfl) | (simp [*, errW_none, errW_some] <;> rfl), by first | exact Kd.R_nil _ _ _ _ _ | exact Kd.N_nil _ _ _ _ _ | exact Kd.V_nil _ _ _ _ _ | exact Kd.Q_nil _ _ _ _ _ | exact Kd.S_nil _ _ _ _ _, by repeat (first | (with_reducible first | exact HB.out | apply below_alloc | apply pw_below_drewN | apply below_drew1) | exact HB.out)⟩
        ·
         replace c11 := Bool.eq_false_iff.mpr c11
         subst c11
         rw [if_neg (show ¬ (false = true) by decide)] at H
         by_cases c12 : t113 = true
         ·
          subst c12
          rw [if_pos rfl] at H
          obtain ⟨ji13, hji13⟩ : ∃ j_ : Int, (wrap64 ((x5_1.length : Int) - 1)) = j_ := ⟨_, rfl⟩
          replace H : (if 0 ≤ (ji13) then (if (ji13) < (x5_1.length : Int) then (if ((rd_T49 x5_1 (ji13)).f0).size + t112.size ≤ 9223372036854775807 then (ldif_lines.l0 kj8 t109 (x5_1.set ((ji13) : Int).toNat (⟨((rd_T49 x5_1 (ji13)).f0) ++ t112, (rd_T49 x5_1 (ji13)).f1⟩ : S49)) x6_1 (wrap64 (x7_1 + 1))) else (none)) else (none)) else (none)) = some (r1, r2, r3) := by first | (rw [hji13] at H; exact H) | (simp only [hji13] at H ⊢; exact H)
          have hji13w : (IntKind.i64.wrap ((x5_1.length : Int) - 1)) = ji13 := (i64_w _).trans hji13
          by_cases c14 : 0 ≤ (ji13)
          ·
           rw [if_pos c14] at H
           have c14b0 := decide_eq_true c14
           clear c14
           by_cases c15 : (ji13) < (x5_1.length : Int)
           ·
            rw [if_pos c15] at H
            have c15b0 := decide_eq_true c15
            clear c15
            by_cases c16 : ((rd_T49 x5_1 (ji13)).f0).size + t112.size ≤ 9223372036854775807
            ·
             rw [if_pos c16] at H
             have c16b0 := eq_true c16
             have c16b1 := decide_eq_true c16
             try have c16b2 : (9223372036854775807 < ((rd_T49 x5_1 (ji13)).f0).size + t112.size) = False := eq_false (Nat.not_lt.2 c16)
             obtain ⟨y115, hy115⟩ : ∃ y_ : List (S49), y_ = (x5_1.set ((ji13) : Int).toNat (⟨((rd_T49 x5_1 (ji13)).f0) ++ t112, (rd_T49 x5_1 (ji13)).f1⟩ : S49)) := ⟨_, rfl⟩
             replace H : (ldif_lines.l0 kj8 t109 y115 x6_1 (wrap64 (x7_1 + 1))) = some (r1, r2, r3) := by first | (rw [hy115]; with_reducible exact H) | (have H2_ := (Option.bind_some _ _).symm.trans H; rw [hy115]; with_reducible exact H2_) | (have H2_ := (Option.bind_some _ _).symm.trans H; with_reducible exact H2_) | with_reducible exact H | (rw [hy115]; exact H) | exact H
             have Ny115 := Aside0.mk hy115
             clear hy115
             have H' := Aside0.mk H
             clear H
             obtain ⟨Ao18, co18, eo18⟩ := Kd.R_slice HO_5.out
             subst eo18
             have p114 : 0 ≤ ((ji13) : Int) := of_decide_eq_true ap0
             have q114 : (ji13) < (x5_1.length : Int) := of_decide_eq_true ap0
             obtain ⟨ad114, e114, hx114_0, hx114_1⟩ := at_T49 (Kd.R_reads' HO_5.out).2.2 (ji13) p114 q114
             cases e114
             replace p114 := eq_true p114
             replace q114 := eq_true q114
             have p17 : 0 ≤ ((ji13) : Int) := of_decide_eq_true ap0
             have q17 : ((ji13) : Int) < ((x5_1.length : Int) : Int) := of_decide_eq_true ap0
             obtain ⟨go17, co17, eo17, gb17, gl17, cl17, HG17⟩ := Kd.R_form HO_5.out (by omega)
             (first | cases eo17 | (injection eo17 with ea_ en_ ec_; (first | subst ea_ | (injection ea_ with ea_; subst ea_)); subst ec_; clear en_))
             have GB17 := Aside0.mk gb17
             have GG17 := Aside0.mk HG17
             clear gb17 gl17 HG17
             (first | simp only [add_plain] at hx114_0 | skip)
             (first | simp only [add_plain] at hx114_1 | skip)
             obtain ⟨ce17, hcl17, hM17, hcc17, hfr17⟩ := Kd.R_elem HO_5.out z49 ((ji13) : Int) p17 q17
             obtain rfl := k49_openM hM17
             have hx17_0 : wc.cell? ⟨go17, ((ji13) : Int).toNat * 2, none⟩ = some (.string ((rd_T49 x5_1 (ji13)).f0)) := hcc17 0 _ rfl
             have hx17_1 : wc.cell? ⟨go17, ((ji13) : Int).toNat * 2 + 1, none⟩ = some (.int .i64 ((rd_T49 x5_1 (ji13)).f1)) := hcc17 1 _ rfl
             have hf17_0 : wc.frozen? ⟨go17, ((ji13) : Int).toNat * 2, none⟩ = false := hfr17 0
             have hf17_1 : wc.frozen? ⟨go17, ((ji13) : Int).toNat * 2 + 1, none⟩ = false := hfr17 1
             clear hcl17 hcc17 hfr17 hM17
             replace p17 := eq_true p17
             replace q17 := eq_true q17
             have HX19 := Aside0.mk (show Kd.R k49 49 wc w.heap.size (fun _ => True) (.slice (some ⟨go17, 0, none⟩) x5_1.length co18) x5_1 from (apAR HO_5.out))
             obtain ⟨ce19, hcl19, hM19, hcc19, hfr19⟩ := Kd.R_elem HX19.out z49 ((ji13) : Int) (of_decide_eq_true ap0) (by have h_ : ((ji13) : Int) < ((x5_1.length : Int) : Int) := of_decide_eq_true ap0; first | exact h_ | (have e_ := (Kd.R_reads' HO_5.out).1; omega) | simpa using h_)
             obtain rfl := k49_openM hM19
             have HP19 := Kd.R_seg HX19.out ((ji13) : Int) (of_decide_eq_true ap0) (by have h_ : ((ji13) : Int) < ((x5_1.length : Int) : Int) := of_decide_eq_true ap0; first | exact h_ | (have e_ := (Kd.R_reads' HO_5.out).1; omega) | simpa using h_) (seg := [.string (((rd_T49 x5_1 (ji13)).f0) ++ t112)]) (j := 0) hcl19 hcc19 (show 1 ≤ 2 from by decide) (x' := (⟨((rd_T49 x5_1 (ji13)).f0) ++ t112, (rd_T49 x5_1 (ji13)).f1⟩ : S49)) (k49_mkM _ _ _ (⟨((rd_T49 x5_1 (ji13)).f0) ++ t112, (rd_T49 x5_1 (ji13)).f1⟩ : S49) ) (fun _ hk => hk)
             have hx19_0 := hcc19 0 _ rfl
             (try simp only [show (k49).sz = 2 from rfl, Nat.mul_one, Nat.add_zero] at hx19_0)
             have hf19_0 := hfr19 0
             (try simp only [show (k49).sz = 2 from rfl, Nat.mul_one, Nat.add_zero] at hf19_0)
             clear hcl19 hcc19 hfr19 hM19
             go_wp2_with (first | ((with_reducible refine gate_store (t := 9) (p := 59) rfl ?_); refine store_event (t := 9) (p := 59) (v := ?vo_w20) (w1 := (wc.setCell ⟨go17, ((ji13) : Int).toNat * 2, none⟩ (.string (((rd_T49 x5_1 (ji13)).f0) ++ t112)))) ?hg ?ho ?hn ?hr ?_; (case ho => rfl); (case hg => rfl); (case hn => rfl); (case hr => first | (go_simp; done) | (go_simp; rfl)); intro w20 hw; have hg : wc.grownBy w20 (some go17) := (by rw [hw]; exact HP19.2); have hp_ : Kd.R k49 49 w20 w.heap.size (fun _ => True) (.slice (some ⟨go17, 0, none⟩) x5_1.length co18) y115 := (by rw [hw, Ny115.out]; exact HP19.1); clear HP19; have n0_ := Aside0.mk (hp_); have n1_ := Aside0.mk ((by rw [hw]; exact below_set (HB.out) GB17.out : Below w.heap.size w w20)); clear HO_5; clear HB; have HO_5 := n0_; have HB := n1_; clear n0_ n1_; clear hg hw hp_))
             go_roundg kj8
             case measure => have := HK1.out; have := HJ3.out; have := HJ8.out; omega
             case rel => exact ⟨(t109), (y115), (x6_1), ((wrap64 (x7_1 + 1))), ap2, ap2, ap2, H', ⟨by have := HK1.out; have := HJ3.out; have := HJ8.out; omega⟩, ⟨by (with_reducible repeat (first | apply Kd.R_alloc | apply Kd.R_drewN | apply Kd.R_drew)); exact HO_5.out⟩, ⟨by repeat (first | (with_reducible first | exact HB.out | apply below_alloc | apply pw_below_drewN | apply below_drew1) | exact HB.out)⟩⟩
            ·
             rw [if_neg c16] at H
             exact absurd H (by simp)
           ·
            rw [if_neg c15] at H
            exact absurd H (by simp)
          ·
           rw [if_neg c14] at H
           exact absurd H (by simp)
         ·
          replace c12 := Bool.eq_false_iff.mpr c12
          subst c12
          rw [if_neg (show ¬ (false = true) by decide)] at H
          by_cases c21 : x5_1.length < 5864062014805
          ·
           rw [if_pos c21] at H
           have LMc21 := Aside0.mk c21
           clear c21
           obtain ⟨y116, hy116⟩ : ∃ y_ : List (S49), y_ = (x5_1 ++ [(⟨x8_3, (wrap64 (x7_1 + 1))⟩ : S49)]) := ⟨_, rfl⟩
           replace H : (ldif_lines.l0 kj8 t109 y116 (x8_3.toList != ([] : List UInt8)) (wrap64 (x7_1 + 1))) = some (r1, r2, r3) := by first | (rw [hy116]; with_reducible exact H) | (have H2_ := (Option.bind_some _ _).symm.trans H; rw [hy116]; with_reducible exact H2_) | (have H2_ := (Option.bind_some _ _).symm.trans H; with_reducible exact H2_) | with_reducible exact H | (rw [hy116]; exact H) | exact H
           have Ny116 := Aside0.mk hy116
           clear hy116
           have H' := Aside0.mk H
           clear H
           go_wp2_with (first | ((with_reducible refine gate_builtin (b := .append) (xs := #[.tmp 32, .tmp 36]) rfl ?_); at_builtin; refine Kd.R_append k49 (w0 := w) w.heap.size rfl (.tmp 32) (.tmp 36) 44 49 (.agg #[(.string ⟨#[]⟩), (.int .i64 0)]) 24 rfl Tryd.underlying44 info49 rfl (by decide) (by omega) u5 x5_1 (⟨x8_3, (wrap64 (x7_1 + 1))⟩ : S49) [.string x8_3, .int .i64 (wrap64 (x7_1 + 1))] (fun _ => True) (fun _ => False) rfl rfl ?aP (fun _ hk => hk.elim) ?aF ?aO ?aB ?aS ?aL ?_; (case aP => exact k49_mkM _ _ _ (⟨x8_3, (wrap64 (x7_1 + 1))⟩ : S49)); (case aB => exact ap1); (case aF => exact (fun _ _ => trivial)); (case aO => exact (apAR HO_5.out)); (case aS => exact (below_size ap1)); (case aL => have := LMc21.out; omega); intro v117 w22 ho hb hg hat; rw [← Ny116.out] at ho; have n0_ := Aside0.mk (hb); have n1_ := Aside0.mk (ho); clear HB; clear HO_5; have HB := n0_; have HO118 := n1_; clear n0_ n1_; clear ho hb hg hat))
           go_roundg kj8
           case measure => have := HK1.out; have := HJ3.out; have := HJ8.out; omega
           case rel => exact ⟨(t109), (y116), ((x8_3.toList != ([] : List UInt8))), ((wrap64 (x7_1 + 1))), ap2, ap2, ap2, H', ⟨by have := HK1.out; have := HJ3.out; have := HJ8.out; omega⟩, ⟨by (with_reducible repeat (first | apply Kd.R_alloc | apply Kd.R_drewN | apply Kd.R_drew)); exact HO118.out⟩, ⟨by repeat (first | (with_reducible first | exact HB.out | apply below_alloc | apply pw_below_drewN | apply below_drew1) | exact HB.out)⟩⟩
          ·
           rw [if_neg c21] at H
           exact absurd H (by simp)
end Go.Proofs.YtkklacijhmoopaaDoor.Print
namespace Go.Proofs.YtkklacijhmoopaaDoor.Print
open Go.RowKit Go.Proofs.YtkklacijhmoopaaDoorW.PrintWords
def strings_TrimLeft.f (a0 a1 : ByteArray) : Option ByteArray :=
  match a1.data.toList with
  | [c] => if c.toNat < 128 then some ⟨(Lib.trimLeftB a0.data.toList c).toArray⟩ else none
  | _ => none
theorem strings_TrimLeft.calls (a0 a1 : ByteArray) (r : ByteArray) (w : World) (h : strings_TrimLeft.f a0 a1 = some r) :
    Calls Tryd.prog 54 #[.string a0, .string a1] w fun e w' => e = .returned (.string r) ∧ Drawn0 w w' := by
  unfold strings_TrimLeft.f at h
  split at h
  · rename_i c hc
    split at h
    · rename_i hlt
      injection h with h
      subst h
      have e : a1 = ⟨#[c]⟩ := by
        cases a1 with
        | mk d => cases d; simp_all
      subst e
      refine (Tryd.strings_TrimLeft_one a0 c hlt w).mono ?_
      rintro e w' ⟨he, rfl⟩
      exact ⟨he, Drawn0.refl _⟩
    · cases h
  · cases h
end Go.Proofs.YtkklacijhmoopaaDoor.Print
namespace Go.Proofs.YtkklacijhmoopaaDoor.Print
open Go.RowKit Go.Proofs.YtkklacijhmoopaaDoorW.PrintWords Go.Proofs.YtkklacijhmoopaaDoorW.PrintLast Go.Proofs.YtkklacijhmoopaaDoorW.PrintMore
attribute [local go_sem] max2_int min2_int max_two min_two max_three min_three max_four min_four
set_option linter.unusedVariables false
set_option linter.unusedSimpArgs false
def ldif_plain.l0 : Nat → ByteArray → Int → Int → Option (Bool)
 | 0, _, _, _ => none
 | k + 1, x0, x6, x7 => if x7 < x6 then (if 0 ≤ x7 then (if x7 < (x0.size : Int) then (if (bt x0 x7) = 0 then (some false) else (if (bt x0 x7) > 127 then (some false) else (if (bt x0 x7) = 10 then (some false) else (if (bt x0 x7) = 13 then (some false) else (if x7 = 0 then (if (bt x0 x7) = 32 then (some false) else (if (bt x0 x7) = 58 then (some false) else (if (bt x0 x7) = 60 then (some false) else (ldif_plain.l0 k x0 x6 (wrap64 (x7 + 1)))))) else (ldif_plain.l0 k x0 x6 (wrap64 (x7 + 1)))))))) else (none)) else (none)) else (some true)
def ldif_plain.f (k : Nat) (a0 : ByteArray) : Option (Bool) := ldif_plain.l0 k a0 (a0.size : Int) 0
set_option maxHeartbeats 8000000 in
set_option maxRecDepth 100000 in
theorem ldif_plain.calls (k : Nat) (a0 : ByteArray) (r : Bool) (w : World) (h : ldif_plain.f k a0 = some r) :
  Calls Tryd.prog 55 #[.string a0] w fun e w' => e = .returned (.bool r) ∧ Drawn0 w w' := by
 have H : (ldif_plain.l0 k a0 (a0.size : Int) 0) = some r := h
 clear h
 have H' := Aside0.mk H
 clear H
 go_enter Tryd.func55, Tryd.ntmps55
 go_wp2
 go_loopg [7] k (fun kq v7 w' => ∃ (x7_1 : Int), v7 = .int .i64 x7_1 ∧ Aside0 (ldif_plain.l0 kq a0 (a0.size : Int) x7_1 = some r) ∧ Aside0 (kq ≤ k) ∧ Drawn0 w w')
 case atStart => exact ⟨(0), ap2, H', ⟨Nat.le_refl _⟩, by repeat (first | exact Drawn0.refl _ | apply Drawn0.step)⟩
 case round =>
  clear H'
  obtain ⟨x7_1, rfl, HA, HK1, ⟨m1, rfl⟩⟩ := hrel
  cases gk with
  | zero => exact absurd HA.out (by simp [ldif_plain.l0])
  | succ k1 =>
   have H := HA.out
   clear HA
   simp only [ldif_plain.l0] at H
   by_cases c2 : x7_1 < (a0.size : Int)
   ·
    rw [if_pos c2] at H
    have c2b0 := decide_eq_true c2
    clear c2
    by_cases c3 : 0 ≤ x7_1
    ·
     rw [if_pos c3] at H
     have c3b0 := decide_eq_true c3
     clear c3
     by_cases c4 : x7_1 < (a0.size : Int)
     ·
      rw [if_pos c4] at H
      have c4b0 := decide_eq_true c4
      clear c4
      by_cases c6 : (bt a0 x7_1) = 0
      ·
       rw [if_pos c6] at H
       have c6b0 : ((bt a0 x7_1) == 0) = true := beq_iff_eq.mpr c6
       have c6b1 : ((bt a0 x7_1) != 0) = false := bne_eq_false_iff_eq.mpr c6
       clear c6
       obtain rfl := Option.some.inj H
       have p5 : 0 ≤ (x7_1 : Int) := of_decide_eq_true ap0
       have q5 : x7_1 < (a0.size : Int) := of_decide_eq_true ap0
       have hx5 := bt_at a0 x7_1
       replace p5 := eq_true p5
       replace q5 := eq_true q5
       go_wp2
       go_ret
       exact ⟨ap2, ap7⟩
      ·
       rw [if_neg c6] at H
       have c6b0 : ((bt a0 x7_1) == 0) = false := beq_eq_false_iff_ne.mpr c6
       have c6b1 : ((bt a0 x7_1) != 0) = true := bne_iff_ne.mpr c6
       by_cases c7 : (bt a0 x7_1) > 127
       ·
        rw [if_pos c7] at H
        have c7b0 := decide_eq_true c7
        clear c7
        obtain rfl := Option.some.inj H
        have p5 : 0 ≤ (x7_1 : Int) := of_decide_eq_true ap0
        have q5 : x7_1 < (a0.size : Int) := of_decide_eq_true ap0
        have hx5 := bt_at a0 x7_1
        replace p5 := eq_true p5
        replace q5 := eq_true q5
        go_wp2
        go_ret
        exact ⟨ap2, ap7⟩
       ·
        rw [if_neg c7] at H
        have c7b0 := decide_eq_false c7
        clear c7
        by_cases c8 : (bt a0 x7_1) = 10
        ·
         rw [if_pos c8] at H
         have c8b0 : ((bt a0 x7_1) == 10) = true := beq_iff_eq.mpr c8
         have c8b1 : ((bt a0 x7_1) != 10) = false := bne_eq_false_iff_eq.mpr c8
         clear c8
         obtain rfl := Option.some.inj H
         have p5 : 0 ≤ (x7_1 : Int) := of_decide_eq_true ap0
         have q5 : x7_1 < (a0.size : Int) := of_decide_eq_true ap0
         have hx5 := bt_at a0 x7_1
         replace p5 := eq_true p5
         replace q5 := eq_true q5
         go_wp2
         go_ret
         exact ⟨ap2, ap7⟩
        ·
         rw [if_neg c8] at H
         have c8b0 : ((bt a0 x7_1) == 10) = false := beq_eq_false_iff_ne.mpr c8
         have c8b1 : ((bt a0 x7_1) != 10) = true := bne_iff_ne.mpr c8
         by_cases c9 : (bt a0 x7_1) = 13
         ·
          rw [if_pos c9] at H
          have c9b0 : ((bt a0 x7_1) == 13) = true := beq_iff_eq.mpr c9
          have c9b1 : ((bt a0 x7_1) != 13) = false := bne_eq_false_iff_eq.mpr c9
          clear c9
          obtain rfl := Option.some.inj H
          have p5 : 0 ≤ (x7_1 : Int) := of_decide_eq_true ap0
          have q5 : x7_1 < (a0.size : Int) := of_decide_eq_true ap0
          have hx5 := bt_at a0 x7_1
          replace p5 := eq_true p5
          replace q5 := eq_true q5
          go_wp2
          go_ret
          exact ⟨ap2, ap7⟩
         ·
          rw [if_neg c9] at H
          have c9b0 : ((bt a0 x7_1) == 13) = false := beq_eq_false_iff_ne.mpr c9
          have c9b1 : ((bt a0 x7_1) != 13) = true := bne_iff_ne.mpr c9
          by_cases c10 : x7_1 = 0
          ·
           rw [if_pos c10] at H
           have c10b0 : (x7_1 == 0) = true := beq_iff_eq.mpr c10
           have c10b1 : (x7_1 != 0) = false := bne_eq_false_iff_eq.mpr c10
           clear c10
           by_cases c11 : (bt a0 x7_1) = 32
           ·
            rw [if_pos c11] at H
            have c11b0 : ((bt a0 x7_1) == 32) = true := beq_iff_eq.mpr c11
            have c11b1 : ((bt a0 x7_1) != 32) = false := bne_eq_false_iff_eq.mpr c11
            clear c11
            obtain rfl := Option.some.inj H
            have p5 : 0 ≤ (x7_1 : Int) := of_decide_eq_true ap0
            have q5 : x7_1 < (a0.size : Int) := of_decide_eq_true ap0
            have hx5 := bt_at a0 x7_1
            replace p5 := eq_true p5
            replace q5 := eq_true q5
            go_wp2
            go_ret
            exact ⟨ap2, ap7⟩
           ·
            rw [if_neg c11] at H
            have c11b0 : ((bt a0 x7_1) == 32) = false := beq_eq_false_iff_ne.mpr c11
            have c11b1 : ((bt a0 x7_1) != 32) = true := bne_iff_ne.mpr c11
            by_cases c12 : (bt a0 x7_1) = 58
            ·
             rw [if_pos c12] at H
             have c12b0 : ((bt a0 x7_1) == 58) = true := beq_iff_eq.mpr c12
             have c12b1 : ((bt a0 x7_1) != 58) = false := bne_eq_false_iff_eq.mpr c12
             clear c12
             obtain rfl := Option.some.inj H
             have p5 : 0 ≤ (x7_1 : Int) := of_decide_eq_true ap0
             have q5 : x7_1 < (a0.size : Int) := of_decide_eq_true ap0
             have hx5 := bt_at a0 x7_1
             replace p5 := eq_true p5
             replace q5 := eq_true q5
             go_wp2
             go_ret
             exact ⟨ap2, ap7⟩
            ·
             rw [if_neg c12] at H
             have c12b0 : ((bt a0 x7_1) == 58) = false := beq_eq_false_iff_ne.mpr c12
             have c12b1 : ((bt a0 x7_1) != 58) = true := bne_iff_ne.mpr c12
             by_cases c13 : (bt a0 x7_1) = 60
             ·
              rw [if_pos c13] at H
              have c13b0 : ((bt a0 x7_1) == 60) = true := beq_iff_eq.mpr c13
              have c13b1 : ((bt a0 x7_1) != 60) = false := bne_eq_false_iff_eq.mpr c13
              clear c13
              obtain rfl := Option.some.inj H
              have p5 : 0 ≤ (x7_1 : Int) := of_decide_eq_true ap0
              have q5 : x7_1 < (a0.size : Int) := of_decide_eq_true ap0
              have hx5 := bt_at a0 x7_1
              replace p5 := eq_true p5
              replace q5 := eq_true q5
              go_wp2
              go_ret
              exact ⟨ap2, ap7⟩
             ·
              rw [if_neg c13] at H
              have c13b0 : ((bt a0 x7_1) == 60) = false := beq_eq_false_iff_ne.mpr c13
              have c13b1 : ((bt a0 x7_1) != 60) = true := bne_iff_ne.mpr c13
              have H' := Aside0.mk H
              clear H
              have p5 : 0 ≤ (x7_1 : Int) := of_decide_eq_true ap0
              have q5 : x7_1 < (a0.size : Int) := of_decide_eq_true ap0
              have hx5 := bt_at a0 x7_1
              replace p5 := eq_true p5
              replace q5 := eq_true q5
              go_wp2
              go_roundg k1
              case measure => have := HK1.out; omega
              case rel => exact ⟨(wrap64 (x7_1 + 1)), ap2, H', ⟨by have := HK1.out; omega⟩, by repeat (first | exact Drawn0.refl _ | apply Drawn0.step)⟩
          ·
           rw [if_neg c10] at H
           have c10b0 : (x7_1 == 0) = false := beq_eq_false_iff_ne.mpr c10
           have c10b1 : (x7_1 != 0) = true := bne_iff_ne.mpr c10
           have H' := Aside0.mk H
           clear H
           have p5 : 0 ≤ (x7_1 : Int) := of_decide_eq_true ap0
           have q5 : x7_1 < (a0.size : Int) := of_decide_eq_true ap0
           have hx5 := bt_at a0 x7_1
           replace p5 := eq_true p5
           replace q5 := eq_true q5
           go_wp2
           go_roundg k1
           case measure => have := HK1.out; omega
           case rel => exact ⟨(wrap64 (x7_1 + 1)), ap2, H', ⟨by have := HK1.out; omega⟩, by repeat (first | exact Drawn0.refl _ | apply Drawn0.step)⟩
     ·
      rw [if_neg c4] at H
      exact absurd H (by simp)
    ·
     rw [if_neg c3] at H
     exact absurd H (by simp)
   ·
    rw [if_neg c2] at H
    have c2b0 := decide_eq_false c2
    clear c2
    obtain rfl := Option.some.inj H
    go_wp2
    go_ret
    exact ⟨ap2, ap7⟩
def ldif_rightType.l0 : Nat → ByteArray → Int → Int → Option (Bool)
 | 0, _, _, _ => none
 | k + 1, x0, x7, x8 => if x8 < x7 then (if 0 ≤ x8 then (if x8 < (x0.size : Int) then (if (bt x0 x8) ≥ 97 then (if (bt x0 x8) ≤ 122 then (ldif_rightType.l0 k x0 x7 (wrap64 (x8 + 1))) else (if (bt x0 x8) ≥ 65 then (if ((bt x0 x8) ≤ 90) then (ldif_rightType.l0 k x0 x7 (wrap64 (x8 + 1))) else (if x8 = 0 then (some false) else (if (bt x0 x8) = 45 then (ldif_rightType.l0 k x0 x7 (wrap64 (x8 + 1))) else (if (bt x0 x8) < 48 then (some false) else (if (bt x0 x8) > 57 then (some false) else (ldif_rightType.l0 k x0 x7 (wrap64 (x8 + 1)))))))) else (if x8 = 0 then (some false) else (if (bt x0 x8) = 45 then (ldif_rightType.l0 k x0 x7 (wrap64 (x8 + 1))) else (if (bt x0 x8) < 48 then (some false) else (if (bt x0 x8) > 57 then (some false) else (ldif_rightType.l0 k x0 x7 (wrap64 (x8 + 1))))))))) else (if (bt x0 x8) ≥ 65 then (if ((bt x0 x8) ≤ 90) then (ldif_rightType.l0 k x0 x7 (wrap64 (x8 + 1))) else (if x8 = 0 then (some false) else (if (bt x0 x8) = 45 then (ldif_rightType.l0 k x0 x7 (wrap64 (x8 + 1))) else (if (bt x0 x8) < 48 then (some false) else (if (bt x0 x8) > 57 then (some false) else (ldif_rightType.l0 k x0 x7 (wrap64 (x8 + 1)))))))) else (if x8 = 0 then (some false) else (if (bt x0 x8) = 45 then (ldif_rightType.l0 k x0 x7 (wrap64 (x8 + 1))) else (if (bt x0 x8) < 48 then (some false) else (if (bt x0 x8) > 57 then (some false) else (ldif_rightType.l0 k x0 x7 (wrap64 (x8 + 1))))))))) else (none)) else (none)) else (if x0.toList = ([] : List UInt8) then (some false) else (some (decide ((x0.size : Int) ≤ 64))))
def ldif_rightType.f (k : Nat) (a0 : ByteArray) : Option (Bool) := ldif_rightType.l0 k a0 (a0.size : Int) 0
set_option maxHeartbeats 8000000 in
set_option maxRecDepth 100000 in
theorem ldif_rightType.calls (k : Nat) (a0 : ByteArray) (r : Bool) (w : World) (h : ldif_rightType.f k a0 = some r) :
  Calls Tryd.prog 52 #[.string a0] w fun e w' => e = .returned (.bool r) ∧ Drawn0 w w' := by
 have H : (ldif_rightType.l0 k a0 (a0.size : Int) 0) = some r := h
 clear h
 have H' := Aside0.mk H
 clear H
 go_enter Tryd.func52, Tryd.ntmps52
 go_wp2
 go_loopg [8] k (fun kq v8 w' => ∃ (x8_1 : Int), v8 = .int .i64 x8_1 ∧ Aside0 (ldif_rightType.l0 kq a0 (a0.size : Int) x8_1 = some r) ∧ Aside0 (kq ≤ k) ∧ Drawn0 w w')
 case atStart => exact ⟨(0), ap2, H', ⟨Nat.le_refl _⟩, by repeat (first | exact Drawn0.refl _ | apply Drawn0.step)⟩
 case round =>
  clear H'
  obtain ⟨x8_1, rfl, HA, HK1, ⟨m1, rfl⟩⟩ := hrel
  cases gk with
  | zero => exact absurd HA.out (by simp [ldif_rightType.l0])
  | succ k1 =>
   have H := HA.out
   clear HA
   simp only [ldif_rightType.l0] at H
   by_cases c2 : x8_1 < (a0.size : Int)
   ·
    rw [if_pos c2] at H
    have c2b0 := decide_eq_true c2
    clear c2
    by_cases c3 : 0 ≤ x8_1
    ·
     rw [if_pos c3] at H
     have c3b0 := decide_eq_true c3
     clear c3
     by_cases c4 : x8_1 < (a0.size : Int)
     ·
      rw [if_pos c4] at H
      have c4b0 := decide_eq_true c4
      clear c4
      by_cases c6 : (bt a0 x8_1) ≥ 97
      ·
       rw [if_pos c6] at H
       have c6b0 := decide_eq_true c6
       clear c6
       by_cases c7 : (bt a0 x8_1) ≤ 122
       ·
        rw [if_pos c7] at H
        have c7b0 := decide_eq_true c7
        clear c7
        have H' := Aside0.mk H
        clear H
        have p5 : 0 ≤ (x8_1 : Int) := of_decide_eq_true ap0
        have q5 : x8_1 < (a0.size : Int) := of_decide_eq_true ap0
        have hx5 := bt_at a0 x8_1
        replace p5 := eq_true p5
        replace q5 := eq_true q5
        go_wp2
        go_roundg k1
        case measure => have := HK1.out; omega
        case rel => exact ⟨(wrap64 (x8_1 + 1)), ap2, H', ⟨by have := HK1.out; omega⟩, by repeat (first | exact Drawn0.refl _ | apply Drawn0.step)⟩
       ·
        rw [if_neg c7] at H
        have c7b0 := decide_eq_false c7
        clear c7
        by_cases c8 : (bt a0 x8_1) ≥ 65
        ·
         rw [if_pos c8] at H
         have c8b0 := decide_eq_true c8
         clear c8
         by_cases c9 : ((bt a0 x8_1) ≤ 90)
         ·
          rw [if_pos c9] at H
          have c9b0 := decide_eq_true c9
          clear c9
          have H' := Aside0.mk H
          clear H
          have p5 : 0 ≤ (x8_1 : Int) := of_decide_eq_true ap0
          have q5 : x8_1 < (a0.size : Int) := of_decide_eq_true ap0
          have hx5 := bt_at a0 x8_1
          replace p5 := eq_true p5
          replace q5 := eq_true q5
          go_wp2
          go_roundg k1
          case measure => have := HK1.out; omega
          case rel => exact ⟨(wrap64 (x8_1 + 1)), ap2, H', ⟨by have := HK1.out; omega⟩, by repeat (first | exact Drawn0.refl _ | apply Drawn0.step)⟩
         ·
          rw [if_neg c9] at H
          have c9b0 := decide_eq_false c9
          clear c9
          by_cases c10 : x8_1 = 0
          ·
           rw [if_pos c10] at H
           have c10b0 : (x8_1 == 0) = true := beq_iff_eq.mpr c10
           have c10b1 : (x8_1 != 0) = false := bne_eq_false_iff_eq.mpr c10
           clear c10
           obtain rfl := Option.some.inj H
           have p5 : 0 ≤ (x8_1 : Int) := of_decide_eq_true ap0
           have q5 : x8_1 < (a0.size : Int) := of_decide_eq_true ap0
           have hx5 := bt_at a0 x8_1
           replace p5 := eq_true p5
           replace q5 := eq_true q5
           go_wp2
           go_ret
           exact ⟨ap2, ap7⟩
          ·
           rw [if_neg c10] at H
           have c10b0 : (x8_1 == 0) = false := beq_eq_false_iff_ne.mpr c10
           have c10b1 : (x8_1 != 0) = true := bne_iff_ne.mpr c10
           by_cases c11 : (bt a0 x8_1) = 45
           ·
            rw [if_pos c11] at H
            have c11b0 : ((bt a0 x8_1) == 45) = true := beq_iff_eq.mpr c11
            have c11b1 : ((bt a0 x8_1) != 45) = false := bne_eq_false_iff_eq.mpr c11
            clear c11
            have H' := Aside0.mk H
            clear H
            have p5 : 0 ≤ (x8_1 : Int) := of_decide_eq_true ap0
            have q5 : x8_1 < (a0.size : Int) := of_decide_eq_true ap0
            have hx5 := bt_at a0 x8_1
            replace p5 := eq_true p5
            replace q5 := eq_true q5
            go_wp2
            go_roundg k1
            case measure => have := HK1.out; omega
            case rel => exact ⟨(wrap64 (x8_1 + 1)), ap2, H', ⟨by have := HK1.out; omega⟩, by repeat (first | exact Drawn0.refl _ | apply Drawn0.step)⟩
           ·
            rw [if_neg c11] at H
            have c11b0 : ((bt a0 x8_1) == 45) = false := beq_eq_false_iff_ne.mpr c11
            have c11b1 : ((bt a0 x8_1) != 45) = true := bne_iff_ne.mpr c11
            by_cases c12 : (bt a0 x8_1) < 48
            ·
             rw [if_pos c12] at H
             have c12b0 := decide_eq_true c12
             clear c12
             obtain rfl := Option.some.inj H
             have p5 : 0 ≤ (x8_1 : Int) := of_decide_eq_true ap0
             have q5 : x8_1 < (a0.size : Int) := of_decide_eq_true ap0
             have hx5 := bt_at a0 x8_1
             replace p5 := eq_true p5
             replace q5 := eq_true q5
             go_wp2
             go_ret
             exact ⟨ap2, ap7⟩
            ·
             rw [if_neg c12] at H
             have c12b0 := decide_eq_false c12
             clear c12
             by_cases c13 : (bt a0 x8_1) > 57
             ·
              rw [if_pos c13] at H
              have c13b0 := decide_eq_true c13
              clear c13
              obtain rfl := Option.some.inj H
              have p5 : 0 ≤ (x8_1 : Int) := of_decide_eq_true ap0
              have q5 : x8_1 < (a0.size : Int) := of_decide_eq_true ap0
              have hx5 := bt_at a0 x8_1
              replace p5 := eq_true p5
              replace q5 := eq_true q5
              go_wp2
              go_ret
              exact ⟨ap2, ap7⟩
             ·
              rw [if_neg c13] at H
              have c13b0 := decide_eq_false c13
              clear c13
              have H' := Aside0.mk H
              clear H
              have p5 : 0 ≤ (x8_1 : Int) := of_decide_eq_true ap0
              have q5 : x8_1 < (a0.size : Int) := of_decide_eq_true ap0
              have hx5 := bt_at a0 x8_1
              replace p5 := eq_true p5
              replace q5 := eq_true q5
              go_wp2
              go_roundg k1
              case measure => have := HK1.out; omega
              case rel => exact ⟨(wrap64 (x8_1 + 1)), ap2, H', ⟨by have := HK1.out; omega⟩, by repeat (first | exact Drawn0.refl _ | apply Drawn0.step)⟩
        ·
         rw [if_neg c8] at H
         have c8b0 := decide_eq_false c8
         clear c8
         by_cases c14 : x8_1 = 0
         ·
          rw [if_pos c14] at H
          have c14b0 : (x8_1 == 0) = true := beq_iff_eq.mpr c14
          have c14b1 : (x8_1 != 0) = false := bne_eq_false_iff_eq.mpr c14
          clear c14
          obtain rfl := Option.some.inj H
          have p5 : 0 ≤ (x8_1 : Int) := of_decide_eq_true ap0
          have q5 : x8_1 < (a0.size : Int) := of_decide_eq_true ap0
          have hx5 := bt_at a0 x8_1
          replace p5 := eq_true p5
          replace q5 := eq_true q5
          go_wp2
          go_ret
          exact ⟨ap2, ap7⟩
         ·
          rw [if_neg c14] at H
          have c14b0 : (x8_1 == 0) = false := beq_eq_false_iff_ne.mpr c14
          have c14b1 : (x8_1 != 0) = true := bne_iff_ne.mpr c14
          by_cases c15 : (bt a0 x8_1) = 45
          ·
           rw [if_pos c15] at H
           have c15b0 : ((bt a0 x8_1) == 45) = true := beq_iff_eq.mpr c15
           have c15b1 : ((bt a0 x8_1) != 45) = false := bne_eq_false_iff_eq.mpr c15
           clear c15
           have H' := Aside0.mk H
           clear H
           have p5 : 0 ≤ (x8_1 : Int) := of_decide_eq_true ap0
           have q5 : x8_1 < (a0.size : Int) := of_decide_eq_true ap0
           have hx5 := bt_at a0 x8_1
           replace p5 := eq_true p5
           replace q5 := eq_true q5
           go_wp2
           go_roundg k1
           case measure => have := HK1.out; omega
           case rel => exact ⟨(wrap64 (x8_1 + 1)), ap2, H', ⟨by have := HK1.out; omega⟩, by repeat (first | exact Drawn0.refl _ | apply Drawn0.step)⟩
          ·
           rw [if_neg c15] at H
           have c15b0 : ((bt a0 x8_1) == 45) = false := beq_eq_false_iff_ne.mpr c15
           have c15b1 : ((bt a0 x8_1) != 45) = true := bne_iff_ne.mpr c15
           by_cases c16 : (bt a0 x8_1) < 48
           ·
            rw [if_pos c16] at H
            have c16b0 := decide_eq_true c16
            clear c16
            obtain rfl := Option.some.inj H
            have p5 : 0 ≤ (x8_1 : Int) := of_decide_eq_true ap0
            have q5 : x8_1 < (a0.size : Int) := of_decide_eq_true ap0
            have hx5 := bt_at a0 x8_1
            replace p5 := eq_true p5
            replace q5 := eq_true q5
            go_wp2
            go_ret
            exact ⟨ap2, ap7⟩
           ·
            rw [if_neg c16] at H
            have c16b0 := decide_eq_false c16
            clear c16
            by_cases c17 : (bt a0 x8_1) > 57
            ·
             rw [if_pos c17] at H
             have c17b0 := decide_eq_true c17
             clear c17
             obtain rfl := Option.some.inj H
             have p5 : 0 ≤ (x8_1 : Int) := of_decide_eq_true ap0
             have q5 : x8_1 < (a0.size : Int) := of_decide_eq_true ap0
             have hx5 := bt_at a0 x8_1
             replace p5 := eq_true p5
             replace q5 := eq_true q5
             go_wp2
             go_ret
             exact ⟨ap2, ap7⟩
            ·
             rw [if_neg c17] at H
             have c17b0 := decide_eq_false c17
             clear c17
             have H' := Aside0.mk H
             clear H
             have p5 : 0 ≤ (x8_1 : Int) := of_decide_eq_true ap0
             have q5 : x8_1 < (a0.size : Int) := of_decide_eq_true ap0
             have hx5 := bt_at a0 x8_1
             replace p5 := eq_true p5
             replace q5 := eq_true q5
             go_wp2
             go_roundg k1
             case measure => have := HK1.out; omega
             case rel => exact ⟨(wrap64 (x8_1 + 1)), ap2, H', ⟨by have := HK1.out; omega⟩, by repeat (first | exact Drawn0.refl _ | apply Drawn0.step)⟩
      ·
       rw [if_neg c6] at H
       have c6b0 := decide_eq_false c6
       clear c6
       by_cases c18 : (bt a0 x8_1) ≥ 65
       ·
        rw [if_pos c18] at H
        have c18b0 := decide_eq_true c18
        clear c18
        by_cases c19 : ((bt a0 x8_1) ≤ 90)
        ·
         rw [if_pos c19] at H
         have c19b0 := decide_eq_true c19
         clear c19
         have H' := Aside0.mk H
         clear H
         have p5 : 0 ≤ (x8_1 : Int) := of_decide_eq_true ap0
         have q5 : x8_1 < (a0.size : Int) := of_decide_eq_true ap0
         have hx5 := bt_at a0 x8_1
         replace p5 := eq_true p5
         replace q5 := eq_true q5
         go_wp2
         go_roundg k1
         case measure => have := HK1.out; omega
         case rel => exact ⟨(wrap64 (x8_1 + 1)), ap2, H', ⟨by have := HK1.out; omega⟩, by repeat (first | exact Drawn0.refl _ | apply Drawn0.step)⟩
        ·
         rw [if_neg c19] at H
         have c19b0 := decide_eq_false c19
         clear c19
         by_cases c20 : x8_1 = 0
         ·
          rw [if_pos c20] at H
          have c20b0 : (x8_1 == 0) = true := beq_iff_eq.mpr c20
          have c20b1 : (x8_1 != 0) = false := bne_eq_false_iff_eq.mpr c20
          clear c20
          obtain rfl := Option.some.inj H
          have p5 : 0 ≤ (x8_1 : Int) := of_decide_eq_true ap0
          have q5 : x8_1 < (a0.size : Int) := of_decide_eq_true ap0
          have hx5 := bt_at a0 x8_1
          replace p5 := eq_true p5
          replace q5 := eq_true q5
          go_wp2
          go_ret
          exact ⟨ap2, ap7⟩
         ·
          rw [if_neg c20] at H
          have c20b0 : (x8_1 == 0) = false := beq_eq_false_iff_ne.mpr c20
          have c20b1 : (x8_1 != 0) = true := bne_iff_ne.mpr c20
          by_cases c21 : (bt a0 x8_1) = 45
          ·
           rw [if_pos c21] at H
           have c21b0 : ((bt a0 x8_1) == 45) = true := beq_iff_eq.mpr c21
           have c21b1 : ((bt a0 x8_1) != 45) = false := bne_eq_false_iff_eq.mpr c21
           clear c21
           have H' := Aside0.mk H
           clear H
           have p5 : 0 ≤ (x8_1 : Int) := of_decide_eq_true ap0
           have q5 : x8_1 < (a0.size : Int) := of_decide_eq_true ap0
           have hx5 := bt_at a0 x8_1
           replace p5 := eq_true p5
           replace q5 := eq_true q5
           go_wp2
           go_roundg k1
           case measure => have := HK1.out; omega
           case rel => exact ⟨(wrap64 (x8_1 + 1)), ap2, H', ⟨by have := HK1.out; omega⟩, by repeat (first | exact Drawn0.refl _ | apply Drawn0.step)⟩
          ·
           rw [if_neg c21] at H
           have c21b0 : ((bt a0 x8_1) == 45) = false := beq_eq_false_iff_ne.mpr c21
           have c21b1 : ((bt a0 x8_1) != 45) = true := bne_iff_ne.mpr c21
           by_cases c22 : (bt a0 x8_1) < 48
           ·
            rw [if_pos c22] at H
            have c22b0 := decide_eq_true c22
            clear c22
            obtain rfl := Option.some.inj H
            have p5 : 0 ≤ (x8_1 : Int) := of_decide_eq_true ap0
            have q5 : x8_1 < (a0.size : Int) := of_decide_eq_true ap0
            have hx5 := bt_at a0 x8_1
            replace p5 := eq_true p5
            replace q5 := eq_true q5
            go_wp2
            go_ret
            exact ⟨ap2, ap7⟩
           ·
            rw [if_neg c22] at H
            have c22b0 := decide_eq_false c22
            clear c22
            by_cases c23 : (bt a0 x8_1) > 57
            ·
             rw [if_pos c23] at H
             have c23b0 := decide_eq_true c23
             clear c23
             obtain rfl := Option.some.inj H
             have p5 : 0 ≤ (x8_1 : Int) := of_decide_eq_true ap0
             have q5 : x8_1 < (a0.size : Int) := of_decide_eq_true ap0
             have hx5 := bt_at a0 x8_1
             replace p5 := eq_true p5
             replace q5 := eq_true q5
             go_wp2
             go_ret
             exact ⟨ap2, ap7⟩
            ·
             rw [if_neg c23] at H
             have c23b0 := decide_eq_false c23
             clear c23
             have H' := Aside0.mk H
             clear H
             have p5 : 0 ≤ (x8_1 : Int) := of_decide_eq_true ap0
             have q5 : x8_1 < (a0.size : Int) := of_decide_eq_true ap0
             have hx5 := bt_at a0 x8_1
             replace p5 := eq_true p5
             replace q5 := eq_true q5
             go_wp2
             go_roundg k1
             case measure => have := HK1.out; omega
             case rel => exact ⟨(wrap64 (x8_1 + 1)), ap2, H', ⟨by have := HK1.out; omega⟩, by repeat (first | exact Drawn0.refl _ | apply Drawn0.step)⟩
       ·
        rw [if_neg c18] at H
        have c18b0 := decide_eq_false c18
        clear c18
        by_cases c24 : x8_1 = 0
        ·
         rw [if_pos c24] at H
         have c24b0 : (x8_1 == 0) = true := beq_iff_eq.mpr c24
         have c24b1 : (x8_1 != 0) = false := bne_eq_false_iff_eq.mpr c24
         clear c24
         obtain rfl := Option.some.inj H
         have p5 : 0 ≤ (x8_1 : Int) := of_decide_eq_true ap0
         have q5 : x8_1 < (a0.size : Int) := of_decide_eq_true ap0
         have hx5 := bt_at a0 x8_1
         replace p5 := eq_true p5
         replace q5 := eq_true q5
         go_wp2
         go_ret
         exact ⟨ap2, ap7⟩
        ·
         rw [if_neg c24] at H
         have c24b0 : (x8_1 == 0) = false := beq_eq_false_iff_ne.mpr c24
         have c24b1 : (x8_1 != 0) = true := bne_iff_ne.mpr c24
         by_cases c25 : (bt a0 x8_1) = 45
         ·
          rw [if_pos c25] at H
          have c25b0 : ((bt a0 x8_1) == 45) = true := beq_iff_eq.mpr c25
          have c25b1 : ((bt a0 x8_1) != 45) = false := bne_eq_false_iff_eq.mpr c25
          clear c25
          have H' := Aside0.mk H
          clear H
          have p5 : 0 ≤ (x8_1 : Int) := of_decide_eq_true ap0
          have q5 : x8_1 < (a0.size : Int) := of_decide_eq_true ap0
          have hx5 := bt_at a0 x8_1
          replace p5 := eq_true p5
          replace q5 := eq_true q5
          go_wp2
          go_roundg k1
          case measure => have := HK1.out; omega
          case rel => exact ⟨(wrap64 (x8_1 + 1)), ap2, H', ⟨by have := HK1.out; omega⟩, by repeat (first | exact Drawn0.refl _ | apply Drawn0.step)⟩
         ·
          rw [if_neg c25] at H
          have c25b0 : ((bt a0 x8_1) == 45) = false := beq_eq_false_iff_ne.mpr c25
          have c25b1 : ((bt a0 x8_1) != 45) = true := bne_iff_ne.mpr c25
          by_cases c26 : (bt a0 x8_1) < 48
          ·
           rw [if_pos c26] at H
           have c26b0 := decide_eq_true c26
           clear c26
           obtain rfl := Option.some.inj H
           have p5 : 0 ≤ (x8_1 : Int) := of_decide_eq_true ap0
           have q5 : x8_1 < (a0.size : Int) := of_decide_eq_true ap0
           have hx5 := bt_at a0 x8_1
           replace p5 := eq_true p5
           replace q5 := eq_true q5
           go_wp2
           go_ret
           exact ⟨ap2, ap7⟩
          ·
           rw [if_neg c26] at H
           have c26b0 := decide_eq_false c26
           clear c26
           by_cases c27 : (bt a0 x8_1) > 57
           ·
            rw [if_pos c27] at H
            have c27b0 := decide_eq_true c27
            clear c27
            obtain rfl := Option.some.inj H
            have p5 : 0 ≤ (x8_1 : Int) := of_decide_eq_true ap0
            have q5 : x8_1 < (a0.size : Int) := of_decide_eq_true ap0
            have hx5 := bt_at a0 x8_1
            replace p5 := eq_true p5
            replace q5 := eq_true q5
            go_wp2
            go_ret
            exact ⟨ap2, ap7⟩
           ·
            rw [if_neg c27] at H
            have c27b0 := decide_eq_false c27
            clear c27
            have H' := Aside0.mk H
            clear H
            have p5 : 0 ≤ (x8_1 : Int) := of_decide_eq_true ap0
            have q5 : x8_1 < (a0.size : Int) := of_decide_eq_true ap0
            have hx5 := bt_at a0 x8_1
            replace p5 := eq_true p5
            replace q5 := eq_true q5
            go_wp2
            go_roundg k1
            case measure => have := HK1.out; omega
            case rel => exact ⟨(wrap64 (x8_1 + 1)), ap2, H', ⟨by have := HK1.out; omega⟩, by repeat (first | exact Drawn0.refl _ | apply Drawn0.step)⟩
     ·
      rw [if_neg c4] at H
      exact absurd H (by simp)
    ·
     rw [if_neg c3] at H
     exact absurd H (by simp)
   ·
    rw [if_neg c2] at H
    have c2b0 := decide_eq_false c2
    clear c2
    by_cases c28 : a0.toList = ([] : List UInt8)
    ·
     rw [if_pos c28] at H
     have c28b0 : (a0.toList == ([] : List UInt8)) = true := beq_iff_eq.mpr c28
     have c28b1 : (a0.toList != ([] : List UInt8)) = false := bne_eq_false_iff_eq.mpr c28
     clear c28
     obtain rfl := Option.some.inj H
     go_wp2
     go_ret
     exact ⟨ap2, ap7⟩
    ·
     rw [if_neg c28] at H
     have c28b0 : (a0.toList == ([] : List UInt8)) = false := beq_eq_false_iff_ne.mpr c28
     have c28b1 : (a0.toList != ([] : List UInt8)) = true := bne_iff_ne.mpr c28
     obtain rfl := Option.some.inj H
     go_wp2
     go_ret
     exact ⟨ap2, ap7⟩
def ldif_pair.j0 : Nat → ByteArray → ByteArray → Bool → Option (ByteArray × ByteArray × Bool)
 | 0, _, _, _ => none
 | k + 1, x4, x5, x24 => if x24 = true then (some ((⟨#[]⟩ : ByteArray), (⟨#[]⟩ : ByteArray), false)) else ((strings_CutPrefix.f x5 (⟨#[58]⟩ : ByteArray)).bind fun bt142 => (if bt142.2 = true then ((strings_TrimLeft.f bt142.1 (⟨#[32]⟩ : ByteArray)).bind fun t144 => ((b64_Decode.f k t144).bind fun bt145 => (some (x4, bt145.1, (bt145.2 == 0))))) else ((strings_TrimLeft.f x5 (⟨#[32]⟩ : ByteArray)).bind fun t147 => ((ldif_plain.f k t147).bind fun t148 => (some (x4, t147, t148))))))
def ldif_pair.f (k : Nat) (a0 : ByteArray) : Option (ByteArray × ByteArray × Bool) := (strings_Cut.f a0 (⟨#[58]⟩ : ByteArray)).bind fun bt138 => (if bt138.2.2 = true then ((ldif_rightType.f k bt138.1).bind fun t141 => (ldif_pair.j0 k bt138.1 bt138.2.1 (!t141))) else (ldif_pair.j0 k bt138.1 bt138.2.1 true))
set_option maxHeartbeats 8000000 in
set_option maxRecDepth 100000 in
theorem ldif_pair.calls (k : Nat) (a0 : ByteArray) (r1 : ByteArray) (r2 : ByteArray) (r3 : Bool) (w : World) (hG : Gw w) (h : ldif_pair.f k a0 = some (r1, r2, r3)) :
  Calls Tryd.prog 28 #[.string a0] w fun e w' => e = .returned (.tuple #[.agg #[.string r1, .string r2], .bool r3]) ∧ Below w.heap.size w w' := by
 have hu40 := Tryd.underlying40
 have HB := Aside0.mk (Below.refl w.heap.size w)
 have HG := Aside0.mk hG
 clear hG
 have H : ((strings_Cut.f a0 (⟨#[58]⟩ : ByteArray)).bind fun bt138 => (if bt138.2.2 = true then ((ldif_rightType.f k bt138.1).bind fun t141 => (ldif_pair.j0 k bt138.1 bt138.2.1 (!t141))) else (ldif_pair.j0 k bt138.1 bt138.2.1 true))) = some (r1, r2, r3) := h
 clear h
 replace H := Option.bind_eq_some_iff.mp H
 obtain ⟨⟨t138, t139, t140⟩, A20, H⟩ := H
 replace H : (if t140 = true then ((ldif_rightType.f k t138).bind fun t141 => (ldif_pair.j0 k t138 t139 (!t141))) else (ldif_pair.j0 k t138 t139 true)) = some (r1, r2, r3) := H
 have A2 := Aside0.mk A20
 clear A20
 have HC3 := Aside0.mk H
 clear H
 go_enter Tryd.func28, Tryd.ntmps28
 go_upto_region 2 with (first | ((with_reducible refine gate_dst (N := 2) rfl ?_); refine box_event ?hg (N := 2) ?hd (cs := #[.string (⟨#[]⟩ : ByteArray), .string (⟨#[]⟩ : ByteArray)]) (t := 40) ?hr ?_; (case hd => rfl); (case hg => rfl); (case hr => first | (go_simp; done) | (go_simp; rfl)); intro gb137 hg w4 hbox hb; have n0_ := Aside0.mk (below_step ap1 hb); have n1_ := Aside0.mk (hbox); have n2_ := Aside0.mk ((by rw [hg]; exact (below_size ap1) : w.heap.size ≤ gb137)); have n3_ := Aside0.mk ((by rw [hg]; exact (below_size ap1) : w.heap.size ≤ gb137)); clear HB; have HB := n0_; have BK137 := n1_; have GW137 := n2_; have GE137 := n3_; clear n0_ n1_ n2_ n3_; clear hb hbox hg) | ((with_reducible refine gate_callee (f := 47) rfl ?_); refine goesL_ (some 14) rfl rfl Tryd.func47 (by kernel_rfl) rfl #[.string a0, .string (⟨#[58]⟩ : ByteArray)] rfl ap3 ?_; (with_reducible refine (strings_Cut.calls a0 (⟨#[58]⟩ : ByteArray) t138 t139 t140 _ ?side1 A2.out).mono ?_); (case side1 => first | exact HG.out | (refine Gw.below HG.out ?_; repeat (first | (with_reducible first | exact HB.out | apply below_alloc | apply pw_below_drewN | apply below_drew1 | refine below_set ?_ GE137.out) | exact HB.out))); rintro e w5 ⟨rfl, hb⟩; refine ⟨_, rfl, ?_⟩; have n0_ := Aside0.mk (blk_below (g := gb137) (o := .cells #[.string (⟨#[]⟩ : ByteArray), .string (⟨#[]⟩ : ByteArray)] 40 (0, 0)) (apB BK137.out) hb); have n1_ := Aside0.mk (below_step (apG GE137.out) hb); clear BK137; clear HB; have BK137 := n0_; have HB := n1_; clear n0_ n1_; (try clear hb); (try clear hb2); (try clear hk); (try clear hi)))
 (try simp only [Act.put, List.setIfInBounds_toArray, List.set_cons_zero, List.set_cons_succ])
 go_cut [24] (fun v24 wc => ∃ (kq : Nat) (x24_2 : Bool), v24 = .bool x24_2 ∧ Aside0 (ldif_pair.j0 kq t138 t139 x24_2 = some (r1, r2, r3)) ∧ Aside0 (kq ≤ k) ∧ Aside0 (wc.heap[gb137]? = some (.cells #[.string (⟨#[]⟩ : ByteArray), .string (⟨#[]⟩ : ByteArray)] 40 (0, 0))) ∧ Aside0 (Below w.heap.size w wc))
 case first =>
  have H := HC3.out
  clear HC3
  by_cases c6 : t140 = true
  ·
   subst c6
   rw [if_pos rfl] at H
   replace H := Option.bind_eq_some_iff.mp H
   obtain ⟨t141, A70, H⟩ := H
   replace H : (ldif_pair.j0 k t138 t139 (!t141)) = some (r1, r2, r3) := H
   have A7 := Aside0.mk A70
   clear A70
   have H' := Aside0.mk H
   clear H
   go_wp2_with (first | (go_at_call 52; (with_reducible refine (ldif_rightType.calls k t138 t141 _ A7.out).mono ?_); rintro e w' ⟨rfl, ⟨nd, rfl⟩⟩))
   go_meet
   case rel => exact ⟨_, (!t141), ap2, H', ⟨by first | omega | exact Nat.le_refl _⟩, ⟨by (with_reducible repeat (first | refine blk_drewN ?_ _ | refine blk_drew ?_ | refine blk_alloc ?_ _)); exact BK137.out⟩, ⟨by repeat (first | (with_reducible first | exact HB.out | apply below_alloc | apply pw_below_drewN | apply below_drew1 | refine below_set ?_ GE137.out) | exact HB.out)⟩⟩
  ·
   replace c6 := Bool.eq_false_iff.mpr c6
   subst c6
   rw [if_neg (show ¬ (false = true) by decide)] at H
   have H' := Aside0.mk H
   clear H
   go_wp2
   go_meet
   case rel => exact ⟨_, (true), ap2, H', ⟨by first | omega | exact Nat.le_refl _⟩, ⟨by (with_reducible repeat (first | refine blk_drewN ?_ _ | refine blk_drew ?_ | refine blk_alloc ?_ _)); exact BK137.out⟩, ⟨by repeat (first | (with_reducible first | exact HB.out | apply below_alloc | apply pw_below_drewN | apply below_drew1 | refine below_set ?_ GE137.out) | exact HB.out)⟩⟩
 case rest =>
  clear HC3
  try clear c2
  try clear p2
  try clear c4
  try clear c6
  obtain ⟨kq, x24_2, rfl, HA, HJ2, BK137, HB⟩ := hcut
  cases kq with
  | zero => exact absurd HA.out (by simp [ldif_pair.j0])
  | succ kj2 =>
   have H := HA.out
   clear HA
   simp only [ldif_pair.j0] at H
   by_cases c8 : x24_2 = true
   ·
    subst c8
    rw [if_pos rfl] at H
    simp only [Option.some.injEq, Prod.mk.injEq] at H
    obtain ⟨rfl, rfl, rfl⟩ := H
    have hcz9_0 : wc.cell? ⟨gb137, 0, none⟩ = some (.string (⟨#[]⟩ : ByteArray)) := (blk_cell BK137.out 0).trans rfl
    have hcz9_1 : wc.cell? ⟨gb137, 1, none⟩ = some (.string (⟨#[]⟩ : ByteArray)) := (blk_cell BK137.out 1).trans rfl
    have hfz9_0 := blk_frozen BK137.out 0
    have hfz9_1 := blk_frozen BK137.out 1
    go_wp2
    refine bodyPost_ret (results_ct rfl _ _ gb137 40 #[.string (⟨#[]⟩ : ByteArray), .string (⟨#[]⟩ : ByteArray)] (0, 0) _ rfl (by (with_reducible repeat (first | refine blk_drewN ?_ _ | refine blk_drew ?_ | refine blk_alloc ?_ _)); refine blk_put (cs := #[.string (⟨#[]⟩ : ByteArray), .string (⟨#[]⟩ : ByteArray)]) ?_ 1 _ rfl; (with_reducible repeat (first | refine blk_drewN ?_ _ | refine blk_drew ?_ | refine blk_alloc ?_ _)); refine blk_put (cs := #[.string (⟨#[]⟩ : ByteArray), .string (⟨#[]⟩ : ByteArray)]) ?_ 0 _ rfl; (with_reducible repeat (first | refine blk_drewN ?_ _ | refine blk_drew ?_ | refine blk_alloc ?_ _)); exact BK137.out) Tryd.underlying40 rfl (by kernel_rfl)) rfl ?_
    exact ⟨by first | rfl | (simp [errW_none, errW_some, bne_nil8, beq_nil8]; done) | (simp [errW_none, errW_some] <;> rfl) | (simp [*, errW_none, errW_some] <;> rfl), by repeat (first | (with_reducible first | exact HB.out | apply below_alloc | apply pw_below_drewN | apply below_drew1 | refine below_set ?_ GE137.out) | exact HB.out)⟩
   ·
    replace c8 := Bool.eq_false_iff.mpr c8
    subst c8
    rw [if_neg (show ¬ (false = true) by decide)] at H
    replace H := Option.bind_eq_some_iff.mp H
    obtain ⟨⟨t142, t143⟩, A100, H⟩ := H
    replace H : (if t143 = true then ((strings_TrimLeft.f t142 (⟨#[32]⟩ : ByteArray)).bind fun t144 => ((b64_Decode.f kj2 t144).bind fun bt145 => (some (t138, bt145.1, (bt145.2 == 0))))) else ((strings_TrimLeft.f t139 (⟨#[32]⟩ : ByteArray)).bind fun t147 => ((ldif_plain.f kj2 t147).bind fun t148 => (some (t138, t147, t148))))) = some (r1, r2, r3) := H
    have A10 := Aside0.mk A100
    clear A100
    by_cases c11 : t143 = true
    ·
     subst c11
     rw [if_pos rfl] at H
     replace H := Option.bind_eq_some_iff.mp H
     obtain ⟨t144, A120, H⟩ := H
     replace H : ((b64_Decode.f kj2 t144).bind fun bt145 => (some (t138, bt145.1, (bt145.2 == 0)))) = some (r1, r2, r3) := H
     have A12 := Aside0.mk A120
     clear A120
     replace H := Option.bind_eq_some_iff.mp H
     obtain ⟨⟨t145, t146⟩, A130, H⟩ := H
     replace H : (some (t138, t145, (t146 == 0))) = some (r1, r2, r3) := H
     have A13 := Aside0.mk A130
     clear A130
     simp only [Option.some.injEq, Prod.mk.injEq] at H
     obtain ⟨rfl, rfl, rfl⟩ := H
     go_wp2_with (first | ((with_reducible refine gate_callee (f := 49) rfl ?_); refine goesL_ (some 28) rfl rfl Tryd.func49 (by kernel_rfl) rfl #[.string t139, .string (⟨#[58]⟩ : ByteArray)] rfl ap3 ?_; (with_reducible refine (strings_CutPrefix.calls t139 (⟨#[58]⟩ : ByteArray) t142 true _ A10.out).mono ?_); rintro e w' ⟨rfl, ⟨nd, rfl⟩⟩; refine ⟨_, rfl, ?_⟩; (try (rw [drewN_self wc]; generalize hq_ : World.drewN wc _ = wc; have n0_ : Aside0 (wc.heap[gb137]? = some (.cells #[.string (⟨#[]⟩ : ByteArray), .string (⟨#[]⟩ : ByteArray)] 40 (0, 0))) := ⟨by rw [← hq_]; exact (apB BK137.out)⟩; have n1_ : Aside0 (Below w.heap.size w wc) := ⟨by rw [← hq_]; exact (apG GE137.out)⟩; clear BK137 HB hq_; have BK137 := n0_; have HB := n1_; clear n0_ n1_))) | ((with_reducible refine gate_callee (f := 54) rfl ?_); refine goesL_ (some 34) rfl rfl Tryd.func54 (by kernel_rfl) rfl #[.string t142, .string (⟨#[32]⟩ : ByteArray)] rfl ap3 ?_; (with_reducible refine (strings_TrimLeft.calls t142 (⟨#[32]⟩ : ByteArray) t144 _ A12.out).mono ?_); rintro e w' ⟨rfl, ⟨nd, rfl⟩⟩; refine ⟨_, rfl, ?_⟩; (try (rw [drewN_self wc]; generalize hq_ : World.drewN wc _ = wc; have n0_ : Aside0 (wc.heap[gb137]? = some (.cells #[.string (⟨#[]⟩ : ByteArray), .string (⟨#[]⟩ : ByteArray)] 40 (0, 0))) := ⟨by rw [← hq_]; exact (apB BK137.out)⟩; have n1_ : Aside0 (Below w.heap.size w wc) := ⟨by rw [← hq_]; exact (apG GE137.out)⟩; clear BK137 HB hq_; have BK137 := n0_; have HB := n1_; clear n0_ n1_))) | ((with_reducible refine gate_callee (f := 53) rfl ?_); refine goesL_ (some 35) rfl rfl Tryd.func53 (by kernel_rfl) rfl #[.string t144] rfl ap3 ?_; (with_reducible refine (b64_Decode.calls kj2 t144 t145 t146 _ A13.out).mono ?_); rintro e w14 ⟨rfl, hb⟩; refine ⟨_, rfl, ?_⟩; have n0_ := Aside0.mk (blk_below (g := gb137) (o := .cells #[.string (⟨#[]⟩ : ByteArray), .string (⟨#[]⟩ : ByteArray)] 40 (0, 0)) (apB BK137.out) hb); have n1_ := Aside0.mk (below_step (apG GE137.out) hb); clear BK137; clear HB; have BK137 := n0_; have HB := n1_; clear n0_ n1_; (try clear hb); (try clear hb2); (try clear hk); (try clear hi); have hcz15_0 : w14.cell? ⟨gb137, 0, none⟩ = some (.string (⟨#[]⟩ : ByteArray)) := (blk_cell BK137.out 0).trans rfl; have hcz15_1 : w14.cell? ⟨gb137, 1, none⟩ = some (.string (⟨#[]⟩ : ByteArray)) := (blk_cell BK137.out 1).trans rfl; have hfz15_0 := blk_frozen BK137.out 0; have hfz15_1 := blk_frozen BK137.out 1))
     refine bodyPost_ret (results_ct rfl _ _ gb137 40 #[.string t138, .string t145] (0, 0) _ rfl (by (with_reducible repeat (first | refine blk_drewN ?_ _ | refine blk_drew ?_ | refine blk_alloc ?_ _)); refine blk_put (cs := #[.string t138, .string (⟨#[]⟩ : ByteArray)]) ?_ 1 _ rfl; (with_reducible repeat (first | refine blk_drewN ?_ _ | refine blk_drew ?_ | refine blk_alloc ?_ _)); refine blk_put (cs := #[.string (⟨#[]⟩ : ByteArray), .string (⟨#[]⟩ : ByteArray)]) ?_ 0 _ rfl; (with_reducible repeat (first | refine blk_drewN ?_ _ | refine blk_drew ?_ | refine blk_alloc ?_ _)); exact BK137.out) Tryd.underlying40 rfl (by kernel_rfl)) rfl ?_
     exact ⟨by first | rfl | (simp [errW_none, errW_some, bne_nil8, beq_nil8]; done) | (simp [errW_none, errW_some] <;> rfl) | (simp [*, errW_none, errW_some] <;> rfl), by repeat (first | (with_reducible first | exact HB.out | apply below_alloc | apply pw_below_drewN | apply below_drew1 | refine below_set ?_ GE137.out) | exact HB.out)⟩
    ·
     replace c11 := Bool.eq_false_iff.mpr c11
     subst c11
     rw [if_neg (show ¬ (false = true) by decide)] at H
     replace H := Option.bind_eq_some_iff.mp H
     obtain ⟨t147, A160, H⟩ := H
     replace H : ((ldif_plain.f kj2 t147).bind fun t148 => (some (t138, t147, t148))) = some (r1, r2, r3) := H
     have A16 := Aside0.mk A160
     clear A160
     replace H := Option.bind_eq_some_iff.mp H
     obtain ⟨t148, A170, H⟩ := H
     replace H : (some (t138, t147, t148)) = some (r1, r2, r3) := H
     have A17 := Aside0.mk A170
     clear A170
     simp only [Option.some.injEq, Prod.mk.injEq] at H
     obtain ⟨rfl, rfl, rfl⟩ := H
     go_wp2_with (first | ((with_reducible refine gate_callee (f := 49) rfl ?_); refine goesL_ (some 28) rfl rfl Tryd.func49 (by kernel_rfl) rfl #[.string t139, .string (⟨#[58]⟩ : ByteArray)] rfl ap3 ?_; (with_reducible refine (strings_CutPrefix.calls t139 (⟨#[58]⟩ : ByteArray) t142 false _ A10.out).mono ?_); rintro e w' ⟨rfl, ⟨nd, rfl⟩⟩; refine ⟨_, rfl, ?_⟩; (try (rw [drewN_self wc]; generalize hq_ : World.drewN wc _ = wc; have n0_ : Aside0 (wc.heap[gb137]? = some (.cells #[.string (⟨#[]⟩ : ByteArray), .string (⟨#[]⟩ : ByteArray)] 40 (0, 0))) := ⟨by rw [← hq_]; exact (apB BK137.out)⟩; have n1_ : Aside0 (Below w.heap.size w wc) := ⟨by rw [← hq_]; exact (apG GE137.out)⟩; clear BK137 HB hq_; have BK137 := n0_; have HB := n1_; clear n0_ n1_))) | ((with_reducible refine gate_callee (f := 54) rfl ?_); refine goesL_ (some 44) rfl rfl Tryd.func54 (by kernel_rfl) rfl #[.string t139, .string (⟨#[32]⟩ : ByteArray)] rfl ap3 ?_; (with_reducible refine (strings_TrimLeft.calls t139 (⟨#[32]⟩ : ByteArray) t147 _ A16.out).mono ?_); rintro e w' ⟨rfl, ⟨nd, rfl⟩⟩; refine ⟨_, rfl, ?_⟩; (try (rw [drewN_self wc]; generalize hq_ : World.drewN wc _ = wc; have n0_ : Aside0 (wc.heap[gb137]? = some (.cells #[.string (⟨#[]⟩ : ByteArray), .string (⟨#[]⟩ : ByteArray)] 40 (0, 0))) := ⟨by rw [← hq_]; exact (apB BK137.out)⟩; have n1_ : Aside0 (Below w.heap.size w wc) := ⟨by rw [← hq_]; exact (apG GE137.out)⟩; clear BK137 HB hq_; have BK137 := n0_; have HB := n1_; clear n0_ n1_))) | ((with_reducible refine gate_callee (f := 55) rfl ?_); refine goesL_ (some 49) rfl rfl Tryd.func55 (by kernel_rfl) rfl #[.string t147] rfl ap3 ?_; (with_reducible refine (ldif_plain.calls kj2 t147 t148 _ A17.out).mono ?_); rintro e w' ⟨rfl, ⟨nd, rfl⟩⟩; refine ⟨_, rfl, ?_⟩; (try (rw [drewN_self wc]; generalize hq_ : World.drewN wc _ = wc; have n0_ : Aside0 (wc.heap[gb137]? = some (.cells #[.string (⟨#[]⟩ : ByteArray), .string (⟨#[]⟩ : ByteArray)] 40 (0, 0))) := ⟨by rw [← hq_]; exact (apB BK137.out)⟩; have n1_ : Aside0 (Below w.heap.size w wc) := ⟨by rw [← hq_]; exact (apG GE137.out)⟩; clear BK137 HB hq_; have BK137 := n0_; have HB := n1_; clear n0_ n1_)); have hcz18_0 : wc.cell? ⟨gb137, 0, none⟩ = some (.string (⟨#[]⟩ : ByteArray)) := (blk_cell BK137.out 0).trans rfl; have hcz18_1 : wc.cell? ⟨gb137, 1, none⟩ = some (.string (⟨#[]⟩ : ByteArray)) := (blk_cell BK137.out 1).trans rfl; have hfz18_0 := blk_frozen BK137.out 0; have hfz18_1 := blk_frozen BK137.out 1))
     refine bodyPost_ret (results_ct rfl _ _ gb137 40 #[.string t138, .string t147] (0, 0) _ rfl (by (with_reducible repeat (first | refine blk_drewN ?_ _ | refine blk_drew ?_ | refine blk_alloc ?_ _)); refine blk_put (cs := #[.string t138, .string (⟨#[]⟩ : ByteArray)]) ?_ 1 _ rfl; (with_reducible repeat (first | refine blk_drewN ?_ _ | refine blk_drew ?_ | refine blk_alloc ?_ _)); refine blk_put (cs := #[.string (⟨#[]⟩ : ByteArray), .string (⟨#[]⟩ : ByteArray)]) ?_ 0 _ rfl; (with_reducible repeat (first | refine blk_drewN ?_ _ | refine blk_drew ?_ | refine blk_alloc ?_ _)); exact BK137.out) Tryd.underlying40 rfl (by kernel_rfl)) rfl ?_
     exact ⟨by first | rfl | (simp [errW_none, errW_some, bne_nil8, beq_nil8]; done) | (simp [errW_none, errW_some] <;> rfl) | (simp [*, errW_none, errW_some] <;> rfl), by repeat (first | (with_reducible first | exact HB.out | apply below_alloc | apply pw_below_drewN | apply below_drew1 | refine below_set ?_ GE137.out) | exact HB.out)⟩
def strings_HasPrefix.f (a0 : ByteArray) (a1 : ByteArray) : Option (Bool) := (stringslite_HasPrefix.f a0 a1).bind fun t119 => (some t119)
set_option maxHeartbeats 8000000 in
set_option maxRecDepth 100000 in
theorem strings_HasPrefix.calls (a0 : ByteArray) (a1 : ByteArray) (r : Bool) (w : World) (h : strings_HasPrefix.f a0 a1 = some r) :
  Calls Tryd.prog 27 #[.string a0, .string a1] w fun e w' => e = .returned (.bool r) ∧ Drawn0 w w' := by
 have H : ((stringslite_HasPrefix.f a0 a1).bind fun t119 => (some t119)) = some r := h
 clear h
 replace H := Option.bind_eq_some_iff.mp H
 obtain ⟨t119, A30, H⟩ := H
 replace H : (some t119) = some r := H
 have A3 := Aside0.mk A30
 clear A30
 obtain rfl := Option.some.inj H
 go_enter Tryd.func27, Tryd.ntmps27
 go_wp2_with (first | ((with_reducible refine gate_callee (f := 51) rfl ?_); refine goesL_ (some 7) rfl rfl Tryd.func51 (by kernel_rfl) rfl #[.string a0, .string a1] rfl ap3 ?_; (with_reducible refine (stringslite_HasPrefix.calls a0 a1 t119 _ A3.out).mono ?_); rintro e w' ⟨rfl, ⟨nd, rfl⟩⟩; refine ⟨_, rfl, ?_⟩))
 go_ret
 exact ⟨ap2, ap7⟩
mutual
def ldif_Parse0.l0 : Nat → List (S43) → Bool → List (S49) → Int → Int → Option ((List (S43)) × Int × Int)
  | 0, _, _, _, _, _ => none
  | k + 1, x9, x10, x34, x35, x36 => if x36 < x35 then (if 0 ≤ x36 then (if x36 < (x34.length : Int) then ((strings_HasPrefix.f ((rd_T49 x34 x36).f0) (⟨#[35]⟩ : ByteArray)).bind fun t157 => (if t157 = true then (ldif_Parse0.j1 k x9 x10 x34 x35 x36 t157 ((rd_T49 x34 x36).f0) ((rd_T49 x34 x36).f1)) else (if x36 = 0 then (ldif_Parse0.j1 k x9 x10 x34 x35 x36 (((rd_T49 x34 x36).f0).toList == ([118, 101, 114, 115, 105, 111, 110, 58, 32, 49] : List UInt8)) ((rd_T49 x34 x36).f0) ((rd_T49 x34 x36).f1)) else (ldif_Parse0.j1 k x9 x10 x34 x35 x36 false ((rd_T49 x34 x36).f0) ((rd_T49 x34 x36).f1))))) else (none)) else (none)) else (some (x9, 0, 0))
def ldif_Parse0.j1 : Nat → List (S43) → Bool → List (S49) → Int → Int → Bool → ByteArray → Int → Option ((List (S43)) × Int × Int)
  | 0, _, _, _, _, _, _, _, _ => none
  | k + 1, x9, x10, x34, x35, x36, x41, x157000, x157001 => if x41 = true then (ldif_Parse0.l0 k x9 x10 x34 x35 (wrap64 (x36 + 1))) else (if x157000.toList = ([] : List UInt8) then (ldif_Parse0.l0 k x9 false x34 x35 (wrap64 (x36 + 1))) else ((ldif_pair.f k x157000).bind fun bt158 => (if bt158.2.2 = true then ((ldif_isName.f bt158.1).bind fun t162 => (ldif_Parse0.j2 k x9 x10 x34 x35 x36 (t162 == x10) x157000 x157001 bt158.1 bt158.2.1)) else (ldif_Parse0.j2 k x9 x10 x34 x35 x36 true x157000 x157001 bt158.1 bt158.2.1))))
def ldif_Parse0.j2 : Nat → List (S43) → Bool → List (S49) → Int → Int → Bool → ByteArray → Int → ByteArray → ByteArray → Option ((List (S43)) × Int × Int)
  | 0, _, _, _, _, _, _, _, _, _, _ => none
  | k + 1, x9, x10, x34, x35, x36, x70, x157000, x157001, x162000, x162001 => if x70 = true then (some (([] : List (S43)), x157001, 4)) else (if x10 = true then (if 0 ≤ (wrap64 ((x9.length : Int) - 1)) then (if (wrap64 ((x9.length : Int) - 1)) < (x9.length : Int) then (if ((rd_T43 x9 (wrap64 ((x9.length : Int) - 1))).f1).length < 4398046511104 then (ldif_Parse0.l0 k (x9.set ((wrap64 ((x9.length : Int) - 1)) : Int).toNat (⟨(rd_T43 x9 (wrap64 ((x9.length : Int) - 1))).f0, (((rd_T43 x9 (wrap64 ((x9.length : Int) - 1))).f1) ++ [(⟨x162000, x162001⟩ : S40)])⟩ : S43)) x10 x34 x35 (wrap64 (x36 + 1))) else (none)) else (none)) else (none)) else (if x9.length < 3518437208883 then (ldif_Parse0.l0 k (x9 ++ [(⟨x162001, ([] : List (S40))⟩ : S43)]) true x34 x35 (wrap64 (x36 + 1))) else (none)))
end
def ldif_Parse0.f (k : Nat) (a0 : ByteArray) : Option ((List (S43)) × Int × Int) := if (a0.size : Int) > 100000 then (some (([] : List (S43)), 0, 5)) else ((ldif_lines.f k a0).bind fun bt149 => (if bt149.2.2 = true then (ldif_Parse0.l0 k ([] : List (S43)) false bt149.1 (bt149.1.length : Int) 0) else ((ldif_firstN.f k bt149.1 a0 bt149.2.1).bind fun t154 => (if t154 > 0 then (some (([] : List (S43)), t154, 4)) else (some (([] : List (S43)), bt149.2.1, 4))))))
def ldif_Parse0.T22 : Bool × List (List Nat × List Nat) := (true, [([], []), ([], []), ([1], [1]), ([2], [2]), ([], []), ([], []), ([5], [5]), ([6], [6]), ([4, 7], [4, 7]), ([8], [8]), ([9], [9]), ([], []), ([11], [11]), ([10, 12], [10, 12]), ([0, 3, 0, 1, 2, 3, 4, 5, 6, 7, 8, 9, 10, 11, 12, 13], [0, 3]), ([14, 0, 1, 2, 3, 4, 5, 6, 7, 8, 9, 10, 11, 12, 13], [14]), ([15, 13, 13, 0, 1, 2, 3, 4, 5, 6, 7, 8, 9, 10, 11, 12, 13], [13, 15])])
def ldif_Parse0.B22 : List Nat := [0, 0, 2, 6, 0, 0, 32, 96, 240, 496, 1008, 0, 2048, 8176, 16383, 32767, 65535]
theorem ldif_Parse0.tab22 : rtab .any (opsOf Tryd.f8 22) = ldif_Parse0.T22 := by kernel_rfl
theorem ldif_Parse0.bits22 : waitsOk ldif_Parse0.T22.2 ldif_Parse0.B22 = true := by kernel_rfl
end Go.Proofs.YtkklacijhmoopaaDoor.Print
