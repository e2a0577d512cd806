-- laid together by pack.py (a program of this session)
import Derived.Test.YtpklcnpmppaaoaaGreatDoorAAttrNormals2
namespace Go.Proofs.YtpklcnpmppaaoaaGreatDoor.Print
open Go.RowKit Go.Proofs.YtpklcnpmppaaoaaGreatDoorW.PrintWords Go.Proofs.YtpklcnpmppaaoaaGreatDoorW.PrintLast Go.Proofs.YtpklcnpmppaaoaaGreatDoorW.PrintMore Go.Proofs.YtpklcnpmppaaoaaGreatDoor.Pure
set_option linter.unusedVariables false
set_option linter.unusedSimpArgs false
theorem refValue_ev (c : UInt8) : Ev (fun k => R14Value.f k (c.toNat : Int)) (hexI c) := by
 have hc := c.toNat_lt; have w0 : wrap64 ((c.toNat : Nat) : Int) = (c.toNat : Int) := by unfold wrap64; omega
 unfold R14Value.f hexI hexv; by_cases h1 : 48 ≤ c.toNat ∧ c.toNat ≤ 57
 ·rw [if_pos h1]; refine Ev.pos (by omega) (Ev.step (fun k => by rw [R14Value.j0]) (Ev.pos (by simp; omega) ?_)); rw [w0, show wrap64 ((c.toNat : Int) - 48) = ((c.toNat - 48 : Nat) : Int) by unfold wrap64; omega]; exact Ev.rfl'
 ·rw [if_neg h1]; have hj : ∀ {v : Int}, Ev (fun k => if (c.toNat : Int) ≥ 97 then (R14Value.j1 k (c.toNat : Int) (decide ((c.toNat : Int) ≤ 102))) else (R14Value.j1 k (c.toNat : Int) false)) v → Ev (fun k => if (c.toNat : Int) ≥ 48 then (R14Value.j0 k (c.toNat : Int) (decide ((c.toNat : Int) ≤ 57))) else (R14Value.j0 k (c.toNat : Int) false)) v := by
   intro v h; by_cases h2 : 48 ≤ c.toNat
   ·refine Ev.pos (by omega) ?_; rw [decide_eq_false (by omega)]; exact Ev.step (fun k => by rw [R14Value.j0]) (Ev.neg (by simp) h)
   ·exact Ev.neg (by omega) (Ev.step (fun k => by rw [R14Value.j0]) (Ev.neg (by simp) h))
  apply hj; by_cases h3 : 97 ≤ c.toNat ∧ c.toNat ≤ 102
  ·rw [if_pos h3]; refine Ev.pos (by omega) (Ev.step (fun k => by rw [R14Value.j1]) (Ev.pos (by simp; omega) ?_)); rw [w0, show wrap64 ((c.toNat : Int) - 87) = ((c.toNat - 87 : Nat) : Int) by unfold wrap64; omega]; exact Ev.rfl'
  ·rw [if_neg h3]; have hj2 : ∀ {v : Int}, Ev (fun k => if (c.toNat : Int) ≥ 65 then (if (c.toNat : Int) ≤ 70 then (some (wrap64 ((wrap64 (c.toNat : Int)) - 55))) else (some (-1))) else (some (-1))) v → Ev (fun k => if (c.toNat : Int) ≥ 97 then (R14Value.j1 k (c.toNat : Int) (decide ((c.toNat : Int) ≤ 102))) else (R14Value.j1 k (c.toNat : Int) false)) v := by
    intro v h; by_cases h2 : 97 ≤ c.toNat
    ·refine Ev.pos (by omega) ?_; rw [decide_eq_false (by omega)]; exact Ev.step (fun k => by rw [R14Value.j1]) (Ev.neg (by simp) h)
    ·exact Ev.neg (by omega) (Ev.step (fun k => by rw [R14Value.j1]) (Ev.neg (by simp) h))
   apply hj2; by_cases h4 : 65 ≤ c.toNat ∧ c.toNat ≤ 70
   ·rw [if_pos h4, w0, show wrap64 ((c.toNat : Int) - 55) = ((c.toNat - 55 : Nat) : Int) by unfold wrap64; omega]; exact Ev.pos (by omega) (Ev.pos (by omega) Ev.rfl')
   ·rw [if_neg h4]; by_cases h5 : 65 ≤ c.toNat
    ·exact Ev.pos (by omega) (Ev.neg (by omega) Ev.rfl')
    ·exact Ev.neg (by omega) Ev.rfl'
theorem u8_small (n : Nat) (h : n < 256) : n.toUInt8.toNat = n := by
 have e : n.toUInt8.toNat = n % 2 ^ 8 := UInt8.toNat_ofNat'; rw [e]; exact Nat.mod_eq_of_lt h
theorem hex_byte (x y : Nat) (hx : x < 16) (hy : y < 16) : (wrap64 ((wrap64 (16 * (x : Int))) + (y : Int))) % 256 = ((16 * x + y).toUInt8.toNat : Int) := by
 rw [u8_small _ (by omega)]; have h1 : wrap64 (16 * (x : Int)) = 16 * (x : Int) := by unfold wrap64; omega
 have h2 : wrap64 (16 * (x : Int) + (y : Int)) = 16 * (x : Int) + (y : Int) := by unfold wrap64; omega
 rw [h1, h2]; omega
theorem wtwo {p : Nat} (h : p ≤ 2000000) : wrap64 ((p : Int) + 2) = ((p + 2 : Nat) : Int) := by unfold wrap64; omega
theorem esc_nil' : esc [] = none := rfl
theorem signs_ev (s : ByteArray) (hs : s.size ≤ 1000000) : ∀ (n p : Nat) (acc : List Sg), p ≤ s.size → s.size - p < n → acc.length ≤ p →
  (signs ((bl s).drop p) = none → Ev (fun k => R15Signs.l0 k s (mkSs acc) (p : Int)) ([], false)) ∧
  (∀ L, signs ((bl s).drop p) = some L → Ev (fun k => R15Signs.l0 k s (mkSs acc) (p : Int)) (mkSs (acc ++ L), true)) := by
 intro n
 induction n with
 | zero => intro p acc hp hn; omega
 | succ n ih =>
  intro p acc hp hn ha; have hlen : (mkSs acc).length < 70368744177664 := by rw [mkSs_len]; omega
  cases hr : (bl s).drop p with
  | nil =>
   have := drop_nil hr; refine ⟨fun h => by simp [signs_nil] at h, fun L h => ?_⟩; rw [signs_nil] at h; simp only [Option.some.injEq] at h; subst h; rw [List.append_nil]; exact Ev.step (fun k => by rw [R15Signs.l0]) (Ev.neg (by omega) Ev.rfl')
  | cons c r =>
   obtain ⟨g1, g2, g3⟩ := drop_cons hr; have e92 : ((c.toNat : Int) = 92) ↔ c = 92 := ieq c 92; by_cases hc : c = 92
   ·subst hc; rw [signs_esc]; have hst : ∀ {o : List SgS × Bool}, Ev (fun k => if ((p + 1 : Nat) : Int) < (s.size : Int) then (if (0 : Int) ≤ ((p + 1 : Nat) : Int) then ((R15Special.f (bt s ((p + 1 : Nat) : Int))).bind fun t444 => (if t444 = true then (R15Signs.j1 k s (mkSs acc) (p : Int) true) else (if (bt s ((p + 1 : Nat) : Int)) = 35 then (R15Signs.j1 k s (mkSs acc) (p : Int) true) else (R15Signs.j1 k s (mkSs acc) (p : Int) ((bt s ((p + 1 : Nat) : Int)) == 32))))) else (none)) else (R15Signs.j1 k s (mkSs acc) (p : Int) false)) o → Ev (fun k => R15Signs.l0 k s (mkSs acc) (p : Int)) o := by
     intro o h; refine Ev.step (fun k => by rw [R15Signs.l0]) ?_; refine Ev.pos (by omega) (Ev.pos (by omega) (Ev.pos (by rw [g2]; rfl) ?_)); rw [wsucc (by omega)]; exact h
    have hj2t : ∀ {k : Nat}, R15Signs.j2 (k + 1) s (mkSs acc) (p : Int) true = some ([], false) := fun {k} => by rw [R15Signs.j2]; exact if_pos rfl
    have hj2 : Ev (fun k => R15Signs.j2 k s (mkSs acc) (p : Int) true) ([], false) := Ev.step (fun k => by rw [hj2t]) Ev.rfl'; have hj1f : ∀ {o : List SgS × Bool}, Ev (fun k => if ((p + 2 : Nat) : Int) ≥ (s.size : Int) then (R15Signs.j2 k s (mkSs acc) (p : Int) true) else (if (0 : Int) ≤ ((p + 1 : Nat) : Int) then (if ((p + 1 : Nat) : Int) < (s.size : Int) then ((R14Value.f k (bt s ((p + 1 : Nat) : Int))).bind fun t448 => (if t448 < 0 then (R15Signs.j2 k s (mkSs acc) (p : Int) true) else (if (0 : Int) ≤ ((p + 2 : Nat) : Int) then (if ((p + 2 : Nat) : Int) < (s.size : Int) then ((R14Value.f k (bt s ((p + 2 : Nat) : Int))).bind fun t449 => (R15Signs.j2 k s (mkSs acc) (p : Int) (decide (t449 < 0)))) else (none)) else (none)))) else (none)) else (none))) o → Ev (fun k => R15Signs.j1 k s (mkSs acc) (p : Int) false) o := by
     intro o h; refine Ev.step (fun k => by rw [R15Signs.j1]) ?_; refine Ev.neg (by simp) ?_; rw [wsucc (by omega), wtwo (by omega)]; exact h
    cases r with
    | nil =>
     have := drop_nil (s := s) (p := p + 1) g3; rw [esc_nil']; exact ⟨fun _ => hst (Ev.neg (by omega) (hj1f (Ev.pos (by omega) hj2))), fun L h => by simp at h⟩
    | cons a r1 =>
     obtain ⟨f1, f2, f3⟩ := drop_cons g3; have e35 : ((a.toNat : Int) = 35) ↔ a = 35 := ieq a 35; have e32 : ((a.toNat : Int) = 32) ↔ a = 32 := ieq a 32; have hst2 : ∀ {o : List SgS × Bool}, Ev (fun k => R15Signs.j1 k s (mkSs acc) (p : Int) (isEsc a)) o → Ev (fun k => R15Signs.l0 k s (mkSs acc) (p : Int)) o := by
      intro o h; refine hst ?_; refine Ev.pos (by omega) (Ev.pos (by omega) ?_); rw [f2]; refine Ev.bindc (special_is a) ?_; unfold isEsc at h; cases hsp : special a with
      | true => rw [hsp] at h; exact Ev.pos rfl h
      | false =>
       rw [hsp] at h; refine Ev.neg (by simp) ?_; by_cases h35 : a = 35
       ·rw [h35] at h ⊢; exact Ev.pos rfl h
       ·refine Ev.neg (fun h' => h35 (e35.1 h')) ?_; have : ((a.toNat : Int) == 32) = (a == 32) := by rw [Bool.eq_iff_iff, beq_iff_eq, beq_iff_eq]; exact e32
        rw [this]; rw [show (a == 35) = false from beq_eq_false_iff_ne.2 h35] at h; simpa using h
     simp only [esc]; cases he : isEsc a with
     | true =>
      rw [he] at hst2; rw [if_pos rfl]; simp only [Option.bind_some]; have hi := ih (p + 2) (acc ++ [(a, false)]) (by omega) (by omega) (by simp; omega); rw [f3] at hi; have hgo : ∀ {o : List SgS × Bool}, Ev (fun k => R15Signs.l0 k s (mkSs (acc ++ [(a, false)])) ((p + 2 : Nat) : Int)) o → Ev (fun k => R15Signs.l0 k s (mkSs acc) (p : Int)) o := by
       intro o h; refine hst2 (Ev.step (fun k => by rw [R15Signs.j1]) ?_); rw [wsucc (by omega), wsucc (p := p + 1) (by omega)]; refine Ev.pos rfl (Ev.pos (by omega) (Ev.pos (by omega) (Ev.pos hlen ?_))); rw [f2, show (⟨(a.toNat : Int), false⟩ : SgS) = mkS (a, false) from rfl, mkSs_snoc]; exact h
      refine ⟨fun h => hgo (hi.1 (by simpa using h)), fun L h => ?_⟩; obtain ⟨L', hL', rfl⟩ := Option.map_eq_some_iff.1 h; have := hgo (hi.2 L' hL'); rwa [List.append_assoc] at this
     | false =>
      rw [he] at hst2; rw [if_neg (by simp)]; cases r1 with
      | nil =>
       have := drop_nil (s := s) (p := p + 1 + 1) f3; exact ⟨fun _ => hst2 (hj1f (Ev.pos (by omega) hj2)), fun L h => by simp at h⟩
      | cons b r2 =>
       obtain ⟨d1, d2, d3⟩ := drop_cons f3; have d2' : bt s ((p + 2 : Nat) : Int) = (b.toNat : Int) := d2; have d3' : (bl s).drop (p + 3) = r2 := d3; have hva := refValue_ev a; have hvb := refValue_ev b; have hj1g : ∀ {o : List SgS × Bool}, Ev (fun k => if hexI a < 0 then (R15Signs.j2 k s (mkSs acc) (p : Int) true) else (R15Signs.j2 k s (mkSs acc) (p : Int) (decide (hexI b < 0)))) o → Ev (fun k => R15Signs.l0 k s (mkSs acc) (p : Int)) o := by
        intro o h; refine hst2 (hj1f ?_); rw [f2, d2']; refine Ev.neg (by omega) (Ev.pos (by omega) (Ev.pos (by omega) (Ev.bind hva ?_))); by_cases h0 : hexI a < 0
        ·have h := (show Ev (fun k => R15Signs.j2 k s (mkSs acc) (p : Int) true) o from Ev.congr (fun k => (if_pos h0).symm) h); exact Ev.pos h0 h
        ·have h := (show Ev (fun k => R15Signs.j2 k s (mkSs acc) (p : Int) (decide (hexI b < 0))) o from Ev.congr (fun k => (if_neg h0).symm) h); exact Ev.neg h0 (Ev.pos (by omega) (Ev.pos (by omega) (Ev.bind hvb h)))
       dsimp only; unfold hex2; cases hx : hexv a with
       | none =>
        have e : hexI a = -1 := by unfold hexI; rw [hx]
        rw [e] at hj1g; exact ⟨fun _ => hj1g (Ev.pos (by omega) hj2), fun L h => by simp at h⟩
       | some x =>
        have ea : hexI a = (x : Int) := by unfold hexI; rw [hx]
        rw [ea] at hj1g hva; cases hy : hexv b with
        | none =>
         have e : hexI b = -1 := by unfold hexI; rw [hy]
         rw [e] at hj1g; exact ⟨fun _ => hj1g (Ev.neg (by omega) hj2), fun L h => by simp at h⟩
        | some y =>
         have eb : hexI b = (y : Int) := by unfold hexI; rw [hy]
         rw [eb] at hj1g hvb; have hx16 := hexv_lt hx; have hy16 := hexv_lt hy; simp only [Option.bind_some, Option.map_some]; have hi := ih (p + 3) (acc ++ [((16 * x + y).toUInt8, false)]) (by omega) (by omega) (by simp; omega); rw [d3'] at hi; have hgo : ∀ {o : List SgS × Bool}, Ev (fun k => R15Signs.l0 k s (mkSs (acc ++ [((16 * x + y).toUInt8, false)])) ((p + 3 : Nat) : Int)) o → Ev (fun k => R15Signs.l0 k s (mkSs acc) (p : Int)) o := by
          intro o h; refine hj1g (Ev.neg (by omega) ?_); rw [decide_eq_false (by omega)]; refine Ev.step (fun k => by rw [R15Signs.j2]) ?_; rw [wsucc (by omega), wtwo (by omega), wsucc (p := p + 2) (by omega), f2, d2']; refine Ev.neg (by simp) (Ev.pos (by omega) (Ev.pos (by omega) (Ev.bind hva (Ev.pos (by omega) (Ev.pos (by omega) (Ev.bind hvb (Ev.pos hlen ?_))))))); have e1 := hex_byte x y hx16 hy16; rw [e1, show (⟨((16 * x + y).toUInt8.toNat : Int), false⟩ : SgS) = mkS ((16 * x + y).toUInt8, false) from rfl, mkSs_snoc]; exact h
         refine ⟨fun h => hgo (hi.1 (by simpa using h)), fun L h => ?_⟩; obtain ⟨L', hL', rfl⟩ := Option.map_eq_some_iff.1 h; have := hgo (hi.2 L' hL'); rwa [List.append_assoc] at this
   ·rw [signs_bare hc]; have hi := ih (p + 1) (acc ++ [(c, true)]) (by omega) (by omega) (by simp; omega); rw [g3] at hi; have hgo : ∀ {o : List SgS × Bool}, Ev (fun k => R15Signs.l0 k s (mkSs (acc ++ [(c, true)])) ((p + 1 : Nat) : Int)) o → Ev (fun k => R15Signs.l0 k s (mkSs acc) (p : Int)) o := by
     intro o h; refine Ev.step (fun k => by rw [R15Signs.l0]) ?_; rw [g2, wsucc (by omega)]; refine Ev.pos (by omega) (Ev.pos (by omega) (Ev.neg (fun h' => hc (e92.1 h')) (Ev.pos hlen ?_))); rw [show (⟨(c.toNat : Int), true⟩ : SgS) = mkS (c, true) from rfl, mkSs_snoc]; exact h
    refine ⟨fun h => hgo (hi.1 (by simpa using h)), fun L h => ?_⟩; obtain ⟨L', hL', rfl⟩ := Option.map_eq_some_iff.1 h; have := hgo (hi.2 L' hL'); rwa [List.append_assoc] at this
end Go.Proofs.YtpklcnpmppaaoaaGreatDoor.Print
namespace Go.Proofs.YtpklcnpmppaaoaaGreatDoor.Print
open Go.RowKit Go.Proofs.YtpklcnpmppaaoaaGreatDoorW.PrintWords Go.Proofs.YtpklcnpmppaaoaaGreatDoorW.PrintLast Go.Proofs.YtpklcnpmppaaoaaGreatDoorW.PrintMore
attribute [local go_sem] max2_int min2_int max_two min_two max_three min_three max_four min_four
set_option linter.unusedVariables false
set_option linter.unusedSimpArgs false
mutual
def R15Type.j0 : Nat → ByteArray → Bool → Option (Bool)
 | 0, _, _ => none
 | k + 1, x0, x21 => if x21 = true then (some false) else (R15Type.l0 k x0 0)
def R15Type.l0 : Nat → ByteArray → Int → Option (Bool)
 | 0, _, _ => none
 | k + 1, x0, x3 => if x3 < (x0.size : Int) then (if 0 ≤ x3 then (if (bt x0 x3) ≥ 97 then (if ((bt x0 x3) ≤ 122) then (R15Type.l0 k x0 (wrap64 (x3 + 1))) else (if (bt x0 x3) ≥ 48 then (if ((bt x0 x3) ≤ 57) then (R15Type.l0 k x0 (wrap64 (x3 + 1))) else (if (bt x0 x3) = 45 then (R15Type.l0 k x0 (wrap64 (x3 + 1))) else (some false))) else (if (bt x0 x3) = 45 then (R15Type.l0 k x0 (wrap64 (x3 + 1))) else (some false)))) else (if (bt x0 x3) ≥ 48 then (if ((bt x0 x3) ≤ 57) then (R15Type.l0 k x0 (wrap64 (x3 + 1))) else (if (bt x0 x3) = 45 then (R15Type.l0 k x0 (wrap64 (x3 + 1))) else (some false))) else (if (bt x0 x3) = 45 then (R15Type.l0 k x0 (wrap64 (x3 + 1))) else (some false)))) else (none)) else (some true)
end
def R15Type.f (k : Nat) (a0 : ByteArray) : Option (Bool) := if (a0.size : Int) < 1 then (R15Type.j0 k a0 true) else (if (a0.size : Int) > 32 then (R15Type.j0 k a0 true) else (if 0 < (a0.size : Int) then (if (bt a0 0) < 97 then (R15Type.j0 k a0 true) else (R15Type.j0 k a0 (decide ((bt a0 0) > 122)))) else (none)))
set_option maxHeartbeats 8000000 in
set_option maxRecDepth 100000 in
theorem R15Type.calls (k : Nat) (a0 : ByteArray) (r : Bool) (w : World) (h : R15Type.f k a0 = some r) :
  Calls Tryz.prog 105 #[.string a0] w fun e w' => e = .returned (.bool r) ∧ Drawn0 w w' := by
 have H : (if (a0.size : Int) < 1 then (R15Type.j0 k a0 true) else (if (a0.size : Int) > 32 then (R15Type.j0 k a0 true) else (if 0 < (a0.size : Int) then (if (bt a0 0) < 97 then (R15Type.j0 k a0 true) else (R15Type.j0 k a0 (decide ((bt a0 0) > 122)))) else (none)))) = some r := h
 clear h
 have HC2 := am H
 clear H
 go_enter Tryz.func105, Tryz.ntmps105
 go_upto_region 1 with (fail)
 go_cut [21] (fun v21 wc => ∃ (kq : Nat) (x21_1 : Bool), v21 = .bool x21_1 ∧ Aside0 (R15Type.j0 kq a0 x21_1 = some r) ∧ Aside0 (kq ≤ k) ∧ Drawn0 w wc)
 case first =>
  have H := HC2.out; clear HC2; revert H; refine spd11 ?_ ?_
  ·intro c3 c3b0 H; have c3b1 : decide (a0.size < 1) = true := decide_eq_true (by omega); clear c3; (first | rw [c3b0] | (simp only [i64_w, i32_w]; rw [c3b0]) | skip); have H' := am H; clear H; go_wp2; go_meet; case rel => exact ⟨_, (true), ap2, H', ⟨apN⟩, ap7⟩
  ·intro c3 c3b0 H; have c3b1 : decide (a0.size < 1) = false := decide_eq_false (by omega); clear c3; (first | rw [c3b0] | (simp only [i64_w, i32_w]; rw [c3b0]) | skip); revert H; refine spd11 ?_ ?_
   ·intro c4 c4b0 H; have c4b1 : decide (32 < a0.size) = true := decide_eq_true (by omega); clear c4; have H' := am H; clear H; go_wp2; go_meet; case rel => exact ⟨_, (true), ap2, H', ⟨apN⟩, ap7⟩
   ·intro c4 c4b0 H; have c4b1 : decide (32 < a0.size) = false := decide_eq_false (by omega); clear c4; revert H; refine spn1 ?_; intro c5 c5b0 H; have c5b1 : decide (0 < a0.size) = true := decide_eq_true (by omega); clear c5; revert H; refine spd00 ?_ ?_
    ·intro c7b0 H; have H' := am H; clear H; have p6 : 0 ≤ (0 : Int) := (by omega); have q6 : 0 < a0.size := (by have : (0 : Int) < (a0.size : Int) := apD; omega); have hx6 : ∀ h : 0 < a0.size, ((a0[0]'h).toNat : Int) = bt a0 0 := bt_at a0 0; clear p6; have qi6 : (0 < (a0.size : Int)) = True := eq_true (apD); replace q6 := eq_true q6; go_wp2; go_meet; case rel => exact ⟨_, (true), ap2, H', ⟨apN⟩, ap7⟩
    ·intro c7b0 H; have H' := am H; clear H; have p6 : 0 ≤ (0 : Int) := (by omega); have q6 : 0 < a0.size := (by have : (0 : Int) < (a0.size : Int) := apD; omega); have hx6 : ∀ h : 0 < a0.size, ((a0[0]'h).toNat : Int) = bt a0 0 := bt_at a0 0; clear p6; have qi6 : (0 < (a0.size : Int)) = True := eq_true (apD); replace q6 := eq_true q6; have p8 : 0 ≤ (0 : Int) := (by omega); have q8 : 0 < a0.size := (by have : (0 : Int) < (a0.size : Int) := apD; omega); have hx8 : ∀ h : 0 < a0.size, ((a0[0]'h).toNat : Int) = bt a0 0 := bt_at a0 0; clear p8; have qi8 : (0 < (a0.size : Int)) = True := eq_true (apD); replace q8 := eq_true q8; go_wp2; go_meet; case rel => exact ⟨_, (decide ((bt a0 0) > 122)), ap2, H', ⟨apN⟩, ap7⟩
 case rest =>
  clear HC2; obtain ⟨kq, x21_1, rfl, HA, HJ1, ⟨mc1, rfl⟩⟩ := hcut; cases kq with
  | zero => exact absurd HA.out (by simp [R15Type.j0])
  | succ kj1 =>
   have H := HA.out; clear HA; simp only [R15Type.j0] at H; revert H; refine spb ?_ ?_
   ·rintro rfl H; obtain rfl := Option.some.inj H; go_wp2; go_ret; exact ⟨ap2, ap7⟩
   ·rintro rfl H; have H' := am H; clear H; go_wp2; go_loopg [3] kj1 (fun kq v3 w' => ∃ (x3_2 : Int), v3 = .int .i64 x3_2 ∧ Aside0 (R15Type.l0 kq a0 x3_2 = some r) ∧ Aside0 (kq ≤ kj1) ∧ Drawn0 w w'); (case atStart => exact ⟨(0), ap2, H', ⟨Nat.le_refl _⟩, ap7⟩); case round =>
     clear H'; (try clear c9); obtain ⟨x3_2, rfl, HA, HK2, ⟨m2, rfl⟩⟩ := hrel; cases gk with
     | zero => exact absurd HA.out (by simp [R15Type.l0])
     | succ k2 =>
      have H := HA.out; clear HA; simp only [R15Type.l0] at H; revert H; refine spd00 ?_ ?_
      ·intro c10b0 H; revert H; refine spn0 ?_; intro c11b0 H; revert H; refine spd00 ?_ ?_
       ·intro c13b0 H; revert H; refine spd00 ?_ ?_
        ·intro c15b0 H; have H' := am H; clear H; have p12 : 0 ≤ (x3_2 : Int) := apD; have q12 : x3_2 < (a0.size : Int) := apD; have hx12 := bt_at a0 x3_2; replace p12 := eq_true p12; replace q12 := eq_true q12; have p14 : 0 ≤ (x3_2 : Int) := apD; have q14 : x3_2 < (a0.size : Int) := apD; have hx14 := bt_at a0 x3_2; replace p14 := eq_true p14; replace q14 := eq_true q14; go_wp2; go_roundg k2; (case measure => have := HJ1.out; have := HK2.out; omega); case rel => exact ⟨(wrap64 (x3_2 + 1)), ap2, H', ⟨by have := HJ1.out; have := HK2.out; omega⟩, ap7⟩
        ·intro c15b0 H; revert H; refine spd00 ?_ ?_
         ·intro c17b0 H; revert H; refine spd00 ?_ ?_
          ·intro c19b0 H; have H' := am H; clear H; have p12 : 0 ≤ (x3_2 : Int) := apD; have q12 : x3_2 < (a0.size : Int) := apD; have hx12 := bt_at a0 x3_2; replace p12 := eq_true p12; replace q12 := eq_true q12; have p14 : 0 ≤ (x3_2 : Int) := apD; have q14 : x3_2 < (a0.size : Int) := apD; have hx14 := bt_at a0 x3_2; replace p14 := eq_true p14; replace q14 := eq_true q14; have p16 : 0 ≤ (x3_2 : Int) := apD; have q16 : x3_2 < (a0.size : Int) := apD; have hx16 := bt_at a0 x3_2; replace p16 := eq_true p16; replace q16 := eq_true q16; have p18 : 0 ≤ (x3_2 : Int) := apD; have q18 : x3_2 < (a0.size : Int) := apD; have hx18 := bt_at a0 x3_2; replace p18 := eq_true p18; replace q18 := eq_true q18; go_wp2; go_roundg k2; (case measure => have := HJ1.out; have := HK2.out; omega); case rel => exact ⟨(wrap64 (x3_2 + 1)), ap2, H', ⟨by have := HJ1.out; have := HK2.out; omega⟩, ap7⟩
          ·intro c19b0 H; revert H; refine spe01 ?_ ?_
           ·intro c21b0 c21b1 H; have H' := am H; clear H; have p12 : 0 ≤ (x3_2 : Int) := apD; have q12 : x3_2 < (a0.size : Int) := apD; have hx12 := bt_at a0 x3_2; replace p12 := eq_true p12; replace q12 := eq_true q12; have p14 : 0 ≤ (x3_2 : Int) := apD; have q14 : x3_2 < (a0.size : Int) := apD; have hx14 := bt_at a0 x3_2; replace p14 := eq_true p14; replace q14 := eq_true q14; have p16 : 0 ≤ (x3_2 : Int) := apD; have q16 : x3_2 < (a0.size : Int) := apD; have hx16 := bt_at a0 x3_2; replace p16 := eq_true p16; replace q16 := eq_true q16; have p18 : 0 ≤ (x3_2 : Int) := apD; have q18 : x3_2 < (a0.size : Int) := apD; have hx18 := bt_at a0 x3_2; replace p18 := eq_true p18; replace q18 := eq_true q18; have p20 : 0 ≤ (x3_2 : Int) := apD; have q20 : x3_2 < (a0.size : Int) := apD; have hx20 := bt_at a0 x3_2; replace p20 := eq_true p20; replace q20 := eq_true q20; go_wp2; go_roundg k2; (case measure => have := HJ1.out; have := HK2.out; omega); case rel => exact ⟨(wrap64 (x3_2 + 1)), ap2, H', ⟨by have := HJ1.out; have := HK2.out; omega⟩, ap7⟩
           ·intro c21 c21b0 c21b1 H; obtain rfl := Option.some.inj H; have p12 : 0 ≤ (x3_2 : Int) := apD; have q12 : x3_2 < (a0.size : Int) := apD; have hx12 := bt_at a0 x3_2; replace p12 := eq_true p12; replace q12 := eq_true q12; have p14 : 0 ≤ (x3_2 : Int) := apD; have q14 : x3_2 < (a0.size : Int) := apD; have hx14 := bt_at a0 x3_2; replace p14 := eq_true p14; replace q14 := eq_true q14; have p16 : 0 ≤ (x3_2 : Int) := apD; have q16 : x3_2 < (a0.size : Int) := apD; have hx16 := bt_at a0 x3_2; replace p16 := eq_true p16; replace q16 := eq_true q16; have p18 : 0 ≤ (x3_2 : Int) := apD; have q18 : x3_2 < (a0.size : Int) := apD; have hx18 := bt_at a0 x3_2; replace p18 := eq_true p18; replace q18 := eq_true q18; have p20 : 0 ≤ (x3_2 : Int) := apD; have q20 : x3_2 < (a0.size : Int) := apD; have hx20 := bt_at a0 x3_2; replace p20 := eq_true p20; replace q20 := eq_true q20; go_wp2; go_ret; exact ⟨ap2, ap7⟩
         ·intro c17b0 H; revert H; refine spe01 ?_ ?_
          ·intro c23b0 c23b1 H; have H' := am H; clear H; have p12 : 0 ≤ (x3_2 : Int) := apD; have q12 : x3_2 < (a0.size : Int) := apD; have hx12 := bt_at a0 x3_2; replace p12 := eq_true p12; replace q12 := eq_true q12; have p14 : 0 ≤ (x3_2 : Int) := apD; have q14 : x3_2 < (a0.size : Int) := apD; have hx14 := bt_at a0 x3_2; replace p14 := eq_true p14; replace q14 := eq_true q14; have p16 : 0 ≤ (x3_2 : Int) := apD; have q16 : x3_2 < (a0.size : Int) := apD; have hx16 := bt_at a0 x3_2; replace p16 := eq_true p16; replace q16 := eq_true q16; have p22 : 0 ≤ (x3_2 : Int) := apD; have q22 : x3_2 < (a0.size : Int) := apD; have hx22 := bt_at a0 x3_2; replace p22 := eq_true p22; replace q22 := eq_true q22; go_wp2; go_roundg k2; (case measure => have := HJ1.out; have := HK2.out; omega); case rel => exact ⟨(wrap64 (x3_2 + 1)), ap2, H', ⟨by have := HJ1.out; have := HK2.out; omega⟩, ap7⟩
          ·intro c23 c23b0 c23b1 H; obtain rfl := Option.some.inj H; have p12 : 0 ≤ (x3_2 : Int) := apD; have q12 : x3_2 < (a0.size : Int) := apD; have hx12 := bt_at a0 x3_2; replace p12 := eq_true p12; replace q12 := eq_true q12; have p14 : 0 ≤ (x3_2 : Int) := apD; have q14 : x3_2 < (a0.size : Int) := apD; have hx14 := bt_at a0 x3_2; replace p14 := eq_true p14; replace q14 := eq_true q14; have p16 : 0 ≤ (x3_2 : Int) := apD; have q16 : x3_2 < (a0.size : Int) := apD; have hx16 := bt_at a0 x3_2; replace p16 := eq_true p16; replace q16 := eq_true q16; have p22 : 0 ≤ (x3_2 : Int) := apD; have q22 : x3_2 < (a0.size : Int) := apD; have hx22 := bt_at a0 x3_2; replace p22 := eq_true p22; replace q22 := eq_true q22; go_wp2; go_ret; exact ⟨ap2, ap7⟩
       ·intro c13b0 H; revert H; refine spd00 ?_ ?_
        ·intro c25b0 H; revert H; refine spd00 ?_ ?_
         ·intro c27b0 H; have H' := am H; clear H; have p12 : 0 ≤ (x3_2 : Int) := apD; have q12 : x3_2 < (a0.size : Int) := apD; have hx12 := bt_at a0 x3_2; replace p12 := eq_true p12; replace q12 := eq_true q12; have p24 : 0 ≤ (x3_2 : Int) := apD; have q24 : x3_2 < (a0.size : Int) := apD; have hx24 := bt_at a0 x3_2; replace p24 := eq_true p24; replace q24 := eq_true q24; have p26 : 0 ≤ (x3_2 : Int) := apD; have q26 : x3_2 < (a0.size : Int) := apD; have hx26 := bt_at a0 x3_2; replace p26 := eq_true p26; replace q26 := eq_true q26; go_wp2; go_roundg k2; (case measure => have := HJ1.out; have := HK2.out; omega); case rel => exact ⟨(wrap64 (x3_2 + 1)), ap2, H', ⟨by have := HJ1.out; have := HK2.out; omega⟩, ap7⟩
         ·intro c27b0 H; revert H; refine spe01 ?_ ?_
          ·intro c29b0 c29b1 H; have H' := am H; clear H; have p12 : 0 ≤ (x3_2 : Int) := apD; have q12 : x3_2 < (a0.size : Int) := apD; have hx12 := bt_at a0 x3_2; replace p12 := eq_true p12; replace q12 := eq_true q12; have p24 : 0 ≤ (x3_2 : Int) := apD; have q24 : x3_2 < (a0.size : Int) := apD; have hx24 := bt_at a0 x3_2; replace p24 := eq_true p24; replace q24 := eq_true q24; have p26 : 0 ≤ (x3_2 : Int) := apD; have q26 : x3_2 < (a0.size : Int) := apD; have hx26 := bt_at a0 x3_2; replace p26 := eq_true p26; replace q26 := eq_true q26; have p28 : 0 ≤ (x3_2 : Int) := apD; have q28 : x3_2 < (a0.size : Int) := apD; have hx28 := bt_at a0 x3_2; replace p28 := eq_true p28; replace q28 := eq_true q28; go_wp2; go_roundg k2; (case measure => have := HJ1.out; have := HK2.out; omega); case rel => exact ⟨(wrap64 (x3_2 + 1)), ap2, H', ⟨by have := HJ1.out; have := HK2.out; omega⟩, ap7⟩
          ·intro c29 c29b0 c29b1 H; obtain rfl := Option.some.inj H; have p12 : 0 ≤ (x3_2 : Int) := apD; have q12 : x3_2 < (a0.size : Int) := apD; have hx12 := bt_at a0 x3_2; replace p12 := eq_true p12; replace q12 := eq_true q12; have p24 : 0 ≤ (x3_2 : Int) := apD; have q24 : x3_2 < (a0.size : Int) := apD; have hx24 := bt_at a0 x3_2; replace p24 := eq_true p24; replace q24 := eq_true q24; have p26 : 0 ≤ (x3_2 : Int) := apD; have q26 : x3_2 < (a0.size : Int) := apD; have hx26 := bt_at a0 x3_2; replace p26 := eq_true p26; replace q26 := eq_true q26; have p28 : 0 ≤ (x3_2 : Int) := apD; have q28 : x3_2 < (a0.size : Int) := apD; have hx28 := bt_at a0 x3_2; replace p28 := eq_true p28; replace q28 := eq_true q28; go_wp2; go_ret; exact ⟨ap2, ap7⟩
        ·intro c25b0 H; revert H; refine spe01 ?_ ?_
         ·intro c31b0 c31b1 H; have H' := am H; clear H; have p12 : 0 ≤ (x3_2 : Int) := apD; have q12 : x3_2 < (a0.size : Int) := apD; have hx12 := bt_at a0 x3_2; replace p12 := eq_true p12; replace q12 := eq_true q12; have p24 : 0 ≤ (x3_2 : Int) := apD; have q24 : x3_2 < (a0.size : Int) := apD; have hx24 := bt_at a0 x3_2; replace p24 := eq_true p24; replace q24 := eq_true q24; have p30 : 0 ≤ (x3_2 : Int) := apD; have q30 : x3_2 < (a0.size : Int) := apD; have hx30 := bt_at a0 x3_2; replace p30 := eq_true p30; replace q30 := eq_true q30; go_wp2; go_roundg k2; (case measure => have := HJ1.out; have := HK2.out; omega); case rel => exact ⟨(wrap64 (x3_2 + 1)), ap2, H', ⟨by have := HJ1.out; have := HK2.out; omega⟩, ap7⟩
         ·intro c31 c31b0 c31b1 H; obtain rfl := Option.some.inj H; have p12 : 0 ≤ (x3_2 : Int) := apD; have q12 : x3_2 < (a0.size : Int) := apD; have hx12 := bt_at a0 x3_2; replace p12 := eq_true p12; replace q12 := eq_true q12; have p24 : 0 ≤ (x3_2 : Int) := apD; have q24 : x3_2 < (a0.size : Int) := apD; have hx24 := bt_at a0 x3_2; replace p24 := eq_true p24; replace q24 := eq_true q24; have p30 : 0 ≤ (x3_2 : Int) := apD; have q30 : x3_2 < (a0.size : Int) := apD; have hx30 := bt_at a0 x3_2; replace p30 := eq_true p30; replace q30 := eq_true q30; go_wp2; go_ret; exact ⟨ap2, ap7⟩
      ·intro c10b0 H; obtain rfl := Option.some.inj H; go_wp2; go_ret; exact ⟨ap2, ap7⟩
mutual
def R15Trim.j1 : Nat → List (S94) → Option ((List (S94)))
 | 0, _ => none
 | k + 1, x0 => R15Trim.l1 k x0
def R15Trim.l1 : Nat → List (S94) → Option ((List (S94)))
 | 0, _ => none
 | k + 1, x0 => if (x0.length : Int) > 0 then (if 0 ≤ (wrap64 ((x0.length : Int) - 1)) then (if (wrap64 ((x0.length : Int) - 1)) < (x0.length : Int) then (if (rd_T94 x0 (wrap64 ((x0.length : Int) - 1))).f1 = true then (if ((rd_T94 x0 (wrap64 ((x0.length : Int) - 1))).f0) = 32 then (if (wrap64 ((x0.length : Int) - 1)) ≤ (x0.length : Int) then (R15Trim.l1 k (x0.take ((wrap64 ((x0.length : Int) - 1)) : Int).toNat)) else (none)) else (some x0)) else (some x0)) else (none)) else (none)) else (some x0)
def R15Trim.l0 : Nat → List (S94) → Option ((List (S94)))
 | 0, _ => none
 | k + 1, x0 => if (x0.length : Int) > 0 then (if 0 < (x0.length : Int) then (if (rd_T94 x0 0).f1 = true then (if ((rd_T94 x0 0).f0) = 32 then (if 1 ≤ (x0.length : Int) then (R15Trim.l0 k (x0.drop 1)) else (none)) else (R15Trim.j1 k x0)) else (R15Trim.j1 k x0)) else (none)) else (R15Trim.j1 k x0)
end
def R15Trim.f (k : Nat) (l0 : List (S94)) : Option ((List (S94))) := R15Trim.l0 k l0
set_option maxHeartbeats 8000000 in
set_option maxRecDepth 100000 in
theorem R15Trim.calls (k : Nat) (P0_ : Nat → Prop) (A0 : Option Addr) (c0 : Nat) (l0 : List (S94)) (r : List (S94)) (w : World) (hs0 : Kd.V k94 94 w w.heap.size (fun k_ => P0_ k_) (.slice A0 l0.length c0) l0) (h : R15Trim.f k l0 = some r) :
  Calls Tryz.prog 73 #[.slice A0 l0.length c0] w fun e w' => ∃ v0_ : Value, e = .returned (v0_) ∧ Kd.V k94 94 w' w.heap.size (fun k_ => (P0_ k_ ∨ w.heap.size ≤ k_)) v0_ r ∧ Below w.heap.size w w' := by
 have HO0 := am (show Kd.V k94 94 w w.heap.size (fun k_ => (P0_ k_ ∨ w.heap.size ≤ k_)) (.slice A0 l0.length c0) l0 from Kd.V_mono hs0 (fun k_ hk => .inl hk))
 have HB := am (Below.refl w.heap.size w)
 have H : (R15Trim.l0 k l0) = some r := h
 clear h
 have HC2 := am H
 clear H
 go_enter Tryz.func73, Tryz.ntmps73
 go_upto_block 0 with (fail)
 go_cut [0] (fun v0 wc => ∃ (kq : Nat) (x0_1 : List (S94)), Aside0 (R15Trim.j1 kq x0_1 = some r) ∧ Aside0 (kq ≤ k) ∧ Aside0 (Kd.V k94 94 wc w.heap.size (fun k_ => (P0_ k_ ∨ w.heap.size ≤ k_)) v0 x0_1) ∧ Aside0 (Below w.heap.size w wc))
 case first =>
  have H := HC2.out; clear HC2; have H' := am H; clear H; go_wp2; go_loopg [0] k (fun kq v0 w' => ∃ (x0_1 : List (S94)), Aside0 (R15Trim.l0 kq x0_1 = some r) ∧ Aside0 (kq ≤ k) ∧ Aside0 (Kd.V k94 94 w' w.heap.size (fun k_ => (P0_ k_ ∨ w.heap.size ≤ k_)) v0 x0_1) ∧ Aside0 (Below w.heap.size w w')); (case atStart => exact ⟨(l0), H', ⟨Nat.le_refl _⟩, ⟨apAV HO0.out⟩, ⟨ap1⟩⟩); case round =>
   clear H'; obtain ⟨x0_1, HA, HK1, HO_0, HB⟩ := hrel; cases gk with
   | zero => exact absurd HA.out (by simp [R15Trim.l0])
   | succ k1 =>
    have H := HA.out; clear HA; simp only [R15Trim.l0] at H; revert H; refine spd11 ?_ ?_
    ·intro c3 c3b0 H; have c3b1 : decide (0 < x0_1.length) = true := decide_eq_true (by omega); clear c3; (first | rw [c3b0] | (simp only [i64_w, i32_w]; rw [c3b0]) | skip); revert H; refine spn1 ?_; intro c4 c4b0 H; have c4b1 : decide (0 < x0_1.length) = true := decide_eq_true (by omega); clear c4; obtain ⟨bq5, hbq5⟩ : ∃ b_ : Bool, b_ = ((rd_T94 x0_1 0).f1) := ⟨_, rfl⟩; replace H : (if bq5 = true then (if ((rd_T94 x0_1 0).f0) = 32 then (if 1 ≤ (x0_1.length : Int) then (R15Trim.l0 k1 (x0_1.drop 1)) else (none)) else (R15Trim.j1 k1 x0_1)) else (R15Trim.j1 k1 x0_1)) = some r := by rw [← hbq5] at H; exact H
     have Nbq5 := am hbq5; clear hbq5; revert H; refine spb ?_ ?_
     ·rintro rfl H; revert H; refine spe01 ?_ ?_
      ·intro c7b0 c7b1 H; by_cases c8 : 1 ≤ (x0_1.length : Int)
       ·rw [if_pos c8] at H; have c8b0 := eq_true c8; have c8b1 := decide_eq_true c8; clear c8; obtain ⟨y565, hy565⟩ : ∃ y_ : List (S94), y_ = (x0_1.drop 1) := ⟨_, rfl⟩; replace H : (R15Trim.l0 k1 y565) = some r := apY hy565 H; have Ny565 := am hy565; clear hy565; have H' := am H; clear H; obtain ⟨Ao9, co9, eo9⟩ := Kd.V_slice HO_0.out; subst eo9; have p563 : 0 ≤ (0 : Int) := (by omega); have q563 : 0 < (x0_1.length : Int) := apD; obtain ⟨ad563, e563, hx563_0, hx563_1⟩ := at_T94 (Kd.V_reads' HO_0.out).2.2 0 p563 q563; (try rw [← Nbq5.out] at hx563_1); cases e563; have qi563 : (0 < x0_1.length) = True := eq_true (by omega); (try rw [show ((0 : Int)).toNat = 0 from rfl] at hx563_0); (try rw [show 0 * 2 = 0 from rfl] at hx563_0); (try rw [Addr.add_zero'] at hx563_0); (try rw [show ((0 : Int)).toNat = 0 from rfl] at hx563_1); (try rw [show 0 * 2 = 0 from rfl] at hx563_1); (try rw [Addr.add_zero'] at hx563_1); replace p563 := eq_true p563; replace q563 := eq_true q563; have p564 : 0 ≤ (0 : Int) := (by omega); have q564 : 0 < (x0_1.length : Int) := apD; obtain ⟨ad564, e564, hx564_0, hx564_1⟩ := at_T94 (Kd.V_reads' HO_0.out).2.2 0 p564 q564; (try rw [← Nbq5.out] at hx564_1); obtain rfl : ad563 = ad564 := (by injection e564); have qi564 : (0 < x0_1.length) = True := eq_true (by omega); (try rw [show ((0 : Int)).toNat = 0 from rfl] at hx564_0); (try rw [show 0 * 2 = 0 from rfl] at hx564_0); (try rw [Addr.add_zero'] at hx564_0); (try rw [show ((0 : Int)).toNat = 0 from rfl] at hx564_1); (try rw [show 0 * 2 = 0 from rfl] at hx564_1); (try rw [Addr.add_zero'] at hx564_1); replace p564 := eq_true p564; replace q564 := eq_true q564; have q10 : (1 : Int) ≤ ((x0_1.length : Int) : Int) := apD; obtain ⟨i010, hi010, _, hsz10, _⟩ := info_parts info94; have hroom10 : x0_1.length ≤ co9 := (Kd.V_reads' HO_0.out).2.1; have hC10 : Kd.F k94 _ _ (some ad563) x0_1.length x0_1 := (Kd.V_at (base := w.heap.size) HO_0.out).2.2; have hcut10 := cut_from (P := Tryz.prog) 88 94 .i64 Tryz.underlying88 hi010 2 hsz10 (some ad563) x0_1.length co9 1 (by omega) q10; have hr10 := Kd.F_cut (m := (1 : Int).toNat) (c := co9) hC10 (by omega) hroom10; obtain ⟨A10, hA10⟩ : ∃ A1, A1 = (if co9 = (1 : Int).toNat then (some ad563) else ((some ad563) : Option Addr).map (·.add ((1 : Int).toNat * 2))) := ⟨_, rfl⟩; obtain ⟨c10, hc10⟩ : ∃ c1, c1 = co9 - (1 : Int).toNat := ⟨_, rfl⟩; have hy10 : y565.length = x0_1.length - (1 : Int).toNat := (by rw [Ny565.out, List.length_drop] <;> omega); rw [show (x0_1).drop (1 : Int).toNat = y565 from Ny565.out.symm] at hr10; replace hr10 : Kd.F k94 _ _ A10 y565.length y565 := (by rw [hA10]; exact hr10); rw [← hy10, ← hA10, ← hc10] at hcut10; have HO569 := am (show Kd.V k94 94 _ w.heap.size _ (.slice A10 y565.length c10) y565 from Kd.V_mk (by rw [hy10, hc10]; exact Nat.sub_le_sub_right hroom10 _) hr10); have HC569 := am (show y565.length ≤ c10 from by rw [hy10, hc10]; exact Nat.sub_le_sub_right hroom10 _); clear hr10 hC10 hroom10 hi010 hsz10 hc10; have KY10 := am hy10; have KA10 := am hA10; clear hy10 hA10; replace q10 := eq_true q10; go_wp2; go_roundg k1; (case measure => have := HK1.out; omega); case rel => exact ⟨(y565), H', ⟨by have := HK1.out; omega⟩, ⟨apAV HO569.out⟩, ⟨ap1⟩⟩
       ·rw [if_neg c8] at H; exact absurd H (by simp)
      ·intro c7 c7b0 c7b1 H; have H' := am H; clear H; obtain ⟨Ao11, co11, eo11⟩ := Kd.V_slice HO_0.out; subst eo11; have p563 : 0 ≤ (0 : Int) := (by omega); have q563 : 0 < (x0_1.length : Int) := apD; obtain ⟨ad563, e563, hx563_0, hx563_1⟩ := at_T94 (Kd.V_reads' HO_0.out).2.2 0 p563 q563; (try rw [← Nbq5.out] at hx563_1); cases e563; have qi563 : (0 < x0_1.length) = True := eq_true (by omega); (try rw [show ((0 : Int)).toNat = 0 from rfl] at hx563_0); (try rw [show 0 * 2 = 0 from rfl] at hx563_0); (try rw [Addr.add_zero'] at hx563_0); (try rw [show ((0 : Int)).toNat = 0 from rfl] at hx563_1); (try rw [show 0 * 2 = 0 from rfl] at hx563_1); (try rw [Addr.add_zero'] at hx563_1); replace p563 := eq_true p563; replace q563 := eq_true q563; have p564 : 0 ≤ (0 : Int) := (by omega); have q564 : 0 < (x0_1.length : Int) := apD; obtain ⟨ad564, e564, hx564_0, hx564_1⟩ := at_T94 (Kd.V_reads' HO_0.out).2.2 0 p564 q564; (try rw [← Nbq5.out] at hx564_1); obtain rfl : ad563 = ad564 := (by injection e564); have qi564 : (0 < x0_1.length) = True := eq_true (by omega); (try rw [show ((0 : Int)).toNat = 0 from rfl] at hx564_0); (try rw [show 0 * 2 = 0 from rfl] at hx564_0); (try rw [Addr.add_zero'] at hx564_0); (try rw [show ((0 : Int)).toNat = 0 from rfl] at hx564_1); (try rw [show 0 * 2 = 0 from rfl] at hx564_1); (try rw [Addr.add_zero'] at hx564_1); replace p564 := eq_true p564; replace q564 := eq_true q564; go_wp2; (first | go_meet | (simp only [c7b0] at *; go_meet) | (simp only [c7b0] at *; go_meet)); case rel => exact ⟨_, (x0_1), H', ⟨by have := HK1.out; first | omega | exact Nat.le_refl _⟩, ⟨apAV HO_0.out⟩, ⟨ap1⟩⟩
     ·rintro rfl H; have H' := am H; clear H; obtain ⟨Ao12, co12, eo12⟩ := Kd.V_slice HO_0.out; subst eo12; have p563 : 0 ≤ (0 : Int) := (by omega); have q563 : 0 < (x0_1.length : Int) := apD; obtain ⟨ad563, e563, hx563_0, hx563_1⟩ := at_T94 (Kd.V_reads' HO_0.out).2.2 0 p563 q563; (try rw [← Nbq5.out] at hx563_1); cases e563; have qi563 : (0 < x0_1.length) = True := eq_true (by omega); (try rw [show ((0 : Int)).toNat = 0 from rfl] at hx563_0); (try rw [show 0 * 2 = 0 from rfl] at hx563_0); (try rw [Addr.add_zero'] at hx563_0); (try rw [show ((0 : Int)).toNat = 0 from rfl] at hx563_1); (try rw [show 0 * 2 = 0 from rfl] at hx563_1); (try rw [Addr.add_zero'] at hx563_1); replace p563 := eq_true p563; replace q563 := eq_true q563; go_wp2; (first | go_meet | (simp only [c7b0] at *; go_meet) | (simp only [c7b0] at *; go_meet)); case rel => exact ⟨_, (x0_1), H', ⟨by have := HK1.out; first | omega | exact Nat.le_refl _⟩, ⟨apAV HO_0.out⟩, ⟨ap1⟩⟩
    ·intro c3 c3b0 H; have c3b1 : decide (0 < x0_1.length) = false := decide_eq_false (by omega); clear c3; (first | rw [c3b0] | (simp only [i64_w, i32_w]; rw [c3b0]) | skip); have H' := am H; clear H; obtain ⟨Ao13, co13, eo13⟩ := Kd.V_slice HO_0.out; subst eo13; go_wp2; (first | go_meet | (simp only [c7b0] at *; go_meet) | (simp only [c7b0] at *; go_meet)); case rel => exact ⟨_, (x0_1), H', ⟨by have := HK1.out; first | omega | exact Nat.le_refl _⟩, ⟨apAV HO_0.out⟩, ⟨ap1⟩⟩
 case rest =>
  clear HC2; obtain ⟨kq, x0_1, HA, HJ1, HO_0, HB⟩ := hcut; cases kq with
  | zero => exact absurd HA.out (by simp [R15Trim.j1])
  | succ kj1 =>
   have H := HA.out; clear HA; simp only [R15Trim.j1] at H; have H' := am H; clear H; go_wp2; go_loopg [0] kj1 (fun kq v0 w' => ∃ (x0_2 : List (S94)), Aside0 (R15Trim.l1 kq x0_2 = some r) ∧ Aside0 (kq ≤ kj1) ∧ Aside0 (Kd.V k94 94 w' w.heap.size (fun k_ => (P0_ k_ ∨ w.heap.size ≤ k_)) v0 x0_2) ∧ Aside0 (Below w.heap.size w w')); (case atStart => exact ⟨(x0_1), H', ⟨Nat.le_refl _⟩, ⟨apAV HO_0.out⟩, ⟨ap1⟩⟩); case round =>
    clear H'; obtain ⟨x0_2, HA, HK2, HO_0, HB⟩ := hrel; cases gk with
    | zero => exact absurd HA.out (by simp [R15Trim.l1])
    | succ k2 =>
     have H := HA.out; clear HA; simp only [R15Trim.l1] at H; revert H; refine spd11 ?_ ?_
     ·intro c14 c14b0 H; have c14b1 : decide (0 < x0_2.length) = true := decide_eq_true (by omega); clear c14; obtain ⟨ji15, hji15⟩ : ∃ j_ : Int, (wrap64 ((x0_2.length : Int) - 1)) = j_ := ⟨_, rfl⟩; replace H : (if 0 ≤ (ji15) then (if (ji15) < (x0_2.length : Int) then (if (rd_T94 x0_2 (ji15)).f1 = true then (if ((rd_T94 x0_2 (ji15)).f0) = 32 then (if (ji15) ≤ (x0_2.length : Int) then (R15Trim.l1 k2 (x0_2.take ((ji15) : Int).toNat)) else (none)) else (some x0_2)) else (some x0_2)) else (none)) else (none)) = some r := by first | (rw [hji15] at H; exact H) | (simp only [hji15] at H ⊢; exact H)
      have hji15w : (IntKind.i64.wrap ((x0_2.length : Int) - 1)) = ji15 := (i64_w _).trans hji15; revert H; refine spn0 ?_; intro c16b0 H; revert H; refine spn0 ?_; intro c17b0 H; obtain ⟨bq18, hbq18⟩ : ∃ b_ : Bool, b_ = ((rd_T94 x0_2 (ji15)).f1) := ⟨_, rfl⟩; replace H : (if bq18 = true then (if ((rd_T94 x0_2 (ji15)).f0) = 32 then (if (ji15) ≤ (x0_2.length : Int) then (R15Trim.l1 k2 (x0_2.take ((ji15) : Int).toNat)) else (none)) else (some x0_2)) else (some x0_2)) = some r := by rw [← hbq18] at H; exact H
      have Nbq18 := am hbq18; clear hbq18; revert H; refine spb ?_ ?_
      ·rintro rfl H; revert H; refine spe01 ?_ ?_
       ·intro c20b0 c20b1 H; have c21b0 := eq_true (apD : 0 ≤ (ji15)); by_cases c22 : (ji15) ≤ (x0_2.length : Int)
        ·rw [if_pos c22] at H; have c22b0 := eq_true c22; have c22b1 := decide_eq_true c22; clear c22; obtain ⟨y572, hy572⟩ : ∃ y_ : List (S94), y_ = (x0_2.take ((ji15) : Int).toNat) := ⟨_, rfl⟩; replace H : (R15Trim.l1 k2 y572) = some r := apY hy572 H; have Ny572 := am hy572; clear hy572; have H' := am H; clear H; obtain ⟨Ao23, co23, eo23⟩ := Kd.V_slice HO_0.out; subst eo23; have p570 : 0 ≤ ((ji15) : Int) := apD; have q570 : (ji15) < (x0_2.length : Int) := apD; obtain ⟨ad570, e570, hx570_0, hx570_1⟩ := at_T94 (Kd.V_reads' HO_0.out).2.2 (ji15) p570 q570; (try rw [← Nbq18.out] at hx570_1); cases e570; replace p570 := eq_true p570; replace q570 := eq_true q570; have p571 : 0 ≤ ((ji15) : Int) := apD; have q571 : (ji15) < (x0_2.length : Int) := apD; obtain ⟨ad571, e571, hx571_0, hx571_1⟩ := at_T94 (Kd.V_reads' HO_0.out).2.2 (ji15) p571 q571; (try rw [← Nbq18.out] at hx571_1); obtain rfl : ad570 = ad571 := (by injection e571); replace p571 := eq_true p571; replace q571 := eq_true q571; have q24 : ((ji15) : Int) ≤ ((x0_2.length : Int) : Int) := apD; obtain ⟨i024, hi024, _, hsz24, _⟩ := info_parts info94; have hroom24 : x0_2.length ≤ co23 := (Kd.V_reads' HO_0.out).2.1; have hC24 : Kd.F k94 _ _ (some ad570) x0_2.length x0_2 := (Kd.V_at (base := w.heap.size) HO_0.out).2.2; have hcut24 := cut_to (P := Tryz.prog) 88 94 .i64 Tryz.underlying88 hi024 (some ad570) x0_2.length co23 (ji15) (apD) q24 hroom24; have hr24 := Kd.F_take (m := ((ji15) : Int).toNat) hC24 (by omega); have hy24 : y572.length = ((ji15) : Int).toNat := (by rw [Ny572.out, List.length_take]; omega); rw [← Ny572.out] at hr24; rw [← hy24] at hcut24; have HO576 := am (show Kd.V k94 94 _ w.heap.size _ (.slice (some ad570) y572.length co23) y572 from Kd.V_mk (by omega) hr24); have HC576 := am (show y572.length ≤ co23 from by omega); clear hr24 hC24 hroom24 hi024 hsz24; have KY24 := am hy24; clear hy24; replace q24 := eq_true q24; go_wp2; go_roundg k2; (case measure => have := HJ1.out; have := HK2.out; omega); case rel => exact ⟨(y572), H', ⟨by have := HJ1.out; have := HK2.out; omega⟩, ⟨apAV HO576.out⟩, ⟨ap1⟩⟩
        ·rw [if_neg c22] at H; exact absurd H (by simp)
       ·intro c20 c20b0 c20b1 H; obtain rfl := Option.some.inj H; obtain ⟨Ao25, co25, eo25⟩ := Kd.V_slice HO_0.out; subst eo25; have p570 : 0 ≤ ((ji15) : Int) := apD; have q570 : (ji15) < (x0_2.length : Int) := apD; obtain ⟨ad570, e570, hx570_0, hx570_1⟩ := at_T94 (Kd.V_reads' HO_0.out).2.2 (ji15) p570 q570; (try rw [← Nbq18.out] at hx570_1); cases e570; replace p570 := eq_true p570; replace q570 := eq_true q570; have p571 : 0 ≤ ((ji15) : Int) := apD; have q571 : (ji15) < (x0_2.length : Int) := apD; obtain ⟨ad571, e571, hx571_0, hx571_1⟩ := at_T94 (Kd.V_reads' HO_0.out).2.2 (ji15) p571 q571; (try rw [← Nbq18.out] at hx571_1); obtain rfl : ad570 = ad571 := (by injection e571); replace p571 := eq_true p571; replace q571 := eq_true q571; go_wp2; go_ret; exact ⟨_, by first | rfl | (simp [errW_none, errW_some, bne_nil8, beq_nil8]; done) | (simp [errW_none, errW_some] <;> rfl) | (simp only [← hji15]; first | rfl | (simp [errW_none, errW_some] <;> rfl)) | (simp [*, errW_none, errW_some] <;> rfl), apAV HO_0.out, ap1⟩
      ·rintro rfl H; obtain rfl := Option.some.inj H; obtain ⟨Ao26, co26, eo26⟩ := Kd.V_slice HO_0.out; subst eo26; have p570 : 0 ≤ ((ji15) : Int) := apD; have q570 : (ji15) < (x0_2.length : Int) := apD; obtain ⟨ad570, e570, hx570_0, hx570_1⟩ := at_T94 (Kd.V_reads' HO_0.out).2.2 (ji15) p570 q570; (try rw [← Nbq18.out] at hx570_1); cases e570; replace p570 := eq_true p570; replace q570 := eq_true q570; go_wp2; go_ret; exact ⟨_, by first | rfl | (simp [errW_none, errW_some, bne_nil8, beq_nil8]; done) | (simp [errW_none, errW_some] <;> rfl) | (simp only [← hji15]; first | rfl | (simp [errW_none, errW_some] <;> rfl)) | (simp [*, errW_none, errW_some] <;> rfl), apAV HO_0.out, ap1⟩
     ·intro c14 c14b0 H; have c14b1 : decide (0 < x0_2.length) = false := decide_eq_false (by omega); clear c14; obtain rfl := Option.some.inj H; obtain ⟨Ao27, co27, eo27⟩ := Kd.V_slice HO_0.out; subst eo27; go_wp2; go_ret; exact ⟨_, ap9, apAV HO_0.out, ap1⟩
mutual
def R15Pair.j1 : Nat → List (S94) → Int → Option (ByteArray × ByteArray × Bool)
 | 0, _, _ => none
 | k + 1, x0, x4 => if x4 = (x0.length : Int) then (some ((⟨#[]⟩ : ByteArray), (⟨#[]⟩ : ByteArray), false)) else (if 0 ≤ x4 then (if x4 ≤ (x0.length : Int) then ((R15Trim.f k (x0.take (x4 : Int).toNat)).bind fun t584 => (if 0 ≤ (wrap64 (x4 + 1)) then (if (wrap64 (x4 + 1)) ≤ (x0.length : Int) then ((R15Trim.f k (x0.drop ((wrap64 (x4 + 1)) : Int).toNat)).bind fun t591 => (R15Pair.l1 k t584 t591 (([] : List Int)) 0)) else (none)) else (none))) else (none)) else (none))
def R15Pair.l1 : Nat → List (S94) → List (S94) → List Int → Int → Option (ByteArray × ByteArray × Bool)
 | 0, _, _, _, _ => none
 | k + 1, x5, x6, x7, x8 => if x8 < (x5.length : Int) then (if 0 ≤ x8 then (if ((rd_T94 x5 x8).f1 = true) then (if ((rd_T94 x5 x8).f0) ≥ 65 then (if ((rd_T94 x5 x8).f0) ≤ 90 then (if x7.length < 140737488355328 then (R15Pair.l1 k x5 x6 (x7 ++ [(((rd_T94 x5 x8).f0) + 32) % 256]) (wrap64 (x8 + 1))) else (none)) else (if x7.length < 140737488355328 then (R15Pair.l1 k x5 x6 (x7 ++ [(rd_T94 x5 x8).f0]) (wrap64 (x8 + 1))) else (none))) else (if x7.length < 140737488355328 then (R15Pair.l1 k x5 x6 (x7 ++ [(rd_T94 x5 x8).f0]) (wrap64 (x8 + 1))) else (none))) else (some ((⟨#[]⟩ : ByteArray), (⟨#[]⟩ : ByteArray), false))) else (none)) else (R15Pair.l2 k x6 x7 (([] : List Int)) 0)
def R15Pair.l2 : Nat → List (S94) → List Int → List Int → Int → Option (ByteArray × ByteArray × Bool)
 | 0, _, _, _, _ => none
 | k + 1, x6, x7, x10, x11 => if x11 < (x6.length : Int) then (if 0 ≤ x11 then (if (rd_T94 x6 x11).f1 = true then (if ((rd_T94 x6 x11).f0) = 34 then (some ((⟨#[]⟩ : ByteArray), (⟨#[]⟩ : ByteArray), false)) else (if ((rd_T94 x6 x11).f0) = 60 then (some ((⟨#[]⟩ : ByteArray), (⟨#[]⟩ : ByteArray), false)) else (if ((rd_T94 x6 x11).f0) = 62 then (some ((⟨#[]⟩ : ByteArray), (⟨#[]⟩ : ByteArray), false)) else (if ((rd_T94 x6 x11).f0) = 35 then (if x11 = 0 then (some ((⟨#[]⟩ : ByteArray), (⟨#[]⟩ : ByteArray), false)) else (if x10.length < 140737488355328 then (R15Pair.l2 k x6 x7 (x10 ++ [(rd_T94 x6 x11).f0]) (wrap64 (x11 + 1))) else (none))) else (if x10.length < 140737488355328 then (R15Pair.l2 k x6 x7 (x10 ++ [(rd_T94 x6 x11).f0]) (wrap64 (x11 + 1))) else (none)))))) else (if x10.length < 140737488355328 then (R15Pair.l2 k x6 x7 (x10 ++ [(rd_T94 x6 x11).f0]) (wrap64 (x11 + 1))) else (none))) else (none)) else ((R15Type.f k (strOfNums x7)).bind fun t622 => (some (strOfNums x7, strOfNums x10, t622)))
def R15Pair.l0 : Nat → List (S94) → Int → Option (ByteArray × ByteArray × Bool)
 | 0, _, _ => none
 | k + 1, x0, x4 => if x4 < (x0.length : Int) then (if 0 ≤ x4 then (if (rd_T94 x0 x4).f1 = true then (if (((rd_T94 x0 x4).f0) = 61) then (R15Pair.j1 k x0 x4) else (R15Pair.l0 k x0 (wrap64 (x4 + 1)))) else (R15Pair.l0 k x0 (wrap64 (x4 + 1)))) else (none)) else (R15Pair.j1 k x0 x4)
end
def R15Pair.f (k : Nat) (l0 : List (S94)) : Option (ByteArray × ByteArray × Bool) := R15Pair.l0 k l0 0
def R15Pair.T26 : Bool × List (List Nat × List Nat) := (true, [([], []), ([0], [0]), ([], []), ([2], [2]), ([1, 3], [1, 3]), ([], []), ([5], [5]), ([6], [6]), ([4, 7, 0, 1, 2, 3, 4], [4]), ([7, 8, 0, 1, 2, 3, 4, 5, 6, 7, 8], [7])])
def R15Pair.B26 : List Nat := [0, 1, 0, 4, 15, 0, 32, 96, 255, 511]
theorem R15Pair.tab26 : rtab .any (opsOf Tryz.f74 26) = R15Pair.T26 := by kernel_rfl
theorem R15Pair.bits26 : waitsOk R15Pair.T26.2 R15Pair.B26 = true := by kernel_rfl
set_option maxHeartbeats 8000000 in
set_option maxRecDepth 100000 in
theorem R15Pair.calls (k : Nat) (A0 : Option Addr) (c0 : Nat) (l0 : List (S94)) (r1 : ByteArray) (r2 : ByteArray) (r3 : Bool) (w : World) (hr0 : Kd.C k94 w A0 l0.length l0) (hc0 : l0.length ≤ c0) (h : R15Pair.f k l0 = some (r1, r2, r3)) :
  Calls Tryz.prog 74 #[.slice A0 l0.length c0] w fun e w' => e = .returned (.tuple #[.agg #[.string r1, .string r2], .bool r3]) ∧ Below w.heap.size w w' := by
 have hu96 := Tryz.underlying96
 have HR0 := am hr0
 have HC0 := am hc0
 clear hr0 hc0
 have HB := am (Below.refl w.heap.size w)
 have H : (R15Pair.l0 k l0 0) = some (r1, r2, r3) := h
 clear h
 have HC2 := am H
 clear H
 go_enter Tryz.func74, Tryz.ntmps74
 go_upto_block 0 with (first | ((with_reducible refine gate_dst (N := 2) rfl ?_); refine box_event ?hg (N := 2) ?hd (cs := #[.string (⟨#[]⟩ : ByteArray), .string (⟨#[]⟩ : ByteArray)]) (t := 96) ?hr ?_; (case hd => rfl); (case hg => rfl); (case hr => first | (go_simp; done) | (go_simp; rfl)); intro gb577 hg w3 hbox hb; have BK577 := am (hbox); have GW577 := am ((by rw [hg]; exact (below_size ap1) : w.heap.size ≤ gb577)); have GE577 := am ((by rw [hg]; exact (below_size ap1) : w.heap.size ≤ gb577)); replace HB := am (below_step ap1 hb); clear hb hbox hg))
 (try simp only [Act.put, List.setIfInBounds_toArray, List.set_cons_zero, List.set_cons_succ])
 go_cut [4] (fun v4 wc => ∃ (kq : Nat) (x4_1 : Int), v4 = .int .i64 x4_1 ∧ Aside0 (R15Pair.j1 kq l0 x4_1 = some (r1, r2, r3)) ∧ Aside0 (kq ≤ k) ∧ Aside0 (wc.heap[gb577]? = some (.cells #[.string (⟨#[]⟩ : ByteArray), .string (⟨#[]⟩ : ByteArray)] 96 (0, 0))) ∧ Aside0 (Below w.heap.size w wc))
 case first =>
  have H := HC2.out; clear HC2; have H' := am H; clear H; go_wp2; go_loopg [4] k (fun kq v4 w' => ∃ (x4_1 : Int), v4 = .int .i64 x4_1 ∧ Aside0 (R15Pair.l0 kq l0 x4_1 = some (r1, r2, r3)) ∧ Aside0 (kq ≤ k) ∧ Aside0 (w'.heap[gb577]? = some (.cells #[.string (⟨#[]⟩ : ByteArray), .string (⟨#[]⟩ : ByteArray)] 96 (0, 0))) ∧ Aside0 (Below w.heap.size w w')); (case atStart => exact ⟨(0), ap2, H', ⟨Nat.le_refl _⟩, ⟨apB BK577.out⟩, ⟨apG1 GE577.out⟩⟩); case round =>
   clear H'; obtain ⟨x4_1, rfl, HA, HK1, BK577, HB⟩ := hrel; cases gk with
   | zero => exact absurd HA.out (by simp [R15Pair.l0])
   | succ k1 =>
    have H := HA.out; clear HA; simp only [R15Pair.l0] at H; revert H; refine spd00 ?_ ?_
    ·intro c4b0 H; (first | rw [c4b0] | (simp only [i64_w, i32_w]; rw [c4b0]) | skip); revert H; refine spn0 ?_; intro c5b0 H; obtain ⟨bq6, hbq6⟩ : ∃ b_ : Bool, b_ = ((rd_T94 l0 x4_1).f1) := ⟨_, rfl⟩; replace H : (if bq6 = true then (if (((rd_T94 l0 x4_1).f0) = 61) then (R15Pair.j1 k1 l0 x4_1) else (R15Pair.l0 k1 l0 (wrap64 (x4_1 + 1)))) else (R15Pair.l0 k1 l0 (wrap64 (x4_1 + 1)))) = some (r1, r2, r3) := by rw [← hbq6] at H; exact H
     have Nbq6 := am hbq6; clear hbq6; revert H; refine spb ?_ ?_
     ·rintro rfl H; revert H; refine spe01 ?_ ?_
      ·intro c8b0 c8b1 H; have H' := am H; clear H; have p578 : 0 ≤ (x4_1 : Int) := apD; have q578 : x4_1 < (l0.length : Int) := apD; obtain ⟨ad578, e578, hx578_0, hx578_1⟩ := at_T94 HR0.out x4_1 p578 q578; (try rw [← Nbq6.out] at hx578_1); cases e578; replace hx578_0 := (HB.out.cell (World.block_lt_of_cell? w _ hx578_0)).trans hx578_0; replace hx578_1 := (HB.out.cell (World.block_lt_of_cell? w _ hx578_1)).trans hx578_1; replace p578 := eq_true p578; replace q578 := eq_true q578; have p579 : 0 ≤ (x4_1 : Int) := apD; have q579 : x4_1 < (l0.length : Int) := apD; obtain ⟨ad579, e579, hx579_0, hx579_1⟩ := at_T94 HR0.out x4_1 p579 q579; (try rw [← Nbq6.out] at hx579_1); obtain rfl : ad578 = ad579 := (by injection e579); replace hx579_0 := (HB.out.cell (World.block_lt_of_cell? w _ hx579_0)).trans hx579_0; replace hx579_1 := (HB.out.cell (World.block_lt_of_cell? w _ hx579_1)).trans hx579_1; replace p579 := eq_true p579; replace q579 := eq_true q579; go_wp2; (first | go_meet | (simp only [c8b0] at *; go_meet)); case rel => exact ⟨_, (x4_1), ap2, H', ⟨by have := HK1.out; first | omega | exact Nat.le_refl _⟩, ⟨apB BK577.out⟩, ⟨apG1 GE577.out⟩⟩
      ·intro c8 c8b0 c8b1 H; have H' := am H; clear H; have p578 : 0 ≤ (x4_1 : Int) := apD; have q578 : x4_1 < (l0.length : Int) := apD; obtain ⟨ad578, e578, hx578_0, hx578_1⟩ := at_T94 HR0.out x4_1 p578 q578; (try rw [← Nbq6.out] at hx578_1); cases e578; replace hx578_0 := (HB.out.cell (World.block_lt_of_cell? w _ hx578_0)).trans hx578_0; replace hx578_1 := (HB.out.cell (World.block_lt_of_cell? w _ hx578_1)).trans hx578_1; replace p578 := eq_true p578; replace q578 := eq_true q578; have p579 : 0 ≤ (x4_1 : Int) := apD; have q579 : x4_1 < (l0.length : Int) := apD; obtain ⟨ad579, e579, hx579_0, hx579_1⟩ := at_T94 HR0.out x4_1 p579 q579; (try rw [← Nbq6.out] at hx579_1); obtain rfl : ad578 = ad579 := (by injection e579); replace hx579_0 := (HB.out.cell (World.block_lt_of_cell? w _ hx579_0)).trans hx579_0; replace hx579_1 := (HB.out.cell (World.block_lt_of_cell? w _ hx579_1)).trans hx579_1; replace p579 := eq_true p579; replace q579 := eq_true q579; go_wp2; go_roundg k1; (case measure => have := HK1.out; omega); case rel => exact ⟨(wrap64 (x4_1 + 1)), ap2, H', ⟨by have := HK1.out; omega⟩, ⟨apB BK577.out⟩, ⟨apG1 GE577.out⟩⟩
     ·rintro rfl H; have H' := am H; clear H; have p578 : 0 ≤ (x4_1 : Int) := apD; have q578 : x4_1 < (l0.length : Int) := apD; obtain ⟨ad578, e578, hx578_0, hx578_1⟩ := at_T94 HR0.out x4_1 p578 q578; (try rw [← Nbq6.out] at hx578_1); cases e578; replace hx578_0 := (HB.out.cell (World.block_lt_of_cell? w _ hx578_0)).trans hx578_0; replace hx578_1 := (HB.out.cell (World.block_lt_of_cell? w _ hx578_1)).trans hx578_1; replace p578 := eq_true p578; replace q578 := eq_true q578; go_wp2; go_roundg k1; (case measure => have := HK1.out; omega); case rel => exact ⟨(wrap64 (x4_1 + 1)), ap2, H', ⟨by have := HK1.out; omega⟩, ⟨apB BK577.out⟩, ⟨apG1 GE577.out⟩⟩
    ·intro c4b0 H; (first | rw [c4b0] | (simp only [i64_w, i32_w]; rw [c4b0]) | skip); have H' := am H; clear H; go_wp2; (first | go_meet | (simp only [c8b0] at *; go_meet) | (simp only [c8b0] at *; go_meet)); case rel => exact ⟨_, (x4_1), ap2, H', ⟨by have := HK1.out; first | omega | exact Nat.le_refl _⟩, ⟨apB BK577.out⟩, ⟨apG1 GE577.out⟩⟩
 case rest =>
  clear HC2; obtain ⟨kq, x4_1, rfl, HA, HJ1, BK577, HB⟩ := hcut; cases kq with
  | zero => exact absurd HA.out (by simp [R15Pair.j1])
  | succ kj1 =>
   have H := HA.out; clear HA; simp only [R15Pair.j1] at H; revert H; refine spe01 ?_ ?_
   ·intro c9b0 c9b1 H; simp only [Option.some.injEq, Prod.mk.injEq] at H; obtain ⟨rfl, rfl, rfl⟩ := H; obtain ⟨hcz10_0, hcz10_1, hfz10_0, hfz10_1⟩ := bc2 BK577.out; go_wp2; refine bodyPost_ret (results_ct rfl _ _ gb577 96 #[.string (⟨#[]⟩ : ByteArray), .string (⟨#[]⟩ : ByteArray)] (0, 0) _ rfl (by (with_reducible repeat (first | refine blk_drewN ?_ _ | refine blk_drew ?_ | refine blk_alloc ?_ _)); refine blk_put (cs := #[.string (⟨#[]⟩ : ByteArray), .string (⟨#[]⟩ : ByteArray)]) ?_ 1 _ rfl; (with_reducible repeat (first | refine blk_drewN ?_ _ | refine blk_drew ?_ | refine blk_alloc ?_ _)); refine blk_put (cs := #[.string (⟨#[]⟩ : ByteArray), .string (⟨#[]⟩ : ByteArray)]) ?_ 0 _ rfl; (with_reducible repeat (first | refine blk_drewN ?_ _ | refine blk_drew ?_ | refine blk_alloc ?_ _)); exact BK577.out) Tryz.underlying96 rfl (by kernel_rfl)) rfl ?_; exact ⟨ap9, apG1 GE577.out⟩
   ·intro c9 c9b0 c9b1 H; by_cases c11 : 0 ≤ x4_1
    ·rw [if_pos c11] at H; have c11b0 := eq_true c11; have c11b1 := decide_eq_true c11; clear c11; by_cases c12 : x4_1 ≤ (l0.length : Int)
     ·rw [if_pos c12] at H; have c12b0 := eq_true c12; have c12b1 := decide_eq_true c12; clear c12; obtain ⟨y580, hy580⟩ : ∃ y_ : List (S94), y_ = (l0.take (x4_1 : Int).toNat) := ⟨_, rfl⟩; replace H : ((R15Trim.f kj1 y580).bind fun t584 => (if 0 ≤ (wrap64 (x4_1 + 1)) then (if (wrap64 (x4_1 + 1)) ≤ (l0.length : Int) then ((R15Trim.f kj1 (l0.drop ((wrap64 (x4_1 + 1)) : Int).toNat)).bind fun t591 => (R15Pair.l1 kj1 t584 t591 (([] : List Int)) 0)) else (none)) else (none))) = some (r1, r2, r3) := apY hy580 H; have Ny580 := am hy580; clear hy580; replace H := Option.bind_eq_some_iff.mp H; obtain ⟨t584, A130, H⟩ := H; replace H : (if 0 ≤ (wrap64 (x4_1 + 1)) then (if (wrap64 (x4_1 + 1)) ≤ (l0.length : Int) then ((R15Trim.f kj1 (l0.drop ((wrap64 (x4_1 + 1)) : Int).toNat)).bind fun t591 => (R15Pair.l1 kj1 t584 t591 (([] : List Int)) 0)) else (none)) else (none)) = some (r1, r2, r3) := H; have A13 := am A130; clear A130; obtain ⟨ji14, hji14⟩ : ∃ j_ : Int, (wrap64 (x4_1 + 1)) = j_ := ⟨_, rfl⟩; replace H : (if 0 ≤ (ji14) then (if (ji14) ≤ (l0.length : Int) then ((R15Trim.f kj1 (l0.drop ((ji14) : Int).toNat)).bind fun t591 => (R15Pair.l1 kj1 t584 t591 (([] : List Int)) 0)) else (none)) else (none)) = some (r1, r2, r3) := by first | (rw [hji14] at H; exact H) | (simp only [hji14] at H ⊢; exact H)
      (try rw [hji14] at A13); have hji14w : (IntKind.i64.wrap (x4_1 + 1)) = ji14 := (i64_w _).trans hji14; by_cases c15 : 0 ≤ (ji14)
      ·rw [if_pos c15] at H; have c15b0 := eq_true c15; have c15b1 := decide_eq_true c15; clear c15; by_cases c16 : (ji14) ≤ (l0.length : Int)
       ·rw [if_pos c16] at H; have c16b0 := eq_true c16; have c16b1 := decide_eq_true c16; clear c16; obtain ⟨y587, hy587⟩ : ∃ y_ : List (S94), y_ = (l0.drop ((ji14) : Int).toNat) := ⟨_, rfl⟩; replace H : ((R15Trim.f kj1 y587).bind fun t591 => (R15Pair.l1 kj1 t584 t591 (([] : List Int)) 0)) = some (r1, r2, r3) := apY hy587 H; have Ny587 := am hy587; clear hy587; replace H := Option.bind_eq_some_iff.mp H; obtain ⟨t591, A170, H⟩ := H; replace H : (R15Pair.l1 kj1 t584 t591 (([] : List Int)) 0) = some (r1, r2, r3) := H; have A17 := am A170; clear A170; obtain ⟨y594, hy594⟩ : ∃ y_ : List Int, y_ = (([] : List Int)) := ⟨_, rfl⟩; replace H : (R15Pair.l1 kj1 t584 t591 y594 0) = some (r1, r2, r3) := apY hy594 H; have Ny594 := am hy594; clear hy594; have H' := am H; clear H; have q18 : (x4_1 : Int) ≤ ((l0.length : Int) : Int) := apD; obtain ⟨i018, hi018, _, hsz18, _⟩ := info_parts info94; have hroom18 : l0.length ≤ c0 := HC0.out; have hC18 : Kd.C k94 _ A0 l0.length l0 := HR0.out; have hcut18 := cut_to (P := Tryz.prog) 88 94 .i64 Tryz.underlying88 hi018 A0 l0.length c0 x4_1 (apD) q18 hroom18; have hr18 := Kd.C_take (m := (x4_1 : Int).toNat) hC18 (by omega); have hy18 : y580.length = (x4_1 : Int).toNat := (by rw [Ny580.out, List.length_take]; omega); rw [← Ny580.out] at hr18; rw [← hy18] at hcut18; have HR583 := am hr18; have HC583 := am (show y580.length ≤ c0 from by omega); clear hr18 hC18 hroom18 hi018 hsz18; have KY18 := am hy18; clear hy18; replace q18 := eq_true q18; go_wp2_with (first | ((with_reducible refine gate_callee (f := 73) rfl ?_); refine goesL_ (some 43) rfl rfl Tryz.func73 (by kernel_rfl) rfl #[.slice A0 y580.length c0] rfl ap3 ?_; (with_reducible refine (R15Trim.calls kj1 (fun k_ => k_ < w.heap.size) _ _ y580 t584 _ ?side1 A13.out).mono ?_); (case side1 => exact Kd.V_mk HC583.out (Kd.F_below (Kd.C_F k94_heap HR583.out) (apG GE577.out))); rintro e w19 ⟨v585, rfl, ho0, hb⟩; refine ⟨_, rfl, ?_⟩; have HO586 := am (Kd.V_lower (Kd.V_mono (ok' := fun k_ => k_ ≠ gb577) ho0 (fun k_ hk_ => Or.elim hk_ (fun hs_ => fun e_ => Nat.not_le.2 hs_ (by rw [e_]; exact GW577.out)) (fun hn_ => (Kd.freshB (g := gb577) (o := .cells #[.string (⟨#[]⟩ : ByteArray), .string (⟨#[]⟩ : ByteArray)] 96 (0, 0)) (apB BK577.out) k_ hn_)))) (below_size (apG GE577.out))); replace BK577 := am (blk_below (g := gb577) (o := .cells #[.string (⟨#[]⟩ : ByteArray), .string (⟨#[]⟩ : ByteArray)] 96 (0, 0)) (apB BK577.out) hb); replace HB := am (below_step (apG GE577.out) hb); (try clear ho0); have q20 : ((ji14) : Int) ≤ ((l0.length : Int) : Int) := apD; obtain ⟨i020, hi020, _, hsz20, _⟩ := info_parts info94; have hroom20 : l0.length ≤ c0 := HC0.out; have hC20 : Kd.C k94 _ A0 l0.length l0 := HR0.out; have q020 : (0 : Int) ≤ ((ji14) : Int) := apD; have hcut20 := cut_from (P := Tryz.prog) 88 94 .i64 Tryz.underlying88 hi020 2 hsz20 A0 l0.length c0 (ji14) q020 q20; have hr20 := Kd.C_drop (m := ((ji14) : Int).toNat) (c := c0) hC20 (by omega) hroom20; obtain ⟨A20, hA20⟩ : ∃ A1, A1 = (if c0 = ((ji14) : Int).toNat then A0 else (A0 : Option Addr).map (·.add (((ji14) : Int).toNat * 2))) := ⟨_, rfl⟩; obtain ⟨c20, hc20⟩ : ∃ c1, c1 = c0 - ((ji14) : Int).toNat := ⟨_, rfl⟩; have hy20 : y587.length = l0.length - ((ji14) : Int).toNat := (by rw [Ny587.out, List.length_drop] <;> omega); rw [show (l0).drop ((ji14) : Int).toNat = y587 from Ny587.out.symm] at hr20; replace hr20 : Kd.C k94 _ A20 y587.length y587 := (by rw [hA20]; exact hr20); rw [← hy20, ← hA20, ← hc20] at hcut20; have HR590 := am hr20; have HC590 := am (show y587.length ≤ c20 from by rw [hy20, hc20]; exact Nat.sub_le_sub_right hroom20 _); clear hr20 hC20 hroom20 hi020 hsz20 hc20; have KY20 := am hy20; have KA20 := am hA20; clear hy20 hA20; replace q20 := eq_true q20) | ((with_reducible refine gate_callee (f := 73) rfl ?_); refine goesL_ (some 48) rfl rfl Tryz.func73 (by kernel_rfl) rfl #[.slice A20 y587.length c20] rfl ap3 ?_; (with_reducible refine (R15Trim.calls kj1 (fun k_ => k_ < w.heap.size) _ _ y587 t591 _ ?side1 A17.out).mono ?_); (case side1 => exact Kd.V_mk HC590.out (Kd.F_below (Kd.C_F k94_heap HR590.out) (apG GE577.out))); rintro e w21 ⟨v592, rfl, ho0, hb⟩; refine ⟨_, rfl, ?_⟩; replace HO586 := am (Kd.V_below (apAV HO586.out) hb); have HO593 := am (Kd.V_lower (Kd.V_mono (ok' := fun k_ => k_ ≠ gb577) ho0 (fun k_ hk_ => Or.elim hk_ (fun hs_ => fun e_ => Nat.not_le.2 hs_ (by rw [e_]; exact GW577.out)) (fun hn_ => (Kd.freshB (g := gb577) (o := .cells #[.string (⟨#[]⟩ : ByteArray), .string (⟨#[]⟩ : ByteArray)] 96 (0, 0)) (apB BK577.out) k_ hn_)))) (below_size (apG GE577.out))); replace BK577 := am (blk_below (g := gb577) (o := .cells #[.string (⟨#[]⟩ : ByteArray), .string (⟨#[]⟩ : ByteArray)] 96 (0, 0)) (apB BK577.out) hb); replace HB := am (below_step (apG GE577.out) hb); (try clear ho0)) | ((with_reducible refine gate_dst (N := 49) rfl ?_); refine Kd.R_lit (Kd.int .u8) _ 5 ?hg (N := 49) ?hd (xs := ([] : List Int)) (inner := []) (ok := fun _ => True) (okp := fun _ => True) ?hr ?hp (fun _ hk => hk) trivial (Below.refl _ _) (Nat.le_refl _) (by simp) ?_; (case hd => rfl); (case hg => rfl); (case hr => first | (go_simp; done) | (go_simp; rfl)); (case hp => exact (Reps.none _ _)); intro v595 w22 ho23 hb hg_ hnew_; clear hg_ hnew_; (first | rw [← Ny594.out] at ho23 | (simp only [Int.reduceToNat] at ho23; rw [← Ny594.out] at ho23)); replace HO586 := am (Kd.V_elder' (apAV HO586.out) (Kd.R_base ho23) hb); replace HO593 := am (Kd.V_elder' (apAV HO593.out) (Kd.R_base ho23) hb); have HO596 := am (Kd.R_lower ho23 (below_size (apG GE577.out))); replace BK577 := am (blk_below (g := gb577) (o := .cells #[.string (⟨#[]⟩ : ByteArray), .string (⟨#[]⟩ : ByteArray)] 96 (0, 0)) (apB BK577.out) hb); replace HB := am (below_step (apG GE577.out) hb); clear hb ho23)); go_loopg [7, 8] kj1 (fun kq v7 v8 w' => ∃ (x7_2 : List Int) (x8_2 : Int) (x578000_2 : ByteArray) (x578001_2 : ByteArray), v8 = .int .i64 x8_2 ∧ Aside0 (R15Pair.l1 kq t584 t591 x7_2 x8_2 = some (r1, r2, r3)) ∧ Aside0 (kq ≤ kj1) ∧ Aside0 (Kd.V k94 94 w' w.heap.size (fun k_ => some k_ ≠ (v7 : Value).ownBlock ∧ k_ ≠ gb577) v585 t584) ∧ Aside0 (Kd.V k94 94 w' w.heap.size (fun k_ => some k_ ≠ (v7 : Value).ownBlock ∧ k_ ≠ gb577) v592 t591) ∧ Aside0 (Kd.R (Kd.int .u8) 5 w' w.heap.size (fun _ => True) v7 x7_2) ∧ Aside0 (w'.heap[gb577]? = some (.cells #[.string x578000_2, .string x578001_2] 96 (0, 0))) ∧ Aside0 (Below w.heap.size w w')); (case atStart => exact ⟨(y594), (0), ((⟨#[]⟩ : ByteArray)), ((⟨#[]⟩ : ByteArray)), ap2, H', ⟨Nat.le_refl _⟩, ⟨by (with_reducible repeat (first | apply Kd.V_alloc | apply Kd.V_drewN | apply Kd.V_drew)); exact Kd.V_mono HO586.out (fun _ hk => ⟨hk.2, hk.1⟩)⟩, ⟨by (with_reducible repeat (first | apply Kd.V_alloc | apply Kd.V_drewN | apply Kd.V_drew)); exact Kd.V_mono HO593.out (fun _ hk => ⟨hk.2, hk.1⟩)⟩, ⟨apAR HO596.out⟩, ⟨apB BK577.out⟩, ⟨apG1 GE577.out⟩⟩); case round =>
         clear H'; (try clear c1); (try clear c9); (try clear c9b0); (try clear c9b1); (try clear c11); (try clear c11b0); (try clear c11b1); (try clear c12); (try clear c12b0); (try clear c12b1); (try clear c15); (try clear c15b0); (try clear c15b1); (try clear c16); (try clear c16b0); (try clear c16b1); (try clear q18); (try clear c20); (try clear q20); (try clear q020); (try clear q18); (try clear q20); obtain ⟨x7_2, x8_2, x578000_2, x578001_2, rfl, HA, HK2, HO_5, HO_6, HO_7, BK577, HB⟩ := hrel; cases gk with
         | zero => exact absurd HA.out (by simp [R15Pair.l1])
         | succ k2 =>
          have H := HA.out; clear HA; simp only [R15Pair.l1] at H; revert H; refine spd00 ?_ ?_
          ·intro c24b0 H; revert H; refine spn0 ?_; intro c25b0 H; obtain ⟨bq26, hbq26⟩ : ∃ b_ : Bool, b_ = ((rd_T94 t584 x8_2).f1) := ⟨_, rfl⟩; replace H : (if (bq26 = true) then (if ((rd_T94 t584 x8_2).f0) ≥ 65 then (if ((rd_T94 t584 x8_2).f0) ≤ 90 then (if x7_2.length < 140737488355328 then (R15Pair.l1 k2 t584 t591 (x7_2 ++ [(((rd_T94 t584 x8_2).f0) + 32) % 256]) (wrap64 (x8_2 + 1))) else (none)) else (if x7_2.length < 140737488355328 then (R15Pair.l1 k2 t584 t591 (x7_2 ++ [(rd_T94 t584 x8_2).f0]) (wrap64 (x8_2 + 1))) else (none))) else (if x7_2.length < 140737488355328 then (R15Pair.l1 k2 t584 t591 (x7_2 ++ [(rd_T94 t584 x8_2).f0]) (wrap64 (x8_2 + 1))) else (none))) else (some ((⟨#[]⟩ : ByteArray), (⟨#[]⟩ : ByteArray), false))) = some (r1, r2, r3) := by rw [← hbq26] at H; exact H
           have Nbq26 := am hbq26; clear hbq26; revert H; refine spb ?_ ?_
           ·rintro rfl H; revert H; refine spd00 ?_ ?_
            ·intro c28b0 H; revert H; refine spd00 ?_ ?_
             ·intro c29b0 H; by_cases c30 : x7_2.length < 140737488355328
              ·rw [if_pos c30] at H; have LMc30 := am c30; clear c30; obtain ⟨y599, hy599⟩ : ∃ y_ : List Int, y_ = (x7_2 ++ [(((rd_T94 t584 x8_2).f0) + 32) % 256]) := ⟨_, rfl⟩; replace H : (R15Pair.l1 k2 t584 t591 y599 (wrap64 (x8_2 + 1))) = some (r1, r2, r3) := apY hy599 H; have Ny599 := am hy599; clear hy599; have H' := am H; clear H; obtain ⟨Ao31, co31, eo31⟩ := Kd.V_slice HO_5.out; subst eo31; have p597 : 0 ≤ (x8_2 : Int) := apD; have q597 : x8_2 < (t584.length : Int) := apD; obtain ⟨ad597, e597, hx597_0, hx597_1⟩ := at_T94 (Kd.V_reads' HO_5.out).2.2 x8_2 p597 q597; (try rw [← Nbq26.out] at hx597_1); cases e597; replace p597 := eq_true p597; replace q597 := eq_true q597; have p598 : 0 ≤ (x8_2 : Int) := apD; have q598 : x8_2 < (t584.length : Int) := apD; obtain ⟨ad598, e598, hx598_0, hx598_1⟩ := at_T94 (Kd.V_reads' HO_5.out).2.2 x8_2 p598 q598; (try rw [← Nbq26.out] at hx598_1); obtain rfl : ad597 = ad598 := (by injection e598); replace p598 := eq_true p598; replace q598 := eq_true q598; go_wp2_with (first | ((with_reducible refine gate_builtin (b := .append) (xs := #[.tmp 76, .tmp 78]) rfl ?_); at_builtin; refine Kd.R_append (Kd.int .u8) (w0 := w) w.heap.size rfl (.tmp 76) (.tmp 78) 82 5 (.int .u8 0) 1 rfl Tryz.underlying82 info5 rfl (by decide) (by omega) u7 x7_2 ((((rd_T94 t584 x8_2).f0) + 32) % 256) [.int .u8 ((((rd_T94 t584 x8_2).f0) + 32) % 256)] (fun _ => True) (fun _ => False) rfl rfl ?aP (fun _ hk => hk.elim) ?aF ?aO ?aB ?aS ?aL ?_; (case aP => exact rfl); (case aB => exact (apG GE577.out)); (case aF => exact (fun _ _ => trivial)); (case aO => exact (apAR HO_7.out)); (case aS => exact (below_size (apG GE577.out))); (case aL => have := LMc30.out; omega); intro v600 w32 ho hb hg hat; rw [← Ny599.out] at ho; replace HO_5 := am (Kd.V_afterv (ok := (fun k_ => k_ ≠ gb577)) (by (with_reducible repeat (first | apply Kd.V_alloc | apply Kd.V_drewN | apply Kd.V_drew)); exact Kd.V_mono HO_5.out (fun _ hk => ⟨hk.2, hk.1⟩)) hg hat); replace HO_6 := am (Kd.V_afterv (ok := (fun k_ => k_ ≠ gb577)) (by (with_reducible repeat (first | apply Kd.V_alloc | apply Kd.V_drewN | apply Kd.V_drew)); exact Kd.V_mono HO_6.out (fun _ hk => ⟨hk.2, hk.1⟩)) hg hat); replace BK577 := am (blk_grown (g := gb577) (o := .cells #[.string x578000_2, .string x578001_2] 96 (0, 0)) (apB BK577.out) hg (Kd.R_ne HO_7.out BK577.out (by decide))); have HO601 := am (ho); replace HB := am (hb); clear ho hb hg hat)); go_roundg k2; (case measure => have := HJ1.out; have := HK2.out; omega); case rel => exact ⟨(y599), (wrap64 (x8_2 + 1)), (x578000_2), (x578001_2), ap2, H', ⟨by have := HJ1.out; have := HK2.out; omega⟩, ⟨by (with_reducible repeat (first | apply Kd.V_alloc | apply Kd.V_drewN | apply Kd.V_drew)); exact Kd.V_mono HO_5.out (fun _ hk => ⟨hk.2, hk.1⟩)⟩, ⟨by (with_reducible repeat (first | apply Kd.V_alloc | apply Kd.V_drewN | apply Kd.V_drew)); exact Kd.V_mono HO_6.out (fun _ hk => ⟨hk.2, hk.1⟩)⟩, ⟨apAR HO601.out⟩, ⟨apB BK577.out⟩, ⟨apG1 GE577.out⟩⟩
              ·rw [if_neg c30] at H; exact absurd H (by simp)
             ·intro c29b0 H; by_cases c33 : x7_2.length < 140737488355328
              ·rw [if_pos c33] at H; have LMc33 := am c33; clear c33; obtain ⟨y602, hy602⟩ : ∃ y_ : List Int, y_ = (x7_2 ++ [(rd_T94 t584 x8_2).f0]) := ⟨_, rfl⟩; replace H : (R15Pair.l1 k2 t584 t591 y602 (wrap64 (x8_2 + 1))) = some (r1, r2, r3) := apY hy602 H; have Ny602 := am hy602; clear hy602; have H' := am H; clear H; obtain ⟨Ao34, co34, eo34⟩ := Kd.V_slice HO_5.out; subst eo34; have p597 : 0 ≤ (x8_2 : Int) := apD; have q597 : x8_2 < (t584.length : Int) := apD; obtain ⟨ad597, e597, hx597_0, hx597_1⟩ := at_T94 (Kd.V_reads' HO_5.out).2.2 x8_2 p597 q597; (try rw [← Nbq26.out] at hx597_1); cases e597; replace p597 := eq_true p597; replace q597 := eq_true q597; have p598 : 0 ≤ (x8_2 : Int) := apD; have q598 : x8_2 < (t584.length : Int) := apD; obtain ⟨ad598, e598, hx598_0, hx598_1⟩ := at_T94 (Kd.V_reads' HO_5.out).2.2 x8_2 p598 q598; (try rw [← Nbq26.out] at hx598_1); obtain rfl : ad597 = ad598 := (by injection e598); replace p598 := eq_true p598; replace q598 := eq_true q598; go_wp2_with (first | ((with_reducible refine gate_builtin (b := .append) (xs := #[.tmp 76, .tmp 78]) rfl ?_); at_builtin; refine Kd.R_append (Kd.int .u8) (w0 := w) w.heap.size rfl (.tmp 76) (.tmp 78) 82 5 (.int .u8 0) 1 rfl Tryz.underlying82 info5 rfl (by decide) (by omega) u7 x7_2 ((rd_T94 t584 x8_2).f0) [.int .u8 ((rd_T94 t584 x8_2).f0)] (fun _ => True) (fun _ => False) rfl rfl ?aP (fun _ hk => hk.elim) ?aF ?aO ?aB ?aS ?aL ?_; (case aP => exact rfl); (case aB => exact (apG GE577.out)); (case aF => exact (fun _ _ => trivial)); (case aO => exact (apAR HO_7.out)); (case aS => exact (below_size (apG GE577.out))); (case aL => have := LMc33.out; omega); intro v603 w35 ho hb hg hat; rw [← Ny602.out] at ho; replace HO_5 := am (Kd.V_afterv (ok := (fun k_ => k_ ≠ gb577)) (by (with_reducible repeat (first | apply Kd.V_alloc | apply Kd.V_drewN | apply Kd.V_drew)); exact Kd.V_mono HO_5.out (fun _ hk => ⟨hk.2, hk.1⟩)) hg hat); replace HO_6 := am (Kd.V_afterv (ok := (fun k_ => k_ ≠ gb577)) (by (with_reducible repeat (first | apply Kd.V_alloc | apply Kd.V_drewN | apply Kd.V_drew)); exact Kd.V_mono HO_6.out (fun _ hk => ⟨hk.2, hk.1⟩)) hg hat); replace BK577 := am (blk_grown (g := gb577) (o := .cells #[.string x578000_2, .string x578001_2] 96 (0, 0)) (apB BK577.out) hg (Kd.R_ne HO_7.out BK577.out (by decide))); have HO604 := am (ho); replace HB := am (hb); clear ho hb hg hat)); go_roundg k2; (case measure => have := HJ1.out; have := HK2.out; omega); case rel => exact ⟨(y602), (wrap64 (x8_2 + 1)), (x578000_2), (x578001_2), ap2, H', ⟨by have := HJ1.out; have := HK2.out; omega⟩, ⟨by (with_reducible repeat (first | apply Kd.V_alloc | apply Kd.V_drewN | apply Kd.V_drew)); exact Kd.V_mono HO_5.out (fun _ hk => ⟨hk.2, hk.1⟩)⟩, ⟨by (with_reducible repeat (first | apply Kd.V_alloc | apply Kd.V_drewN | apply Kd.V_drew)); exact Kd.V_mono HO_6.out (fun _ hk => ⟨hk.2, hk.1⟩)⟩, ⟨apAR HO604.out⟩, ⟨apB BK577.out⟩, ⟨apG1 GE577.out⟩⟩
              ·rw [if_neg c33] at H; exact absurd H (by simp)
            ·intro c28b0 H; by_cases c36 : x7_2.length < 140737488355328
             ·rw [if_pos c36] at H; have LMc36 := am c36; clear c36; obtain ⟨y605, hy605⟩ : ∃ y_ : List Int, y_ = (x7_2 ++ [(rd_T94 t584 x8_2).f0]) := ⟨_, rfl⟩; replace H : (R15Pair.l1 k2 t584 t591 y605 (wrap64 (x8_2 + 1))) = some (r1, r2, r3) := apY hy605 H; have Ny605 := am hy605; clear hy605; have H' := am H; clear H; obtain ⟨Ao37, co37, eo37⟩ := Kd.V_slice HO_5.out; subst eo37; have p597 : 0 ≤ (x8_2 : Int) := apD; have q597 : x8_2 < (t584.length : Int) := apD; obtain ⟨ad597, e597, hx597_0, hx597_1⟩ := at_T94 (Kd.V_reads' HO_5.out).2.2 x8_2 p597 q597; (try rw [← Nbq26.out] at hx597_1); cases e597; replace p597 := eq_true p597; replace q597 := eq_true q597; have p598 : 0 ≤ (x8_2 : Int) := apD; have q598 : x8_2 < (t584.length : Int) := apD; obtain ⟨ad598, e598, hx598_0, hx598_1⟩ := at_T94 (Kd.V_reads' HO_5.out).2.2 x8_2 p598 q598; (try rw [← Nbq26.out] at hx598_1); obtain rfl : ad597 = ad598 := (by injection e598); replace p598 := eq_true p598; replace q598 := eq_true q598; go_wp2_with (first | ((with_reducible refine gate_builtin (b := .append) (xs := #[.tmp 76, .tmp 78]) rfl ?_); at_builtin; refine Kd.R_append (Kd.int .u8) (w0 := w) w.heap.size rfl (.tmp 76) (.tmp 78) 82 5 (.int .u8 0) 1 rfl Tryz.underlying82 info5 rfl (by decide) (by omega) u7 x7_2 ((rd_T94 t584 x8_2).f0) [.int .u8 ((rd_T94 t584 x8_2).f0)] (fun _ => True) (fun _ => False) rfl rfl ?aP (fun _ hk => hk.elim) ?aF ?aO ?aB ?aS ?aL ?_; (case aP => exact rfl); (case aB => exact (apG GE577.out)); (case aF => exact (fun _ _ => trivial)); (case aO => exact (apAR HO_7.out)); (case aS => exact (below_size (apG GE577.out))); (case aL => have := LMc36.out; omega); intro v606 w38 ho hb hg hat; rw [← Ny605.out] at ho; replace HO_5 := am (Kd.V_afterv (ok := (fun k_ => k_ ≠ gb577)) (by (with_reducible repeat (first | apply Kd.V_alloc | apply Kd.V_drewN | apply Kd.V_drew)); exact Kd.V_mono HO_5.out (fun _ hk => ⟨hk.2, hk.1⟩)) hg hat); replace HO_6 := am (Kd.V_afterv (ok := (fun k_ => k_ ≠ gb577)) (by (with_reducible repeat (first | apply Kd.V_alloc | apply Kd.V_drewN | apply Kd.V_drew)); exact Kd.V_mono HO_6.out (fun _ hk => ⟨hk.2, hk.1⟩)) hg hat); replace BK577 := am (blk_grown (g := gb577) (o := .cells #[.string x578000_2, .string x578001_2] 96 (0, 0)) (apB BK577.out) hg (Kd.R_ne HO_7.out BK577.out (by decide))); have HO607 := am (ho); replace HB := am (hb); clear ho hb hg hat)); go_roundg k2; (case measure => have := HJ1.out; have := HK2.out; omega); case rel => exact ⟨(y605), (wrap64 (x8_2 + 1)), (x578000_2), (x578001_2), ap2, H', ⟨by have := HJ1.out; have := HK2.out; omega⟩, ⟨by (with_reducible repeat (first | apply Kd.V_alloc | apply Kd.V_drewN | apply Kd.V_drew)); exact Kd.V_mono HO_5.out (fun _ hk => ⟨hk.2, hk.1⟩)⟩, ⟨by (with_reducible repeat (first | apply Kd.V_alloc | apply Kd.V_drewN | apply Kd.V_drew)); exact Kd.V_mono HO_6.out (fun _ hk => ⟨hk.2, hk.1⟩)⟩, ⟨apAR HO607.out⟩, ⟨apB BK577.out⟩, ⟨apG1 GE577.out⟩⟩
             ·rw [if_neg c36] at H; exact absurd H (by simp)
           ·rintro rfl H; simp only [Option.some.injEq, Prod.mk.injEq] at H; obtain ⟨rfl, rfl, rfl⟩ := H; obtain ⟨Ao39, co39, eo39⟩ := Kd.V_slice HO_5.out; subst eo39; have p597 : 0 ≤ (x8_2 : Int) := apD; have q597 : x8_2 < (t584.length : Int) := apD; obtain ⟨ad597, e597, hx597_0, hx597_1⟩ := at_T94 (Kd.V_reads' HO_5.out).2.2 x8_2 p597 q597; (try rw [← Nbq26.out] at hx597_1); cases e597; replace p597 := eq_true p597; replace q597 := eq_true q597; have p598 : 0 ≤ (x8_2 : Int) := apD; have q598 : x8_2 < (t584.length : Int) := apD; obtain ⟨ad598, e598, hx598_0, hx598_1⟩ := at_T94 (Kd.V_reads' HO_5.out).2.2 x8_2 p598 q598; (try rw [← Nbq26.out] at hx598_1); obtain rfl : ad597 = ad598 := (by injection e598); replace p598 := eq_true p598; replace q598 := eq_true q598; obtain ⟨hcz40_0, hcz40_1, hfz40_0, hfz40_1⟩ := bc2 BK577.out; go_wp2; refine bodyPost_ret (results_ct rfl _ _ gb577 96 #[.string (⟨#[]⟩ : ByteArray), .string (⟨#[]⟩ : ByteArray)] (0, 0) _ rfl (by (with_reducible repeat (first | refine blk_drewN ?_ _ | refine blk_drew ?_ | refine blk_alloc ?_ _)); refine blk_put (cs := #[.string (⟨#[]⟩ : ByteArray), .string x578001_2]) ?_ 1 _ rfl; (with_reducible repeat (first | refine blk_drewN ?_ _ | refine blk_drew ?_ | refine blk_alloc ?_ _)); refine blk_put (cs := #[.string x578000_2, .string x578001_2]) ?_ 0 _ rfl; (with_reducible repeat (first | refine blk_drewN ?_ _ | refine blk_drew ?_ | refine blk_alloc ?_ _)); exact BK577.out) Tryz.underlying96 rfl (by kernel_rfl)) rfl ?_; exact ⟨by first | rfl | (simp [errW_none, errW_some, bne_nil8, beq_nil8]; done) | (simp [errW_none, errW_some] <;> rfl) | (simp only [← hji14]; first | rfl | (simp [errW_none, errW_some] <;> rfl)) | (simp [*, errW_none, errW_some] <;> rfl), apG1 GE577.out⟩
          ·intro c24b0 H; obtain ⟨y608, hy608⟩ : ∃ y_ : List Int, y_ = (([] : List Int)) := ⟨_, rfl⟩; replace H : (R15Pair.l2 k2 t591 x7_2 y608 0) = some (r1, r2, r3) := apY hy608 H; have Ny608 := am hy608; clear hy608; have H' := am H; clear H; obtain ⟨Ao41, co41, eo41⟩ := Kd.V_slice HO_5.out; subst eo41; go_wp2_with (first | ((with_reducible refine gate_dst (N := 80) rfl ?_); refine Kd.R_lit (Kd.int .u8) _ 5 ?hg (N := 80) ?hd (xs := ([] : List Int)) (inner := []) (ok := fun _ => True) (okp := fun _ => True) ?hr ?hp (fun _ hk => hk) trivial (Below.refl _ _) (Nat.le_refl _) (by simp) ?_; (case hd => rfl); (case hg => rfl); (case hr => first | (go_simp; done) | (go_simp; rfl)); (case hp => exact (Reps.none _ _)); intro v609 w42 ho43 hb hg_ hnew_; clear hg_ hnew_; (first | rw [← Ny608.out] at ho43 | (simp only [Int.reduceToNat] at ho43; rw [← Ny608.out] at ho43)); have n0_ := am (Kd.V_elder' (apAV HO_5.out) (Kd.R_base ho43) hb); have n1_ := am (Kd.V_elder' (apAV HO_6.out) (Kd.R_base ho43) hb); have n2_ := am (Kd.R_elder' (apAR HO_7.out) (Kd.R_base ho43) hb); have n3_ := am (Kd.R_lower (Kd.R_new' ho43 (Kd.R_lt (apAR HO_7.out))) (below_size (apG GE577.out))); have n4_ := am (blk_below (g := gb577) (o := .cells #[.string x578000_2, .string x578001_2] 96 (0, 0)) (apB BK577.out) hb); have n5_ := am (below_step (apG GE577.out) hb); clear HO_5; clear HO_6; clear HO_7; clear BK577; clear HB; have HO_5 := n0_; have HO_6 := n1_; have HO_7 := n2_; have HO610 := n3_; have BK577 := n4_; have HB := n5_; clear n0_ n1_ n2_ n3_ n4_ n5_; clear hb ho43)); go_loopg [10, 11] k2 (fun kq v10 v11 w' => ∃ (x10_3 : List Int) (x11_3 : Int) (x578000_3 : ByteArray) (x578001_3 : ByteArray), v11 = .int .i64 x11_3 ∧ Aside0 (R15Pair.l2 kq t591 x7_2 x10_3 x11_3 = some (r1, r2, r3)) ∧ Aside0 (kq ≤ k2) ∧ Aside0 (Kd.V k94 94 w' w.heap.size (fun k_ => some k_ ≠ (u7 : Value).ownBlock ∧ some k_ ≠ (v10 : Value).ownBlock ∧ k_ ≠ gb577) v592 t591) ∧ Aside0 (Kd.R (Kd.int .u8) 5 w' w.heap.size (fun k_ => some k_ ≠ (v10 : Value).ownBlock) u7 x7_2) ∧ Aside0 (Kd.R (Kd.int .u8) 5 w' w.heap.size (fun k_ => some k_ ≠ (u7 : Value).ownBlock) v10 x10_3) ∧ Aside0 (w'.heap[gb577]? = some (.cells #[.string x578000_3, .string x578001_3] 96 (0, 0))) ∧ Aside0 (Below w.heap.size w w')); (case atStart => exact ⟨(y608), (0), (x578000_2), (x578001_2), ap2, H', ⟨Nat.le_refl _⟩, ⟨by (with_reducible repeat (first | apply Kd.V_alloc | apply Kd.V_drewN | apply Kd.V_drew)); exact Kd.V_mono HO_6.out (fun _ hk => ⟨hk.1.1, ⟨hk.2, hk.1.2⟩⟩)⟩, ⟨by (with_reducible repeat (first | apply Kd.R_alloc | apply Kd.R_drewN | apply Kd.R_drew)); exact Kd.R_mono HO_7.out (fun _ hk => hk.2)⟩, ⟨by (with_reducible repeat (first | apply Kd.R_alloc | apply Kd.R_drewN | apply Kd.R_drew)); exact Kd.R_mono HO610.out (fun _ hk => hk.2)⟩, ⟨apB BK577.out⟩, ⟨apG1 GE577.out⟩⟩); case round =>
            clear H'; (try clear c1); (try clear c9); (try clear c9b0); (try clear c9b1); (try clear c11); (try clear c11b0); (try clear c11b1); (try clear c12); (try clear c12b0); (try clear c12b1); (try clear c15); (try clear c15b0); (try clear c15b1); (try clear c16); (try clear c16b0); (try clear c16b1); (try clear q18); (try clear c20); (try clear q20); (try clear c24); (try clear c24b0); (try clear q020); (try clear q18); (try clear q20); obtain ⟨x10_3, x11_3, x578000_3, x578001_3, rfl, HA, HK3, HO_6, HO_7, HO_10, BK577, HB⟩ := hrel; cases gk with
            | zero => exact absurd HA.out (by simp [R15Pair.l2])
            | succ k3 =>
             have H := HA.out; clear HA; simp only [R15Pair.l2] at H; revert H; refine spd00 ?_ ?_
             ·intro c44b0 H; revert H; refine spn0 ?_; intro c45b0 H; obtain ⟨bq46, hbq46⟩ : ∃ b_ : Bool, b_ = ((rd_T94 t591 x11_3).f1) := ⟨_, rfl⟩; replace H : (if bq46 = true then (if ((rd_T94 t591 x11_3).f0) = 34 then (some ((⟨#[]⟩ : ByteArray), (⟨#[]⟩ : ByteArray), false)) else (if ((rd_T94 t591 x11_3).f0) = 60 then (some ((⟨#[]⟩ : ByteArray), (⟨#[]⟩ : ByteArray), false)) else (if ((rd_T94 t591 x11_3).f0) = 62 then (some ((⟨#[]⟩ : ByteArray), (⟨#[]⟩ : ByteArray), false)) else (if ((rd_T94 t591 x11_3).f0) = 35 then (if x11_3 = 0 then (some ((⟨#[]⟩ : ByteArray), (⟨#[]⟩ : ByteArray), false)) else (if x10_3.length < 140737488355328 then (R15Pair.l2 k3 t591 x7_2 (x10_3 ++ [(rd_T94 t591 x11_3).f0]) (wrap64 (x11_3 + 1))) else (none))) else (if x10_3.length < 140737488355328 then (R15Pair.l2 k3 t591 x7_2 (x10_3 ++ [(rd_T94 t591 x11_3).f0]) (wrap64 (x11_3 + 1))) else (none)))))) else (if x10_3.length < 140737488355328 then (R15Pair.l2 k3 t591 x7_2 (x10_3 ++ [(rd_T94 t591 x11_3).f0]) (wrap64 (x11_3 + 1))) else (none))) = some (r1, r2, r3) := by rw [← hbq46] at H; exact H
              have Nbq46 := am hbq46; clear hbq46; revert H; refine spb ?_ ?_
              ·rintro rfl H; revert H; refine spe01 ?_ ?_
               ·intro c48b0 c48b1 H; simp only [Option.some.injEq, Prod.mk.injEq] at H; obtain ⟨rfl, rfl, rfl⟩ := H; obtain ⟨Ao49, co49, eo49⟩ := Kd.V_slice HO_6.out; subst eo49; have p611 : 0 ≤ (x11_3 : Int) := apD; have q611 : x11_3 < (t591.length : Int) := apD; obtain ⟨ad611, e611, hx611_0, hx611_1⟩ := at_T94 (Kd.V_reads' HO_6.out).2.2 x11_3 p611 q611; (try rw [← Nbq46.out] at hx611_1); cases e611; replace p611 := eq_true p611; replace q611 := eq_true q611; have p612 : 0 ≤ (x11_3 : Int) := apD; have q612 : x11_3 < (t591.length : Int) := apD; obtain ⟨ad612, e612, hx612_0, hx612_1⟩ := at_T94 (Kd.V_reads' HO_6.out).2.2 x11_3 p612 q612; (try rw [← Nbq46.out] at hx612_1); obtain rfl : ad611 = ad612 := (by injection e612); replace p612 := eq_true p612; replace q612 := eq_true q612; obtain ⟨hcz50_0, hcz50_1, hfz50_0, hfz50_1⟩ := bc2 BK577.out; go_wp2; refine bodyPost_ret (results_ct rfl _ _ gb577 96 #[.string (⟨#[]⟩ : ByteArray), .string (⟨#[]⟩ : ByteArray)] (0, 0) _ rfl (by (with_reducible repeat (first | refine blk_drewN ?_ _ | refine blk_drew ?_ | refine blk_alloc ?_ _)); refine blk_put (cs := #[.string (⟨#[]⟩ : ByteArray), .string x578001_3]) ?_ 1 _ rfl; (with_reducible repeat (first | refine blk_drewN ?_ _ | refine blk_drew ?_ | refine blk_alloc ?_ _)); refine blk_put (cs := #[.string x578000_3, .string x578001_3]) ?_ 0 _ rfl; (with_reducible repeat (first | refine blk_drewN ?_ _ | refine blk_drew ?_ | refine blk_alloc ?_ _)); exact BK577.out) Tryz.underlying96 rfl (by kernel_rfl)) rfl ?_; exact ⟨by first | rfl | (simp [errW_none, errW_some, bne_nil8, beq_nil8]; done) | (simp [errW_none, errW_some] <;> rfl) | (simp only [← hji14]; first | rfl | (simp [errW_none, errW_some] <;> rfl)) | (simp [*, errW_none, errW_some] <;> rfl), apG1 GE577.out⟩
               ·intro c48 c48b0 c48b1 H; revert H; refine spe01 ?_ ?_
                ·intro c51b0 c51b1 H; simp only [Option.some.injEq, Prod.mk.injEq] at H; obtain ⟨rfl, rfl, rfl⟩ := H; obtain ⟨Ao52, co52, eo52⟩ := Kd.V_slice HO_6.out; subst eo52; have p611 : 0 ≤ (x11_3 : Int) := apD; have q611 : x11_3 < (t591.length : Int) := apD; obtain ⟨ad611, e611, hx611_0, hx611_1⟩ := at_T94 (Kd.V_reads' HO_6.out).2.2 x11_3 p611 q611; (try rw [← Nbq46.out] at hx611_1); cases e611; replace p611 := eq_true p611; replace q611 := eq_true q611; have p612 : 0 ≤ (x11_3 : Int) := apD; have q612 : x11_3 < (t591.length : Int) := apD; obtain ⟨ad612, e612, hx612_0, hx612_1⟩ := at_T94 (Kd.V_reads' HO_6.out).2.2 x11_3 p612 q612; (try rw [← Nbq46.out] at hx612_1); obtain rfl : ad611 = ad612 := (by injection e612); replace p612 := eq_true p612; replace q612 := eq_true q612; obtain ⟨hcz53_0, hcz53_1, hfz53_0, hfz53_1⟩ := bc2 BK577.out; go_wp2; refine bodyPost_ret (results_ct rfl _ _ gb577 96 #[.string (⟨#[]⟩ : ByteArray), .string (⟨#[]⟩ : ByteArray)] (0, 0) _ rfl (by (with_reducible repeat (first | refine blk_drewN ?_ _ | refine blk_drew ?_ | refine blk_alloc ?_ _)); refine blk_put (cs := #[.string (⟨#[]⟩ : ByteArray), .string x578001_3]) ?_ 1 _ rfl; (with_reducible repeat (first | refine blk_drewN ?_ _ | refine blk_drew ?_ | refine blk_alloc ?_ _)); refine blk_put (cs := #[.string x578000_3, .string x578001_3]) ?_ 0 _ rfl; (with_reducible repeat (first | refine blk_drewN ?_ _ | refine blk_drew ?_ | refine blk_alloc ?_ _)); exact BK577.out) Tryz.underlying96 rfl (by kernel_rfl)) rfl ?_; exact ⟨by first | rfl | (simp [errW_none, errW_some, bne_nil8, beq_nil8]; done) | (simp [errW_none, errW_some] <;> rfl) | (simp only [← hji14]; first | rfl | (simp [errW_none, errW_some] <;> rfl)) | (simp [*, errW_none, errW_some] <;> rfl), apG1 GE577.out⟩
                ·intro c51 c51b0 c51b1 H; revert H; refine spe01 ?_ ?_
                 ·intro c54b0 c54b1 H; simp only [Option.some.injEq, Prod.mk.injEq] at H; obtain ⟨rfl, rfl, rfl⟩ := H; obtain ⟨Ao55, co55, eo55⟩ := Kd.V_slice HO_6.out; subst eo55; have p611 : 0 ≤ (x11_3 : Int) := apD; have q611 : x11_3 < (t591.length : Int) := apD; obtain ⟨ad611, e611, hx611_0, hx611_1⟩ := at_T94 (Kd.V_reads' HO_6.out).2.2 x11_3 p611 q611; (try rw [← Nbq46.out] at hx611_1); cases e611; replace p611 := eq_true p611; replace q611 := eq_true q611; have p612 : 0 ≤ (x11_3 : Int) := apD; have q612 : x11_3 < (t591.length : Int) := apD; obtain ⟨ad612, e612, hx612_0, hx612_1⟩ := at_T94 (Kd.V_reads' HO_6.out).2.2 x11_3 p612 q612; (try rw [← Nbq46.out] at hx612_1); obtain rfl : ad611 = ad612 := (by injection e612); replace p612 := eq_true p612; replace q612 := eq_true q612; obtain ⟨hcz56_0, hcz56_1, hfz56_0, hfz56_1⟩ := bc2 BK577.out; go_wp2; refine bodyPost_ret (results_ct rfl _ _ gb577 96 #[.string (⟨#[]⟩ : ByteArray), .string (⟨#[]⟩ : ByteArray)] (0, 0) _ rfl (by (with_reducible repeat (first | refine blk_drewN ?_ _ | refine blk_drew ?_ | refine blk_alloc ?_ _)); refine blk_put (cs := #[.string (⟨#[]⟩ : ByteArray), .string x578001_3]) ?_ 1 _ rfl; (with_reducible repeat (first | refine blk_drewN ?_ _ | refine blk_drew ?_ | refine blk_alloc ?_ _)); refine blk_put (cs := #[.string x578000_3, .string x578001_3]) ?_ 0 _ rfl; (with_reducible repeat (first | refine blk_drewN ?_ _ | refine blk_drew ?_ | refine blk_alloc ?_ _)); exact BK577.out) Tryz.underlying96 rfl (by kernel_rfl)) rfl ?_; exact ⟨by first | rfl | (simp [errW_none, errW_some, bne_nil8, beq_nil8]; done) | (simp [errW_none, errW_some] <;> rfl) | (simp only [← hji14]; first | rfl | (simp [errW_none, errW_some] <;> rfl)) | (simp [*, errW_none, errW_some] <;> rfl), apG1 GE577.out⟩
                 ·intro c54 c54b0 c54b1 H; revert H; refine spe01 ?_ ?_
                  ·intro c57b0 c57b1 H; revert H; refine spe01 ?_ ?_
                   ·intro c58b0 c58b1 H; simp only [Option.some.injEq, Prod.mk.injEq] at H; obtain ⟨rfl, rfl, rfl⟩ := H; obtain ⟨Ao59, co59, eo59⟩ := Kd.V_slice HO_6.out; subst eo59; have p611 : 0 ≤ (x11_3 : Int) := apD; have q611 : x11_3 < (t591.length : Int) := apD; obtain ⟨ad611, e611, hx611_0, hx611_1⟩ := at_T94 (Kd.V_reads' HO_6.out).2.2 x11_3 p611 q611; (try rw [← Nbq46.out] at hx611_1); cases e611; replace p611 := eq_true p611; replace q611 := eq_true q611; have p612 : 0 ≤ (x11_3 : Int) := apD; have q612 : x11_3 < (t591.length : Int) := apD; obtain ⟨ad612, e612, hx612_0, hx612_1⟩ := at_T94 (Kd.V_reads' HO_6.out).2.2 x11_3 p612 q612; (try rw [← Nbq46.out] at hx612_1); obtain rfl : ad611 = ad612 := (by injection e612); replace p612 := eq_true p612; replace q612 := eq_true q612; obtain ⟨hcz60_0, hcz60_1, hfz60_0, hfz60_1⟩ := bc2 BK577.out; go_wp2; refine bodyPost_ret (results_ct rfl _ _ gb577 96 #[.string (⟨#[]⟩ : ByteArray), .string (⟨#[]⟩ : ByteArray)] (0, 0) _ rfl (by (with_reducible repeat (first | refine blk_drewN ?_ _ | refine blk_drew ?_ | refine blk_alloc ?_ _)); refine blk_put (cs := #[.string (⟨#[]⟩ : ByteArray), .string x578001_3]) ?_ 1 _ rfl; (with_reducible repeat (first | refine blk_drewN ?_ _ | refine blk_drew ?_ | refine blk_alloc ?_ _)); refine blk_put (cs := #[.string x578000_3, .string x578001_3]) ?_ 0 _ rfl; (with_reducible repeat (first | refine blk_drewN ?_ _ | refine blk_drew ?_ | refine blk_alloc ?_ _)); exact BK577.out) Tryz.underlying96 rfl (by kernel_rfl)) rfl ?_; exact ⟨by first | rfl | (simp [errW_none, errW_some, bne_nil8, beq_nil8]; done) | (simp [errW_none, errW_some] <;> rfl) | (simp only [← hji14]; first | rfl | (simp [errW_none, errW_some] <;> rfl)) | (simp [*, errW_none, errW_some] <;> rfl), apG1 GE577.out⟩
                   ·intro c58 c58b0 c58b1 H; by_cases c61 : x10_3.length < 140737488355328
                    ·rw [if_pos c61] at H; have LMc61 := am c61; clear c61; obtain ⟨y613, hy613⟩ : ∃ y_ : List Int, y_ = (x10_3 ++ [(rd_T94 t591 x11_3).f0]) := ⟨_, rfl⟩; replace H : (R15Pair.l2 k3 t591 x7_2 y613 (wrap64 (x11_3 + 1))) = some (r1, r2, r3) := apY hy613 H; have Ny613 := am hy613; clear hy613; have H' := am H; clear H; obtain ⟨Ao62, co62, eo62⟩ := Kd.V_slice HO_6.out; subst eo62; have p611 : 0 ≤ (x11_3 : Int) := apD; have q611 : x11_3 < (t591.length : Int) := apD; obtain ⟨ad611, e611, hx611_0, hx611_1⟩ := at_T94 (Kd.V_reads' HO_6.out).2.2 x11_3 p611 q611; (try rw [← Nbq46.out] at hx611_1); cases e611; replace p611 := eq_true p611; replace q611 := eq_true q611; have p612 : 0 ≤ (x11_3 : Int) := apD; have q612 : x11_3 < (t591.length : Int) := apD; obtain ⟨ad612, e612, hx612_0, hx612_1⟩ := at_T94 (Kd.V_reads' HO_6.out).2.2 x11_3 p612 q612; (try rw [← Nbq46.out] at hx612_1); obtain rfl : ad611 = ad612 := (by injection e612); replace p612 := eq_true p612; replace q612 := eq_true q612; go_wp2_with (first | ((with_reducible refine gate_builtin (b := .append) (xs := #[.tmp 118, .tmp 120]) rfl ?_); at_builtin; refine Kd.R_append (Kd.int .u8) (w0 := w) w.heap.size rfl (.tmp 118) (.tmp 120) 82 5 (.int .u8 0) 1 rfl Tryz.underlying82 info5 rfl (by decide) (by omega) u10 x10_3 ((rd_T94 t591 x11_3).f0) [.int .u8 ((rd_T94 t591 x11_3).f0)] (fun k_ => some k_ ≠ (u7 : Value).ownBlock) (fun _ => False) rfl rfl ?aP (fun _ hk => hk.elim) ?aF ?aO ?aB ?aS ?aL ?_; (case aP => exact rfl); (case aB => exact (apG GE577.out)); (case aF => exact (fun k_ hk => Kd.fresh' (Kd.R_lt (apAR HO_7.out)) k_ hk)); (case aO => exact (apAR HO_10.out)); (case aS => exact (below_size (apG GE577.out))); (case aL => have := LMc61.out; omega); intro v614 w63 ho hb hg hat; rw [← Ny613.out] at ho; replace HO_6 := am (Kd.V_afterv (ok := (fun k_ => some k_ ≠ (u7 : Value).ownBlock ∧ k_ ≠ gb577)) (by (with_reducible repeat (first | apply Kd.V_alloc | apply Kd.V_drewN | apply Kd.V_drew)); exact Kd.V_mono HO_6.out (fun _ hk => ⟨⟨hk.1, hk.2.2⟩, hk.2.1⟩)) hg hat); replace HO_7 := am (Kd.R_after (ok := (fun _ => True)) (by (with_reducible repeat (first | apply Kd.R_alloc | apply Kd.R_drewN | apply Kd.R_drew)); exact Kd.R_mono HO_7.out (fun _ hk => ⟨trivial, hk⟩)) hg hat); replace BK577 := am (blk_grown (g := gb577) (o := .cells #[.string x578000_3, .string x578001_3] 96 (0, 0)) (apB BK577.out) hg (Kd.R_ne HO_10.out BK577.out (by decide))); have HO615 := am (ho); replace HB := am (hb); clear ho hb hg hat)); go_roundg k3; (case measure => have := HJ1.out; have := HK2.out; have := HK3.out; omega); case rel => exact ⟨(y613), (wrap64 (x11_3 + 1)), (x578000_3), (x578001_3), ap2, H', ⟨by have := HJ1.out; have := HK2.out; have := HK3.out; omega⟩, ⟨by (with_reducible repeat (first | apply Kd.V_alloc | apply Kd.V_drewN | apply Kd.V_drew)); exact Kd.V_mono HO_6.out (fun _ hk => ⟨hk.1.1, ⟨hk.2, hk.1.2⟩⟩)⟩, ⟨by (with_reducible repeat (first | apply Kd.R_alloc | apply Kd.R_drewN | apply Kd.R_drew)); exact Kd.R_mono HO_7.out (fun _ hk => hk.2)⟩, ⟨apAR HO615.out⟩, ⟨apB BK577.out⟩, ⟨apG1 GE577.out⟩⟩
                    ·rw [if_neg c61] at H; exact absurd H (by simp)
                  ·intro c57 c57b0 c57b1 H; by_cases c64 : x10_3.length < 140737488355328
                   ·rw [if_pos c64] at H; have LMc64 := am c64; clear c64; obtain ⟨y616, hy616⟩ : ∃ y_ : List Int, y_ = (x10_3 ++ [(rd_T94 t591 x11_3).f0]) := ⟨_, rfl⟩; replace H : (R15Pair.l2 k3 t591 x7_2 y616 (wrap64 (x11_3 + 1))) = some (r1, r2, r3) := apY hy616 H; have Ny616 := am hy616; clear hy616; have H' := am H; clear H; obtain ⟨Ao65, co65, eo65⟩ := Kd.V_slice HO_6.out; subst eo65; have p611 : 0 ≤ (x11_3 : Int) := apD; have q611 : x11_3 < (t591.length : Int) := apD; obtain ⟨ad611, e611, hx611_0, hx611_1⟩ := at_T94 (Kd.V_reads' HO_6.out).2.2 x11_3 p611 q611; (try rw [← Nbq46.out] at hx611_1); cases e611; replace p611 := eq_true p611; replace q611 := eq_true q611; have p612 : 0 ≤ (x11_3 : Int) := apD; have q612 : x11_3 < (t591.length : Int) := apD; obtain ⟨ad612, e612, hx612_0, hx612_1⟩ := at_T94 (Kd.V_reads' HO_6.out).2.2 x11_3 p612 q612; (try rw [← Nbq46.out] at hx612_1); obtain rfl : ad611 = ad612 := (by injection e612); replace p612 := eq_true p612; replace q612 := eq_true q612; go_wp2_with (first | ((with_reducible refine gate_builtin (b := .append) (xs := #[.tmp 118, .tmp 120]) rfl ?_); at_builtin; refine Kd.R_append (Kd.int .u8) (w0 := w) w.heap.size rfl (.tmp 118) (.tmp 120) 82 5 (.int .u8 0) 1 rfl Tryz.underlying82 info5 rfl (by decide) (by omega) u10 x10_3 ((rd_T94 t591 x11_3).f0) [.int .u8 ((rd_T94 t591 x11_3).f0)] (fun k_ => some k_ ≠ (u7 : Value).ownBlock) (fun _ => False) rfl rfl ?aP (fun _ hk => hk.elim) ?aF ?aO ?aB ?aS ?aL ?_; (case aP => exact rfl); (case aB => exact (apG GE577.out)); (case aF => exact (fun k_ hk => Kd.fresh' (Kd.R_lt (apAR HO_7.out)) k_ hk)); (case aO => exact (apAR HO_10.out)); (case aS => exact (below_size (apG GE577.out))); (case aL => have := LMc64.out; omega); intro v617 w66 ho hb hg hat; rw [← Ny616.out] at ho; replace HO_6 := am (Kd.V_afterv (ok := (fun k_ => some k_ ≠ (u7 : Value).ownBlock ∧ k_ ≠ gb577)) (by (with_reducible repeat (first | apply Kd.V_alloc | apply Kd.V_drewN | apply Kd.V_drew)); exact Kd.V_mono HO_6.out (fun _ hk => ⟨⟨hk.1, hk.2.2⟩, hk.2.1⟩)) hg hat); replace HO_7 := am (Kd.R_after (ok := (fun _ => True)) (by (with_reducible repeat (first | apply Kd.R_alloc | apply Kd.R_drewN | apply Kd.R_drew)); exact Kd.R_mono HO_7.out (fun _ hk => ⟨trivial, hk⟩)) hg hat); replace BK577 := am (blk_grown (g := gb577) (o := .cells #[.string x578000_3, .string x578001_3] 96 (0, 0)) (apB BK577.out) hg (Kd.R_ne HO_10.out BK577.out (by decide))); have HO618 := am (ho); replace HB := am (hb); clear ho hb hg hat)); go_roundg k3; (case measure => have := HJ1.out; have := HK2.out; have := HK3.out; omega); case rel => exact ⟨(y616), (wrap64 (x11_3 + 1)), (x578000_3), (x578001_3), ap2, H', ⟨by have := HJ1.out; have := HK2.out; have := HK3.out; omega⟩, ⟨by (with_reducible repeat (first | apply Kd.V_alloc | apply Kd.V_drewN | apply Kd.V_drew)); exact Kd.V_mono HO_6.out (fun _ hk => ⟨hk.1.1, ⟨hk.2, hk.1.2⟩⟩)⟩, ⟨by (with_reducible repeat (first | apply Kd.R_alloc | apply Kd.R_drewN | apply Kd.R_drew)); exact Kd.R_mono HO_7.out (fun _ hk => hk.2)⟩, ⟨apAR HO618.out⟩, ⟨apB BK577.out⟩, ⟨apG1 GE577.out⟩⟩
                   ·rw [if_neg c64] at H; exact absurd H (by simp)
              ·rintro rfl H; by_cases c67 : x10_3.length < 140737488355328
               ·rw [if_pos c67] at H; have LMc67 := am c67; clear c67; obtain ⟨y619, hy619⟩ : ∃ y_ : List Int, y_ = (x10_3 ++ [(rd_T94 t591 x11_3).f0]) := ⟨_, rfl⟩; replace H : (R15Pair.l2 k3 t591 x7_2 y619 (wrap64 (x11_3 + 1))) = some (r1, r2, r3) := apY hy619 H; have Ny619 := am hy619; clear hy619; have H' := am H; clear H; obtain ⟨Ao68, co68, eo68⟩ := Kd.V_slice HO_6.out; subst eo68; have p611 : 0 ≤ (x11_3 : Int) := apD; have q611 : x11_3 < (t591.length : Int) := apD; obtain ⟨ad611, e611, hx611_0, hx611_1⟩ := at_T94 (Kd.V_reads' HO_6.out).2.2 x11_3 p611 q611; (try rw [← Nbq46.out] at hx611_1); cases e611; replace p611 := eq_true p611; replace q611 := eq_true q611; have p612 : 0 ≤ (x11_3 : Int) := apD; have q612 : x11_3 < (t591.length : Int) := apD; obtain ⟨ad612, e612, hx612_0, hx612_1⟩ := at_T94 (Kd.V_reads' HO_6.out).2.2 x11_3 p612 q612; (try rw [← Nbq46.out] at hx612_1); obtain rfl : ad611 = ad612 := (by injection e612); replace p612 := eq_true p612; replace q612 := eq_true q612; go_wp2_with (first | ((with_reducible refine gate_builtin (b := .append) (xs := #[.tmp 118, .tmp 120]) rfl ?_); at_builtin; refine Kd.R_append (Kd.int .u8) (w0 := w) w.heap.size rfl (.tmp 118) (.tmp 120) 82 5 (.int .u8 0) 1 rfl Tryz.underlying82 info5 rfl (by decide) (by omega) u10 x10_3 ((rd_T94 t591 x11_3).f0) [.int .u8 ((rd_T94 t591 x11_3).f0)] (fun k_ => some k_ ≠ (u7 : Value).ownBlock) (fun _ => False) rfl rfl ?aP (fun _ hk => hk.elim) ?aF ?aO ?aB ?aS ?aL ?_; (case aP => exact rfl); (case aB => exact (apG GE577.out)); (case aF => exact (fun k_ hk => Kd.fresh' (Kd.R_lt (apAR HO_7.out)) k_ hk)); (case aO => exact (apAR HO_10.out)); (case aS => exact (below_size (apG GE577.out))); (case aL => have := LMc67.out; omega); intro v620 w69 ho hb hg hat; rw [← Ny619.out] at ho; replace HO_6 := am (Kd.V_afterv (ok := (fun k_ => some k_ ≠ (u7 : Value).ownBlock ∧ k_ ≠ gb577)) (by (with_reducible repeat (first | apply Kd.V_alloc | apply Kd.V_drewN | apply Kd.V_drew)); exact Kd.V_mono HO_6.out (fun _ hk => ⟨⟨hk.1, hk.2.2⟩, hk.2.1⟩)) hg hat); replace HO_7 := am (Kd.R_after (ok := (fun _ => True)) (by (with_reducible repeat (first | apply Kd.R_alloc | apply Kd.R_drewN | apply Kd.R_drew)); exact Kd.R_mono HO_7.out (fun _ hk => ⟨trivial, hk⟩)) hg hat); replace BK577 := am (blk_grown (g := gb577) (o := .cells #[.string x578000_3, .string x578001_3] 96 (0, 0)) (apB BK577.out) hg (Kd.R_ne HO_10.out BK577.out (by decide))); have HO621 := am (ho); replace HB := am (hb); clear ho hb hg hat)); go_roundg k3; (case measure => have := HJ1.out; have := HK2.out; have := HK3.out; omega); case rel => exact ⟨(y619), (wrap64 (x11_3 + 1)), (x578000_3), (x578001_3), ap2, H', ⟨by have := HJ1.out; have := HK2.out; have := HK3.out; omega⟩, ⟨by (with_reducible repeat (first | apply Kd.V_alloc | apply Kd.V_drewN | apply Kd.V_drew)); exact Kd.V_mono HO_6.out (fun _ hk => ⟨hk.1.1, ⟨hk.2, hk.1.2⟩⟩)⟩, ⟨by (with_reducible repeat (first | apply Kd.R_alloc | apply Kd.R_drewN | apply Kd.R_drew)); exact Kd.R_mono HO_7.out (fun _ hk => hk.2)⟩, ⟨apAR HO621.out⟩, ⟨apB BK577.out⟩, ⟨apG1 GE577.out⟩⟩
               ·rw [if_neg c67] at H; exact absurd H (by simp)
             ·intro c44b0 H; replace H := Option.bind_eq_some_iff.mp H; obtain ⟨t622, A700, H⟩ := H; replace H : (some (strOfNums x7_2, strOfNums x10_3, t622)) = some (r1, r2, r3) := H; have A70 := am A700; clear A700; simp only [Option.some.injEq, Prod.mk.injEq] at H; obtain ⟨rfl, rfl, rfl⟩ := H; obtain ⟨Ao71, co71, eo71⟩ := Kd.V_slice HO_6.out; subst eo71; (try go_wp2); have n0_ := am (Kd.V_drew HO_6.out); have n1_ := am (Kd.R_drew HO_7.out); have n2_ := am (Kd.R_drew HO_10.out); have n3_ := am (blk_drew BK577.out); have n4_ := am (below_drew1 HB.out); clear HO_6; clear HO_7; clear HO_10; clear BK577; clear HB; have HO_6 := n0_; have HO_7 := n1_; have HO_10 := n2_; have BK577 := n3_; have HB := n4_; clear n0_ n1_ n2_ n3_ n4_; have hcv73 := own_string (P := Tryz.prog) Tryz.underlying82 Tryz.underlying5 Tryz.underlying9 (Kd.own_of_R HO_7.out); have hcv74 := own_string (P := Tryz.prog) Tryz.underlying82 Tryz.underlying5 Tryz.underlying9 (Kd.own_of_R HO_10.out); have hcv75 := own_string (P := Tryz.prog) Tryz.underlying82 Tryz.underlying5 Tryz.underlying9 (Kd.own_of_R HO_7.out); refine start_ (n := 10) (S := fun w' => (convert 82 9 u7).run Tryz.prog w' = .ok (.string (strOfNums x7_2)) w' ∧ (convert 82 9 u10).run Tryz.prog w' = .ok (.string (strOfNums x10_3)) w') (ds := [8]) #[false, false, false, false, false, false, false, false, false, false] (by kernel_rfl) rfl rfl ⟨hcv73, hcv74⟩ (fun hHeld => ?_); refine with_tabW R15Pair.tab26 R15Pair.bits26 (fun HT_ HW_ => ?_); generalize wr.drew = w72 at HO_6 HO_7 HO_10 BK577 HB hHeld ⊢; refine pure_ (i := 0) (N := some 122) (v := ?_) (a' := ?_) #[true, false, false, false, false, false, false, false, false, false] rfl rfl (any_of HT_.out (by kernel_rfl)) (fun _ _ _ h => h) (Or.inl ⟨by rfl, ?_⟩) ?_ ?_; rotate_left
              ·intro w'; go_simp; with_reducible rfl
              rotate_left
              ·simp only [Act.put, List.setIfInBounds_toArray, List.set_cons_zero, List.set_cons_succ, i64_w, i32_w]; rfl
              refine take_ (i := 1) (N := some 123) (v := ?_) (a' := ?_) #[true, true, false, false, false, false, false, false, false, false] rfl rfl (by kernel_rfl) (fun _ _ _ h => h) (Or.inl ⟨by rfl, ?_⟩) hHeld ?_ ?_; rotate_left
              ·rintro w' ⟨s0, s1⟩; go_simp; with_reducible rfl
              rotate_left
              ·simp only [Act.put, List.setIfInBounds_toArray, List.set_cons_zero, List.set_cons_succ, i64_w, i32_w]; rfl
              refine pure_ (i := 2) (N := some 124) (v := ?_) (a' := ?_) #[true, true, true, false, false, false, false, false, false, false] rfl rfl (any_of HT_.out (by kernel_rfl)) (fun _ _ _ h => h) (Or.inl ⟨by rfl, ?_⟩) ?_ ?_; rotate_left
              ·intro w'; go_simp; with_reducible rfl
              rotate_left
              ·simp only [Act.put, List.setIfInBounds_toArray, List.set_cons_zero, List.set_cons_succ, i64_w, i32_w]; rfl
              refine take_ (i := 3) (N := some 125) (v := ?_) (a' := ?_) #[true, true, true, true, false, false, false, false, false, false] rfl rfl (by kernel_rfl) (fun _ _ _ h => h) (Or.inl ⟨by rfl, ?_⟩) hHeld ?_ ?_; rotate_left
              ·rintro w' ⟨s0, s1⟩; go_simp; with_reducible rfl
              rotate_left
              ·simp only [Act.put, List.setIfInBounds_toArray, List.set_cons_zero, List.set_cons_succ, i64_w, i32_w]; rfl
              refine pure_ (i := 4) (N := some 126) (v := ?_) (a' := ?_) #[true, true, true, true, true, false, false, false, false, false] rfl rfl (any_of HT_.out (by kernel_rfl)) (fun _ _ _ h => h) (Or.inl ⟨by rfl, ?_⟩) ?_ ?_; rotate_left
              ·intro w'; go_simp; with_reducible rfl
              rotate_left
              ·simp only [Act.put, List.setIfInBounds_toArray, List.set_cons_zero, List.set_cons_succ, i64_w, i32_w]; rfl
              refine pure_ (i := 5) (N := some 127) (v := ?_) (a' := ?_) #[true, true, true, true, true, true, false, false, false, false] rfl rfl (any_of HT_.out (by kernel_rfl)) (fun _ _ _ h => h) (Or.inl ⟨by rfl, ?_⟩) ?_ ?_; rotate_left
              ·intro w'; go_simp; with_reducible rfl
              rotate_left
              ·simp only [Act.put, List.setIfInBounds_toArray, List.set_cons_zero, List.set_cons_succ, i64_w, i32_w]; rfl
              refine take_ (i := 6) (N := some 128) (v := ?_) (a' := ?_) #[true, true, true, true, true, true, true, false, false, false] rfl rfl (by kernel_rfl) (fun _ _ _ h => h) (Or.inl ⟨by rfl, ?_⟩) hHeld ?_ ?_; rotate_left
              ·rintro w' ⟨s0, s1⟩; go_simp; with_reducible rfl
              rotate_left
              ·simp only [Act.put, List.setIfInBounds_toArray, List.set_cons_zero, List.set_cons_succ, i64_w, i32_w]; rfl
              refine one_ (i := 7) (N := some 129) #[true, true, true, true, true, true, true, true, false, false] rfl rfl (one_of HT_.out (by kernel_rfl)) (by decide) (fun K hK => ?_); refine goes_ Tryz.func105 (by kernel_rfl) rfl #[.string (strOfNums x7_2)] (by rfl) rfl rfl ap3 ?_; (with_reducible refine (R15Type.calls k3 (strOfNums x7_2) t622 _ A70.out).mono ?_); rintro e w' ⟨rfl, ⟨nd, rfl⟩⟩; refine ⟨_, rfl, ?_⟩; refine hK.out _ _ ⟨own_string (P := Tryz.prog) Tryz.underlying82 Tryz.underlying5 Tryz.underlying9 (Kd.own_of_R (Kd.R_drewN HO_7.out _)), own_string (P := Tryz.prog) Tryz.underlying82 Tryz.underlying5 Tryz.underlying9 (Kd.own_of_R (Kd.R_drewN HO_10.out _))⟩ (fun hHeld => ?_); clear hK K; refine norm_ (a' := ?_) ?_ ?_; rotate_left
              ·show Act.put _ (some 129) _ = _; simp only [Act.put, List.setIfInBounds_toArray, List.set_cons_zero, List.set_cons_succ, i64_w, i32_w]; rfl
              refine last_ (i := 8) (N := none) #[true, true, true, true, true, true, true, true, true, false] rfl rfl (one_of HT_.out (by kernel_rfl)) (by decide) (fun K hK => ?_); have hs77 : (w72.drewN nd).cell? ⟨gb577, 0, none⟩ = some (.string x578000_3) := (blk_cell BK577.out 0).trans rfl; have hfs77 : (w72.drewN nd).frozen? ⟨gb577, 0, none⟩ = false := blk_frozen BK577.out 0; have hs78 : (w72.drewN nd).cell? ⟨gb577, 1, none⟩ = some (.string x578001_3) := (blk_cell BK577.out 1).trans rfl; have hfs78 : (w72.drewN nd).frozen? ⟨gb577, 1, none⟩ = false := blk_frozen BK577.out 1; refine skip_ (w1 := ?_) (by rfl) rfl ?_ ?_; rotate_left
              ·go_simp; rfl
              refine hK.out _ _ ?_; clear hK K; refine pure_ (i := 9) (N := some 3) (v := ?_) (a' := ?_) #[true, true, true, true, true, true, true, true, true, true] rfl rfl (any_of HT_.out (by kernel_rfl)) (fun _ _ _ h => h) (Or.inl ⟨by rfl, ?_⟩) ?_ ?_; rotate_left
              ·intro w'; go_simp; with_reducible rfl
              rotate_left
              ·simp only [Act.put, List.setIfInBounds_toArray, List.set_cons_zero, List.set_cons_succ, i64_w, i32_w]; rfl
              refine done_ (done_of HT_.out (by kernel_rfl)) ?_; (try go_wp2); refine bodyPost_ret (results_ct rfl _ _ gb577 96 #[.string (strOfNums x7_2), .string (strOfNums x10_3)] (0, 0) _ rfl (by (with_reducible repeat (first | refine blk_drewN ?_ _ | refine blk_drew ?_ | refine blk_alloc ?_ _)); refine blk_put (cs := #[.string (strOfNums x7_2), .string x578001_3]) ?_ 1 _ rfl; (with_reducible repeat (first | refine blk_drewN ?_ _ | refine blk_drew ?_ | refine blk_alloc ?_ _)); refine blk_put (cs := #[.string x578000_3, .string x578001_3]) ?_ 0 _ rfl; (with_reducible repeat (first | refine blk_drewN ?_ _ | refine blk_drew ?_ | refine blk_alloc ?_ _)); exact BK577.out) Tryz.underlying96 rfl (by kernel_rfl)) rfl ?_; exact ⟨by first | rfl | (simp [errW_none, errW_some, bne_nil8, beq_nil8]; done) | (simp [errW_none, errW_some] <;> rfl) | (simp only [← hji14]; first | rfl | (simp [errW_none, errW_some] <;> rfl)) | (simp [*, errW_none, errW_some] <;> rfl), apG1 GE577.out⟩
       ·rw [if_neg c16] at H; exact absurd H (by simp)
      ·rw [if_neg c15] at H; exact absurd H (by simp)
     ·rw [if_neg c12] at H; exact absurd H (by simp)
    ·rw [if_neg c11] at H; exact absurd H (by simp)
end Go.Proofs.YtpklcnpmppaaoaaGreatDoor.Print
namespace Go.Proofs.YtpklcnpmppaaoaaGreatDoor.Print
open Go.RowKit Go.Proofs.YtpklcnpmppaaoaaGreatDoorW.PrintWords Go.Proofs.YtpklcnpmppaaoaaGreatDoorW.PrintLast Go.Proofs.YtpklcnpmppaaoaaGreatDoorW.PrintMore Go.Proofs.YtpklcnpmppaaoaaGreatDoor.Pure
set_option linter.unusedVariables false
set_option linter.unusedSimpArgs false
abbrev rdS := rd_T94
theorem rdS_at {L : List Sg} {i : Nat} {x : Sg} {r : List Sg} (h : L.drop i = x :: r) : i < L.length ∧ rdS (mkSs L) (i : Int) = mkS x ∧ L.drop (i + 1) = r := by
 have h1 : i < L.length := by
  rcases Nat.lt_or_ge i L.length with h' | h'
  ·exact h'
  ·rw [List.drop_eq_nil_of_le h'] at h; cases h
 refine ⟨h1, ?_, ?_⟩
 ·have h0 : L[i]? = some x := by
   have := congrArg List.head? h; rw [List.head?_drop] at this; simpa using this
  unfold rdS rd_T94 mkSs; rw [List.getD_eq_getElem?_getD, Int.toNat_natCast, List.getElem?_map, h0]; rfl
 ·have := congrArg List.tail h; rw [List.tail_drop] at this; simpa using this
theorem drop_nilS {L : List Sg} {i : Nat} (h : L.drop i = []) : L.length ≤ i := List.drop_eq_nil_iff.1 h
theorem wpred {n : Nat} (h0 : 1 ≤ n) (h : n ≤ 2000000) : wrap64 ((n : Int) - 1) = ((n - 1 : Nat) : Int) := by unfold wrap64; omega
theorem blank_iff (x : Sg) : isBlank x = true ↔ (mkS x).f1 = true ∧ (mkS x).f0 = 32 := by
 obtain ⟨c, b⟩ := x; have : ((c.toNat : Int) = 32) ↔ c = 32 := ieq c 32; simp only [isBlank, mkS, Bool.and_eq_true, beq_iff_eq, this]
theorem trimR_ev : ∀ (n : Nat) (L : List Sg), L.length = n → n ≤ 1000000 → Ev (fun k => R15Trim.l1 k (mkSs L)) (mkSs (trimR L)) := by
 intro n; induction n with
 | zero =>
  intro L hL _; have : L = [] := List.eq_nil_of_length_eq_zero hL; subst this; show Ev _ (mkSs []); exact Ev.step (fun k => by rw [R15Trim.l1]) (Ev.neg (by simp [mkSs]) Ev.rfl')
 | succ n ih =>
  intro L hL hn; rcases List.eq_nil_or_concat L with rfl | ⟨M, x, rfl⟩
  ·simp at hL
  ·rw [List.concat_eq_append] at hL ⊢; have hM : M.length = n := by simpa using hL
   have hlen : ((mkSs (M ++ [x])).length : Int) = ((n + 1 : Nat) : Int) := by rw [mkSs_len]; simp [hM]
   have hx := (rdS_at (L := M ++ [x]) (i := n) (x := x) (r := []) (by rw [← hM]; simp)).2.1; have hst : ∀ {o : List SgS}, Ev (fun k => if (mkS x).f1 = true then (if (mkS x).f0 = 32 then (R15Trim.l1 k (mkSs M)) else (some (mkSs (M ++ [x])))) else (some (mkSs (M ++ [x])))) o → Ev (fun k => R15Trim.l1 k (mkSs (M ++ [x]))) o := by
    intro o h; refine Ev.step (fun k => by rw [R15Trim.l1]) ?_; rw [hlen, wpred (by omega) (by omega), show n + 1 - 1 = n from rfl]; have hx' : rd_T94 (mkSs (M ++ [x])) (n : Int) = mkS x := hx; rw [hx']; refine Ev.pos (by omega) (Ev.pos (by omega) (Ev.pos (by omega) ?_)); refine Ev.congr (fun k => ?_) h; rw [if_pos (show (n : Int) ≤ ((n + 1 : Nat) : Int) by omega), Int.toNat_natCast, show (mkSs (M ++ [x])).take n = mkSs M by unfold mkSs; rw [← List.map_take, ← hM, List.take_left' rfl]]
   rw [trimR_snoc]; cases hb : isBlank x with
   | true =>
    obtain ⟨h1, h2⟩ := (blank_iff x).1 hb; exact hst (Ev.pos h1 (Ev.pos h2 (by simpa using ih M hM (by omega))))
   | false =>
    have hnb : ¬ ((mkS x).f1 = true ∧ (mkS x).f0 = 32) := fun h => by rw [(blank_iff x).2 h] at hb; cases hb
    by_cases h1 : (mkS x).f1 = true
    ·exact hst (Ev.pos h1 (Ev.neg (fun h2 => hnb ⟨h1, h2⟩) (by simpa using Ev.rfl')))
    ·exact hst (Ev.neg h1 (by simpa using Ev.rfl'))
theorem trim_ev : ∀ (L : List Sg), L.length ≤ 1000000 → Ev (fun k => R15Trim.l0 k (mkSs L)) (mkSs (trim L))
 | [], _ => by
  refine Ev.step (fun k => by rw [R15Trim.l0]) (Ev.neg (by simp [mkSs]) (Ev.step (fun k => by rw [R15Trim.j1]) ?_))
  exact trimR_ev 0 [] rfl (by omega)
 | x :: L, hL => by
  have hlen : ((mkSs (x :: L)).length : Int) = ((L.length + 1 : Nat) : Int) := by rw [mkSs_len]; rfl
  have hx : rd_T94 (mkSs (x :: L)) 0 = mkS x := (rdS_at (L := x :: L) (i := 0) (x := x) (r := L) rfl).2.1
  have hj : Ev (fun k => R15Trim.j1 k (mkSs (x :: L))) (mkSs (trimR (x :: L))) := Ev.step (fun k => by rw [R15Trim.j1]) (trimR_ev _ (x :: L) rfl hL)
  have hst : ∀ {o : List SgS}, Ev (fun k => if (mkS x).f1 = true then (if (mkS x).f0 = 32 then (R15Trim.l0 k (mkSs L)) else (R15Trim.j1 k (mkSs (x :: L)))) else (R15Trim.j1 k (mkSs (x :: L)))) o → Ev (fun k => R15Trim.l0 k (mkSs (x :: L))) o := by
   intro o h; refine Ev.step (fun k => by rw [R15Trim.l0]) ?_; rw [hx]; refine Ev.pos (by omega) (Ev.pos (by omega) ?_); refine Ev.congr (fun k => ?_) h; rw [if_pos (show (1 : Int) ≤ ((mkSs (x :: L)).length : Int) by omega)]; rfl
  have ih := trim_ev L (by simp at hL; omega); cases hb : isBlank x with
  | true =>
   obtain ⟨h1, h2⟩ := (blank_iff x).1 hb; have e : trim (x :: L) = trim L := by unfold trim trimL; rw [List.dropWhile_cons_of_pos hb]
   rw [e]; exact hst (Ev.pos h1 (Ev.pos h2 ih))
  | false =>
   rw [trim_head hb]; have hnb : ¬ ((mkS x).f1 = true ∧ (mkS x).f0 = 32) := fun h => by rw [(blank_iff x).2 h] at hb; cases hb
   by_cases h1 : (mkS x).f1 = true
   ·exact hst (Ev.pos h1 (Ev.neg (fun h2 => hnb ⟨h1, h2⟩) hj))
   ·exact hst (Ev.neg h1 hj)
theorem refType_ev (s : ByteArray) (hs : s.size ≤ 1000000) : Ev (fun k => R15Type.f k s) (typeOk (bl s)) := by
 have hl : ∀ (n p : Nat), s.size - p = n → p ≤ s.size → Ev (fun k => R15Type.l0 k s (p : Int)) (((bl s).drop p).all typeB) := by
  intro n; induction n with
  | zero =>
   intro p hn hp; rw [drop_end (by omega)]; show Ev _ true; exact Ev.step (fun k => by rw [R15Type.l0]) (Ev.neg (by omega) Ev.rfl')
  | succ n ih =>
   intro p hn hp; cases hr : (bl s).drop p with
   | nil => have := drop_nil hr; omega
   | cons c r =>
    obtain ⟨g1, g2, g3⟩ := drop_cons hr; have hi := ih (p + 1) (by omega) (by omega); rw [g3] at hi; have h45 : ((c.toNat : Int) = 45) ↔ c = 45 := ieq c 45; refine Ev.step (fun k => by rw [R15Type.l0]) ?_; rw [g2, wsucc (by omega), List.all_cons]; by_cases q1 : 97 ≤ c.toNat ∧ c.toNat ≤ 122
    ·rw [show typeB c = true by simp [typeB, q1]]; simp (disch := omega) only [if_pos, if_neg]; simpa using hi
    by_cases q4 : 48 ≤ c.toNat ∧ c.toNat ≤ 57
    ·rw [show typeB c = true by simp [typeB, q4]]; simp (disch := omega) only [if_pos, if_neg]; simpa using hi
    by_cases q2 : c = 45
    ·rw [show typeB c = true by subst q2; rfl]; have := h45.2 q2; simp (disch := omega) only [if_pos, if_neg]; simpa using hi
    have q3 : (c.toNat : Int) ≠ 45 := fun h => q2 (h45.1 h)
    rw [show typeB c = false by simp [typeB, q2]; omega]; have e : Ev (fun (_ : Nat) => some false) (false && r.all typeB) := Ev.rfl'; by_cases a1 : 97 ≤ c.toNat
    ·simp (disch := omega) only [if_pos, if_neg]; exact e
    ·by_cases a2 : c.toNat < 48
     ·simp (disch := omega) only [if_pos, if_neg]; exact e
     ·simp (disch := omega) only [if_pos, if_neg]; exact e
 have hjt : Ev (fun k => R15Type.j0 k s true) false := Ev.step (fun k => by rw [R15Type.j0]) (Ev.pos rfl Ev.rfl'); have hjf : Ev (fun k => R15Type.j0 k s false) ((bl s).all typeB) := Ev.step (fun k => by rw [R15Type.j0]) (Ev.neg (by simp) (by simpa using hl _ 0 rfl (Nat.zero_le _))); unfold R15Type.f; cases hr : bl s with
 | nil =>
  have : s.size = 0 := by rw [← bl_length, hr]; rfl
  exact Ev.pos (by omega) hjt
 | cons c r =>
  have hlen : s.size = (c :: r).length := by rw [← bl_length, hr]
  obtain ⟨_, g2⟩ := bt_get (s := s) (p := 0) (c := c) (by rw [hr]; rfl); have g2' : bt s 0 = (c.toNat : Int) := g2; rw [hr] at hjf; have hl1 : 1 ≤ (c :: r).length := by simp
  refine Ev.neg (by omega) ?_; unfold typeOk; dsimp only; rw [← hlen, g2']; by_cases h32 : s.size ≤ 32
  ·refine Ev.neg (by omega) (Ev.pos (by omega) ?_); rw [decide_eq_true h32, Bool.and_true]; by_cases q1 : 97 ≤ c.toNat ∧ c.toNat ≤ 122
   ·rw [decide_eq_true q1, Bool.true_and]; refine Ev.neg (by omega) ?_; rw [decide_eq_false (by omega)]; exact hjf
   ·rw [decide_eq_false q1, Bool.false_and]; by_cases a1 : c.toNat < 97
    ·exact Ev.pos (by omega) hjt
    ·refine Ev.neg (by omega) ?_; rw [decide_eq_true (by omega)]; exact hjt
  ·rw [decide_eq_false h32, Bool.and_false]; exact Ev.pos (by omega) hjt
abbrev POut := ByteArray × ByteArray × Bool
theorem lowI (x : Sg) : (if (mkS x).f0 ≥ 65 then (if (mkS x).f0 ≤ 90 then ((mkS x).f0 + 32) % 256 else (mkS x).f0) else (mkS x).f0) = ((lowB x.1).toNat : Int) := by
 have hx := x.1.toNat_lt; show (if (x.1.toNat : Int) ≥ 65 then (if (x.1.toNat : Int) ≤ 90 then ((x.1.toNat : Int) + 32) % 256 else (x.1.toNat : Int)) else (x.1.toNat : Int)) = _; unfold lowB; by_cases h : 65 ≤ x.1.toNat ∧ x.1.toNat ≤ 90
 ·rw [if_pos h, if_pos (by omega), if_pos (by omega), UInt8.toNat_add]; have : (32 : UInt8).toNat = 32 := rfl; rw [this]; omega
 ·rw [if_neg h]; by_cases h1 : (x.1.toNat : Int) ≥ 65
  ·rw [if_pos h1, if_neg (by omega)]
  ·rw [if_neg h1]
theorem pair_l2 (y : List Sg) (t : List UInt8) (hy : y.length ≤ 1000000) (ht : t.length ≤ 1000000) : ∀ (n i : Nat) (acc : List UInt8), y.length - i = n → i ≤ y.length → acc.length ≤ i →
  ((y.drop i).any badV = false ∧ (i = 0 → valOk y = true) → Ev (fun k => R15Pair.l2 k (mkSs y) (ints t) (ints acc) (i : Int)) (⟨t.toArray⟩, ⟨(acc ++ (y.drop i).map (·.1)).toArray⟩, typeOk t)) ∧
  ((y.drop i).any badV = true ∨ (i = 0 ∧ valOk y = false) → Ev (fun k => R15Pair.l2 k (mkSs y) (ints t) (ints acc) (i : Int)) (⟨#[]⟩, ⟨#[]⟩, false)) := by
 intro n
 induction n with
 | zero =>
  intro i acc hn hi ha; have hd : y.drop i = [] := List.drop_eq_nil_of_le (by omega); rw [hd]; refine ⟨fun h => ?_, fun h => ?_⟩
  ·refine Ev.step (fun k => by rw [R15Pair.l2]) ?_; refine Ev.neg (by rw [mkSs_len]; omega) ?_; rw [strOfNums_ints, strOfNums_ints]; refine Ev.bind (refType_ev ⟨t.toArray⟩ (by rw [← bl_length]; exact ht)) ?_; simpa using Ev.rfl'
  ·rcases h with h | ⟨h, h2⟩
   ·simp at h
   ·have : y = [] := by subst h; simpa using hd
    subst this; simp [valOk] at h2
 | succ n ih =>
  intro i acc hn hi ha; cases hr : y.drop i with
  | nil => have := drop_nilS hr; omega
  | cons x r =>
   obtain ⟨g1, g2, g3⟩ := rdS_at hr; have hx2 : (mkS x).f1 = x.2 := rfl; have e34 : ((mkS x).f0 = 34) ↔ x.1 = 34 := ieq x.1 34; have e60 : ((mkS x).f0 = 60) ↔ x.1 = 60 := ieq x.1 60; have e62 : ((mkS x).f0 = 62) ↔ x.1 = 62 := ieq x.1 62; have e35 : ((mkS x).f0 = 35) ↔ x.1 = 35 := ieq x.1 35; have hal : (ints acc).length < 140737488355328 := by rw [ints_length]; omega
   have hi2 := ih (i + 1) (acc ++ [x.1]) (by omega) (by omega) (by simp; omega); rw [g3] at hi2; have hst : ∀ {o : POut}, Ev (fun k => if (mkS x).f1 = true then (if (mkS x).f0 = 34 then (some ((⟨#[]⟩ : ByteArray), (⟨#[]⟩ : ByteArray), false)) else (if (mkS x).f0 = 60 then (some ((⟨#[]⟩ : ByteArray), (⟨#[]⟩ : ByteArray), false)) else (if (mkS x).f0 = 62 then (some ((⟨#[]⟩ : ByteArray), (⟨#[]⟩ : ByteArray), false)) else (if (mkS x).f0 = 35 then (if (i : Int) = 0 then (some ((⟨#[]⟩ : ByteArray), (⟨#[]⟩ : ByteArray), false)) else (R15Pair.l2 k (mkSs y) (ints t) (ints (acc ++ [x.1])) ((i + 1 : Nat) : Int))) else (R15Pair.l2 k (mkSs y) (ints t) (ints (acc ++ [x.1])) ((i + 1 : Nat) : Int)))))) else (R15Pair.l2 k (mkSs y) (ints t) (ints (acc ++ [x.1])) ((i + 1 : Nat) : Int))) o → Ev (fun k => R15Pair.l2 k (mkSs y) (ints t) (ints acc) (i : Int)) o := by
    intro o h; refine Ev.step (fun k => by rw [R15Pair.l2]) ?_; refine Ev.pos (by rw [mkSs_len]; omega) (Ev.pos (by omega) ?_); have g2' : rd_T94 (mkSs y) (i : Int) = mkS x := g2; rw [g2', wsucc (by omega)]; simp only [if_pos hal]; rw [show ints acc ++ [(mkS x).f0] = ints (acc ++ [x.1]) from ints_snoc acc x.1]; exact h
   have hpass : badV x = false → ¬ (i = 0 ∧ x.2 = true ∧ x.1 = 35) → ∀ {o : POut}, Ev (fun k => R15Pair.l2 k (mkSs y) (ints t) (ints (acc ++ [x.1])) ((i + 1 : Nat) : Int)) o → Ev (fun k => R15Pair.l2 k (mkSs y) (ints t) (ints acc) (i : Int)) o := by
    intro hb h35 o h; by_cases h2 : x.2 = true
    ·simp only [badV, h2, Bool.true_and, Bool.or_eq_false_iff, beq_eq_false_iff_ne] at hb; refine hst (Ev.pos (hx2.trans h2) (Ev.neg (fun h' => hb.1.1 (e34.1 h')) (Ev.neg (fun h' => hb.1.2 (e60.1 h')) (Ev.neg (fun h' => hb.2 (e62.1 h')) ?_)))); by_cases h5 : x.1 = 35
     ·exact Ev.pos (e35.2 h5) (Ev.neg (fun h0 => h35 ⟨by omega, h2, h5⟩) h)
     ·exact Ev.neg (fun h' => h5 (e35.1 h')) h
    ·exact hst (Ev.neg (by rw [hx2]; exact h2) h)
   have hfail : badV x = true ∨ (i = 0 ∧ x.2 = true ∧ x.1 = 35) → Ev (fun k => R15Pair.l2 k (mkSs y) (ints t) (ints acc) (i : Int)) (⟨#[]⟩, ⟨#[]⟩, false) := by
    intro h; have h2 : x.2 = true := by
     rcases h with h | h
     ·simp only [badV, Bool.and_eq_true] at h; exact h.1
     ·exact h.2.1
    refine hst (Ev.pos (hx2.trans h2) ?_); by_cases h34 : x.1 = 34
    ·exact Ev.pos (e34.2 h34) Ev.rfl'
    refine Ev.neg (fun h' => h34 (e34.1 h')) ?_; by_cases h60 : x.1 = 60
    ·exact Ev.pos (e60.2 h60) Ev.rfl'
    refine Ev.neg (fun h' => h60 (e60.1 h')) ?_; by_cases h62 : x.1 = 62
    ·exact Ev.pos (e62.2 h62) Ev.rfl'
    refine Ev.neg (fun h' => h62 (e62.1 h')) ?_; rcases h with h | h
    ·simp [badV, h34, h60, h62] at h
    ·exact Ev.pos (e35.2 h.2.2) (Ev.pos (by omega) Ev.rfl')
   have hv0 : i = 0 → valOk y = (!((x :: r).any badV) && !(x.2 && x.1 == 35)) := by
    intro h; subst h; rw [List.drop_zero] at hr; rw [hr]; rfl
   rw [List.any_cons]; refine ⟨fun ⟨h1, h2⟩ => ?_, fun h => ?_⟩
   ·rw [Bool.or_eq_false_iff] at h1; have hne : ¬ (i = 0 ∧ x.2 = true ∧ x.1 = 35) := by
     rintro ⟨h0, h3, h4⟩; have := h2 h0; rw [hv0 h0, h3, h4] at this; simp at this
    refine hpass h1.1 hne ?_; have := hi2.1 ⟨h1.2, fun h0 => by omega⟩; rw [List.append_assoc] at this; exact this
   ·by_cases hb : badV x = true ∨ (i = 0 ∧ x.2 = true ∧ x.1 = 35)
    ·exact hfail hb
    ·simp only [not_or] at hb; refine hpass (by simpa using hb.1) hb.2 (hi2.2 (.inl ?_)); rcases h with h | ⟨h0, h⟩
     ·simpa [hb.1] using h
     ·rw [hv0 h0] at h; have h3 : (x.2 && x.1 == 35) = false := by
       cases h4 : (x.2 && x.1 == 35) with
       | false => rfl
       | true => simp only [Bool.and_eq_true, beq_iff_eq] at h4; exact absurd ⟨h0, h4⟩ hb.2
      rw [h3, List.any_cons] at h; simpa [hb.1] using h
theorem pair_l1 (x y : List Sg) (hx : x.length ≤ 1000000) (hy : y.length ≤ 1000000) : ∀ (n i : Nat) (acc : List UInt8), x.length - i = n → i ≤ x.length → acc.length ≤ i →
  ((x.drop i).all (·.2) = false → Ev (fun k => R15Pair.l1 k (mkSs x) (mkSs y) (ints acc) (i : Int)) (⟨#[]⟩, ⟨#[]⟩, false)) ∧
  ((x.drop i).all (·.2) = true → valOk y = true → Ev (fun k => R15Pair.l1 k (mkSs x) (mkSs y) (ints acc) (i : Int)) (⟨(acc ++ (x.drop i).map fun s => lowB s.1).toArray⟩, ⟨(y.map (·.1)).toArray⟩, typeOk (acc ++ (x.drop i).map fun s => lowB s.1))) ∧
  ((x.drop i).all (·.2) = true → valOk y = false → Ev (fun k => R15Pair.l1 k (mkSs x) (mkSs y) (ints acc) (i : Int)) (⟨#[]⟩, ⟨#[]⟩, false)) := by
 intro n
 induction n with
 | zero =>
  intro i acc hn hi ha; have hd : x.drop i = [] := List.drop_eq_nil_of_le (by omega); rw [hd]; have hst : ∀ {o : POut}, Ev (fun k => R15Pair.l2 k (mkSs y) (ints acc) (ints []) ((0 : Nat) : Int)) o → Ev (fun k => R15Pair.l1 k (mkSs x) (mkSs y) (ints acc) (i : Int)) o := by
   intro o h; refine Ev.step (fun k => by rw [R15Pair.l1]) ?_; exact Ev.neg (by rw [mkSs_len]; omega) h
  have h0 := pair_l2 y acc hy (by omega) _ 0 [] rfl (Nat.zero_le _) (Nat.le_refl _); rw [List.drop_zero] at h0; refine ⟨fun h => by simp at h, fun _ hv => ?_, fun _ hv => hst (h0.2 (.inr ⟨rfl, hv⟩))⟩; have ha : y.any badV = false := by
   cases hb : y.any badV with
   | false => rfl
   | true => unfold valOk at hv; rw [hb] at hv; simp at hv
  have := hst (h0.1 ⟨ha, fun _ => hv⟩); simpa using this
 | succ n ih =>
  intro i acc hn hi ha; cases hr : x.drop i with
  | nil => have := drop_nilS hr; omega
  | cons z r =>
   obtain ⟨g1, g2, g3⟩ := rdS_at hr; have hal : (ints acc).length < 140737488355328 := by rw [ints_length]; omega
   have hi2 := ih (i + 1) (acc ++ [lowB z.1]) (by omega) (by omega) (by simp; omega); rw [g3] at hi2; have hst : ∀ {o : POut}, Ev (fun k => if (mkS z).f1 = true then (R15Pair.l1 k (mkSs x) (mkSs y) (ints (acc ++ [lowB z.1])) ((i + 1 : Nat) : Int)) else (some ((⟨#[]⟩ : ByteArray), (⟨#[]⟩ : ByteArray), false))) o → Ev (fun k => R15Pair.l1 k (mkSs x) (mkSs y) (ints acc) (i : Int)) o := by
    intro o h; refine Ev.step (fun k => by rw [R15Pair.l1]) ?_; refine Ev.pos (by rw [mkSs_len]; omega) (Ev.pos (by omega) ?_); have g2' : rd_T94 (mkSs x) (i : Int) = mkS z := g2; rw [g2', wsucc (by omega)]; simp only [if_pos hal]; refine Ev.congr (fun k => ?_) h; rw [← ints_snoc, ← lowI z]; by_cases h1 : (mkS z).f0 ≥ 65
    ·by_cases h2 : (mkS z).f0 ≤ 90
     ·simp only [if_pos h1, if_pos h2]
     ·simp only [if_pos h1, if_neg h2]
    ·simp only [if_neg h1]
   rw [List.all_cons]; cases hz : z.2 with
   | false =>
    exact ⟨fun _ => hst (Ev.neg (by show ¬ z.2 = true; rw [hz]; simp) Ev.rfl'), fun h => by simp at h, fun h => by simp at h⟩
   | true =>
    have hgo := fun {o : POut} (h) => hst (o := o) (Ev.pos (show z.2 = true from hz) h)
    rw [Bool.true_and]; refine ⟨fun h => hgo (hi2.1 h), fun h hv => ?_, fun h hv => hgo (hi2.2.2 h hv)⟩; have := hgo (hi2.2.1 h hv); rw [List.append_assoc] at this; exact this
theorem trim_length (l : List Sg) : (trim l).length ≤ l.length := by
 obtain ⟨b1, b2, h, _, _⟩ := trim_split l; (conv => rhs; rw [h]); simp; omega
theorem pairOf_ev (x y : List Sg) (hx : x.length ≤ 1000000) (hy : y.length ≤ 1000000) :
  (∀ a, pairOf x y = some a → Ev (fun k => R15Pair.l1 k (mkSs (trim x)) (mkSs (trim y)) [] 0) (⟨a.1.toArray⟩, ⟨a.2.toArray⟩, true)) ∧
  (pairOf x y = none → ∃ u v, Ev (fun k => R15Pair.l1 k (mkSs (trim x)) (mkSs (trim y)) [] 0) (u, v, false)) := by
 have hx' := trim_length x
 have hy' := trim_length y
 obtain ⟨h1, h2, h3⟩ := pair_l1 (trim x) (trim y) (by omega) (by omega) _ 0 [] rfl (Nat.zero_le _) (Nat.le_refl _)
 rw [List.drop_zero] at h1 h2 h3
 unfold pairOf
 cases ha : (trim x).all (·.2) with
 | false => exact ⟨fun a h => by simp at h, fun _ => ⟨_, _, h1 ha⟩⟩
 | true =>
  cases hv : valOk (trim y) with
  | false => exact ⟨fun a h => by simp at h, fun _ => ⟨_, _, h3 ha hv⟩⟩
  | true =>
   have := h2 ha hv; rw [List.nil_append] at this; cases ht : typeOk ((trim x).map fun s => lowB s.1) with
   | false =>
    rw [ht] at this; exact ⟨fun a h => by simp at h, fun _ => ⟨_, _, this⟩⟩
   | true =>
    rw [ht] at this; refine ⟨fun a h => ?_, fun h => by simp at h⟩; simp only [Bool.and_self, if_true, Option.some.injEq] at h; subst h; exact this
theorem pair_ev (L : List Sg) (hL : L.length ≤ 1000000) :
  (∀ a, pair L = some a → Ev (fun k => R15Pair.f k (mkSs L)) (⟨a.1.toArray⟩, ⟨a.2.toArray⟩, true)) ∧
  (pair L = none → ∃ u v, Ev (fun k => R15Pair.f k (mkSs L)) (u, v, false)) := by
 have hfind : ∀ (n i : Nat), L.length - i = n → i ≤ L.length → ∃ j : Nat, i ≤ j ∧ j ≤ L.length ∧ L.drop j = (L.drop i).dropWhile (fun s => !isEq s) ∧ (L.drop i).take (j - i) = (L.drop i).takeWhile (fun s => !isEq s) ∧
   ∀ {o : POut}, Ev (fun k => R15Pair.j1 k (mkSs L) (j : Int)) o → Ev (fun k => R15Pair.l0 k (mkSs L) (i : Int)) o := by
  intro n
  induction n with
  | zero =>
   intro i hn hi; have hd : L.drop i = [] := List.drop_eq_nil_of_le (by omega); refine ⟨i, Nat.le_refl _, hi, by rw [hd]; rfl, by rw [hd]; simp, fun {o} h => ?_⟩; refine Ev.step (fun k => by rw [R15Pair.l0]) ?_; exact Ev.neg (by rw [mkSs_len]; omega) h
  | succ n ih =>
   intro i hn hi; cases hr : L.drop i with
   | nil => have := drop_nilS hr; omega
   | cons z r =>
    obtain ⟨g1, g2, g3⟩ := rdS_at hr; have e61 : ((mkS z).f0 = 61) ↔ z.1 = 61 := ieq z.1 61; have hst : ∀ {o : POut}, Ev (fun k => if (mkS z).f1 = true then (if (mkS z).f0 = 61 then (R15Pair.j1 k (mkSs L) (i : Int)) else (R15Pair.l0 k (mkSs L) ((i + 1 : Nat) : Int))) else (R15Pair.l0 k (mkSs L) ((i + 1 : Nat) : Int))) o → Ev (fun k => R15Pair.l0 k (mkSs L) (i : Int)) o := by
     intro o h; refine Ev.step (fun k => by rw [R15Pair.l0]) ?_; refine Ev.pos (by rw [mkSs_len]; omega) (Ev.pos (by omega) ?_); have g2' : rd_T94 (mkSs L) (i : Int) = mkS z := g2; rw [g2', wsucc (by omega)]; exact h
    cases hz : isEq z with
    | true =>
     refine ⟨i, Nat.le_refl _, hi, ?_, ?_, fun {o} h => ?_⟩
     ·rw [hr, List.dropWhile_cons_of_neg (by simp [hz])]
     ·rw [List.takeWhile_cons_of_neg (by simp [hz])]; simp
     ·simp only [isEq, Bool.and_eq_true, beq_iff_eq] at hz; exact hst (Ev.pos hz.1 (Ev.pos (e61.2 hz.2) h))
    | false =>
     obtain ⟨j, j1, j2, j3, j4, j5⟩ := ih (i + 1) (by omega) (by omega); rw [g3] at j3 j4; refine ⟨j, by omega, j2, ?_, ?_, fun {o} h => ?_⟩
     ·rw [j3, List.dropWhile_cons_of_pos (by simp [hz])]
     ·rw [List.takeWhile_cons_of_pos (by simp [hz]), ← j4, show j - i = (j - (i + 1)) + 1 from by omega]; rfl
     ·have h := j5 h; by_cases h1 : (mkS z).f1 = true
      ·refine hst (Ev.pos h1 (Ev.neg (fun h' => ?_) h)); have h1' : z.2 = true := h1; simp [isEq, h1', e61.1 h'] at hz
      ·exact hst (Ev.neg h1 h)
 obtain ⟨j, j1, j2, j3, j4, j5⟩ := hfind _ 0 rfl (Nat.zero_le _)
 rw [List.drop_zero] at j3 j4
 have hgo : ∀ {o : POut}, Ev (fun k => R15Pair.j1 k (mkSs L) (j : Int)) o → Ev (fun k => R15Pair.f k (mkSs L)) o := fun {o} h => j5 h
 unfold pair
 rw [← j3, ← j4, Nat.sub_zero]
 cases hr : L.drop j with
 | nil =>
  have := drop_nilS hr; refine ⟨fun a h => by simp at h, fun _ => ⟨_, _, hgo (Ev.step (fun k => by rw [R15Pair.j1]) (Ev.pos (by rw [mkSs_len]; omega) Ev.rfl'))⟩⟩
 | cons e y =>
  obtain ⟨g1, g2, g3⟩ := rdS_at hr; have hj : ∀ {o : POut}, Ev (fun k => R15Pair.l1 k (mkSs (trim (L.take j))) (mkSs (trim y)) [] 0) o → Ev (fun k => R15Pair.f k (mkSs L)) o := by
   intro o h; refine hgo (Ev.step (fun k => by rw [R15Pair.j1]) ?_); rw [wsucc (by omega), Int.toNat_natCast, Int.toNat_natCast]; have t1 := trim_ev (L.take j) (by rw [List.length_take]; omega); have hyl : y.length ≤ 1000000 := by rw [← g3, List.length_drop]; omega
   have t2 := trim_ev y hyl; rw [show mkSs (L.take j) = (mkSs L).take j by unfold mkSs; rw [List.map_take]] at t1; rw [show mkSs y = (mkSs L).drop (j + 1) by rw [← g3]; unfold mkSs; rw [List.map_drop]] at t2; refine Ev.neg (by rw [mkSs_len]; omega) (Ev.pos (by omega) (Ev.pos (by rw [mkSs_len]; omega) (Ev.bind t1 (Ev.pos (by omega) (Ev.pos (by rw [mkSs_len]; omega) (Ev.bind t2 h))))))
  have hyl : y.length ≤ 1000000 := by rw [← g3, List.length_drop]; omega
  obtain ⟨p1, p2⟩ := pairOf_ev (L.take j) y (by rw [List.length_take]; omega) hyl; refine ⟨fun a h => hj (p1 a h), fun h => ?_⟩; obtain ⟨u, v, h⟩ := p2 h; exact ⟨u, v, hj h⟩
end Go.Proofs.YtpklcnpmppaaoaaGreatDoor.Print
namespace Go.Proofs.YtpklcnpmppaaoaaGreatDoor.Print
open Go.RowKit Go.Proofs.YtpklcnpmppaaoaaGreatDoorW.PrintWords Go.Proofs.YtpklcnpmppaaoaaGreatDoorW.PrintLast Go.Proofs.YtpklcnpmppaaoaaGreatDoorW.PrintMore
attribute [local go_sem] max2_int min2_int max_two min_two max_three min_three max_four min_four
set_option linter.unusedVariables false
set_option linter.unusedSimpArgs false
def R15Value.f (k : Nat) (a0 : ByteArray) : Option (Bool) := (R13Ready.f k a0 true).bind fun bt623 => (if (a0.size : Int) ≤ 255 then (if bt623.2 = 0 then (some (decide ((bt623.1.size : Int) > 0))) else (some false)) else (some false))
set_option maxHeartbeats 8000000 in
set_option maxRecDepth 100000 in
theorem R15Value.calls (k : Nat) (a0 : ByteArray) (r : Bool) (w : World) (h : R15Value.f k a0 = some r) :
  Calls Tryz.prog 129 #[.string a0] w fun e w' => e = .returned (.bool r) ∧ Below w.heap.size w w' := by
 have HB := am (Below.refl w.heap.size w)
 have H : ((R13Ready.f k a0 true).bind fun bt623 => (if (a0.size : Int) ≤ 255 then (if bt623.2 = 0 then (some (decide ((bt623.1.size : Int) > 0))) else (some false)) else (some false))) = some r := h
 clear h
 replace H := Option.bind_eq_some_iff.mp H
 obtain ⟨⟨t623, t624⟩, A20, H⟩ := H
 replace H : (if (a0.size : Int) ≤ 255 then (if t624 = 0 then (some (decide ((t623.size : Int) > 0))) else (some false)) else (some false)) = some r := H
 have A2 := am A20
 clear A20
 revert H
 refine spd11 ?_ ?_
 ·intro c3 c3b0 H; have c3b1 : decide (a0.size ≤ 255) = true := decide_eq_true (by omega); clear c3; revert H; refine spe01 ?_ ?_
  ·intro c4b0 c4b1 H; obtain rfl := Option.some.inj H; go_enter Tryz.func129, Tryz.ntmps129; go_wp2_with (first | ((with_reducible refine gate_callee (f := 17) rfl ?_); refine goesL_ (some 7) rfl rfl Tryz.func17 (by kernel_rfl) rfl #[.string a0, .bool true] rfl ap3 ?_; (with_reducible refine (R13Ready.calls k a0 true t623 t624 _ A2.out).mono ?_); rintro e w5 ⟨rfl, hb⟩; refine ⟨_, rfl, ?_⟩; replace HB := am (below_step ap1 hb))); go_ret; exact ⟨ap9, ap1⟩
  ·intro c4 c4b0 c4b1 H; obtain rfl := Option.some.inj H; go_enter Tryz.func129, Tryz.ntmps129; go_wp2_with (first | ((with_reducible refine gate_callee (f := 17) rfl ?_); refine goesL_ (some 7) rfl rfl Tryz.func17 (by kernel_rfl) rfl #[.string a0, .bool true] rfl ap3 ?_; (with_reducible refine (R13Ready.calls k a0 true t623 t624 _ A2.out).mono ?_); rintro e w6 ⟨rfl, hb⟩; refine ⟨_, rfl, ?_⟩; replace HB := am (below_step ap1 hb))); go_ret; exact ⟨ap9, ap1⟩
 ·intro c3 c3b0 H; have c3b1 : decide (a0.size ≤ 255) = false := decide_eq_false (by omega); clear c3; obtain rfl := Option.some.inj H; go_enter Tryz.func129, Tryz.ntmps129; go_wp2_with (first | ((with_reducible refine gate_callee (f := 17) rfl ?_); refine goesL_ (some 7) rfl rfl Tryz.func17 (by kernel_rfl) rfl #[.string a0, .bool true] rfl ap3 ?_; (with_reducible refine (R13Ready.calls k a0 true t623 t624 _ A2.out).mono ?_); rintro e w7 ⟨rfl, hb⟩; refine ⟨_, rfl, ?_⟩; replace HB := am (below_step ap1 hb))); go_ret; exact ⟨ap9, ap1⟩
mutual
def R15Rdn.j0 : Nat → List (S96) → Bool → Option (Bool)
 | 0, _, _ => none
 | k + 1, x0, x12 => if x12 = true then (some false) else (R15Rdn.l0 k x0 0)
def R15Rdn.l0 : Nat → List (S96) → Int → Option (Bool)
 | 0, _, _ => none
 | k + 1, x0, x3 => if x3 < (x0.length : Int) then (if 0 ≤ x3 then ((R15Type.f k ((rd_T96 x0 x3).f0)).bind fun t626 => (if t626 = true then ((R15Value.f k ((rd_T96 x0 x3).f1)).bind fun t628 => (R15Rdn.j2 k x0 x3 (!t628))) else (R15Rdn.j2 k x0 x3 true))) else (none)) else (some true)
def R15Rdn.j2 : Nat → List (S96) → Int → Bool → Option (Bool)
 | 0, _, _, _ => none
 | k + 1, x0, x3, x34 => if x34 = true then (some false) else (R15Rdn.l1 k x0 x3 0)
def R15Rdn.l1 : Nat → List (S96) → Int → Int → Option (Bool)
 | 0, _, _, _ => none
 | k + 1, x0, x3, x4 => if x4 < x3 then (if 0 ≤ x4 then (if x4 < (x0.length : Int) then (if 0 ≤ x3 then (if x3 < (x0.length : Int) then (if ((rd_T96 x0 x4).f0).toList = ((rd_T96 x0 x3).f0).toList then (some false) else (R15Rdn.l1 k x0 x3 (wrap64 (x4 + 1)))) else (none)) else (none)) else (none)) else (none)) else (R15Rdn.l0 k x0 (wrap64 (x3 + 1)))
end
def R15Rdn.f (k : Nat) (l0 : List (S96)) : Option (Bool) := if (l0.length : Int) = 0 then (R15Rdn.j0 k l0 true) else (R15Rdn.j0 k l0 (decide ((l0.length : Int) > 4)))
set_option maxHeartbeats 8000000 in
set_option maxRecDepth 100000 in
theorem R15Rdn.calls (k : Nat) (A0 : Option Addr) (c0 : Nat) (l0 : List (S96)) (r : Bool) (w : World) (hr0 : Kd.C k96 w A0 l0.length l0) (hc0 : l0.length ≤ c0) (h : R15Rdn.f k l0 = some r) :
  Calls Tryz.prog 106 #[.slice A0 l0.length c0] w fun e w' => e = .returned (.bool r) ∧ Below w.heap.size w w' := by
 have HR0 := am hr0
 have HC0 := am hc0
 clear hr0 hc0
 have HB := am (Below.refl w.heap.size w)
 have H : (if (l0.length : Int) = 0 then (R15Rdn.j0 k l0 true) else (R15Rdn.j0 k l0 (decide ((l0.length : Int) > 4)))) = some r := h
 clear h
 have HC2 := am H
 clear H
 go_enter Tryz.func106, Tryz.ntmps106
 go_upto_region 1 with (fail)
 repeat (go_quiet (fail); go_upto_region 1 with (fail))
 go_cut [12] (fun v12 wc => ∃ (kq : Nat) (x12_1 : Bool), v12 = .bool x12_1 ∧ Aside0 (R15Rdn.j0 kq l0 x12_1 = some r) ∧ Aside0 (kq ≤ k) ∧ Aside0 (Below w.heap.size w wc))
 case first =>
  have H := HC2.out; clear HC2; revert H; refine spe01 ?_ ?_
  ·intro c3b0 c3b1 H; (first | rw [c3b0] | (simp only [i64_w, i32_w]; rw [c3b0]) | skip); have H' := am H; clear H; go_wp2; (repeat (go_quiet (fail); try go_wp2)); (first | go_meet | (simp only [c3b0] at *; go_meet)); case rel => exact ⟨_, (true), ap2, H', ⟨apN⟩, ⟨ap1⟩⟩
  ·intro c3 c3b0 c3b1 H; have c3b2 : ¬ (l0 = []) := fun h_ => c3 (by rw [h_]; rfl)
   (first | rw [c3b0] | (simp only [i64_w, i32_w]; rw [c3b0]) | skip); have H' := am H; clear H; go_wp2; (repeat (go_quiet (fail); try go_wp2)); (first | go_meet | (simp only [c3b0] at *; go_meet) | (simp only [c3b0] at *; go_meet)); case rel => exact ⟨_, (decide ((l0.length : Int) > 4)), ap2, H', ⟨apN⟩, ⟨ap1⟩⟩
 case rest =>
  clear HC2; obtain ⟨kq, x12_1, rfl, HA, HJ1, HB⟩ := hcut; cases kq with
  | zero => exact absurd HA.out (by simp [R15Rdn.j0])
  | succ kj1 =>
   have H := HA.out; clear HA; simp only [R15Rdn.j0] at H; revert H; refine spb ?_ ?_
   ·rintro rfl H; obtain rfl := Option.some.inj H; go_wp2; (repeat (go_quiet (fail); try go_wp2)); go_ret; exact ⟨ap9, ap1⟩
   ·rintro rfl H; have H' := am H; clear H; go_wp2; (repeat (go_quiet (fail); try go_wp2)); go_loopg [3] kj1 (fun kq v3 w' => ∃ (x3_2 : Int), v3 = .int .i64 x3_2 ∧ Aside0 (R15Rdn.l0 kq l0 x3_2 = some r) ∧ Aside0 (kq ≤ kj1) ∧ Aside0 (Below w.heap.size w w')); (case atStart => exact ⟨(0), ap2, H', ⟨Nat.le_refl _⟩, ⟨ap1⟩⟩); case round =>
     clear H'; (try clear c4); obtain ⟨x3_2, rfl, HA, HK2, HB⟩ := hrel; cases gk with
     | zero => exact absurd HA.out (by simp [R15Rdn.l0])
     | succ k2 =>
      have H := HA.out; clear HA; simp only [R15Rdn.l0] at H; revert H; refine spd00 ?_ ?_
      ·intro c5b0 H; have HC6 := am H; clear H; go_upto_region 6 with (fail); (repeat (go_quiet (fail); go_upto_region 6 with (fail))); go_cut [34] (fun v34 wc => ∃ (kq : Nat) (x34_5 : Bool), v34 = .bool x34_5 ∧ Aside0 (R15Rdn.j2 kq l0 x3_2 x34_5 = some r) ∧ Aside0 (kq ≤ k2) ∧ Aside0 (Below w.heap.size w wc)); case first =>
        have H := HC6.out; clear HC6; revert H; refine spn0 ?_; intro c7b0 H; (first | rw [c7b0] | (simp only [i64_w, i32_w]; rw [c7b0]) | skip); replace H := Option.bind_eq_some_iff.mp H; obtain ⟨t626, A80, H⟩ := H; replace H : (if t626 = true then ((R15Value.f k2 ((rd_T96 l0 x3_2).f1)).bind fun t628 => (R15Rdn.j2 k2 l0 x3_2 (!t628))) else (R15Rdn.j2 k2 l0 x3_2 true)) = some r := H; have A8 := am A80; clear A80; revert H; refine spb ?_ ?_
        ·rintro rfl H; replace H := Option.bind_eq_some_iff.mp H; obtain ⟨t628, A100, H⟩ := H; replace H : (R15Rdn.j2 k2 l0 x3_2 (!t628)) = some r := H; have A10 := am A100; clear A100; have H' := am H; clear H; have p625 : 0 ≤ (x3_2 : Int) := apD; have q625 : x3_2 < (l0.length : Int) := apD; obtain ⟨ad625, e625, hx625_0, hx625_1⟩ := at_T96 HR0.out x3_2 p625 q625; cases e625; replace hx625_0 := (HB.out.cell (World.block_lt_of_cell? w _ hx625_0)).trans hx625_0; replace hx625_1 := (HB.out.cell (World.block_lt_of_cell? w _ hx625_1)).trans hx625_1; replace p625 := eq_true p625; replace q625 := eq_true q625; go_wp2_with (first | (go_at_call 105; (with_reducible refine (R15Type.calls k2 ((rd_T96 l0 x3_2).f0) true _ A8.out).mono ?_); rintro e w' ⟨rfl, ⟨nd, rfl⟩⟩; (try exact ap4); have p627 : 0 ≤ (x3_2 : Int) := apD; have q627 : x3_2 < (l0.length : Int) := apD; obtain ⟨ad627, e627, hx627_0, hx627_1⟩ := at_T96 HR0.out x3_2 p627 q627; obtain rfl : ad625 = ad627 := (by injection e627); replace hx627_0 := (HB.out.cell (World.block_lt_of_cell? w _ hx627_0)).trans hx627_0; replace hx627_1 := (HB.out.cell (World.block_lt_of_cell? w _ hx627_1)).trans hx627_1; replace p627 := eq_true p627; replace q627 := eq_true q627) | (go_at_call 129; (with_reducible refine (R15Value.calls k2 ((rd_T96 l0 x3_2).f1) t628 _ A10.out).mono ?_); rintro e w11 ⟨rfl, hb⟩; replace HB := am (below_step ap1 hb))); (repeat (go_quiet (first | (go_at_call 105; (with_reducible refine (R15Type.calls k2 ((rd_T96 l0 x3_2).f0) true _ A8.out).mono ?_); rintro e w' ⟨rfl, ⟨nd, rfl⟩⟩; (try exact ap4); have p627 : 0 ≤ (x3_2 : Int) := apD; have q627 : x3_2 < (l0.length : Int) := apD; obtain ⟨ad627, e627, hx627_0, hx627_1⟩ := at_T96 HR0.out x3_2 p627 q627; obtain rfl : ad625 = ad627 := (by injection e627); replace hx627_0 := (HB.out.cell (World.block_lt_of_cell? w _ hx627_0)).trans hx627_0; replace hx627_1 := (HB.out.cell (World.block_lt_of_cell? w _ hx627_1)).trans hx627_1; replace p627 := eq_true p627; replace q627 := eq_true q627) | (go_at_call 129; (with_reducible refine (R15Value.calls k2 ((rd_T96 l0 x3_2).f1) t628 _ A10.out).mono ?_); rintro e w11 ⟨rfl, hb⟩; replace HB := am (below_step ap1 hb))); try go_wp2_with (first | (go_at_call 105; (with_reducible refine (R15Type.calls k2 ((rd_T96 l0 x3_2).f0) true _ A8.out).mono ?_); rintro e w' ⟨rfl, ⟨nd, rfl⟩⟩; (try exact ap4); have p627 : 0 ≤ (x3_2 : Int) := apD; have q627 : x3_2 < (l0.length : Int) := apD; obtain ⟨ad627, e627, hx627_0, hx627_1⟩ := at_T96 HR0.out x3_2 p627 q627; obtain rfl : ad625 = ad627 := (by injection e627); replace hx627_0 := (HB.out.cell (World.block_lt_of_cell? w _ hx627_0)).trans hx627_0; replace hx627_1 := (HB.out.cell (World.block_lt_of_cell? w _ hx627_1)).trans hx627_1; replace p627 := eq_true p627; replace q627 := eq_true q627) | (go_at_call 129; (with_reducible refine (R15Value.calls k2 ((rd_T96 l0 x3_2).f1) t628 _ A10.out).mono ?_); rintro e w11 ⟨rfl, hb⟩; replace HB := am (below_step ap1 hb))))); (first | go_meet | (simp only [c3b0] at *; go_meet) | (simp only [c3b0] at *; go_meet)); case rel => exact ⟨_, (!t628), ap2, H', ⟨by have := HJ1.out; have := HK2.out; first | omega | exact Nat.le_refl _⟩, ⟨ap1⟩⟩
        ·rintro rfl H; have H' := am H; clear H; have p625 : 0 ≤ (x3_2 : Int) := apD; have q625 : x3_2 < (l0.length : Int) := apD; obtain ⟨ad625, e625, hx625_0, hx625_1⟩ := at_T96 HR0.out x3_2 p625 q625; cases e625; replace hx625_0 := (HB.out.cell (World.block_lt_of_cell? w _ hx625_0)).trans hx625_0; replace hx625_1 := (HB.out.cell (World.block_lt_of_cell? w _ hx625_1)).trans hx625_1; replace p625 := eq_true p625; replace q625 := eq_true q625; go_wp2_with (first | (go_at_call 105; (with_reducible refine (R15Type.calls k2 ((rd_T96 l0 x3_2).f0) false _ A8.out).mono ?_); rintro e w' ⟨rfl, ⟨nd, rfl⟩⟩; (try exact ap4))); (repeat (go_quiet (first | (go_at_call 105; (with_reducible refine (R15Type.calls k2 ((rd_T96 l0 x3_2).f0) false _ A8.out).mono ?_); rintro e w' ⟨rfl, ⟨nd, rfl⟩⟩; (try exact ap4))); try go_wp2_with (first | (go_at_call 105; (with_reducible refine (R15Type.calls k2 ((rd_T96 l0 x3_2).f0) false _ A8.out).mono ?_); rintro e w' ⟨rfl, ⟨nd, rfl⟩⟩; (try exact ap4))))); (first | go_meet | (simp only [c3b0] at *; go_meet) | (simp only [c3b0] at *; go_meet)); case rel => exact ⟨_, (true), ap2, H', ⟨by have := HJ1.out; have := HK2.out; first | omega | exact Nat.le_refl _⟩, ⟨ap1⟩⟩
       case rest =>
        clear HC6; (try clear c4); (try clear c5); (try clear c5b0); obtain ⟨kq, x34_5, rfl, HA, HJ5, HB⟩ := hcut; cases kq with
        | zero => exact absurd HA.out (by simp [R15Rdn.j2])
        | succ kj5 =>
         have H := HA.out; clear HA; simp only [R15Rdn.j2] at H; revert H; refine spb ?_ ?_
         ·rintro rfl H; obtain rfl := Option.some.inj H; go_wp2; (repeat (go_quiet (fail); try go_wp2)); go_ret; exact ⟨ap9, ap1⟩
         ·rintro rfl H; have H' := am H; clear H; go_wp2; (repeat (go_quiet (fail); try go_wp2)); go_loopg [4] kj5 (fun kq v4 w' => ∃ (x4_4 : Int), v4 = .int .i64 x4_4 ∧ Aside0 (R15Rdn.l1 kq l0 x3_2 x4_4 = some r) ∧ Aside0 (kq ≤ kj5) ∧ Aside0 (Below w.heap.size w w')); (case atStart => exact ⟨(0), ap2, H', ⟨Nat.le_refl _⟩, ⟨ap1⟩⟩); case round =>
           clear H'; (try clear c4); (try clear c5); (try clear c5b0); (try clear c12); obtain ⟨x4_4, rfl, HA, HK4, HB⟩ := hrel; cases gk with
           | zero => exact absurd HA.out (by simp [R15Rdn.l1])
           | succ k4 =>
            have H := HA.out; clear HA; simp only [R15Rdn.l1] at H; revert H; refine spd00 ?_ ?_
            ·intro c13b0 H; revert H; refine spn0 ?_; intro c14b0 H; revert H; refine spn0 ?_; intro c15b0 H; revert H; refine spn0 ?_; intro c16b0 H; revert H; refine spn0 ?_; intro c17b0 H; revert H; refine spe01 ?_ ?_
             ·intro c18b0 c18b1 H; obtain rfl := Option.some.inj H; have p629 : 0 ≤ (x4_4 : Int) := apD; have q629 : x4_4 < (l0.length : Int) := apD; obtain ⟨ad629, e629, hx629_0, hx629_1⟩ := at_T96 HR0.out x4_4 p629 q629; cases e629; replace hx629_0 := (HB.out.cell (World.block_lt_of_cell? w _ hx629_0)).trans hx629_0; replace hx629_1 := (HB.out.cell (World.block_lt_of_cell? w _ hx629_1)).trans hx629_1; replace p629 := eq_true p629; replace q629 := eq_true q629; have p630 : 0 ≤ (x3_2 : Int) := apD; have q630 : x3_2 < (l0.length : Int) := apD; obtain ⟨ad630, e630, hx630_0, hx630_1⟩ := at_T96 HR0.out x3_2 p630 q630; obtain rfl : ad629 = ad630 := (by injection e630); replace hx630_0 := (HB.out.cell (World.block_lt_of_cell? w _ hx630_0)).trans hx630_0; replace hx630_1 := (HB.out.cell (World.block_lt_of_cell? w _ hx630_1)).trans hx630_1; replace p630 := eq_true p630; replace q630 := eq_true q630; go_wp2; (repeat (go_quiet (fail); try go_wp2)); go_ret; exact ⟨ap9, ap1⟩
             ·intro c18 c18b0 c18b1 H; have H' := am H; clear H; have p629 : 0 ≤ (x4_4 : Int) := apD; have q629 : x4_4 < (l0.length : Int) := apD; obtain ⟨ad629, e629, hx629_0, hx629_1⟩ := at_T96 HR0.out x4_4 p629 q629; cases e629; replace hx629_0 := (HB.out.cell (World.block_lt_of_cell? w _ hx629_0)).trans hx629_0; replace hx629_1 := (HB.out.cell (World.block_lt_of_cell? w _ hx629_1)).trans hx629_1; replace p629 := eq_true p629; replace q629 := eq_true q629; have p630 : 0 ≤ (x3_2 : Int) := apD; have q630 : x3_2 < (l0.length : Int) := apD; obtain ⟨ad630, e630, hx630_0, hx630_1⟩ := at_T96 HR0.out x3_2 p630 q630; obtain rfl : ad629 = ad630 := (by injection e630); replace hx630_0 := (HB.out.cell (World.block_lt_of_cell? w _ hx630_0)).trans hx630_0; replace hx630_1 := (HB.out.cell (World.block_lt_of_cell? w _ hx630_1)).trans hx630_1; replace p630 := eq_true p630; replace q630 := eq_true q630; go_wp2; (repeat (go_quiet (fail); try go_wp2)); go_roundg k4; (case measure => have := HJ1.out; have := HK2.out; have := HJ5.out; have := HK4.out; omega); case rel => exact ⟨(wrap64 (x4_4 + 1)), ap2, H', ⟨by have := HJ1.out; have := HK2.out; have := HJ5.out; have := HK4.out; omega⟩, ⟨ap1⟩⟩
            ·intro c13b0 H; have H' := am H; clear H; go_wp2; (repeat (go_quiet (fail); try go_wp2)); go_roundg k4; (case measure => have := HJ1.out; have := HK2.out; have := HJ5.out; have := HK4.out; omega); case rel => exact ⟨(wrap64 (x3_2 + 1)), ap2, H', ⟨by have := HJ1.out; have := HK2.out; have := HJ5.out; have := HK4.out; omega⟩, ⟨ap1⟩⟩
      ·intro c5b0 H; obtain rfl := Option.some.inj H; go_wp2; (repeat (go_quiet (fail); try go_wp2)); go_ret; exact ⟨ap9, ap1⟩
def R15Right.l0 : Nat → List (List (S96)) → Int → Option (Bool)
 | 0, _, _ => none
 | k + 1, x0, x3 => if x3 < (x0.length : Int) then (if 0 ≤ x3 then ((R15Rdn.f k (rd_L8 x0 x3)).bind fun t632 => (if t632 = true then (R15Right.l0 k x0 (wrap64 (x3 + 1))) else (some false))) else (none)) else (some (decide ((x0.length : Int) ≤ 12)))
def R15Right.f (k : Nat) (l0 : List (List (S96))) : Option (Bool) := R15Right.l0 k l0 0
set_option maxHeartbeats 8000000 in
set_option maxRecDepth 100000 in
theorem R15Right.calls (k : Nat) (A0 : Option Addr) (c0 : Nat) (l0 : List (List (S96))) (r : Bool) (w : World) (hr0 : Kd.C (Kd.slice 96 k96) w A0 l0.length l0) (hc0 : l0.length ≤ c0) (h : R15Right.f k l0 = some r) :
  Calls Tryz.prog 75 #[.slice A0 l0.length c0] w fun e w' => e = .returned (.bool r) ∧ Below w.heap.size w w' := by
 have HR0 := am hr0
 have HC0 := am hc0
 clear hr0 hc0
 have HB := am (Below.refl w.heap.size w)
 have H : (R15Right.l0 k l0 0) = some r := h
 clear h
 have H' := am H
 clear H
 go_enter Tryz.func75, Tryz.ntmps75
 go_wp2
 go_loopg [3] k (fun kq v3 w' => ∃ (x3_1 : Int), v3 = .int .i64 x3_1 ∧ Aside0 (R15Right.l0 kq l0 x3_1 = some r) ∧ Aside0 (kq ≤ k) ∧ Aside0 (Below w.heap.size w w'))
 case atStart => exact ⟨(0), ap2, H', ⟨Nat.le_refl _⟩, ⟨ap1⟩⟩
 case round =>
  clear H'; obtain ⟨x3_1, rfl, HA, HK1, HB⟩ := hrel; cases gk with
  | zero => exact absurd HA.out (by simp [R15Right.l0])
  | succ k1 =>
   have H := HA.out; clear HA; simp only [R15Right.l0] at H; revert H; refine spd00 ?_ ?_
   ·intro c2b0 H; revert H; refine spn0 ?_; intro c3b0 H; replace H := Option.bind_eq_some_iff.mp H; obtain ⟨t632, A40, H⟩ := H; replace H : (if t632 = true then (R15Right.l0 k1 l0 (wrap64 (x3_1 + 1))) else (some false)) = some r := H; have A4 := am A40; clear A40; revert H; refine spb ?_ ?_
    ·rintro rfl H; have H' := am H; clear H; have p631 : 0 ≤ (x3_1 : Int) := apD; have q631 : x3_1 < (l0.length : Int) := apD; obtain ⟨ad631, A631_0, c631_0, e631, hx631_0, hl631_0, hi631_0⟩ := at_L8 HR0.out x3_1 p631 q631; cases e631; replace hx631_0 := (HB.out.cell (World.block_lt_of_cell? w _ hx631_0)).trans hx631_0; have HR631_0 := am hi631_0; have HC631_0 := am hl631_0; clear hi631_0 hl631_0; replace p631 := eq_true p631; replace q631 := eq_true q631; go_wp2_with (first | ((with_reducible refine gate_callee (f := 106) rfl ?_); refine goesL_ (some 14) rfl rfl Tryz.func106 (by kernel_rfl) rfl #[.slice A631_0 (rd_L8 l0 x3_1).length c631_0] rfl ap3 ?_; (with_reducible refine (R15Rdn.calls k1 _ _ (rd_L8 l0 x3_1) true _ ?side1 ?side2 A4.out).mono ?_); (case side1 => repeat (first | exact (Kd.C_below HR631_0.out HB.out) | (with_reducible refine Kd.C_alloc ?_ _) | (with_reducible refine Kd.C_drewN ?_ _) | (with_reducible refine Kd.C_drew ?_))); (case side2 => exact HC631_0.out); rintro e w6 ⟨rfl, hb⟩; refine ⟨_, rfl, ?_⟩; replace HB := am (below_step ap1 hb))); go_roundg k1; (case measure => have := HK1.out; omega); case rel => exact ⟨(wrap64 (x3_1 + 1)), ap2, H', ⟨by have := HK1.out; omega⟩, ⟨ap1⟩⟩
    ·rintro rfl H; obtain rfl := Option.some.inj H; have p631 : 0 ≤ (x3_1 : Int) := apD; have q631 : x3_1 < (l0.length : Int) := apD; obtain ⟨ad631, A631_0, c631_0, e631, hx631_0, hl631_0, hi631_0⟩ := at_L8 HR0.out x3_1 p631 q631; cases e631; replace hx631_0 := (HB.out.cell (World.block_lt_of_cell? w _ hx631_0)).trans hx631_0; have HR631_0 := am hi631_0; have HC631_0 := am hl631_0; clear hi631_0 hl631_0; replace p631 := eq_true p631; replace q631 := eq_true q631; go_wp2_with (first | ((with_reducible refine gate_callee (f := 106) rfl ?_); refine goesL_ (some 14) rfl rfl Tryz.func106 (by kernel_rfl) rfl #[.slice A631_0 (rd_L8 l0 x3_1).length c631_0] rfl ap3 ?_; (with_reducible refine (R15Rdn.calls k1 _ _ (rd_L8 l0 x3_1) false _ ?side1 ?side2 A4.out).mono ?_); (case side1 => repeat (first | exact (Kd.C_below HR631_0.out HB.out) | (with_reducible refine Kd.C_alloc ?_ _) | (with_reducible refine Kd.C_drewN ?_ _) | (with_reducible refine Kd.C_drew ?_))); (case side2 => exact HC631_0.out); rintro e w7 ⟨rfl, hb⟩; refine ⟨_, rfl, ?_⟩; replace HB := am (below_step ap1 hb))); go_ret; exact ⟨ap9, ap1⟩
   ·intro c2b0 H; obtain rfl := Option.some.inj H; go_wp2; go_ret; exact ⟨ap9, ap1⟩
mutual
def R15Parse.l0 : Nat → List (S94) → List (List (S96)) → List (S96) → Int → Int → Option ((List (List (S96))) × Int)
 | 0, _, _, _, _, _ => none
 | k + 1, x4, x6, x7, x8, x9 => if x9 ≤ (x4.length : Int) then (if x9 < (x4.length : Int) then (if 0 ≤ x9 then (if (rd_T94 x4 x9).f1 = true then (if ((rd_T94 x4 x9).f0) = 44 then (R15Parse.j1 k x4 x6 x7 x8 x9 (!true)) else (if ((rd_T94 x4 x9).f0) = 59 then (R15Parse.j1 k x4 x6 x7 x8 x9 (!true)) else (R15Parse.j1 k x4 x6 x7 x8 x9 (!(((rd_T94 x4 x9).f0) == 43))))) else (R15Parse.j1 k x4 x6 x7 x8 x9 (!false))) else (none)) else (R15Parse.j1 k x4 x6 x7 x8 x9 false)) else ((R15Right.f k x6).bind fun t646 => (if t646 = true then (some (x6, 0)) else (some (([] : List (List (S96))), 4))))
def R15Parse.j1 : Nat → List (S94) → List (List (S96)) → List (S96) → Int → Int → Bool → Option ((List (List (S96))) × Int)
 | 0, _, _, _, _, _, _ => none
 | k + 1, x4, x6, x7, x8, x9, x70 => if x70 = true then (R15Parse.l0 k x4 x6 x7 x8 (wrap64 (x9 + 1))) else (if 0 ≤ x8 then (if x8 ≤ x9 then (if x9 ≤ (x4.length : Int) then ((R15Pair.f k ((x4.take (x9 : Int).toNat).drop (x8 : Int).toNat)).bind fun bt655 => (if bt655.2.2 = true then (if x7.length < 4398046511104 then ((some (x7 ++ [(⟨bt655.1, bt655.2.1⟩ : S96)] : List (S96))).bind fun y659 => (if x9 = (x4.length : Int) then (if x6.length < 5864062014805 then (R15Parse.l0 k x4 (x6 ++ [y659]) (([] : List (S96))) (wrap64 (x9 + 1)) (wrap64 (x9 + 1))) else (none)) else (if 0 ≤ x9 then (if x9 < (x4.length : Int) then (if ((rd_T94 x4 x9).f0) = 43 then (R15Parse.l0 k x4 x6 y659 (wrap64 (x9 + 1)) (wrap64 (x9 + 1))) else (if x6.length < 5864062014805 then (R15Parse.l0 k x4 (x6 ++ [y659]) (([] : List (S96))) (wrap64 (x9 + 1)) (wrap64 (x9 + 1))) else (none))) else (none)) else (none)))) else (none)) else (some (([] : List (List (S96))), 4)))) else (none)) else (none)) else (none))
end
def R15Parse.f (k : Nat) (a0 : ByteArray) : Option ((List (List (S96))) × Int) := if (a0.size : Int) > 1000 then (some (([] : List (List (S96))), 5)) else ((R15Signs.f k a0).bind fun bt633 => (if bt633.2 = true then ((some (([] : List (List (S96))) : List (List (S96)))).bind fun y637 => ((R15Trim.f k bt633.1).bind fun t640 => (if (t640.length : Int) = 0 then (some (y637, 0)) else (R15Parse.l0 k bt633.1 y637 (([] : List (S96))) 0 0)))) else (some (([] : List (List (S96))), 4))))
set_option maxHeartbeats 8000000 in
set_option maxRecDepth 100000 in
theorem R15Parse.calls (k : Nat) (a0 : ByteArray) (r1 : List (List (S96))) (r2 : Int) (w : World) (h : R15Parse.f k a0 = some (r1, r2)) :
  Calls Tryz.prog 45 #[.string a0] w fun e w' => ∃ v0_ : Value, e = .returned (.tuple #[v0_, .int .i64 r2]) ∧ Kd.S (Kd.slice 96 k96) 92 w' w.heap.size (fun _ => True) v0_ r1 ∧ Below w.heap.size w w' := by
 have hu96 := Tryz.underlying96
 have HB := am (Below.refl w.heap.size w)
 have H : (if (a0.size : Int) > 1000 then (some (([] : List (List (S96))), 5)) else ((R15Signs.f k a0).bind fun bt633 => (if bt633.2 = true then ((some (([] : List (List (S96))) : List (List (S96)))).bind fun y637 => ((R15Trim.f k bt633.1).bind fun t640 => (if (t640.length : Int) = 0 then (some (y637, 0)) else (R15Parse.l0 k bt633.1 y637 (([] : List (S96))) 0 0)))) else (some (([] : List (List (S96))), 4))))) = some (r1, r2) := h
 clear h
 revert H
 refine spd11 ?_ ?_
 ·intro c2 c2b0 H; have c2b1 : decide (1000 < a0.size) = true := decide_eq_true (by omega); clear c2; simp only [Option.some.injEq, Prod.mk.injEq] at H; obtain ⟨rfl, rfl⟩ := H; go_enter Tryz.func45, Tryz.ntmps45; go_wp2; go_ret2; exact ⟨_, ap9, by first | exact Kd.S_nil _ _ _ _ _ | exact Kd.N_nil _ _ _ _ _ | exact Kd.V_nil _ _ _ _ _ | exact Kd.Q_nil _ _ _ _ _ | exact Kd.R_nil _ _ _ _ _, ap1⟩
 ·intro c2 c2b0 H; have c2b1 : decide (1000 < a0.size) = false := decide_eq_false (by omega); clear c2; replace H := Option.bind_eq_some_iff.mp H; obtain ⟨⟨t633, t634⟩, A30, H⟩ := H; replace H : (if t634 = true then ((some (([] : List (List (S96))) : List (List (S96)))).bind fun y637 => ((R15Trim.f k t633).bind fun t640 => (if (t640.length : Int) = 0 then (some (y637, 0)) else (R15Parse.l0 k t633 y637 (([] : List (S96))) 0 0)))) else (some (([] : List (List (S96))), 4))) = some (r1, r2) := H; have A3 := am A30; clear A30; revert H; refine spb ?_ ?_
  ·rintro rfl H; obtain ⟨y637, hy637⟩ : ∃ y_ : List (List (S96)), y_ = (([] : List (List (S96)))) := ⟨_, rfl⟩; replace H : ((R15Trim.f k t633).bind fun t640 => (if (t640.length : Int) = 0 then (some (y637, 0)) else (R15Parse.l0 k t633 y637 (([] : List (S96))) 0 0))) = some (r1, r2) := apY hy637 H; have Ny637 := am hy637; clear hy637; replace H := Option.bind_eq_some_iff.mp H; obtain ⟨t640, A50, H⟩ := H; replace H : (if (t640.length : Int) = 0 then (some (y637, 0)) else (R15Parse.l0 k t633 y637 (([] : List (S96))) 0 0)) = some (r1, r2) := H; have A5 := am A50; clear A50; revert H; refine spe01 ?_ ?_
   ·intro c6b0 c6b1 H; simp only [Option.some.injEq, Prod.mk.injEq] at H; obtain ⟨rfl, rfl⟩ := H; go_enter Tryz.func45, Tryz.ntmps45; go_wp2_with (first | ((with_reducible refine gate_callee (f := 72) rfl ?_); refine goesL_ (some 17) rfl rfl Tryz.func72 (by kernel_rfl) rfl #[.string a0] rfl ap3 ?_; (with_reducible refine (R15Signs.calls k a0 t633 true _ A3.out).mono ?_); rintro e w7 ⟨v635, rfl, ho0, hb⟩; refine ⟨_, rfl, ?_⟩; have HO636 := am (Kd.R_lower ho0 (below_size ap1)); replace HB := am (below_step ap1 hb); (try clear ho0)) | ((with_reducible refine gate_dst (N := 22) rfl ?_); refine Kd.S_lit (Kd.slice 96 k96) _ 92 ?hg (N := 22) ?hd (xs := ([] : List (List (S96)))) (inner := []) (ok := fun _ => True) (okp := fun _ => True) ?hr ?hp (fun _ hk => hk) trivial (Below.refl _ _) (Nat.le_refl _) (by simp) ?_; (case hd => rfl); (case hg => rfl); (case hr => first | (go_simp; done) | (go_simp; rfl)); (case hp => exact (Reps.none _ _)); intro v638 w8 ho9 hb hg_ hnew_; clear hg_ hnew_; (first | rw [← Ny637.out] at ho9 | (simp only [Int.reduceToNat] at ho9; rw [← Ny637.out] at ho9)); replace HO636 := am (Kd.R_below (apAR HO636.out) hb); have HO639 := am (Kd.S_lower ho9 (below_size ap1)); replace HB := am (below_step ap1 hb); clear hb ho9; obtain ⟨Ao10, co10, eo10⟩ := Kd.R_slice HO636.out; subst eo10) | ((with_reducible refine gate_callee (f := 73) rfl ?_); refine goesL_ (some 24) rfl rfl Tryz.func73 (by kernel_rfl) rfl #[.slice Ao10 t633.length co10] rfl ap3 ?_; (with_reducible refine (R15Trim.calls k (fun k_ => some k_ = (.slice Ao10 t633.length co10 : Value).ownBlock) _ _ t633 t640 _ ?side1 A5.out).mono ?_); (case side1 => exact Kd.R_V (Kd.R_tight rfl (Kd.R_apart' (HO636.out) (Kd.S_typed HO639.out) (by decide)))); rintro e w11 ⟨v641, rfl, ho0, hb⟩; refine ⟨_, rfl, ?_⟩; have n0_ := am (Kd.R_below (apAR HO636.out) hb); have n1_ := am (Kd.S_below (apAS HO639.out) hb); have n2_ := am (Kd.V_lower (Kd.V_mono (ok' := fun k_ => some k_ ≠ (v638 : Value).ownBlock) ho0 (fun k_ hk_ => Or.elim hk_ (fun hs_ => ((Kd.R_apart' (HO636.out) (Kd.S_typed HO639.out) (by decide)).1 k_ hs_.symm).2) (fun hn_ => (Kd.fresh' (Kd.S_lt (apAS HO639.out)) k_ hn_)))) (below_size ap1)); have n3_ := am (below_step ap1 hb); clear HO636; clear HO639; clear HB; have HO636 := n0_; have HO639 := n1_; have HO642 := n2_; have HB := n3_; clear n0_ n1_ n2_ n3_; (try clear ho0); obtain ⟨Ao12, co12, eo12⟩ := Kd.V_slice HO642.out; subst eo12)); go_ret2; exact ⟨_, ap9, apAS HO639.out, ap1⟩
   ·intro c6 c6b0 c6b1 H; have c6b2 : ¬ (t640 = []) := fun h_ => c6 (by rw [h_]; rfl)
    obtain ⟨y643, hy643⟩ : ∃ y_ : List (S96), y_ = (([] : List (S96))) := ⟨_, rfl⟩; replace H : (R15Parse.l0 k t633 y637 y643 0 0) = some (r1, r2) := apY hy643 H; have Ny643 := am hy643; clear hy643; have H' := am H; clear H; go_enter Tryz.func45, Tryz.ntmps45; go_wp2_with (first | ((with_reducible refine gate_callee (f := 72) rfl ?_); refine goesL_ (some 17) rfl rfl Tryz.func72 (by kernel_rfl) rfl #[.string a0] rfl ap3 ?_; (with_reducible refine (R15Signs.calls k a0 t633 true _ A3.out).mono ?_); rintro e w13 ⟨v635, rfl, ho0, hb⟩; refine ⟨_, rfl, ?_⟩; have HO636 := am (Kd.R_lower ho0 (below_size ap1)); replace HB := am (below_step ap1 hb); (try clear ho0)) | ((with_reducible refine gate_dst (N := 22) rfl ?_); refine Kd.S_lit (Kd.slice 96 k96) _ 92 ?hg (N := 22) ?hd (xs := ([] : List (List (S96)))) (inner := []) (ok := fun _ => True) (okp := fun _ => True) ?hr ?hp (fun _ hk => hk) trivial (Below.refl _ _) (Nat.le_refl _) (by simp) ?_; (case hd => rfl); (case hg => rfl); (case hr => first | (go_simp; done) | (go_simp; rfl)); (case hp => exact (Reps.none _ _)); intro v638 w14 ho15 hb hg_ hnew_; clear hg_ hnew_; (first | rw [← Ny637.out] at ho15 | (simp only [Int.reduceToNat] at ho15; rw [← Ny637.out] at ho15)); replace HO636 := am (Kd.R_below (apAR HO636.out) hb); have HO639 := am (Kd.S_lower ho15 (below_size ap1)); replace HB := am (below_step ap1 hb); clear hb ho15; obtain ⟨Ao16, co16, eo16⟩ := Kd.R_slice HO636.out; subst eo16) | ((with_reducible refine gate_callee (f := 73) rfl ?_); refine goesL_ (some 24) rfl rfl Tryz.func73 (by kernel_rfl) rfl #[.slice Ao16 t633.length co16] rfl ap3 ?_; (with_reducible refine (R15Trim.calls k (fun k_ => some k_ = (.slice Ao16 t633.length co16 : Value).ownBlock) _ _ t633 t640 _ ?side1 A5.out).mono ?_); (case side1 => exact Kd.R_V (Kd.R_tight rfl (Kd.R_apart' (HO636.out) (Kd.S_typed HO639.out) (by decide)))); rintro e w17 ⟨v641, rfl, ho0, hb⟩; refine ⟨_, rfl, ?_⟩; have n0_ := am (Kd.R_below (apAR HO636.out) hb); have n1_ := am (Kd.S_below (apAS HO639.out) hb); have n2_ := am (Kd.V_lower (Kd.V_mono (ok' := fun k_ => some k_ ≠ (v638 : Value).ownBlock) ho0 (fun k_ hk_ => Or.elim hk_ (fun hs_ => ((Kd.R_apart' (HO636.out) (Kd.S_typed HO639.out) (by decide)).1 k_ hs_.symm).2) (fun hn_ => (Kd.fresh' (Kd.S_lt (apAS HO639.out)) k_ hn_)))) (below_size ap1)); have n3_ := am (below_step ap1 hb); clear HO636; clear HO639; clear HB; have HO636 := n0_; have HO639 := n1_; have HO642 := n2_; have HB := n3_; clear n0_ n1_ n2_ n3_; (try clear ho0); obtain ⟨Ao18, co18, eo18⟩ := Kd.V_slice HO642.out; subst eo18) | ((with_reducible refine gate_dst (N := 28) rfl ?_); refine Kd.R_lit k96 _ 96 ?hg (N := 28) ?hd (xs := ([] : List (S96))) (inner := []) (ok := fun _ => True) (okp := fun _ => True) ?hr ?hp (fun _ hk => hk) trivial (Below.refl _ _) (Nat.le_refl _) (by simp) ?_; (case hd => rfl); (case hg => rfl); (case hr => first | (go_simp; done) | (go_simp; rfl)); (case hp => exact (Reps.none _ _)); intro v644 w19 ho20 hb hg_ hnew_; clear hg_ hnew_; (first | rw [← Ny643.out] at ho20 | (simp only [Int.reduceToNat] at ho20; rw [← Ny643.out] at ho20)); replace HO636 := am (Kd.R_below (apAR HO636.out) hb); replace HO639 := am (Kd.S_elder' (apAS HO639.out) (Kd.R_base ho20) hb); replace HO642 := am (Kd.V_elder' (apAV HO642.out) (Kd.R_base ho20) hb); have HO645 := am (Kd.R_lower ho20 (below_size ap1)); replace HB := am (below_step ap1 hb); clear hb ho20)); go_loopg [6, 7, 8, 9] k (fun kq v6 v7 v8 v9 w' => ∃ (x6_1 : List (List (S96))) (x7_1 : List (S96)) (x8_1 : Int) (x9_1 : Int), v8 = .int .i64 x8_1 ∧ v9 = .int .i64 x9_1 ∧ Aside0 (R15Parse.l0 kq t633 x6_1 x7_1 x8_1 x9_1 = some (r1, r2)) ∧ Aside0 (kq ≤ k) ∧ Aside0 (Kd.R k94 94 w' w.heap.size (fun _ => True) (.slice Ao16 t633.length co16) t633) ∧ Aside0 (Kd.S (Kd.slice 96 k96) 92 w' w.heap.size (fun k_ => some k_ ≠ (v7 : Value).ownBlock) v6 x6_1) ∧ Aside0 (Kd.R k96 96 w' w.heap.size (fun _ => True) v7 x7_1) ∧ Aside0 (Below w.heap.size w w')); (case atStart => exact ⟨(y637), (y643), (0), (0), ap2, ap2, H', ⟨Nat.le_refl _⟩, ⟨apAR HO636.out⟩, ⟨by (with_reducible repeat (first | apply Kd.S_alloc | apply Kd.S_drewN | apply Kd.S_drew)); exact Kd.S_mono HO639.out (fun _ hk => hk.2)⟩, ⟨apAR HO645.out⟩, ⟨ap1⟩⟩); case round =>
     clear H'; (try clear c2); (try clear c2b0); (try clear c2b1); (try clear c4); (try clear c6); (try clear c6b0); (try clear c6b1); (try clear c6b2); obtain ⟨x6_1, x7_1, x8_1, x9_1, rfl, rfl, HA, HK1, HO_4, HO_6, HO_7, HB⟩ := hrel; cases gk with
     | zero => exact absurd HA.out (by simp [R15Parse.l0])
     | succ k1 =>
      have H := HA.out; clear HA; simp only [R15Parse.l0] at H; revert H; refine spd00 ?_ ?_
      ·intro c21b0 H; have HC22 := am H; clear H; go_upto_region 14 with (fail); go_cut [70] (fun v70 wc => ∃ (kq : Nat) (x70_21 : Bool), v70 = .bool x70_21 ∧ Aside0 (R15Parse.j1 kq t633 x6_1 x7_1 x8_1 x9_1 x70_21 = some (r1, r2)) ∧ Aside0 (kq ≤ k1) ∧ Aside0 (Kd.R k94 94 wc w.heap.size (fun _ => True) (.slice Ao16 t633.length co16) t633) ∧ Aside0 (Kd.S (Kd.slice 96 k96) 92 wc w.heap.size (fun k_ => some k_ ≠ (u7 : Value).ownBlock) u6 x6_1) ∧ Aside0 (Kd.R k96 96 wc w.heap.size (fun _ => True) u7 x7_1) ∧ Aside0 (Below w.heap.size w wc)); case first =>
        have H := HC22.out; clear HC22; revert H; refine spd00 ?_ ?_
        ·intro c23b0 H; (first | rw [c23b0] | (simp only [i64_w, i32_w]; rw [c23b0]) | skip); revert H; refine spn0 ?_; intro c24b0 H; obtain ⟨bq25, hbq25⟩ : ∃ b_ : Bool, b_ = ((rd_T94 t633 x9_1).f1) := ⟨_, rfl⟩; replace H : (if bq25 = true then (if ((rd_T94 t633 x9_1).f0) = 44 then (R15Parse.j1 k1 t633 x6_1 x7_1 x8_1 x9_1 (!true)) else (if ((rd_T94 t633 x9_1).f0) = 59 then (R15Parse.j1 k1 t633 x6_1 x7_1 x8_1 x9_1 (!true)) else (R15Parse.j1 k1 t633 x6_1 x7_1 x8_1 x9_1 (!(((rd_T94 t633 x9_1).f0) == 43))))) else (R15Parse.j1 k1 t633 x6_1 x7_1 x8_1 x9_1 (!false))) = some (r1, r2) := by rw [← hbq25] at H; exact H
         have Nbq25 := am hbq25; clear hbq25; revert H; refine spb ?_ ?_
         ·rintro rfl H; revert H; refine spe01 ?_ ?_
          ·intro c27b0 c27b1 H; have H' := am H; clear H; have p647 : 0 ≤ (x9_1 : Int) := apD; have q647 : x9_1 < (t633.length : Int) := apD; obtain ⟨ad647, e647, hx647_0, hx647_1⟩ := at_T94 (Kd.R_reads' HO_4.out).2.2 x9_1 p647 q647; (try rw [← Nbq25.out] at hx647_1); cases e647; replace p647 := eq_true p647; replace q647 := eq_true q647; have p648 : 0 ≤ (x9_1 : Int) := apD; have q648 : x9_1 < (t633.length : Int) := apD; obtain ⟨ad648, e648, hx648_0, hx648_1⟩ := at_T94 (Kd.R_reads' HO_4.out).2.2 x9_1 p648 q648; (try rw [← Nbq25.out] at hx648_1); obtain rfl : ad647 = ad648 := (by injection e648); replace p648 := eq_true p648; replace q648 := eq_true q648; go_wp2; (first | go_meet | (simp only [c27b0] at *; go_meet) | (simp only [c6b0] at *; go_meet) | (simp only [c6b0] at *; go_meet)); case rel => exact ⟨_, (!true), ap2, H', ⟨by have := HK1.out; first | omega | exact Nat.le_refl _⟩, ⟨apAR HO_4.out⟩, ⟨apAS HO_6.out⟩, ⟨apAR HO_7.out⟩, ⟨ap1⟩⟩
          ·intro c27 c27b0 c27b1 H; revert H; refine spe01 ?_ ?_
           ·intro c28b0 c28b1 H; have H' := am H; clear H; have p647 : 0 ≤ (x9_1 : Int) := apD; have q647 : x9_1 < (t633.length : Int) := apD; obtain ⟨ad647, e647, hx647_0, hx647_1⟩ := at_T94 (Kd.R_reads' HO_4.out).2.2 x9_1 p647 q647; (try rw [← Nbq25.out] at hx647_1); cases e647; replace p647 := eq_true p647; replace q647 := eq_true q647; have p648 : 0 ≤ (x9_1 : Int) := apD; have q648 : x9_1 < (t633.length : Int) := apD; obtain ⟨ad648, e648, hx648_0, hx648_1⟩ := at_T94 (Kd.R_reads' HO_4.out).2.2 x9_1 p648 q648; (try rw [← Nbq25.out] at hx648_1); obtain rfl : ad647 = ad648 := (by injection e648); replace p648 := eq_true p648; replace q648 := eq_true q648; have p649 : 0 ≤ (x9_1 : Int) := apD; have q649 : x9_1 < (t633.length : Int) := apD; obtain ⟨ad649, e649, hx649_0, hx649_1⟩ := at_T94 (Kd.R_reads' HO_4.out).2.2 x9_1 p649 q649; (try rw [← Nbq25.out] at hx649_1); obtain rfl : ad647 = ad649 := (by injection e649); replace p649 := eq_true p649; replace q649 := eq_true q649; go_wp2; (first | go_meet | (simp only [c28b0] at *; go_meet) | (simp only [c27b0] at *; go_meet) | (simp only [c27b0] at *; go_meet)); case rel => exact ⟨_, (!true), ap2, H', ⟨by have := HK1.out; first | omega | exact Nat.le_refl _⟩, ⟨apAR HO_4.out⟩, ⟨apAS HO_6.out⟩, ⟨apAR HO_7.out⟩, ⟨ap1⟩⟩
           ·intro c28 c28b0 c28b1 H; have H' := am H; clear H; have p647 : 0 ≤ (x9_1 : Int) := apD; have q647 : x9_1 < (t633.length : Int) := apD; obtain ⟨ad647, e647, hx647_0, hx647_1⟩ := at_T94 (Kd.R_reads' HO_4.out).2.2 x9_1 p647 q647; (try rw [← Nbq25.out] at hx647_1); cases e647; replace p647 := eq_true p647; replace q647 := eq_true q647; have p648 : 0 ≤ (x9_1 : Int) := apD; have q648 : x9_1 < (t633.length : Int) := apD; obtain ⟨ad648, e648, hx648_0, hx648_1⟩ := at_T94 (Kd.R_reads' HO_4.out).2.2 x9_1 p648 q648; (try rw [← Nbq25.out] at hx648_1); obtain rfl : ad647 = ad648 := (by injection e648); replace p648 := eq_true p648; replace q648 := eq_true q648; have p649 : 0 ≤ (x9_1 : Int) := apD; have q649 : x9_1 < (t633.length : Int) := apD; obtain ⟨ad649, e649, hx649_0, hx649_1⟩ := at_T94 (Kd.R_reads' HO_4.out).2.2 x9_1 p649 q649; (try rw [← Nbq25.out] at hx649_1); obtain rfl : ad647 = ad649 := (by injection e649); replace p649 := eq_true p649; replace q649 := eq_true q649; have p650 : 0 ≤ (x9_1 : Int) := apD; have q650 : x9_1 < (t633.length : Int) := apD; obtain ⟨ad650, e650, hx650_0, hx650_1⟩ := at_T94 (Kd.R_reads' HO_4.out).2.2 x9_1 p650 q650; (try rw [← Nbq25.out] at hx650_1); obtain rfl : ad647 = ad650 := (by injection e650); replace p650 := eq_true p650; replace q650 := eq_true q650; go_wp2; (first | go_meet | (simp only [c28b0] at *; go_meet) | (simp only [c28b0] at *; go_meet) | (simp only [c27b0] at *; go_meet)); case rel => exact ⟨_, (!(((rd_T94 t633 x9_1).f0) == 43)), ap2, H', ⟨by have := HK1.out; first | omega | exact Nat.le_refl _⟩, ⟨apAR HO_4.out⟩, ⟨apAS HO_6.out⟩, ⟨apAR HO_7.out⟩, ⟨ap1⟩⟩
         ·rintro rfl H; have H' := am H; clear H; have p647 : 0 ≤ (x9_1 : Int) := apD; have q647 : x9_1 < (t633.length : Int) := apD; obtain ⟨ad647, e647, hx647_0, hx647_1⟩ := at_T94 (Kd.R_reads' HO_4.out).2.2 x9_1 p647 q647; (try rw [← Nbq25.out] at hx647_1); cases e647; replace p647 := eq_true p647; replace q647 := eq_true q647; go_wp2; (first | go_meet | (simp only [c28b0] at *; go_meet) | (simp only [c28b0] at *; go_meet) | (simp only [c27b0] at *; go_meet)); case rel => exact ⟨_, (!false), ap2, H', ⟨by have := HK1.out; first | omega | exact Nat.le_refl _⟩, ⟨apAR HO_4.out⟩, ⟨apAS HO_6.out⟩, ⟨apAR HO_7.out⟩, ⟨ap1⟩⟩
        ·intro c23b0 H; (first | rw [c23b0] | (simp only [i64_w, i32_w]; rw [c23b0]) | skip); have H' := am H; clear H; go_wp2; (first | go_meet | (simp only [c28b0] at *; go_meet) | (simp only [c28b0] at *; go_meet) | (simp only [c27b0] at *; go_meet)); case rel => exact ⟨_, (false), ap2, H', ⟨by have := HK1.out; first | omega | exact Nat.le_refl _⟩, ⟨apAR HO_4.out⟩, ⟨apAS HO_6.out⟩, ⟨apAR HO_7.out⟩, ⟨ap1⟩⟩
       case rest =>
        clear HC22; (try clear c2); (try clear c2b0); (try clear c2b1); (try clear c4); (try clear c6); (try clear c6b0); (try clear c6b1); (try clear c6b2); (try clear c21); (try clear c21b0); obtain ⟨kq, x70_21, rfl, HA, HJ21, HO_4, HO_6, HO_7, HB⟩ := hcut; cases kq with
        | zero => exact absurd HA.out (by simp [R15Parse.j1])
        | succ kj21 =>
         have H := HA.out; clear HA; simp only [R15Parse.j1] at H; revert H; refine spb ?_ ?_
         ·rintro rfl H; have H' := am H; clear H; go_wp2; go_roundg kj21; (case measure => have := HK1.out; have := HJ21.out; omega); case rel => exact ⟨(x6_1), (x7_1), (x8_1), (wrap64 (x9_1 + 1)), ap2, ap2, H', ⟨by have := HK1.out; have := HJ21.out; omega⟩, ⟨apAR HO_4.out⟩, ⟨apAS HO_6.out⟩, ⟨apAR HO_7.out⟩, ⟨ap1⟩⟩
         ·rintro rfl H; by_cases c30 : 0 ≤ x8_1
          ·rw [if_pos c30] at H; have c30b0 := eq_true c30; have c30b1 := decide_eq_true c30; clear c30; by_cases c31 : x8_1 ≤ x9_1
           ·rw [if_pos c31] at H; have c31b0 := eq_true c31; have c31b1 := decide_eq_true c31; clear c31; by_cases c32 : x9_1 ≤ (t633.length : Int)
            ·rw [if_pos c32] at H; have c32b0 := eq_true c32; have c32b1 := decide_eq_true c32; clear c32; obtain ⟨y651, hy651⟩ : ∃ y_ : List (S94), y_ = ((t633.take (x9_1 : Int).toNat).drop (x8_1 : Int).toNat) := ⟨_, rfl⟩; replace H : ((R15Pair.f kj21 y651).bind fun bt655 => (if bt655.2.2 = true then (if x7_1.length < 4398046511104 then ((some (x7_1 ++ [(⟨bt655.1, bt655.2.1⟩ : S96)] : List (S96))).bind fun y659 => (if x9_1 = (t633.length : Int) then (if x6_1.length < 5864062014805 then (R15Parse.l0 kj21 t633 (x6_1 ++ [y659]) (([] : List (S96))) (wrap64 (x9_1 + 1)) (wrap64 (x9_1 + 1))) else (none)) else (if 0 ≤ x9_1 then (if x9_1 < (t633.length : Int) then (if ((rd_T94 t633 x9_1).f0) = 43 then (R15Parse.l0 kj21 t633 x6_1 y659 (wrap64 (x9_1 + 1)) (wrap64 (x9_1 + 1))) else (if x6_1.length < 5864062014805 then (R15Parse.l0 kj21 t633 (x6_1 ++ [y659]) (([] : List (S96))) (wrap64 (x9_1 + 1)) (wrap64 (x9_1 + 1))) else (none))) else (none)) else (none)))) else (none)) else (some (([] : List (List (S96))), 4)))) = some (r1, r2) := apY hy651 H; have Ny651 := am hy651; clear hy651; replace H := Option.bind_eq_some_iff.mp H; obtain ⟨⟨t655, t656, t657⟩, A330, H⟩ := H; replace H : (if t657 = true then (if x7_1.length < 4398046511104 then ((some (x7_1 ++ [(⟨t655, t656⟩ : S96)] : List (S96))).bind fun y659 => (if x9_1 = (t633.length : Int) then (if x6_1.length < 5864062014805 then (R15Parse.l0 kj21 t633 (x6_1 ++ [y659]) (([] : List (S96))) (wrap64 (x9_1 + 1)) (wrap64 (x9_1 + 1))) else (none)) else (if 0 ≤ x9_1 then (if x9_1 < (t633.length : Int) then (if ((rd_T94 t633 x9_1).f0) = 43 then (R15Parse.l0 kj21 t633 x6_1 y659 (wrap64 (x9_1 + 1)) (wrap64 (x9_1 + 1))) else (if x6_1.length < 5864062014805 then (R15Parse.l0 kj21 t633 (x6_1 ++ [y659]) (([] : List (S96))) (wrap64 (x9_1 + 1)) (wrap64 (x9_1 + 1))) else (none))) else (none)) else (none)))) else (none)) else (some (([] : List (List (S96))), 4))) = some (r1, r2) := H; have A33 := am A330; clear A330; revert H; refine spb ?_ ?_
             ·rintro rfl H; by_cases c35 : x7_1.length < 4398046511104
              ·rw [if_pos c35] at H; have LMc35 := am c35; clear c35; obtain ⟨y659, hy659⟩ : ∃ y_ : List (S96), y_ = (x7_1 ++ [(⟨t655, t656⟩ : S96)]) := ⟨_, rfl⟩; replace H : (if x9_1 = (t633.length : Int) then (if x6_1.length < 5864062014805 then (R15Parse.l0 kj21 t633 (x6_1 ++ [y659]) (([] : List (S96))) (wrap64 (x9_1 + 1)) (wrap64 (x9_1 + 1))) else (none)) else (if 0 ≤ x9_1 then (if x9_1 < (t633.length : Int) then (if ((rd_T94 t633 x9_1).f0) = 43 then (R15Parse.l0 kj21 t633 x6_1 y659 (wrap64 (x9_1 + 1)) (wrap64 (x9_1 + 1))) else (if x6_1.length < 5864062014805 then (R15Parse.l0 kj21 t633 (x6_1 ++ [y659]) (([] : List (S96))) (wrap64 (x9_1 + 1)) (wrap64 (x9_1 + 1))) else (none))) else (none)) else (none))) = some (r1, r2) := apY hy659 H; have Ny659 := am hy659; clear hy659; revert H; refine spe01 ?_ ?_
               ·intro c36b0 c36b1 H; by_cases c37 : x6_1.length < 5864062014805
                ·rw [if_pos c37] at H; have LMc37 := am c37; clear c37; obtain ⟨y662, hy662⟩ : ∃ y_ : List (List (S96)), y_ = (x6_1 ++ [y659]) := ⟨_, rfl⟩; replace H : (R15Parse.l0 kj21 t633 y662 (([] : List (S96))) (wrap64 (x9_1 + 1)) (wrap64 (x9_1 + 1))) = some (r1, r2) := apY hy662 H; have Ny662 := am hy662; clear hy662; obtain ⟨y665, hy665⟩ : ∃ y_ : List (S96), y_ = (([] : List (S96))) := ⟨_, rfl⟩; replace H : (R15Parse.l0 kj21 t633 y662 y665 (wrap64 (x9_1 + 1)) (wrap64 (x9_1 + 1))) = some (r1, r2) := apY hy665 H; have Ny665 := am hy665; clear hy665; have H' := am H; clear H; have q38 : (x9_1 : Int) ≤ ((t633.length : Int) : Int) := apD; obtain ⟨i038, hi038, _, hsz38, _⟩ := info_parts info94; have hroom38 : t633.length ≤ co16 := (Kd.R_reads' HO_4.out).2.1; have hC38 : Kd.C k94 _ Ao16 t633.length t633 := (Kd.R_reads' HO_4.out).2.2; have ql38 : (x8_1 : Int) ≤ (x9_1 : Int) := apD; have q038 : (0 : Int) ≤ (x8_1 : Int) := apD; have hcut38 := cut_mid (P := Tryz.prog) 88 94 .i64 .i64 Tryz.underlying88 hi038 2 hsz38 Ao16 t633.length co16 x8_1 x9_1 q038 ql38 q38 hroom38; have hr38 := Kd.C_mid (lo := (x8_1 : Int).toNat) (hi := (x9_1 : Int).toNat) (c := co16) hC38 (by omega) (by omega) hroom38; obtain ⟨A38, hA38⟩ : ∃ A1, A1 = (if co16 = (x8_1 : Int).toNat then Ao16 else (Ao16 : Option Addr).map (·.add ((x8_1 : Int).toNat * 2))) := ⟨_, rfl⟩; obtain ⟨c38, hc38⟩ : ∃ c1, c1 = co16 - (x8_1 : Int).toNat := ⟨_, rfl⟩; have hy38 : y651.length = (x9_1 : Int).toNat - (x8_1 : Int).toNat := (by rw [Ny651.out, List.length_drop, List.length_take] <;> omega); rw [show ((t633).take (x9_1 : Int).toNat).drop (x8_1 : Int).toNat = y651 from Ny651.out.symm] at hr38; replace hr38 : Kd.C k94 _ A38 y651.length y651 := (by rw [hA38]; exact hr38); rw [← hy38, ← hA38, ← hc38] at hcut38; have HR654 := am hr38; have HC654 := am (show y651.length ≤ c38 from by rw [hy38, hc38]; exact Nat.sub_le_sub_right (Nat.le_trans (by omega) hroom38) _); clear hr38 hC38 hroom38 hi038 hsz38 hc38; have KY38 := am hy38; have KA38 := am hA38; clear hy38 hA38; have KL38 := am (show (x9_1 : Int).toNat ≤ t633.length from by omega); have KM38 := am (show (x8_1 : Int).toNat ≤ (x9_1 : Int).toNat from by omega); replace q38 := eq_true q38; go_wp2_with (first | ((with_reducible refine gate_callee (f := 74) rfl ?_); refine goesL_ (some 76) rfl rfl Tryz.func74 (by kernel_rfl) rfl #[.slice A38 y651.length c38] rfl ap3 ?_; (with_reducible refine (R15Pair.calls kj21 _ _ y651 t655 t656 true _ ?side1 ?side2 A33.out).mono ?_); (case side1 => repeat (first | exact (apC HR654.out) | (with_reducible refine Kd.C_alloc ?_ _) | (with_reducible refine Kd.C_drewN ?_ _) | (with_reducible refine Kd.C_drew ?_))); (case side2 => exact HC654.out); rintro e w39 ⟨rfl, hb⟩; refine ⟨_, rfl, ?_⟩; replace HO_4 := am (Kd.R_below (apAR HO_4.out) hb); replace HO_6 := am (Kd.S_below (apAS HO_6.out) hb); replace HO_7 := am (Kd.R_below (apAR HO_7.out) hb); replace HR654 := am (Kd.C_below (apC HR654.out) hb); replace HB := am (below_step ap1 hb)) | ((with_reducible refine gate_dst (N := 10) rfl ?_); refine box_event ?hg (N := 10) ?hd (cs := #[.string (⟨#[]⟩ : ByteArray), .string (⟨#[]⟩ : ByteArray)]) (t := 96) ?hr ?_; (case hd => rfl); (case hg => rfl); (case hr => first | (go_simp; done) | (go_simp; rfl)); intro gb658 hg w40 hbox hb; replace HO_4 := am (Kd.R_below (apAR HO_4.out) hb); replace HO_6 := am (Kd.S_below (Kd.S_elderB (apAS HO_6.out) gb658 (Nat.le_of_eq hg.symm)) hb); replace HO_7 := am (Kd.R_below (Kd.R_elderB (apAR HO_7.out) gb658 (Nat.le_of_eq hg.symm)) hb); replace HR654 := am (Kd.C_below (apC HR654.out) hb); have BK658 := am (hbox); have GW658 := am ((by rw [hg]; exact (below_size ap1) : w.heap.size ≤ gb658)); have GE658 := am ((by rw [hg]; exact (below_size ap1) : w.heap.size ≤ gb658)); replace HB := am (below_step ap1 hb); clear hb hbox hg; obtain ⟨hcz41_0, hcz41_1, hfz41_0, hfz41_1⟩ := bc2 BK658.out) | ((with_reducible refine gate_builtin (b := .append) (xs := #[.tmp 81, .tmp 83]) rfl ?_); at_builtin; refine Kd.R_append k96 (w0 := w) w.heap.size rfl (.tmp 81) (.tmp 83) 92 96 (.agg #[(.string ⟨#[]⟩), (.string ⟨#[]⟩)]) 32 rfl Tryz.underlying92 info96 rfl (by decide) (by omega) u7 x7_1 (⟨t655, t656⟩ : S96) [.string t655, .string t656] (fun k_ => k_ ≠ gb658) (fun _ => False) rfl (by first | (go_simp; done) | (go_simp; rfl)) ?aP (fun _ hk => hk.elim) ?aF ?aO ?aB ?aS ?aL ?_; (case aP => exact k96_mkM _ _ _ (⟨t655, t656⟩ : S96)); (case aB => exact (apG GE658.out)); (case aF => exact (fun k_ hk => Kd.freshB (g := gb658) (o := .cells #[.string t655, .string t656] 96 (0, 0)) (by (with_reducible repeat (first | refine blk_drewN ?_ _ | refine blk_drew ?_ | refine blk_alloc ?_ _)); refine blk_put (cs := #[.string t655, .string (⟨#[]⟩ : ByteArray)]) ?_ 1 _ rfl; (with_reducible repeat (first | refine blk_drewN ?_ _ | refine blk_drew ?_ | refine blk_alloc ?_ _)); refine blk_put (cs := #[.string (⟨#[]⟩ : ByteArray), .string (⟨#[]⟩ : ByteArray)]) ?_ 0 _ rfl; (with_reducible repeat (first | refine blk_drewN ?_ _ | refine blk_drew ?_ | refine blk_alloc ?_ _)); exact BK658.out) k_ hk)); (case aO => exact (by (with_reducible repeat (first | apply Kd.R_alloc | apply Kd.R_drewN | apply Kd.R_drew)); exact Kd.R_mono (Kd.R_far (p := ⟨gb658, 1, none⟩) (Kd.R_far (p := ⟨gb658, 0, none⟩) (Kd.R_mono HO_7.out (fun k_ hk => (⟨hk, hk.2⟩ : _ ∧ k_ ≠ gb658))) (fun _ hk => hk.2) (.string t655)) (fun _ hk => hk.2) (.string t656)) (fun _ hk => hk.1.2))); (case aS => exact (below_size (apG GE658.out))); (case aL => have := LMc35.out; omega); intro v660 w42 ho hb hg hat; rw [← Ny659.out] at ho; have n0_ := am (Kd.R_over' (by (with_reducible repeat (first | apply Kd.R_alloc | apply Kd.R_drewN | apply Kd.R_drew)); exact (Kd.R_mono (Kd.R_far (p := ⟨gb658, 1, none⟩) (Kd.R_far (p := ⟨gb658, 0, none⟩) (Kd.R_types HO_4.out BK658.out (by decide)) (fun _ hk => hk.2) (.string t655)) (fun _ hk => hk.2) (.string t656)) (fun _ h_ => h_.1))) (Kd.R_typed (by (with_reducible repeat (first | apply Kd.R_alloc | apply Kd.R_drewN | apply Kd.R_drew)); exact (Kd.R_mono (Kd.R_far (p := ⟨gb658, 1, none⟩) (Kd.R_far (p := ⟨gb658, 0, none⟩) (Kd.R_mono HO_7.out (fun k_ hk => (⟨hk, hk.2⟩ : _ ∧ k_ ≠ gb658))) (fun _ hk => hk.2) (.string t655)) (fun _ hk => hk.2) (.string t656)) (fun _ h_ => h_.1)))) (by decide) hg); have n1_ := am (Kd.S_after (ok := (fun k_ => k_ ≠ gb658)) (by (with_reducible repeat (first | apply Kd.S_alloc | apply Kd.S_drewN | apply Kd.S_drew)); exact Kd.S_mono (Kd.S_far (p := ⟨gb658, 1, none⟩) (Kd.S_far (p := ⟨gb658, 0, none⟩) (Kd.S_mono HO_6.out (fun k_ hk => (⟨hk, hk.2⟩ : _ ∧ k_ ≠ gb658))) (fun _ hk => hk.2) (.string t655)) (fun _ hk => hk.2) (.string t656)) (fun _ hk => ⟨hk.1.2, hk.1.1⟩)) hg hat); have n2_ := am (blk_grown (g := gb658) (o := .cells #[.string t655, .string t656] 96 (0, 0)) (by (with_reducible repeat (first | refine blk_drewN ?_ _ | refine blk_drew ?_ | refine blk_alloc ?_ _)); refine blk_put (cs := #[.string t655, .string (⟨#[]⟩ : ByteArray)]) ?_ 1 _ rfl; (with_reducible repeat (first | refine blk_drewN ?_ _ | refine blk_drew ?_ | refine blk_alloc ?_ _)); refine blk_put (cs := #[.string (⟨#[]⟩ : ByteArray), .string (⟨#[]⟩ : ByteArray)]) ?_ 0 _ rfl; (with_reducible repeat (first | refine blk_drewN ?_ _ | refine blk_drew ?_ | refine blk_alloc ?_ _)); exact BK658.out) hg (Kd.R_away HO_7.out (fun _ hk => hk.2))); have n3_ := am (hb); have n4_ := am ((show Kd.C k94 w42 A38 y651.length y651 from by rw [Ny651.out, KA38.out]; exact Kd.C_mid (lo := (x8_1 : Int).toNat) (hi := (x9_1 : Int).toNat) (c := co16) ((Kd.R_reads' (Kd.R_over' (by (with_reducible repeat (first | apply Kd.R_alloc | apply Kd.R_drewN | apply Kd.R_drew)); exact (Kd.R_mono (Kd.R_far (p := ⟨gb658, 1, none⟩) (Kd.R_far (p := ⟨gb658, 0, none⟩) (Kd.R_types HO_4.out BK658.out (by decide)) (fun _ hk => hk.2) (.string t655)) (fun _ hk => hk.2) (.string t656)) (fun _ h_ => h_.1))) (Kd.R_typed (by (with_reducible repeat (first | apply Kd.R_alloc | apply Kd.R_drewN | apply Kd.R_drew)); exact (Kd.R_mono (Kd.R_far (p := ⟨gb658, 1, none⟩) (Kd.R_far (p := ⟨gb658, 0, none⟩) (Kd.R_mono HO_7.out (fun k_ hk => (⟨hk, hk.2⟩ : _ ∧ k_ ≠ gb658))) (fun _ hk => hk.2) (.string t655)) (fun _ hk => hk.2) (.string t656)) (fun _ h_ => h_.1)))) (by decide) hg)).2.2) KM38.out KL38.out ((Kd.R_reads' (Kd.R_over' (by (with_reducible repeat (first | apply Kd.R_alloc | apply Kd.R_drewN | apply Kd.R_drew)); exact (Kd.R_mono (Kd.R_far (p := ⟨gb658, 1, none⟩) (Kd.R_far (p := ⟨gb658, 0, none⟩) (Kd.R_types HO_4.out BK658.out (by decide)) (fun _ hk => hk.2) (.string t655)) (fun _ hk => hk.2) (.string t656)) (fun _ h_ => h_.1))) (Kd.R_typed (by (with_reducible repeat (first | apply Kd.R_alloc | apply Kd.R_drewN | apply Kd.R_drew)); exact (Kd.R_mono (Kd.R_far (p := ⟨gb658, 1, none⟩) (Kd.R_far (p := ⟨gb658, 0, none⟩) (Kd.R_mono HO_7.out (fun k_ hk => (⟨hk, hk.2⟩ : _ ∧ k_ ≠ gb658))) (fun _ hk => hk.2) (.string t655)) (fun _ hk => hk.2) (.string t656)) (fun _ h_ => h_.1)))) (by decide) hg)).2.1))); have n5_ := am (ho); clear HO_4; clear HO_6; clear BK658; clear HB; clear HR654; clear HO_7; have HO_4 := n0_; have HO_6 := n1_; have BK658 := n2_; have HB := n3_; have HR654 := n4_; have HO661 := n5_; clear n0_ n1_ n2_ n3_ n4_ n5_; clear ho hb hg hat; obtain ⟨Ao44, co44, eo44⟩ := Kd.R_slice HO661.out; subst eo44) | ((with_reducible refine gate_builtin (b := .append) (xs := #[.tmp 97, .tmp 99]) rfl ?_); at_builtin; refine Kd.S_append (Kd.slice 96 k96) (w0 := w) w.heap.size rfl (.tmp 97) (.tmp 99) 71 92 (.slice none 0 0) 24 rfl Tryz.underlying71 info92 rfl (by decide) (by omega) u6 x6_1 y659 [.slice Ao44 y659.length co44] (fun k_ => k_ ≠ gb658) (fun k_ => some k_ = (.slice Ao44 y659.length co44 : Value).ownBlock) rfl rfl ?aP (fun k_ hk_ => ((Kd.R_mono (ok' := fun k_ => ((fun k_ => k_ ≠ gb658)) k_ ∧ some k_ ≠ (u6 : Value).ownBlock) (Kd.R_apart' (HO661.out) (Kd.S_typed HO_6.out) (by decide)) (fun k_ hk => ⟨hk.1, hk.2⟩))).1 k_ hk_.symm) ?aF ?aO ?aB ?aS ?aL ?_; (case aP => exact Kd.M_row (Kd.R_mono (Kd.R_tight rfl (Kd.R_mono (ok' := fun k_ => ((fun k_ => k_ ≠ gb658)) k_ ∧ some k_ ≠ (u6 : Value).ownBlock) (Kd.R_apart' (HO661.out) (Kd.S_typed HO_6.out) (by decide)) (fun k_ hk => ⟨hk.1, hk.2⟩))) (fun _ h_ => h_))); (case aB => exact (apG GE658.out)); (case aF => exact (fun k_ hk => Kd.freshB (g := gb658) (o := .cells #[.string t655, .string t656] 96 (0, 0)) (apB BK658.out) k_ hk)); (case aO => exact (by (with_reducible repeat (first | apply Kd.S_alloc | apply Kd.S_drewN | apply Kd.S_drew)); exact Kd.S_mono HO_6.out (fun k_ hk => ⟨hk.1, fun e_ => hk.2 e_⟩))); (case aS => exact (below_size (apG GE658.out))); (case aL => have := LMc37.out; omega); intro v663 w43 ho hb hg hat; rw [← Ny662.out] at ho; have n0_ := am (Kd.R_over' (apAR HO_4.out) (Kd.S_typed (apAS HO_6.out)) (by decide) hg); have n1_ := am (blk_grown (g := gb658) (o := .cells #[.string t655, .string t656] 96 (0, 0)) (apB BK658.out) hg (Kd.S_ne HO_6.out BK658.out (by decide))); have n2_ := am (hb); have n3_ := am ((show Kd.C k94 w43 A38 y651.length y651 from by rw [Ny651.out, KA38.out]; exact Kd.C_mid (lo := (x8_1 : Int).toNat) (hi := (x9_1 : Int).toNat) (c := co16) ((Kd.R_reads' (Kd.R_over' (apAR HO_4.out) (Kd.S_typed (apAS HO_6.out)) (by decide) hg)).2.2) KM38.out KL38.out ((Kd.R_reads' (Kd.R_over' (apAR HO_4.out) (Kd.S_typed (apAS HO_6.out)) (by decide) hg)).2.1))); have n4_ := am (ho); clear HO_4; clear BK658; clear HB; clear HR654; clear HO_6; clear HO661; have HO_4 := n0_; have BK658 := n1_; have HB := n2_; have HR654 := n3_; have HO664 := n4_; clear n0_ n1_ n2_ n3_ n4_; clear ho hb hg hat) | ((with_reducible refine gate_dst (N := 101) rfl ?_); refine Kd.R_lit k96 _ 96 ?hg (N := 101) ?hd (xs := ([] : List (S96))) (inner := []) (ok := fun _ => True) (okp := fun _ => True) ?hr ?hp (fun _ hk => hk) trivial (Below.refl _ _) (Nat.le_refl _) (by simp) ?_; (case hd => rfl); (case hg => rfl); (case hr => first | (go_simp; done) | (go_simp; rfl)); (case hp => exact (Reps.none _ _)); intro v666 w45 ho46 hb hg_ hnew_; clear hg_ hnew_; (first | rw [← Ny665.out] at ho46 | (simp only [Int.reduceToNat] at ho46; rw [← Ny665.out] at ho46)); replace HO_4 := am (Kd.R_below (apAR HO_4.out) hb); replace HO664 := am (Kd.S_elder' (apAS HO664.out) (Kd.R_base ho46) hb); have HO667 := am (Kd.R_lower (Kd.R_newB ho46 (g := gb658) (o := .cells #[.string t655, .string t656] 96 (0, 0)) (apB BK658.out)) (below_size (apG GE658.out))); replace BK658 := am (blk_below (g := gb658) (o := .cells #[.string t655, .string t656] 96 (0, 0)) (apB BK658.out) hb); replace HR654 := am (Kd.C_below (apC HR654.out) hb); replace HB := am (below_step (apG GE658.out) hb); clear hb ho46)); go_roundg kj21; (case measure => have := HK1.out; have := HJ21.out; omega); case rel => exact ⟨(y662), (y665), (wrap64 (x9_1 + 1)), (wrap64 (x9_1 + 1)), ap2, ap2, H', ⟨by have := HK1.out; have := HJ21.out; omega⟩, ⟨apAR HO_4.out⟩, ⟨by (with_reducible repeat (first | apply Kd.S_alloc | apply Kd.S_drewN | apply Kd.S_drew)); exact Kd.S_mono HO664.out (fun _ hk => hk.2)⟩, ⟨by (with_reducible repeat (first | apply Kd.R_alloc | apply Kd.R_drewN | apply Kd.R_drew)); exact Kd.R_mono HO667.out (fun _ hk => trivial)⟩, ⟨apG1 GE658.out⟩⟩
                ·rw [if_neg c37] at H; exact absurd H (by simp)
               ·intro c36 c36b0 c36b1 H; revert H; refine spn0 ?_; intro c47b0 H; revert H; refine spn0 ?_; intro c48b0 H; revert H; refine spe01 ?_ ?_
                ·intro c49b0 c49b1 H; have H' := am H; clear H; have q50 : (x9_1 : Int) ≤ ((t633.length : Int) : Int) := apD; obtain ⟨i050, hi050, _, hsz50, _⟩ := info_parts info94; have hroom50 : t633.length ≤ co16 := (Kd.R_reads' HO_4.out).2.1; have hC50 : Kd.C k94 _ Ao16 t633.length t633 := (Kd.R_reads' HO_4.out).2.2; have ql50 : (x8_1 : Int) ≤ (x9_1 : Int) := apD; have q050 : (0 : Int) ≤ (x8_1 : Int) := apD; have hcut50 := cut_mid (P := Tryz.prog) 88 94 .i64 .i64 Tryz.underlying88 hi050 2 hsz50 Ao16 t633.length co16 x8_1 x9_1 q050 ql50 q50 hroom50; have hr50 := Kd.C_mid (lo := (x8_1 : Int).toNat) (hi := (x9_1 : Int).toNat) (c := co16) hC50 (by omega) (by omega) hroom50; obtain ⟨A50, hA50⟩ : ∃ A1, A1 = (if co16 = (x8_1 : Int).toNat then Ao16 else (Ao16 : Option Addr).map (·.add ((x8_1 : Int).toNat * 2))) := ⟨_, rfl⟩; obtain ⟨c50, hc50⟩ : ∃ c1, c1 = co16 - (x8_1 : Int).toNat := ⟨_, rfl⟩; have hy50 : y651.length = (x9_1 : Int).toNat - (x8_1 : Int).toNat := (by rw [Ny651.out, List.length_drop, List.length_take] <;> omega); rw [show ((t633).take (x9_1 : Int).toNat).drop (x8_1 : Int).toNat = y651 from Ny651.out.symm] at hr50; replace hr50 : Kd.C k94 _ A50 y651.length y651 := (by rw [hA50]; exact hr50); rw [← hy50, ← hA50, ← hc50] at hcut50; have HR654 := am hr50; have HC654 := am (show y651.length ≤ c50 from by rw [hy50, hc50]; exact Nat.sub_le_sub_right (Nat.le_trans (by omega) hroom50) _); clear hr50 hC50 hroom50 hi050 hsz50 hc50; have KY50 := am hy50; have KA50 := am hA50; clear hy50 hA50; have KL50 := am (show (x9_1 : Int).toNat ≤ t633.length from by omega); have KM50 := am (show (x8_1 : Int).toNat ≤ (x9_1 : Int).toNat from by omega); replace q50 := eq_true q50; go_wp2_with (first | ((with_reducible refine gate_callee (f := 74) rfl ?_); refine goesL_ (some 76) rfl rfl Tryz.func74 (by kernel_rfl) rfl #[.slice A50 y651.length c50] rfl ap3 ?_; (with_reducible refine (R15Pair.calls kj21 _ _ y651 t655 t656 true _ ?side1 ?side2 A33.out).mono ?_); (case side1 => repeat (first | exact (apC HR654.out) | (with_reducible refine Kd.C_alloc ?_ _) | (with_reducible refine Kd.C_drewN ?_ _) | (with_reducible refine Kd.C_drew ?_))); (case side2 => exact HC654.out); rintro e w51 ⟨rfl, hb⟩; refine ⟨_, rfl, ?_⟩; replace HO_4 := am (Kd.R_below (apAR HO_4.out) hb); replace HO_6 := am (Kd.S_below (apAS HO_6.out) hb); replace HO_7 := am (Kd.R_below (apAR HO_7.out) hb); replace HR654 := am (Kd.C_below (apC HR654.out) hb); replace HB := am (below_step ap1 hb)) | ((with_reducible refine gate_dst (N := 10) rfl ?_); refine box_event ?hg (N := 10) ?hd (cs := #[.string (⟨#[]⟩ : ByteArray), .string (⟨#[]⟩ : ByteArray)]) (t := 96) ?hr ?_; (case hd => rfl); (case hg => rfl); (case hr => first | (go_simp; done) | (go_simp; rfl)); intro gb658 hg w52 hbox hb; replace HO_4 := am (Kd.R_below (apAR HO_4.out) hb); replace HO_6 := am (Kd.S_below (Kd.S_elderB (apAS HO_6.out) gb658 (Nat.le_of_eq hg.symm)) hb); replace HO_7 := am (Kd.R_below (Kd.R_elderB (apAR HO_7.out) gb658 (Nat.le_of_eq hg.symm)) hb); replace HR654 := am (Kd.C_below (apC HR654.out) hb); have BK658 := am (hbox); have GW658 := am ((by rw [hg]; exact (below_size ap1) : w.heap.size ≤ gb658)); have GE658 := am ((by rw [hg]; exact (below_size ap1) : w.heap.size ≤ gb658)); replace HB := am (below_step ap1 hb); clear hb hbox hg; obtain ⟨hcz53_0, hcz53_1, hfz53_0, hfz53_1⟩ := bc2 BK658.out) | ((with_reducible refine gate_builtin (b := .append) (xs := #[.tmp 81, .tmp 83]) rfl ?_); at_builtin; refine Kd.R_append k96 (w0 := w) w.heap.size rfl (.tmp 81) (.tmp 83) 92 96 (.agg #[(.string ⟨#[]⟩), (.string ⟨#[]⟩)]) 32 rfl Tryz.underlying92 info96 rfl (by decide) (by omega) u7 x7_1 (⟨t655, t656⟩ : S96) [.string t655, .string t656] (fun k_ => k_ ≠ gb658) (fun _ => False) rfl (by first | (go_simp; done) | (go_simp; rfl)) ?aP (fun _ hk => hk.elim) ?aF ?aO ?aB ?aS ?aL ?_; (case aP => exact k96_mkM _ _ _ (⟨t655, t656⟩ : S96)); (case aB => exact (apG GE658.out)); (case aF => exact (fun k_ hk => Kd.freshB (g := gb658) (o := .cells #[.string t655, .string t656] 96 (0, 0)) (by (with_reducible repeat (first | refine blk_drewN ?_ _ | refine blk_drew ?_ | refine blk_alloc ?_ _)); refine blk_put (cs := #[.string t655, .string (⟨#[]⟩ : ByteArray)]) ?_ 1 _ rfl; (with_reducible repeat (first | refine blk_drewN ?_ _ | refine blk_drew ?_ | refine blk_alloc ?_ _)); refine blk_put (cs := #[.string (⟨#[]⟩ : ByteArray), .string (⟨#[]⟩ : ByteArray)]) ?_ 0 _ rfl; (with_reducible repeat (first | refine blk_drewN ?_ _ | refine blk_drew ?_ | refine blk_alloc ?_ _)); exact BK658.out) k_ hk)); (case aO => exact (by (with_reducible repeat (first | apply Kd.R_alloc | apply Kd.R_drewN | apply Kd.R_drew)); exact Kd.R_mono (Kd.R_far (p := ⟨gb658, 1, none⟩) (Kd.R_far (p := ⟨gb658, 0, none⟩) (Kd.R_mono HO_7.out (fun k_ hk => (⟨hk, hk.2⟩ : _ ∧ k_ ≠ gb658))) (fun _ hk => hk.2) (.string t655)) (fun _ hk => hk.2) (.string t656)) (fun _ hk => hk.1.2))); (case aS => exact (below_size (apG GE658.out))); (case aL => have := LMc35.out; omega); intro v660 w54 ho hb hg hat; rw [← Ny659.out] at ho; have n0_ := am (Kd.R_over' (by (with_reducible repeat (first | apply Kd.R_alloc | apply Kd.R_drewN | apply Kd.R_drew)); exact (Kd.R_mono (Kd.R_far (p := ⟨gb658, 1, none⟩) (Kd.R_far (p := ⟨gb658, 0, none⟩) (Kd.R_types HO_4.out BK658.out (by decide)) (fun _ hk => hk.2) (.string t655)) (fun _ hk => hk.2) (.string t656)) (fun _ h_ => h_.1))) (Kd.R_typed (by (with_reducible repeat (first | apply Kd.R_alloc | apply Kd.R_drewN | apply Kd.R_drew)); exact (Kd.R_mono (Kd.R_far (p := ⟨gb658, 1, none⟩) (Kd.R_far (p := ⟨gb658, 0, none⟩) (Kd.R_mono HO_7.out (fun k_ hk => (⟨hk, hk.2⟩ : _ ∧ k_ ≠ gb658))) (fun _ hk => hk.2) (.string t655)) (fun _ hk => hk.2) (.string t656)) (fun _ h_ => h_.1)))) (by decide) hg); have n1_ := am (Kd.S_after (ok := (fun k_ => k_ ≠ gb658)) (by (with_reducible repeat (first | apply Kd.S_alloc | apply Kd.S_drewN | apply Kd.S_drew)); exact Kd.S_mono (Kd.S_far (p := ⟨gb658, 1, none⟩) (Kd.S_far (p := ⟨gb658, 0, none⟩) (Kd.S_mono HO_6.out (fun k_ hk => (⟨hk, hk.2⟩ : _ ∧ k_ ≠ gb658))) (fun _ hk => hk.2) (.string t655)) (fun _ hk => hk.2) (.string t656)) (fun _ hk => ⟨hk.1.2, hk.1.1⟩)) hg hat); have n2_ := am (blk_grown (g := gb658) (o := .cells #[.string t655, .string t656] 96 (0, 0)) (by (with_reducible repeat (first | refine blk_drewN ?_ _ | refine blk_drew ?_ | refine blk_alloc ?_ _)); refine blk_put (cs := #[.string t655, .string (⟨#[]⟩ : ByteArray)]) ?_ 1 _ rfl; (with_reducible repeat (first | refine blk_drewN ?_ _ | refine blk_drew ?_ | refine blk_alloc ?_ _)); refine blk_put (cs := #[.string (⟨#[]⟩ : ByteArray), .string (⟨#[]⟩ : ByteArray)]) ?_ 0 _ rfl; (with_reducible repeat (first | refine blk_drewN ?_ _ | refine blk_drew ?_ | refine blk_alloc ?_ _)); exact BK658.out) hg (Kd.R_away HO_7.out (fun _ hk => hk.2))); have n3_ := am (hb); have n4_ := am ((show Kd.C k94 w54 A50 y651.length y651 from by rw [Ny651.out, KA50.out]; exact Kd.C_mid (lo := (x8_1 : Int).toNat) (hi := (x9_1 : Int).toNat) (c := co16) ((Kd.R_reads' (Kd.R_over' (by (with_reducible repeat (first | apply Kd.R_alloc | apply Kd.R_drewN | apply Kd.R_drew)); exact (Kd.R_mono (Kd.R_far (p := ⟨gb658, 1, none⟩) (Kd.R_far (p := ⟨gb658, 0, none⟩) (Kd.R_types HO_4.out BK658.out (by decide)) (fun _ hk => hk.2) (.string t655)) (fun _ hk => hk.2) (.string t656)) (fun _ h_ => h_.1))) (Kd.R_typed (by (with_reducible repeat (first | apply Kd.R_alloc | apply Kd.R_drewN | apply Kd.R_drew)); exact (Kd.R_mono (Kd.R_far (p := ⟨gb658, 1, none⟩) (Kd.R_far (p := ⟨gb658, 0, none⟩) (Kd.R_mono HO_7.out (fun k_ hk => (⟨hk, hk.2⟩ : _ ∧ k_ ≠ gb658))) (fun _ hk => hk.2) (.string t655)) (fun _ hk => hk.2) (.string t656)) (fun _ h_ => h_.1)))) (by decide) hg)).2.2) KM50.out KL50.out ((Kd.R_reads' (Kd.R_over' (by (with_reducible repeat (first | apply Kd.R_alloc | apply Kd.R_drewN | apply Kd.R_drew)); exact (Kd.R_mono (Kd.R_far (p := ⟨gb658, 1, none⟩) (Kd.R_far (p := ⟨gb658, 0, none⟩) (Kd.R_types HO_4.out BK658.out (by decide)) (fun _ hk => hk.2) (.string t655)) (fun _ hk => hk.2) (.string t656)) (fun _ h_ => h_.1))) (Kd.R_typed (by (with_reducible repeat (first | apply Kd.R_alloc | apply Kd.R_drewN | apply Kd.R_drew)); exact (Kd.R_mono (Kd.R_far (p := ⟨gb658, 1, none⟩) (Kd.R_far (p := ⟨gb658, 0, none⟩) (Kd.R_mono HO_7.out (fun k_ hk => (⟨hk, hk.2⟩ : _ ∧ k_ ≠ gb658))) (fun _ hk => hk.2) (.string t655)) (fun _ hk => hk.2) (.string t656)) (fun _ h_ => h_.1)))) (by decide) hg)).2.1))); have n5_ := am (ho); clear HO_4; clear HO_6; clear BK658; clear HB; clear HR654; clear HO_7; have HO_4 := n0_; have HO_6 := n1_; have BK658 := n2_; have HB := n3_; have HR654 := n4_; have HO661 := n5_; clear n0_ n1_ n2_ n3_ n4_ n5_; clear ho hb hg hat; have p668 : 0 ≤ (x9_1 : Int) := apD; have q668 : x9_1 < (t633.length : Int) := apD; obtain ⟨ad668, e668, hx668_0, hx668_1⟩ := at_T94 (Kd.R_reads' HO_4.out).2.2 x9_1 p668 q668; cases e668; replace p668 := eq_true p668; replace q668 := eq_true q668)); go_roundg kj21; (case measure => have := HK1.out; have := HJ21.out; omega); case rel => exact ⟨(x6_1), (y659), (wrap64 (x9_1 + 1)), (wrap64 (x9_1 + 1)), ap2, ap2, H', ⟨by have := HK1.out; have := HJ21.out; omega⟩, ⟨apAR HO_4.out⟩, ⟨by (with_reducible repeat (first | apply Kd.S_alloc | apply Kd.S_drewN | apply Kd.S_drew)); exact Kd.S_mono HO_6.out (fun _ hk => hk.2)⟩, ⟨by (with_reducible repeat (first | apply Kd.R_alloc | apply Kd.R_drewN | apply Kd.R_drew)); exact Kd.R_mono HO661.out (fun _ hk => trivial)⟩, ⟨apG1 GE658.out⟩⟩
                ·intro c49 c49b0 c49b1 H; by_cases c55 : x6_1.length < 5864062014805
                 ·rw [if_pos c55] at H; have LMc55 := am c55; clear c55; obtain ⟨y669, hy669⟩ : ∃ y_ : List (List (S96)), y_ = (x6_1 ++ [y659]) := ⟨_, rfl⟩; replace H : (R15Parse.l0 kj21 t633 y669 (([] : List (S96))) (wrap64 (x9_1 + 1)) (wrap64 (x9_1 + 1))) = some (r1, r2) := apY hy669 H; have Ny669 := am hy669; clear hy669; obtain ⟨y672, hy672⟩ : ∃ y_ : List (S96), y_ = (([] : List (S96))) := ⟨_, rfl⟩; replace H : (R15Parse.l0 kj21 t633 y669 y672 (wrap64 (x9_1 + 1)) (wrap64 (x9_1 + 1))) = some (r1, r2) := apY hy672 H; have Ny672 := am hy672; clear hy672; have H' := am H; clear H; have q56 : (x9_1 : Int) ≤ ((t633.length : Int) : Int) := apD; obtain ⟨i056, hi056, _, hsz56, _⟩ := info_parts info94; have hroom56 : t633.length ≤ co16 := (Kd.R_reads' HO_4.out).2.1; have hC56 : Kd.C k94 _ Ao16 t633.length t633 := (Kd.R_reads' HO_4.out).2.2; have ql56 : (x8_1 : Int) ≤ (x9_1 : Int) := apD; have q056 : (0 : Int) ≤ (x8_1 : Int) := apD; have hcut56 := cut_mid (P := Tryz.prog) 88 94 .i64 .i64 Tryz.underlying88 hi056 2 hsz56 Ao16 t633.length co16 x8_1 x9_1 q056 ql56 q56 hroom56; have hr56 := Kd.C_mid (lo := (x8_1 : Int).toNat) (hi := (x9_1 : Int).toNat) (c := co16) hC56 (by omega) (by omega) hroom56; obtain ⟨A56, hA56⟩ : ∃ A1, A1 = (if co16 = (x8_1 : Int).toNat then Ao16 else (Ao16 : Option Addr).map (·.add ((x8_1 : Int).toNat * 2))) := ⟨_, rfl⟩; obtain ⟨c56, hc56⟩ : ∃ c1, c1 = co16 - (x8_1 : Int).toNat := ⟨_, rfl⟩; have hy56 : y651.length = (x9_1 : Int).toNat - (x8_1 : Int).toNat := (by rw [Ny651.out, List.length_drop, List.length_take] <;> omega); rw [show ((t633).take (x9_1 : Int).toNat).drop (x8_1 : Int).toNat = y651 from Ny651.out.symm] at hr56; replace hr56 : Kd.C k94 _ A56 y651.length y651 := (by rw [hA56]; exact hr56); rw [← hy56, ← hA56, ← hc56] at hcut56; have HR654 := am hr56; have HC654 := am (show y651.length ≤ c56 from by rw [hy56, hc56]; exact Nat.sub_le_sub_right (Nat.le_trans (by omega) hroom56) _); clear hr56 hC56 hroom56 hi056 hsz56 hc56; have KY56 := am hy56; have KA56 := am hA56; clear hy56 hA56; have KL56 := am (show (x9_1 : Int).toNat ≤ t633.length from by omega); have KM56 := am (show (x8_1 : Int).toNat ≤ (x9_1 : Int).toNat from by omega); replace q56 := eq_true q56; go_wp2_with (first | ((with_reducible refine gate_callee (f := 74) rfl ?_); refine goesL_ (some 76) rfl rfl Tryz.func74 (by kernel_rfl) rfl #[.slice A56 y651.length c56] rfl ap3 ?_; (with_reducible refine (R15Pair.calls kj21 _ _ y651 t655 t656 true _ ?side1 ?side2 A33.out).mono ?_); (case side1 => repeat (first | exact (apC HR654.out) | (with_reducible refine Kd.C_alloc ?_ _) | (with_reducible refine Kd.C_drewN ?_ _) | (with_reducible refine Kd.C_drew ?_))); (case side2 => exact HC654.out); rintro e w57 ⟨rfl, hb⟩; refine ⟨_, rfl, ?_⟩; replace HO_4 := am (Kd.R_below (apAR HO_4.out) hb); replace HO_6 := am (Kd.S_below (apAS HO_6.out) hb); replace HO_7 := am (Kd.R_below (apAR HO_7.out) hb); replace HR654 := am (Kd.C_below (apC HR654.out) hb); replace HB := am (below_step ap1 hb)) | ((with_reducible refine gate_dst (N := 10) rfl ?_); refine box_event ?hg (N := 10) ?hd (cs := #[.string (⟨#[]⟩ : ByteArray), .string (⟨#[]⟩ : ByteArray)]) (t := 96) ?hr ?_; (case hd => rfl); (case hg => rfl); (case hr => first | (go_simp; done) | (go_simp; rfl)); intro gb658 hg w58 hbox hb; replace HO_4 := am (Kd.R_below (apAR HO_4.out) hb); replace HO_6 := am (Kd.S_below (Kd.S_elderB (apAS HO_6.out) gb658 (Nat.le_of_eq hg.symm)) hb); replace HO_7 := am (Kd.R_below (Kd.R_elderB (apAR HO_7.out) gb658 (Nat.le_of_eq hg.symm)) hb); replace HR654 := am (Kd.C_below (apC HR654.out) hb); have BK658 := am (hbox); have GW658 := am ((by rw [hg]; exact (below_size ap1) : w.heap.size ≤ gb658)); have GE658 := am ((by rw [hg]; exact (below_size ap1) : w.heap.size ≤ gb658)); replace HB := am (below_step ap1 hb); clear hb hbox hg; obtain ⟨hcz59_0, hcz59_1, hfz59_0, hfz59_1⟩ := bc2 BK658.out) | ((with_reducible refine gate_builtin (b := .append) (xs := #[.tmp 81, .tmp 83]) rfl ?_); at_builtin; refine Kd.R_append k96 (w0 := w) w.heap.size rfl (.tmp 81) (.tmp 83) 92 96 (.agg #[(.string ⟨#[]⟩), (.string ⟨#[]⟩)]) 32 rfl Tryz.underlying92 info96 rfl (by decide) (by omega) u7 x7_1 (⟨t655, t656⟩ : S96) [.string t655, .string t656] (fun k_ => k_ ≠ gb658) (fun _ => False) rfl (by first | (go_simp; done) | (go_simp; rfl)) ?aP (fun _ hk => hk.elim) ?aF ?aO ?aB ?aS ?aL ?_; (case aP => exact k96_mkM _ _ _ (⟨t655, t656⟩ : S96)); (case aB => exact (apG GE658.out)); (case aF => exact (fun k_ hk => Kd.freshB (g := gb658) (o := .cells #[.string t655, .string t656] 96 (0, 0)) (by (with_reducible repeat (first | refine blk_drewN ?_ _ | refine blk_drew ?_ | refine blk_alloc ?_ _)); refine blk_put (cs := #[.string t655, .string (⟨#[]⟩ : ByteArray)]) ?_ 1 _ rfl; (with_reducible repeat (first | refine blk_drewN ?_ _ | refine blk_drew ?_ | refine blk_alloc ?_ _)); refine blk_put (cs := #[.string (⟨#[]⟩ : ByteArray), .string (⟨#[]⟩ : ByteArray)]) ?_ 0 _ rfl; (with_reducible repeat (first | refine blk_drewN ?_ _ | refine blk_drew ?_ | refine blk_alloc ?_ _)); exact BK658.out) k_ hk)); (case aO => exact (by (with_reducible repeat (first | apply Kd.R_alloc | apply Kd.R_drewN | apply Kd.R_drew)); exact Kd.R_mono (Kd.R_far (p := ⟨gb658, 1, none⟩) (Kd.R_far (p := ⟨gb658, 0, none⟩) (Kd.R_mono HO_7.out (fun k_ hk => (⟨hk, hk.2⟩ : _ ∧ k_ ≠ gb658))) (fun _ hk => hk.2) (.string t655)) (fun _ hk => hk.2) (.string t656)) (fun _ hk => hk.1.2))); (case aS => exact (below_size (apG GE658.out))); (case aL => have := LMc35.out; omega); intro v660 w60 ho hb hg hat; rw [← Ny659.out] at ho; have n0_ := am (Kd.R_over' (by (with_reducible repeat (first | apply Kd.R_alloc | apply Kd.R_drewN | apply Kd.R_drew)); exact (Kd.R_mono (Kd.R_far (p := ⟨gb658, 1, none⟩) (Kd.R_far (p := ⟨gb658, 0, none⟩) (Kd.R_types HO_4.out BK658.out (by decide)) (fun _ hk => hk.2) (.string t655)) (fun _ hk => hk.2) (.string t656)) (fun _ h_ => h_.1))) (Kd.R_typed (by (with_reducible repeat (first | apply Kd.R_alloc | apply Kd.R_drewN | apply Kd.R_drew)); exact (Kd.R_mono (Kd.R_far (p := ⟨gb658, 1, none⟩) (Kd.R_far (p := ⟨gb658, 0, none⟩) (Kd.R_mono HO_7.out (fun k_ hk => (⟨hk, hk.2⟩ : _ ∧ k_ ≠ gb658))) (fun _ hk => hk.2) (.string t655)) (fun _ hk => hk.2) (.string t656)) (fun _ h_ => h_.1)))) (by decide) hg); have n1_ := am (Kd.S_after (ok := (fun k_ => k_ ≠ gb658)) (by (with_reducible repeat (first | apply Kd.S_alloc | apply Kd.S_drewN | apply Kd.S_drew)); exact Kd.S_mono (Kd.S_far (p := ⟨gb658, 1, none⟩) (Kd.S_far (p := ⟨gb658, 0, none⟩) (Kd.S_mono HO_6.out (fun k_ hk => (⟨hk, hk.2⟩ : _ ∧ k_ ≠ gb658))) (fun _ hk => hk.2) (.string t655)) (fun _ hk => hk.2) (.string t656)) (fun _ hk => ⟨hk.1.2, hk.1.1⟩)) hg hat); have n2_ := am (blk_grown (g := gb658) (o := .cells #[.string t655, .string t656] 96 (0, 0)) (by (with_reducible repeat (first | refine blk_drewN ?_ _ | refine blk_drew ?_ | refine blk_alloc ?_ _)); refine blk_put (cs := #[.string t655, .string (⟨#[]⟩ : ByteArray)]) ?_ 1 _ rfl; (with_reducible repeat (first | refine blk_drewN ?_ _ | refine blk_drew ?_ | refine blk_alloc ?_ _)); refine blk_put (cs := #[.string (⟨#[]⟩ : ByteArray), .string (⟨#[]⟩ : ByteArray)]) ?_ 0 _ rfl; (with_reducible repeat (first | refine blk_drewN ?_ _ | refine blk_drew ?_ | refine blk_alloc ?_ _)); exact BK658.out) hg (Kd.R_away HO_7.out (fun _ hk => hk.2))); have n3_ := am (hb); have n4_ := am ((show Kd.C k94 w60 A56 y651.length y651 from by rw [Ny651.out, KA56.out]; exact Kd.C_mid (lo := (x8_1 : Int).toNat) (hi := (x9_1 : Int).toNat) (c := co16) ((Kd.R_reads' (Kd.R_over' (by (with_reducible repeat (first | apply Kd.R_alloc | apply Kd.R_drewN | apply Kd.R_drew)); exact (Kd.R_mono (Kd.R_far (p := ⟨gb658, 1, none⟩) (Kd.R_far (p := ⟨gb658, 0, none⟩) (Kd.R_types HO_4.out BK658.out (by decide)) (fun _ hk => hk.2) (.string t655)) (fun _ hk => hk.2) (.string t656)) (fun _ h_ => h_.1))) (Kd.R_typed (by (with_reducible repeat (first | apply Kd.R_alloc | apply Kd.R_drewN | apply Kd.R_drew)); exact (Kd.R_mono (Kd.R_far (p := ⟨gb658, 1, none⟩) (Kd.R_far (p := ⟨gb658, 0, none⟩) (Kd.R_mono HO_7.out (fun k_ hk => (⟨hk, hk.2⟩ : _ ∧ k_ ≠ gb658))) (fun _ hk => hk.2) (.string t655)) (fun _ hk => hk.2) (.string t656)) (fun _ h_ => h_.1)))) (by decide) hg)).2.2) KM56.out KL56.out ((Kd.R_reads' (Kd.R_over' (by (with_reducible repeat (first | apply Kd.R_alloc | apply Kd.R_drewN | apply Kd.R_drew)); exact (Kd.R_mono (Kd.R_far (p := ⟨gb658, 1, none⟩) (Kd.R_far (p := ⟨gb658, 0, none⟩) (Kd.R_types HO_4.out BK658.out (by decide)) (fun _ hk => hk.2) (.string t655)) (fun _ hk => hk.2) (.string t656)) (fun _ h_ => h_.1))) (Kd.R_typed (by (with_reducible repeat (first | apply Kd.R_alloc | apply Kd.R_drewN | apply Kd.R_drew)); exact (Kd.R_mono (Kd.R_far (p := ⟨gb658, 1, none⟩) (Kd.R_far (p := ⟨gb658, 0, none⟩) (Kd.R_mono HO_7.out (fun k_ hk => (⟨hk, hk.2⟩ : _ ∧ k_ ≠ gb658))) (fun _ hk => hk.2) (.string t655)) (fun _ hk => hk.2) (.string t656)) (fun _ h_ => h_.1)))) (by decide) hg)).2.1))); have n5_ := am (ho); clear HO_4; clear HO_6; clear BK658; clear HB; clear HR654; clear HO_7; have HO_4 := n0_; have HO_6 := n1_; have BK658 := n2_; have HB := n3_; have HR654 := n4_; have HO661 := n5_; clear n0_ n1_ n2_ n3_ n4_ n5_; clear ho hb hg hat; have p668 : 0 ≤ (x9_1 : Int) := apD; have q668 : x9_1 < (t633.length : Int) := apD; obtain ⟨ad668, e668, hx668_0, hx668_1⟩ := at_T94 (Kd.R_reads' HO_4.out).2.2 x9_1 p668 q668; cases e668; replace p668 := eq_true p668; replace q668 := eq_true q668; obtain ⟨Ao62, co62, eo62⟩ := Kd.R_slice HO661.out; subst eo62) | ((with_reducible refine gate_builtin (b := .append) (xs := #[.tmp 97, .tmp 99]) rfl ?_); at_builtin; refine Kd.S_append (Kd.slice 96 k96) (w0 := w) w.heap.size rfl (.tmp 97) (.tmp 99) 71 92 (.slice none 0 0) 24 rfl Tryz.underlying71 info92 rfl (by decide) (by omega) u6 x6_1 y659 [.slice Ao62 y659.length co62] (fun k_ => k_ ≠ gb658) (fun k_ => some k_ = (.slice Ao62 y659.length co62 : Value).ownBlock) rfl rfl ?aP (fun k_ hk_ => ((Kd.R_mono (ok' := fun k_ => ((fun k_ => k_ ≠ gb658)) k_ ∧ some k_ ≠ (u6 : Value).ownBlock) (Kd.R_apart' (HO661.out) (Kd.S_typed HO_6.out) (by decide)) (fun k_ hk => ⟨hk.1, hk.2⟩))).1 k_ hk_.symm) ?aF ?aO ?aB ?aS ?aL ?_; (case aP => exact Kd.M_row (Kd.R_mono (Kd.R_tight rfl (Kd.R_mono (ok' := fun k_ => ((fun k_ => k_ ≠ gb658)) k_ ∧ some k_ ≠ (u6 : Value).ownBlock) (Kd.R_apart' (HO661.out) (Kd.S_typed HO_6.out) (by decide)) (fun k_ hk => ⟨hk.1, hk.2⟩))) (fun _ h_ => h_))); (case aB => exact (apG GE658.out)); (case aF => exact (fun k_ hk => Kd.freshB (g := gb658) (o := .cells #[.string t655, .string t656] 96 (0, 0)) (apB BK658.out) k_ hk)); (case aO => exact (by (with_reducible repeat (first | apply Kd.S_alloc | apply Kd.S_drewN | apply Kd.S_drew)); exact Kd.S_mono HO_6.out (fun k_ hk => ⟨hk.1, fun e_ => hk.2 e_⟩))); (case aS => exact (below_size (apG GE658.out))); (case aL => have := LMc55.out; omega); intro v670 w61 ho hb hg hat; rw [← Ny669.out] at ho; have n0_ := am (Kd.R_over' (apAR HO_4.out) (Kd.S_typed (apAS HO_6.out)) (by decide) hg); have n1_ := am (blk_grown (g := gb658) (o := .cells #[.string t655, .string t656] 96 (0, 0)) (apB BK658.out) hg (Kd.S_ne HO_6.out BK658.out (by decide))); have n2_ := am (hb); have n3_ := am ((show Kd.C k94 w61 A56 y651.length y651 from by rw [Ny651.out, KA56.out]; exact Kd.C_mid (lo := (x8_1 : Int).toNat) (hi := (x9_1 : Int).toNat) (c := co16) ((Kd.R_reads' (Kd.R_over' (apAR HO_4.out) (Kd.S_typed (apAS HO_6.out)) (by decide) hg)).2.2) KM56.out KL56.out ((Kd.R_reads' (Kd.R_over' (apAR HO_4.out) (Kd.S_typed (apAS HO_6.out)) (by decide) hg)).2.1))); have n4_ := am (ho); clear HO_4; clear BK658; clear HB; clear HR654; clear HO_6; clear HO661; have HO_4 := n0_; have BK658 := n1_; have HB := n2_; have HR654 := n3_; have HO671 := n4_; clear n0_ n1_ n2_ n3_ n4_; clear ho hb hg hat) | ((with_reducible refine gate_dst (N := 101) rfl ?_); refine Kd.R_lit k96 _ 96 ?hg (N := 101) ?hd (xs := ([] : List (S96))) (inner := []) (ok := fun _ => True) (okp := fun _ => True) ?hr ?hp (fun _ hk => hk) trivial (Below.refl _ _) (Nat.le_refl _) (by simp) ?_; (case hd => rfl); (case hg => rfl); (case hr => first | (go_simp; done) | (go_simp; rfl)); (case hp => exact (Reps.none _ _)); intro v673 w63 ho64 hb hg_ hnew_; clear hg_ hnew_; (first | rw [← Ny672.out] at ho64 | (simp only [Int.reduceToNat] at ho64; rw [← Ny672.out] at ho64)); replace HO_4 := am (Kd.R_below (apAR HO_4.out) hb); replace HO671 := am (Kd.S_elder' (apAS HO671.out) (Kd.R_base ho64) hb); have HO674 := am (Kd.R_lower (Kd.R_newB ho64 (g := gb658) (o := .cells #[.string t655, .string t656] 96 (0, 0)) (apB BK658.out)) (below_size (apG GE658.out))); replace BK658 := am (blk_below (g := gb658) (o := .cells #[.string t655, .string t656] 96 (0, 0)) (apB BK658.out) hb); replace HR654 := am (Kd.C_below (apC HR654.out) hb); replace HB := am (below_step (apG GE658.out) hb); clear hb ho64)); go_roundg kj21; (case measure => have := HK1.out; have := HJ21.out; omega); case rel => exact ⟨(y669), (y672), (wrap64 (x9_1 + 1)), (wrap64 (x9_1 + 1)), ap2, ap2, H', ⟨by have := HK1.out; have := HJ21.out; omega⟩, ⟨apAR HO_4.out⟩, ⟨by (with_reducible repeat (first | apply Kd.S_alloc | apply Kd.S_drewN | apply Kd.S_drew)); exact Kd.S_mono HO671.out (fun _ hk => hk.2)⟩, ⟨by (with_reducible repeat (first | apply Kd.R_alloc | apply Kd.R_drewN | apply Kd.R_drew)); exact Kd.R_mono HO674.out (fun _ hk => trivial)⟩, ⟨apG1 GE658.out⟩⟩
                 ·rw [if_neg c55] at H; exact absurd H (by simp)
              ·rw [if_neg c35] at H; exact absurd H (by simp)
             ·rintro rfl H; simp only [Option.some.injEq, Prod.mk.injEq] at H; obtain ⟨rfl, rfl⟩ := H; have q65 : (x9_1 : Int) ≤ ((t633.length : Int) : Int) := apD; obtain ⟨i065, hi065, _, hsz65, _⟩ := info_parts info94; have hroom65 : t633.length ≤ co16 := (Kd.R_reads' HO_4.out).2.1; have hC65 : Kd.C k94 _ Ao16 t633.length t633 := (Kd.R_reads' HO_4.out).2.2; have ql65 : (x8_1 : Int) ≤ (x9_1 : Int) := apD; have q065 : (0 : Int) ≤ (x8_1 : Int) := apD; have hcut65 := cut_mid (P := Tryz.prog) 88 94 .i64 .i64 Tryz.underlying88 hi065 2 hsz65 Ao16 t633.length co16 x8_1 x9_1 q065 ql65 q65 hroom65; have hr65 := Kd.C_mid (lo := (x8_1 : Int).toNat) (hi := (x9_1 : Int).toNat) (c := co16) hC65 (by omega) (by omega) hroom65; obtain ⟨A65, hA65⟩ : ∃ A1, A1 = (if co16 = (x8_1 : Int).toNat then Ao16 else (Ao16 : Option Addr).map (·.add ((x8_1 : Int).toNat * 2))) := ⟨_, rfl⟩; obtain ⟨c65, hc65⟩ : ∃ c1, c1 = co16 - (x8_1 : Int).toNat := ⟨_, rfl⟩; have hy65 : y651.length = (x9_1 : Int).toNat - (x8_1 : Int).toNat := (by rw [Ny651.out, List.length_drop, List.length_take] <;> omega); rw [show ((t633).take (x9_1 : Int).toNat).drop (x8_1 : Int).toNat = y651 from Ny651.out.symm] at hr65; replace hr65 : Kd.C k94 _ A65 y651.length y651 := (by rw [hA65]; exact hr65); rw [← hy65, ← hA65, ← hc65] at hcut65; have HR654 := am hr65; have HC654 := am (show y651.length ≤ c65 from by rw [hy65, hc65]; exact Nat.sub_le_sub_right (Nat.le_trans (by omega) hroom65) _); clear hr65 hC65 hroom65 hi065 hsz65 hc65; have KY65 := am hy65; have KA65 := am hA65; clear hy65 hA65; have KL65 := am (show (x9_1 : Int).toNat ≤ t633.length from by omega); have KM65 := am (show (x8_1 : Int).toNat ≤ (x9_1 : Int).toNat from by omega); replace q65 := eq_true q65; go_wp2_with (first | ((with_reducible refine gate_callee (f := 74) rfl ?_); refine goesL_ (some 76) rfl rfl Tryz.func74 (by kernel_rfl) rfl #[.slice A65 y651.length c65] rfl ap3 ?_; (with_reducible refine (R15Pair.calls kj21 _ _ y651 t655 t656 false _ ?side1 ?side2 A33.out).mono ?_); (case side1 => repeat (first | exact (apC HR654.out) | (with_reducible refine Kd.C_alloc ?_ _) | (with_reducible refine Kd.C_drewN ?_ _) | (with_reducible refine Kd.C_drew ?_))); (case side2 => exact HC654.out); rintro e w66 ⟨rfl, hb⟩; refine ⟨_, rfl, ?_⟩; replace HO_4 := am (Kd.R_below (apAR HO_4.out) hb); replace HO_6 := am (Kd.S_below (apAS HO_6.out) hb); replace HO_7 := am (Kd.R_below (apAR HO_7.out) hb); replace HR654 := am (Kd.C_below (apC HR654.out) hb); replace HB := am (below_step ap1 hb)) | ((with_reducible refine gate_dst (N := 10) rfl ?_); refine box_event ?hg (N := 10) ?hd (cs := #[.string (⟨#[]⟩ : ByteArray), .string (⟨#[]⟩ : ByteArray)]) (t := 96) ?hr ?_; (case hd => rfl); (case hg => rfl); (case hr => first | (go_simp; done) | (go_simp; rfl)); intro gb658 hg w67 hbox hb; replace HO_4 := am (Kd.R_below (apAR HO_4.out) hb); replace HO_6 := am (Kd.S_below (Kd.S_elderB (apAS HO_6.out) gb658 (Nat.le_of_eq hg.symm)) hb); replace HO_7 := am (Kd.R_below (Kd.R_elderB (apAR HO_7.out) gb658 (Nat.le_of_eq hg.symm)) hb); replace HR654 := am (Kd.C_below (apC HR654.out) hb); have BK658 := am (hbox); have GW658 := am ((by rw [hg]; exact (below_size ap1) : w.heap.size ≤ gb658)); have GE658 := am ((by rw [hg]; exact (below_size ap1) : w.heap.size ≤ gb658)); replace HB := am (below_step ap1 hb); clear hb hbox hg; obtain ⟨hcz68_0, hcz68_1, hfz68_0, hfz68_1⟩ := bc2 BK658.out)); go_ret2; exact ⟨_, ap9, by first | exact Kd.S_nil _ _ _ _ _ | exact Kd.N_nil _ _ _ _ _ | exact Kd.V_nil _ _ _ _ _ | exact Kd.Q_nil _ _ _ _ _ | exact Kd.R_nil _ _ _ _ _, apG1 GE658.out⟩
            ·rw [if_neg c32] at H; exact absurd H (by simp)
           ·rw [if_neg c31] at H; exact absurd H (by simp)
          ·rw [if_neg c30] at H; exact absurd H (by simp)
      ·intro c21b0 H; replace H := Option.bind_eq_some_iff.mp H; obtain ⟨t646, A690, H⟩ := H; replace H : (if t646 = true then (some (x6_1, 0)) else (some (([] : List (List (S96))), 4))) = some (r1, r2) := H; have A69 := am A690; clear A690; revert H; refine spb ?_ ?_
       ·rintro rfl H; simp only [Option.some.injEq, Prod.mk.injEq] at H; obtain ⟨rfl, rfl⟩ := H; obtain ⟨Ao71, co71, eo71⟩ := Kd.S_slice HO_6.out; subst eo71; go_wp2_with (first | ((with_reducible refine gate_callee (f := 75) rfl ?_); refine goesL_ (some 105) rfl rfl Tryz.func75 (by kernel_rfl) rfl #[.slice Ao71 x6_1.length co71] rfl ap3 ?_; (with_reducible refine (R15Right.calls k1 _ _ x6_1 true _ ?side1 ?side2 A69.out).mono ?_); (case side1 => repeat (first | exact (Kd.S_reads' HO_6.out).2.2 | (with_reducible refine Kd.C_alloc ?_ _) | (with_reducible refine Kd.C_drewN ?_ _) | (with_reducible refine Kd.C_drew ?_))); (case side2 => exact (Kd.S_reads' HO_6.out).2.1); rintro e w72 ⟨rfl, hb⟩; refine ⟨_, rfl, ?_⟩; replace HO_4 := am (Kd.R_below (apAR HO_4.out) hb); replace HO_6 := am (Kd.S_below (apAS HO_6.out) hb); replace HO_7 := am (Kd.R_below (apAR HO_7.out) hb); replace HB := am (below_step ap1 hb))); go_ret2; exact ⟨_, ap9, by (with_reducible repeat (first | apply Kd.S_alloc | apply Kd.S_drewN | apply Kd.S_drew)); exact Kd.S_mono HO_6.out (fun _ hk => trivial), ap1⟩
       ·rintro rfl H; simp only [Option.some.injEq, Prod.mk.injEq] at H; obtain ⟨rfl, rfl⟩ := H; obtain ⟨Ao73, co73, eo73⟩ := Kd.S_slice HO_6.out; subst eo73; go_wp2_with (first | ((with_reducible refine gate_callee (f := 75) rfl ?_); refine goesL_ (some 105) rfl rfl Tryz.func75 (by kernel_rfl) rfl #[.slice Ao73 x6_1.length co73] rfl ap3 ?_; (with_reducible refine (R15Right.calls k1 _ _ x6_1 false _ ?side1 ?side2 A69.out).mono ?_); (case side1 => repeat (first | exact (Kd.S_reads' HO_6.out).2.2 | (with_reducible refine Kd.C_alloc ?_ _) | (with_reducible refine Kd.C_drewN ?_ _) | (with_reducible refine Kd.C_drew ?_))); (case side2 => exact (Kd.S_reads' HO_6.out).2.1); rintro e w74 ⟨rfl, hb⟩; refine ⟨_, rfl, ?_⟩; replace HO_4 := am (Kd.R_below (apAR HO_4.out) hb); replace HO_6 := am (Kd.S_below (apAS HO_6.out) hb); replace HO_7 := am (Kd.R_below (apAR HO_7.out) hb); replace HB := am (below_step ap1 hb))); go_ret2; exact ⟨_, ap9, by first | exact Kd.S_nil _ _ _ _ _ | exact Kd.N_nil _ _ _ _ _ | exact Kd.V_nil _ _ _ _ _ | exact Kd.Q_nil _ _ _ _ _ | exact Kd.R_nil _ _ _ _ _, ap1⟩
  ·rintro rfl H; simp only [Option.some.injEq, Prod.mk.injEq] at H; obtain ⟨rfl, rfl⟩ := H; go_enter Tryz.func45, Tryz.ntmps45; go_wp2_with (first | ((with_reducible refine gate_callee (f := 72) rfl ?_); refine goesL_ (some 17) rfl rfl Tryz.func72 (by kernel_rfl) rfl #[.string a0] rfl ap3 ?_; (with_reducible refine (R15Signs.calls k a0 t633 false _ A3.out).mono ?_); rintro e w75 ⟨v635, rfl, ho0, hb⟩; refine ⟨_, rfl, ?_⟩; have HO636 := am (Kd.R_lower ho0 (below_size ap1)); replace HB := am (below_step ap1 hb); (try clear ho0))); go_ret2; exact ⟨_, ap9, by first | exact Kd.S_nil _ _ _ _ _ | exact Kd.N_nil _ _ _ _ _ | exact Kd.V_nil _ _ _ _ _ | exact Kd.Q_nil _ _ _ _ _ | exact Kd.R_nil _ _ _ _ _, ap1⟩
end Go.Proofs.YtpklcnpmppaaoaaGreatDoor.Print
namespace Go.Proofs.YtpklcnpmppaaoaaGreatDoor.Print
open Go.RowKit Go.Proofs.YtpklcnpmppaaoaaGreatDoorW.PrintWords Go.Proofs.YtpklcnpmppaaoaaGreatDoorW.PrintLast Go.Proofs.YtpklcnpmppaaoaaGreatDoorW.PrintMore Go.Proofs.YtpklcnpmppaaoaaGreatDoor.Pure
set_option linter.unusedVariables false
set_option linter.unusedSimpArgs false
abbrev NOut := List (List AvaS) × Int
theorem take_succ_drop {L : List Sg} {i f : Nat} {x : Sg} {r : List Sg} (h : L.drop i = x :: r) (hf : f ≤ i) : (L.take (i + 1)).drop f = (L.take i).drop f ++ [x] := by
 obtain ⟨g1, _, _⟩ := rdS_at h; have hx : L[i] = x := by
  have := congrArg List.head? h; rw [List.head?_drop, List.getElem?_eq_getElem g1] at this; simpa using this
 rw [List.take_succ_eq_append_getElem g1, hx, List.drop_append_of_le_length (by rw [List.length_take]; omega)]
theorem refparse_loop (L : List Sg) (hL : L.length ≤ 1000000) : ∀ (n i f : Nat) (rdn : List Pr) (N0 : List (List Pr)), L.length - i = n → i ≤ L.length → f ≤ i → rdn.length ≤ i → N0.length ≤ i →
  (goP (L.drop i) ((L.take i).drop f) rdn N0 = none → Ev (fun k => R15Parse.l0 k (mkSs L) (mkN N0) (mkR rdn) (f : Int) (i : Int)) ([], 4)) ∧
  (∀ N b, goP (L.drop i) ((L.take i).drop f) rdn N0 = some N → Ev (fun k => R15Right.f k (mkN N)) b → Ev (fun k => R15Parse.l0 k (mkSs L) (mkN N0) (mkR rdn) (f : Int) (i : Int)) (if b = true then (mkN N, 0) else ([], 4))) := by
 intro n
 induction n with
 | zero =>
  intro i f rdn N0 hn hi hf hr0 hN0; have hd : L.drop i = [] := List.drop_eq_nil_of_le (by omega); have hil : i = L.length := by omega
  obtain ⟨p1, p2⟩ := pair_ev ((L.take i).drop f) (by rw [List.length_drop, List.length_take]; omega); rw [show mkSs ((L.take i).drop f) = ((mkSs L).take i).drop f by unfold mkSs; rw [List.map_drop, List.map_take]] at p1 p2; have hst : ∀ {o : NOut} {u v : ByteArray} {b : Bool}, Ev (fun k => R15Pair.f k (((mkSs L).take i).drop f)) (u, v, b) → Ev (fun k => if b = true then (R15Parse.l0 k (mkSs L) (mkN N0 ++ [mkR rdn ++ [(⟨u, v⟩ : AvaS)]]) [] ((i + 1 : Nat) : Int) ((i + 1 : Nat) : Int)) else (some (([] : List (List AvaS)), 4))) o → Ev (fun k => R15Parse.l0 k (mkSs L) (mkN N0) (mkR rdn) (f : Int) (i : Int)) o := by
   intro o u v b hp h; refine Ev.step (fun k => by rw [R15Parse.l0]) ?_; refine Ev.pos (by rw [mkSs_len]; omega) (Ev.neg (by rw [mkSs_len]; omega) ?_); refine Ev.step (fun k => by rw [R15Parse.j1]) ?_; rw [Int.toNat_natCast, Int.toNat_natCast, wsucc (by omega)]; refine Ev.neg (by simp) (Ev.pos (by omega) (Ev.pos (by omega) (Ev.pos (by rw [mkSs_len]; omega) (Ev.bind hp ?_)))); cases b with
   | false => exact Ev.neg (by simp) (by simpa using h)
   | true =>
    refine Ev.pos rfl (Ev.pos (by rw [mkR_len]; omega) (Ev.bindc rfl (Ev.pos (by rw [mkSs_len]; omega) (Ev.pos (by rw [mkN_len]; omega) ?_)))); simpa using h
  rw [hd, goP]; cases hp : pair ((L.take i).drop f) with
  | none =>
   obtain ⟨u, v, h⟩ := p2 hp; exact ⟨fun _ => hst h (Ev.neg (by simp) Ev.rfl'), fun N b h => by simp at h⟩
  | some a =>
   refine ⟨fun h => by simp at h, fun N b h hR => ?_⟩; simp only [Option.map_some, Option.some.injEq] at h; subst h; refine hst (p1 a hp) (Ev.pos rfl ?_); refine Ev.step (fun k => by rw [R15Parse.l0]) ?_; rw [show mkN N0 ++ [mkR rdn ++ [(⟨⟨a.1.toArray⟩, ⟨a.2.toArray⟩⟩ : AvaS)]] = mkN (N0 ++ [rdn ++ [a]]) by rw [← mkN_snoc, ← mkR_snoc]; rfl]; refine Ev.neg (by rw [mkSs_len]; omega) (Ev.bind hR ?_); cases b with
   | true => exact Ev.pos rfl Ev.rfl'
   | false => exact Ev.neg (by simp) Ev.rfl'
 | succ n ih =>
  intro i f rdn N0 hn hi hf hr0 hN0; cases hr : L.drop i with
  | nil => have := drop_nilS hr; omega
  | cons x r =>
   obtain ⟨g1, g2, g3⟩ := rdS_at hr; have g2' : rd_T94 (mkSs L) (i : Int) = mkS x := g2; have e44 : ((mkS x).f0 = 44) ↔ x.1 = 44 := ieq x.1 44; have e59 : ((mkS x).f0 = 59) ↔ x.1 = 59 := ieq x.1 59; have e43 : ((mkS x).f0 = 43) ↔ x.1 = 43 := ieq x.1 43; have hst0 : ∀ {o : NOut}, Ev (fun k => R15Parse.j1 k (mkSs L) (mkN N0) (mkR rdn) (f : Int) (i : Int) (!(sep x))) o → Ev (fun k => R15Parse.l0 k (mkSs L) (mkN N0) (mkR rdn) (f : Int) (i : Int)) o := by
    intro o h; refine Ev.step (fun k => by rw [R15Parse.l0]) ?_; rw [g2']; refine Ev.pos (by rw [mkSs_len]; omega) (Ev.pos (by rw [mkSs_len]; omega) (Ev.pos (by omega) ?_)); by_cases h2 : x.2 = true
    ·refine Ev.pos (show x.2 = true from h2) ?_; by_cases h44 : x.1 = 44
     ·refine Ev.pos (e44.2 h44) ?_; rw [show sep x = true by simp [sep, h2, h44]] at h; exact h
     ·refine Ev.neg (fun h' => h44 (e44.1 h')) ?_; by_cases h59 : x.1 = 59
      ·refine Ev.pos (e59.2 h59) ?_; rw [show sep x = true by simp [sep, h2, h59]] at h; exact h
      ·refine Ev.neg (fun h' => h59 (e59.1 h')) ?_; have : ((mkS x).f0 == 43) = sep x := by
        rw [Bool.eq_iff_iff, beq_iff_eq, e43]; simp [sep, h2, h44, h59]
       rw [this]; exact h
    ·refine Ev.neg (show ¬ x.2 = true from h2) ?_; rw [show sep x = false by simp [sep, h2]] at h; exact h
   rw [goP]; by_cases hs : sep x = true
   ·rw [if_pos hs]; rw [hs] at hst0; obtain ⟨p1, p2⟩ := pair_ev ((L.take i).drop f) (by rw [List.length_drop, List.length_take]; omega); rw [show mkSs ((L.take i).drop f) = ((mkSs L).take i).drop f by unfold mkSs; rw [List.map_drop, List.map_take]] at p1 p2; have hst : ∀ {o : NOut} {u v : ByteArray} {b : Bool}, Ev (fun k => R15Pair.f k (((mkSs L).take i).drop f)) (u, v, b) → Ev (fun k => if b = true then (if (mkS x).f0 = 43 then (R15Parse.l0 k (mkSs L) (mkN N0) (mkR rdn ++ [(⟨u, v⟩ : AvaS)]) ((i + 1 : Nat) : Int) ((i + 1 : Nat) : Int)) else (R15Parse.l0 k (mkSs L) (mkN N0 ++ [mkR rdn ++ [(⟨u, v⟩ : AvaS)]]) [] ((i + 1 : Nat) : Int) ((i + 1 : Nat) : Int))) else (some (([] : List (List AvaS)), 4))) o → Ev (fun k => R15Parse.l0 k (mkSs L) (mkN N0) (mkR rdn) (f : Int) (i : Int)) o := by
     intro o u v b hp h; refine hst0 ?_; refine Ev.step (fun k => by rw [R15Parse.j1]) ?_; rw [Int.toNat_natCast, Int.toNat_natCast, wsucc (by omega), g2']; refine Ev.neg (by simp) (Ev.pos (by omega) (Ev.pos (by omega) (Ev.pos (by rw [mkSs_len]; omega) (Ev.bind hp ?_)))); cases b with
     | false => exact Ev.neg (by simp) (by simpa using h)
     | true =>
      have h := (show Ev (fun k => if (mkS x).f0 = 43 then (R15Parse.l0 k (mkSs L) (mkN N0) (mkR rdn ++ [(⟨u, v⟩ : AvaS)]) ((i + 1 : Nat) : Int) ((i + 1 : Nat) : Int)) else (R15Parse.l0 k (mkSs L) (mkN N0 ++ [mkR rdn ++ [(⟨u, v⟩ : AvaS)]]) [] ((i + 1 : Nat) : Int) ((i + 1 : Nat) : Int))) o from Ev.congr (fun k => (if_pos rfl).symm) h); refine Ev.pos rfl (Ev.pos (by rw [mkR_len]; omega) (Ev.bindc rfl (Ev.neg (by rw [mkSs_len]; omega) (Ev.pos (by omega) (Ev.pos (by rw [mkSs_len]; omega) ?_))))); refine Ev.congr (fun k => ?_) h; rw [if_pos (show (mkN N0).length < 5864062014805 by rw [mkN_len]; omega)]
    cases hp : pair ((L.take i).drop f) with
    | none =>
     obtain ⟨u, v, h⟩ := p2 hp; exact ⟨fun _ => hst h (Ev.neg (by simp) Ev.rfl'), fun N b h => by simp at h⟩
    | some a =>
     simp only [Option.bind_some]; have hst2 := fun {o : NOut} (h) => hst (o := o) (p1 a hp) (Ev.pos rfl h)
     by_cases hc : x.1 = 43
     ·rw [if_pos hc]; have hi2 := ih (i + 1) (i + 1) (rdn ++ [a]) N0 (by omega) (by omega) (Nat.le_refl _) (by simp; omega) (by omega); rw [g3, show (L.take (i + 1)).drop (i + 1) = [] from List.drop_eq_nil_of_le (by rw [List.length_take]; omega)] at hi2; rw [show mkR rdn ++ [(⟨⟨a.1.toArray⟩, ⟨a.2.toArray⟩⟩ : AvaS)] = mkR (rdn ++ [a]) from mkR_snoc rdn a] at hst2; have hst3 := fun {o : NOut} (h) => hst2 (o := o) (Ev.pos (e43.2 hc) h)
      exact ⟨fun h => hst3 (hi2.1 h), fun N b h hR => hst3 (hi2.2 N b h hR)⟩
     ·rw [if_neg hc]; have hi2 := ih (i + 1) (i + 1) [] (N0 ++ [rdn ++ [a]]) (by omega) (by omega) (Nat.le_refl _) (by simp) (by simp; omega); rw [g3, show (L.take (i + 1)).drop (i + 1) = [] from List.drop_eq_nil_of_le (by rw [List.length_take]; omega)] at hi2; rw [show mkN N0 ++ [mkR rdn ++ [(⟨⟨a.1.toArray⟩, ⟨a.2.toArray⟩⟩ : AvaS)]] = mkN (N0 ++ [rdn ++ [a]]) by rw [← mkN_snoc, ← mkR_snoc]; rfl] at hst2; have hst3 := fun {o : NOut} (h) => hst2 (o := o) (Ev.neg (fun h' => hc (e43.1 h')) h)
      exact ⟨fun h => hst3 (hi2.1 h), fun N b h hR => hst3 (hi2.2 N b h hR)⟩
   ·rw [if_neg hs]; have hsf : sep x = false := by simpa using hs
    rw [hsf] at hst0; have hi2 := ih (i + 1) f rdn N0 (by omega) (by omega) (by omega) (by omega) (by omega); rw [g3, take_succ_drop hr hf] at hi2; have hst : ∀ {o : NOut}, Ev (fun k => R15Parse.l0 k (mkSs L) (mkN N0) (mkR rdn) (f : Int) ((i + 1 : Nat) : Int)) o → Ev (fun k => R15Parse.l0 k (mkSs L) (mkN N0) (mkR rdn) (f : Int) (i : Int)) o := by
     intro o h; refine hst0 (Ev.step (fun k => by rw [R15Parse.j1]) ?_); rw [wsucc (by omega)]; exact Ev.pos rfl h
    exact ⟨fun h => hst (hi2.1 h), fun N b h hR => hst (hi2.2 N b h hR)⟩
theorem signsN_len : ∀ (n : Nat) (r : List UInt8) (L : List Sg), signsN n r = some L → L.length ≤ r.length
 | 0, r, L, h => by simp [signsN] at h
 | n + 1, [], L, h => by simp [signsN] at h; subst h; simp
 | n + 1, c :: r, L, h => by
  simp only [signsN] at h
  split at h
  ·
   cases he : esc r with
   | none => rw [he] at h; simp at h
   | some x =>
    rw [he] at h
    simp only [Option.bind_some, Option.map_eq_some_iff] at h
    obtain ⟨L', h1, rfl⟩ := h
    have := signsN_len n x.2 L' h1
    have := esc_lt (x := x.1) (r' := x.2) he
    simp; omega
  ·
   simp only [Option.map_eq_some_iff] at h
   obtain ⟨L', h1, rfl⟩ := h
   have := signsN_len n r L' h1
   simp; omega
theorem trim_nil {L : List Sg} : trim L = [] ↔ ∀ s ∈ L, isBlank s = true := by
 constructor
 ·intro h; obtain ⟨b1, b2, e, h1, h2⟩ := trim_split L; rw [h, List.nil_append] at e; intro s hs; rw [e] at hs; rcases List.mem_append.1 hs with hs | hs
  ·exact h1 s hs
  ·exact h2 s hs
 ·intro h; have := trim_blanks [] h; rw [List.append_nil] at this; rw [this]; rfl
theorem signs_blank (r : List UInt8) (L : List Sg) (h : signs r = some L) : trim L = [] ↔ r.dropWhile (· == 32) = [] := by
 rw [signs_blanks r] at h; obtain ⟨L', hL', rfl⟩ := Option.map_eq_some_iff.1 h; rw [trim_blanks _ (blank_bare (blanks_of r))]; constructor
 ·intro ht; cases hr : r.dropWhile (· == 32) with
  | nil => rfl
  | cons c u =>
   exfalso; have h32 : c ≠ 32 := by have := dw_head hr; simpa using this
   rw [hr] at hL'; have hb := trim_nil.1 ht; rw [signs_cons] at hL'; split at hL'
   ·cases hx : esc u with
    | none => rw [hx] at hL'; simp at hL'
    | some y =>
     rw [hx] at hL'; simp only [Option.bind_some, Option.map_eq_some_iff] at hL'; obtain ⟨M, _, rfl⟩ := hL'; have := hb (y.1, false) (by simp); simp [isBlank] at this
   ·simp only [Option.map_eq_some_iff] at hL'; obtain ⟨M, _, rfl⟩ := hL'; have := hb (c, true) (by simp); simp [isBlank, h32] at this
 ·intro hr; rw [hr, signs_nil] at hL'; simp only [Option.some.injEq] at hL'; subst hL'; rfl
theorem refparse_ev (s : ByteArray) (hs : s.size ≤ 100000) :
  (s.size > 1000 → Ev (fun k => R15Parse.f k s) ([], 5)) ∧
  (s.size ≤ 1000 → (bl s).dropWhile (· == 32) = [] → Ev (fun k => R15Parse.f k s) ([], 0)) ∧
  (s.size ≤ 1000 → (bl s).dropWhile (· == 32) ≠ [] → ((signs (bl s)).bind fun L => goP L [] [] []) = none → Ev (fun k => R15Parse.f k s) ([], 4)) ∧
  (s.size ≤ 1000 → (bl s).dropWhile (· == 32) ≠ [] → ∀ N b, ((signs (bl s)).bind fun L => goP L [] [] []) = some N → Ev (fun k => R15Right.f k (mkN N)) b → Ev (fun k => R15Parse.f k s) (if b = true then (mkN N, 0) else ([], 4))) := by
 refine ⟨fun h => ?_, ?_⟩
 ·unfold R15Parse.f; exact Ev.pos (by omega) Ev.rfl'
 obtain ⟨s1, s2⟩ := signs_ev s (by omega) (s.size + 1) 0 [] (Nat.zero_le _) (by omega) (Nat.le_refl _)
 rw [List.drop_zero] at s1 s2
 have hst : ∀ (h : s.size ≤ 1000) {o : NOut} {l : List SgS} {b : Bool}, Ev (fun k => R15Signs.l0 k s (mkSs []) ((0 : Nat) : Int)) (l, b) → Ev (fun k => if b = true then ((R15Trim.f k l).bind fun t522 => (if (t522.length : Int) = 0 then (some (([] : List (List AvaS)), 0)) else (R15Parse.l0 k l ([] : List (List AvaS)) (([] : List AvaS)) 0 0))) else (some (([] : List (List AvaS)), 4))) o → Ev (fun k => R15Parse.f k s) o := by
  intro h o l b h1 h2; unfold R15Parse.f; refine Ev.neg (by omega) (Ev.bind h1 ?_); exact h2
 refine ⟨fun h he => ?_, fun h hne hn => ?_, fun h hne N b hn hR => ?_⟩
 ·have hsg : ∃ L, signs (bl s) = some L := by
   rw [signs_blanks, he, signs_nil]; exact ⟨_, rfl⟩
  obtain ⟨L, hL⟩ := hsg; have hlen := signsN_len _ _ _ hL; rw [bl_length] at hlen; refine hst h (s2 L hL) (Ev.pos rfl ?_); rw [List.nil_append]; refine Ev.bind (trim_ev L (by omega)) (Ev.pos ?_ Ev.rfl'); rw [(signs_blank _ L hL).2 he]; rfl
 ·cases hsg : signs (bl s) with
  | none => exact hst h (s1 hsg) (Ev.neg (by simp) Ev.rfl')
  | some L =>
   rw [hsg] at hn; simp only [Option.bind_some] at hn; have hlen := signsN_len _ _ _ hsg; rw [bl_length] at hlen; refine hst h (s2 L hsg) (Ev.pos rfl ?_); rw [List.nil_append]; refine Ev.bind (trim_ev L (by omega)) (Ev.neg ?_ ?_)
   ·rw [mkSs_len]; intro h0; exact hne ((signs_blank _ L hsg).1 (List.eq_nil_of_length_eq_zero (by omega)))
   ·exact (refparse_loop L (by omega) _ 0 0 [] [] rfl (Nat.zero_le _) (Nat.le_refl _) (Nat.le_refl _) (Nat.le_refl _)).1 (by simpa using hn)
 ·cases hsg : signs (bl s) with
  | none => rw [hsg] at hn; simp at hn
  | some L =>
   rw [hsg] at hn; simp only [Option.bind_some] at hn; have hlen := signsN_len _ _ _ hsg; rw [bl_length] at hlen; refine hst h (s2 L hsg) (Ev.pos rfl ?_); rw [List.nil_append]; refine Ev.bind (trim_ev L (by omega)) (Ev.neg ?_ ?_)
   ·rw [mkSs_len]; intro h0; exact hne ((signs_blank _ L hsg).1 (List.eq_nil_of_length_eq_zero (by omega)))
   ·exact (refparse_loop L (by omega) _ 0 0 [] [] rfl (Nat.zero_le _) (Nat.le_refl _) (Nat.le_refl _) (Nat.le_refl _)).2 N b (by simpa using hn) hR
theorem getD_at {α : Type} {L : List α} {i : Nat} {x d : α} {r : List α} (h : L.drop i = x :: r) : i < L.length ∧ L.getD ((i : Int).toNat) d = x ∧ L.drop (i + 1) = r := by
 have h1 : i < L.length := by
  rcases Nat.lt_or_ge i L.length with h' | h'
  ·exact h'
  ·rw [List.drop_eq_nil_of_le h'] at h; cases h
 refine ⟨h1, ?_, ?_⟩
 ·have h0 : L[i]? = some x := by
   have := congrArg List.head? h; rw [List.head?_drop] at this; simpa using this
  rw [List.getD_eq_getElem?_getD, Int.toNat_natCast, h0]; rfl
 ·have := congrArg List.tail h; rw [List.tail_drop] at this; simpa using this
abbrev rdR := rd_L8
theorem rdA_at {L : List AvaS} {i : Nat} {x : AvaS} {r : List AvaS} (h : L.drop i = x :: r) : rd_T96 L (i : Int) = x := (getD_at h).2.1
theorem rdR_at {L : List (List AvaS)} {i : Nat} {x : List AvaS} {r : List (List AvaS)} (h : L.drop i = x :: r) : rd_L8 L (i : Int) = x := (getD_at h).2.1
def valueOk (s : ByteArray) : Bool := match readyOf true s with
 | some t => decide (s.size ≤ 255) && !t.isEmpty
 | none => false
theorem rightValue_ev (s : ByteArray) (hs : s.size ≤ 100000) : Ev (fun k => dn_rightValue.f k s) (valueOk s) := by
 unfold dn_rightValue.f valueOk; have h := ready_ev s hs true; cases hr : readyOf true s with
 | none =>
  rw [hr] at h; refine Ev.bind h ?_; by_cases hz : s.size ≤ 255
  ·exact Ev.pos (by omega) (Ev.neg (show ¬ ((19 : Int) = 0) by decide) Ev.rfl')
  ·exact Ev.neg (by omega) Ev.rfl'
 | some t =>
  rw [hr] at h; refine Ev.bind h ?_; dsimp only; by_cases hz : s.size ≤ 255
  ·refine Ev.pos (by omega) (Ev.pos rfl ?_); rw [Lib.toList_data, decide_eq_true hz]; have : (t != ([] : List UInt8)) = (true && !t.isEmpty) := by cases t <;> rfl
   rw [← this]; exact Ev.rfl'
  ·rw [decide_eq_false hz]; exact Ev.neg (by omega) Ev.rfl'
theorem refValueOk_ev (s : ByteArray) (hs : s.size ≤ 100000) : Ev (fun k => R15Value.f k s) (valueOk s) := by
 unfold R15Value.f valueOk; have h := refready_ev s (by omega) true; cases hr : readyOf true s with
 | none =>
  rw [hr] at h; refine Ev.bind h ?_; by_cases hz : s.size ≤ 255
  ·exact Ev.pos (by omega) (Ev.neg (show ¬ ((19 : Int) = 0) by decide) Ev.rfl')
  ·exact Ev.neg (by omega) Ev.rfl'
 | some t =>
  rw [hr] at h; refine Ev.bind h ?_; dsimp only; by_cases hz : s.size ≤ 255
  ·refine Ev.pos (by omega) (Ev.pos rfl ?_); rw [decide_eq_true hz]; have : decide (((⟨t.toArray⟩ : ByteArray).size : Int) > 0) = (true && !t.isEmpty) := by
    rw [← bl_length]; cases t <;> simp [bl]
   rw [← this]; exact Ev.rfl'
  ·rw [decide_eq_false hz]; exact Ev.neg (by omega) Ev.rfl'
def szA (a : AvaS) : Prop := a.f0.size ≤ 100000 ∧ a.f1.size ≤ 100000
def rdnIn : List AvaS → List AvaS → Bool
 | _, [] => true
 | pre, a :: rest => typeOk (bl a.f0) && valueOk a.f1 && !(pre.any (sameType a)) && rdnIn (pre ++ [a]) rest
def rdnOk (l : List AvaS) : Bool := decide (1 ≤ l.length ∧ l.length ≤ 4) && rdnIn [] l
theorem rdnGo_ev : ∀ (l pre : List AvaS), (∀ a ∈ l, szA a) → Ev (fun k => rdnGo k pre l) (rdnIn pre l)
 | [], pre, _ => show Ev _ true from Ev.congr (fun k => by rw [rdnGo]) Ev.rfl'
 | a :: rest, pre, h => by
  have ha := h a (by simp)
  have ih := rdnGo_ev rest (pre ++ [a]) fun b hb => h b (by simp [hb])
  refine Ev.congr (fun k => by rw [rdnGo]) ?_
  rw [rdnIn]
  cases hp : pre.any (sameType a) with
  | true => exact Ev.pos rfl (by simpa using Ev.rfl')
  | false =>
   refine Ev.neg (by simp) (Ev.bind (rightType_ev a.f0 (by have := ha.1; omega)) ?_)
   cases ht : typeOk (bl a.f0) with
   | false => exact Ev.neg (by simp) (by simpa using Ev.rfl')
   | true =>
    refine Ev.pos rfl (Ev.bind (rightValue_ev a.f1 ha.2) ?_)
    cases hv : valueOk a.f1 with
    | false => exact Ev.neg (by simp) (by simpa using Ev.rfl')
    | true => exact Ev.pos rfl (by simpa using ih)
theorem rightRdn_ev (l : List AvaS) (h : ∀ a ∈ l, szA a) : Ev (fun k => dn_rightRdn.f k l) (rdnOk l) := by
 unfold dn_rightRdn.f rdnOk; by_cases h1 : l.length < 1
 ·rw [decide_eq_false (by omega)]; exact Ev.pos h1 Ev.rfl'
 by_cases h2 : l.length > 4
 ·rw [decide_eq_false (by omega)]; exact Ev.neg h1 (Ev.pos h2 Ev.rfl')
 ·rw [decide_eq_true (by omega), Bool.true_and]; exact Ev.neg h1 (Ev.neg h2 (rdnGo_ev l [] h))
theorem refRdn_loop (l : List AvaS) (hl : l.length ≤ 1000000) (h : ∀ a ∈ l, szA a) : ∀ (n i : Nat), l.length - i = n → i ≤ l.length → Ev (fun k => R15Rdn.l0 k l (i : Int)) (rdnIn (l.take i) (l.drop i)) := by
 intro n; induction n with
 | zero =>
  intro i hn hi; rw [List.drop_eq_nil_of_le (by omega), rdnIn]; exact Ev.step (fun k => by rw [R15Rdn.l0]) (Ev.neg (by omega) Ev.rfl')
 | succ n ih =>
  intro i hn hi; cases hr : l.drop i with
  | nil => have := List.drop_eq_nil_iff.1 hr; omega
  | cons a r =>
   obtain ⟨g1, _, g3⟩ := getD_at (d := z96) hr; have g2 := rdA_at hr; have ha : szA a := h a (by
    have : a ∈ l.drop i := by rw [hr]; simp
    exact List.mem_of_mem_drop this)
   have hnext := ih (i + 1) (by omega) (by omega); have htk : l.take (i + 1) = l.take i ++ [a] := by
    have := List.take_succ_eq_append_getElem g1; rw [this]; congr 2; have h0 : l[i]? = some a := by
     have := congrArg List.head? hr; rw [List.head?_drop] at this; simpa using this
    rw [List.getElem?_eq_getElem g1] at h0; simpa using h0
   rw [htk, g3] at hnext; have hj2t : Ev (fun k => R15Rdn.j2 k l (i : Int) true) false := Ev.step (fun k => by rw [R15Rdn.j2]) (Ev.pos rfl Ev.rfl'); have hin : ∀ (m j : Nat), i - j = m → j ≤ i → Ev (fun k => R15Rdn.l1 k l (i : Int) (j : Int)) (!(((l.take i).drop j).any (sameType a)) && rdnIn (l.take i ++ [a]) r) := by
    intro m; induction m with
    | zero =>
     intro j hm hj; have hd : (l.take i).drop j = [] := List.drop_eq_nil_of_le (by rw [List.length_take]; omega); rw [hd]; refine Ev.step (fun k => by rw [R15Rdn.l1]) ?_; rw [wsucc (p := i) (by omega)]; refine Ev.neg (by omega) ?_; simpa using hnext
    | succ m ihm =>
     intro j hm hj; cases hd : (l.take i).drop j with
     | nil => have := List.drop_eq_nil_iff.1 hd; rw [List.length_take] at this; omega
     | cons b r2 =>
      obtain ⟨f1, _, f3⟩ := getD_at (d := z96) hd; have hb : l.drop j = b :: l.drop (j + 1) := by
       have hjl : j < l.length := by rw [List.length_take] at f1; omega
       rw [List.drop_eq_getElem_cons hjl]; congr 1; have h0 : (l.take i)[j]? = some b := by
        have := congrArg List.head? hd; rw [List.head?_drop] at this; simpa using this
       rw [List.getElem?_take_of_lt (by omega), List.getElem?_eq_getElem hjl] at h0; simpa using h0
      have g4 := rdA_at hb; have hi2 := ihm (j + 1) (by omega) (by omega); rw [f3] at hi2; refine Ev.step (fun k => by rw [R15Rdn.l1]) ?_; rw [g4, g2, wsucc (by omega)]; refine Ev.pos (by omega) (Ev.pos (by omega) (Ev.pos (by omega) (Ev.pos (by omega) (Ev.pos (by omega) ?_)))); rw [List.any_cons]; by_cases he : b.f0.toList = a.f0.toList
      ·rw [show sameType a b = true from beq_iff_eq.2 he]; exact Ev.pos he (by simpa using Ev.rfl')
      ·rw [show sameType a b = false from beq_eq_false_iff_ne.2 he]; exact Ev.neg he (by simpa using hi2)
   have hj2f : Ev (fun k => R15Rdn.j2 k l (i : Int) false) (!((l.take i).any (sameType a)) && rdnIn (l.take i ++ [a]) r) := by
    refine Ev.step (fun k => by rw [R15Rdn.j2]) ?_; refine Ev.neg (by simp) ?_; have := hin i 0 rfl (Nat.zero_le _); rw [List.drop_zero] at this; exact this
   refine Ev.step (fun k => by rw [R15Rdn.l0]) ?_; rw [g2, rdnIn]; refine Ev.pos (by omega) (Ev.pos (by omega) (Ev.bind (refType_ev a.f0 (by have := ha.1; omega)) ?_)); cases ht : typeOk (bl a.f0) with
   | false => exact Ev.neg (by simp) (by simpa using hj2t)
   | true =>
    refine Ev.pos rfl (Ev.bind (refValueOk_ev a.f1 ha.2) ?_); cases hv : valueOk a.f1 with
    | false => simpa using hj2t
    | true => simpa using hj2f
theorem refRdn_ev (l : List AvaS) (hl : l.length ≤ 1000000) (h : ∀ a ∈ l, szA a) : Ev (fun k => R15Rdn.f k l) (rdnOk l) := by
 have ht : Ev (fun k => R15Rdn.j0 k l true) false := Ev.step (fun k => by rw [R15Rdn.j0]) (Ev.pos rfl Ev.rfl'); have hf : Ev (fun k => R15Rdn.j0 k l false) (rdnIn [] l) := by
  refine Ev.step (fun k => by rw [R15Rdn.j0]) ?_; refine Ev.neg (by simp) ?_; have := refRdn_loop l hl h _ 0 rfl (Nat.zero_le _); rw [List.take_zero, List.drop_zero] at this; exact this
 unfold R15Rdn.f rdnOk; by_cases h1 : l.length < 1
 ·rw [show decide (1 ≤ l.length ∧ l.length ≤ 4) = false from decide_eq_false (by omega)]; exact Ev.pos (by omega) ht
 refine Ev.neg (by omega) ?_; by_cases h2 : l.length > 4
 ·rw [show decide (1 ≤ l.length ∧ l.length ≤ 4) = false from decide_eq_false (by omega), show decide ((l.length : Int) > 4) = true from decide_eq_true (by omega)]; exact ht
 ·rw [show decide (1 ≤ l.length ∧ l.length ≤ 4) = true from decide_eq_true (by omega), show decide ((l.length : Int) > 4) = false from decide_eq_false (by omega), Bool.true_and]; exact hf
def nameOk (n : List (List AvaS)) : Bool := decide (n.length ≤ 12) && n.all rdnOk
def szN (n : List (List AvaS)) : Prop := ∀ l ∈ n, l.length ≤ 1000000 ∧ ∀ a ∈ l, szA a
theorem right_loop (n : List (List AvaS)) (hl : n.length ≤ 1000000) (h : szN n) : ∀ (m i : Nat), n.length - i = m → i ≤ n.length → Ev (fun k => dn_Right.l0 k n (n.length : Int) (i : Int)) ((n.drop i).all rdnOk) := by
 intro m; induction m with
 | zero =>
  intro i hm hi; rw [List.drop_eq_nil_of_le (by omega)]; show Ev _ true; exact Ev.step (fun k => by rw [dn_Right.l0]) (Ev.neg (by omega) Ev.rfl')
 | succ m ih =>
  intro i hm hi; cases hr : n.drop i with
  | nil => have := List.drop_eq_nil_iff.1 hr; omega
  | cons l r =>
   obtain ⟨g1, _, g3⟩ := getD_at (d := []) hr; have g2 := rdR_at hr; have hsz := h l (by
    have : l ∈ n.drop i := by rw [hr]; simp
    exact List.mem_of_mem_drop this)
   have hi2 := ih (i + 1) (by omega) (by omega); rw [g3] at hi2; refine Ev.step (fun k => by rw [dn_Right.l0]) ?_; rw [g2, wsucc (by omega), List.all_cons]; refine Ev.pos (by omega) (Ev.pos (by omega) (Ev.pos (by omega) (Ev.bind (rightRdn_ev l hsz.2) ?_))); cases rdnOk l with
   | true => exact Ev.pos rfl (by simpa using hi2)
   | false => exact Ev.neg (by simp) (by simpa using Ev.rfl')
theorem right_ev (n : List (List AvaS)) (hl : n.length ≤ 1000000) (h : szN n) : Ev (fun k => dn_Right.f k n) (nameOk n) := by
 unfold dn_Right.f nameOk; by_cases h1 : n.length ≤ 12
 ·rw [decide_eq_true h1, Bool.true_and]; refine Ev.neg (by omega) ?_; have := right_loop n hl h _ 0 rfl (Nat.zero_le _); rw [List.drop_zero] at this; exact this
 ·rw [decide_eq_false h1]; exact Ev.pos (by omega) Ev.rfl'
theorem refRight_ev (n : List (List AvaS)) (hl : n.length ≤ 1000000) (h : szN n) : Ev (fun k => R15Right.f k n) (nameOk n) := by
 have hloop : ∀ (m i : Nat), n.length - i = m → i ≤ n.length → Ev (fun k => R15Right.l0 k n (i : Int)) ((n.drop i).all rdnOk && decide (n.length ≤ 12)) := by
  intro m; induction m with
  | zero =>
   intro i hm hi; rw [List.drop_eq_nil_of_le (by omega)]; rw [List.all_nil, Bool.true_and, show decide (n.length ≤ 12) = decide ((n.length : Int) ≤ 12) from decide_eq_decide.2 (by omega)]; exact Ev.step (fun k => by rw [R15Right.l0]) (Ev.neg (by omega) Ev.rfl')
  | succ m ih =>
   intro i hm hi; cases hr : n.drop i with
   | nil => have := List.drop_eq_nil_iff.1 hr; omega
   | cons l r =>
    obtain ⟨g1, _, g3⟩ := getD_at (d := []) hr; have g2 := rdR_at hr; have hsz := h l (by
     have : l ∈ n.drop i := by rw [hr]; simp
     exact List.mem_of_mem_drop this)
    have hi2 := ih (i + 1) (by omega) (by omega); rw [g3] at hi2; refine Ev.step (fun k => by rw [R15Right.l0]) ?_; rw [g2, wsucc (by omega), List.all_cons]; refine Ev.pos (by omega) (Ev.pos (by omega) (Ev.bind (refRdn_ev l hsz.1 hsz.2) ?_)); cases rdnOk l with
    | true => exact Ev.pos rfl (by simpa using hi2)
    | false => exact Ev.neg (by simp) (by simpa using Ev.rfl')
 have := hloop _ 0 rfl (Nat.zero_le _); rw [List.drop_zero, Bool.and_comm] at this; exact this
theorem scanN_len : ∀ (n : Nat) (r b : List UInt8) (kept : Nat) (v r' : List UInt8), scanN n r b kept = some (v, r') → v.length + r'.length ≤ b.length + r.length
 | 0, r, b, kept, v, r', h => by simp [scanN] at h
 | n + 1, [], b, kept, v, r', h => by
  simp only [scanN, Option.some.injEq, Prod.mk.injEq] at h
  obtain ⟨rfl, rfl⟩ := h
  simp; omega
 | n + 1, c :: r, b, kept, v, r', h => by
  simp only [scanN] at h
  split at h
  ·
   simp only [Option.some.injEq, Prod.mk.injEq] at h
   obtain ⟨rfl, rfl⟩ := h
   simp; omega
  ·
   split at h
   ·
    cases h
   ·
    split at h
    ·
     cases he : esc r with
     | none => rw [he] at h; simp at h
     | some x =>
      rw [he] at h
      simp only [Option.bind_some] at h
      have := scanN_len n _ _ _ _ _ h
      have := esc_lt (x := x.1) (r' := x.2) he
      simp at *; omega
    ·
     have := scanN_len n _ _ _ _ _ h
     simp at *; omega
theorem dw_len {α : Type} (p : α → Bool) (l : List α) : (l.dropWhile p).length ≤ l.length := by
 have := congrArg List.length (split_dw p l); rw [List.length_append] at this; omega
theorem kindB_len {r t r' : List UInt8} (h : kindB r = some (t, r')) : t.length + r'.length < r.length ∧ typeOk t = true := by
 obtain ⟨b1, t0, b2, rfl, _, ht, _, rfl⟩ := kind_yes h; refine ⟨by simp; omega, ht⟩
theorem valueB_len {r v r' : List UInt8} (h : valueB r = some (v, r')) : v.length + r'.length ≤ r.length := by
 unfold valueB at h; have := dw_len (· == 32) r; cases hr : r.dropWhile (· == 32) with
 | nil =>
  rw [hr] at h; simp at h; obtain ⟨rfl, rfl⟩ := h; simp
 | cons c r1 =>
  rw [hr] at h this; dsimp only at h; split at h
  ·cases h
  ·have := scanN_len _ _ _ _ _ _ h; simp at *; omega
def shortN (B : Nat) (n : List (List Pr)) : Prop := n.length ≤ B ∧ ∀ l ∈ n, l.length ≤ B ∧ ∀ a ∈ l, a.1.length ≤ B ∧ a.2.length ≤ B
theorem goB_short (B : Nat) : ∀ (n : Nat) (r : List UInt8) (rdn : List Pr) (l N : List (List Pr)), goB n r rdn l = some N → l.length + r.length ≤ B → rdn.length + r.length ≤ B → (∀ a ∈ rdn, a.1.length ≤ B ∧ a.2.length ≤ B) → (∀ x ∈ l, x.length ≤ B ∧ ∀ a ∈ x, a.1.length ≤ B ∧ a.2.length ≤ B) → shortN B N
 | 0, r, rdn, l, N, h, _, _, _, _ => by simp [goB] at h
 | n + 1, r, rdn, l, N, h, h1, h2, h3, h4 => by
  rw [goB] at h
  cases hk : kindB r with
  | none => rw [hk] at h; simp at h
  | some x =>
   rw [hk] at h
   simp only [Option.bind_some] at h
   have hkl := (kindB_len (t := x.1) (r' := x.2) hk).1
   cases hv : valueB x.2 with
   | none => rw [hv] at h; simp at h
   | some y =>
    rw [hv] at h
    simp only [Option.bind_some] at h
    have hvl := valueB_len (v := y.1) (r' := y.2) hv
    have hnew : ∀ a ∈ rdn ++ [(x.1, y.1)], a.1.length ≤ B ∧ a.2.length ≤ B := by
     intro a ha; rcases List.mem_append.1 ha with ha | ha
     ·exact h3 a ha
     ·simp only [List.mem_singleton] at ha; subst ha; exact ⟨by dsimp only; omega, by dsimp only; omega⟩
    have hlen : (rdn ++ [(x.1, y.1)]).length ≤ B := by simp; omega
    have hl2 : ∀ z ∈ l ++ [rdn ++ [(x.1, y.1)]], z.length ≤ B ∧ ∀ a ∈ z, a.1.length ≤ B ∧ a.2.length ≤ B := by
     intro z hz; rcases List.mem_append.1 hz with hz | hz
     ·exact h4 z hz
     ·simp only [List.mem_singleton] at hz; subst hz; exact ⟨hlen, hnew⟩
    cases hr : y.2 with
    | nil =>
     rw [hr] at h; simp only [Option.some.injEq] at h; subst h; exact ⟨by simp; omega, hl2⟩
    | cons c r3 =>
     rw [hr] at h hvl; simp only [List.length_cons] at hvl; dsimp only at h; split at h
     ·exact goB_short B n r3 _ _ N h (by omega) (by simp; omega) hnew h4
     ·exact goB_short B n r3 _ _ N h (by simp; omega) (by simp; omega) (by simp) hl2
theorem sz_mk {B : Nat} (hB : B ≤ 100000) {n : List (List Pr)} (h : shortN B n) : (mkN n).length ≤ 1000000 ∧ szN (mkN n) ∧ ∀ l ∈ mkN n, l.length ≤ 1000000 := by
 have hs : szN (mkN n) := by
  intro l hl; obtain ⟨x, hx, rfl⟩ := List.mem_map.1 hl; obtain ⟨h1, h2⟩ := h.2 x hx; refine ⟨by rw [mkR_len]; omega, ?_⟩; intro a ha; obtain ⟨p, hp, rfl⟩ := List.mem_map.1 ha; obtain ⟨k1, k2⟩ := h2 p hp; have e1 : (mkA p).f0.size = p.1.length := by rw [← bl_length]; rfl
  have e2 : (mkA p).f1.size = p.2.length := by rw [← bl_length]; rfl
  exact ⟨by omega, by omega⟩
 exact ⟨by rw [mkN_len]; have := h.1; omega, hs, fun l hl => (hs l hl).1⟩
theorem read_short {s : ByteArray} (hs : s.size ≤ 100000) {N : List (List Pr)} (h : ((signs (bl s)).bind fun L => goP L [] [] []) = some N) : shortN 100000 N := by
 rw [← goB_eq (s.size + 1) (bl s) [] [] (by rw [bl_length]; omega)] at h; exact goB_short 100000 _ _ _ _ N h (by rw [bl_length]; simp; omega) (by rw [bl_length]; simp; omega) (by simp) (by simp)
theorem ev_mono {α : Type} {F : Nat → Option α} {v : α} (hm : ∀ k, LeO (F k) (F (k + 1))) (n : Nat) (h : F n = some v) : Ev F v := ⟨n, fun k hk => at_rounds hm hk h⟩
abbrev mkB (l : List UInt8) : ByteArray := ⟨l.toArray⟩
theorem mkB_bl (s : ByteArray) : mkB (bl s) = s := rfl
theorem mkB_size (l : List UInt8) : (mkB l).size = l.length := by rw [← bl_length]
theorem ba_app (a b : List UInt8) : mkB a ++ mkB b = mkB (a ++ b) := by
 apply ByteArray.ext; apply Array.toList_inj.1; rw [ByteArray.data_append]; simp
theorem ba_app' (s : ByteArray) (a : List UInt8) : mkB a ++ s = mkB (a ++ bl s) := by rw [← ba_app, mkB_bl]
end Go.Proofs.YtpklcnpmppaaoaaGreatDoor.Print
namespace Go.Proofs.YtpklcnpmppaaoaaGreatDoor.Print
open Go.RowKit Go.Proofs.YtpklcnpmppaaoaaGreatDoorW.PrintWords
def strings_ReplaceAll.f (a0 a1 a2 : ByteArray) : Option ByteArray :=
 if a0.size ≤ 1000000 then (if 1 ≤ a1.size then (if a2.size ≤ 1000 then some ⟨(Lib.replaceAll a0.data.toList a1.data.toList a2.data.toList).toArray⟩ else none) else none) else none
theorem strings_ReplaceAll.calls (a0 a1 a2 : ByteArray) (r : ByteArray) (w : World) (hG : Gw w) (h : strings_ReplaceAll.f a0 a1 a2 = some r) :
  Calls Tryz.prog 83 #[.string a0, .string a1, .string a2] w fun e w' => e = .returned (.string r) ∧ Below w.heap.size w w' := by
 unfold strings_ReplaceAll.f at h
 by_cases c : a0.size ≤ 1000000
 ·by_cases c1 : 1 ≤ a1.size
  ·by_cases c2 : a2.size ≤ 1000
   ·rw [if_pos c, if_pos c1, if_pos c2] at h; injection h with h; subst h; obtain ⟨m, hm⟩ := hG.maxLen; have hle := Lib.countB_le a1 c1 a0.size a0 (Nat.le_refl _); have : Lib.countB a0 a1 * a2.size ≤ 1000000 * 1000 := Nat.mul_le_mul (by omega) c2; exact Tryz.strings_ReplaceAll a0 a1 a2 m w (by omega) hm c1 (by omega)
   ·rw [if_pos c, if_pos c1, if_neg c2] at h; cases h
  ·rw [if_pos c, if_neg c1] at h; cases h
 ·rw [if_neg c] at h; cases h
end Go.Proofs.YtpklcnpmppaaoaaGreatDoor.Print
namespace Go.Proofs
open Go.Shelf
def Tryz.lays170_ren : Go.Shelf.Ren := ⟨fun | 170 => 148 | n => n, fun | 70 => 108 | 3 => 3 | 0 => 0 | 72 => 110 | 37 => 82 | 5 => 5 | n => n, fun | n => n⟩
theorem Tryz.lays170 : Go.Proofs.Lays.n170 Tryz.prog Tryz.lays170_ren := {
  mixed := by kernel_rfl
  f170 := Tryz.func148.trans (congrArg some (by kernel_rfl))
  t0 := Tryz.underlying0
  a0 := Tryz.isAgg0
  z0 := Tryz.sizeOf0
  v0 := Tryz.zeroValue0
  t3 := Tryz.underlying3
  a3 := Tryz.isAgg3
  z3 := Tryz.sizeOf3
  v3 := Tryz.zeroValue3
  t37 := Tryz.underlying82
  a37 := Tryz.isAgg82
  z37 := Tryz.sizeOf82
  v37 := Tryz.zeroValue82
  t70 := Tryz.underlying108
  a70 := Tryz.isAgg108
  z70 := Tryz.sizeOf108
  v70 := Tryz.zeroValue108
  t72 := Tryz.underlying110
  a72 := Tryz.isAgg110
  z72 := Tryz.sizeOf110
  v72 := Tryz.zeroValue110 }
open Go.RowKit in
theorem Tryz.Builder_Len_f (B b : Nat) (bs : List Value) (w : World) (h : Lib.IsBuilderF 110 5 B b bs w) :
    Calls Tryz.prog 148 #[.pointer (some ⟨b, 0, none⟩)] w fun e w' => e = .returned (.int .i64 bs.length) ∧ w' = w := Any.Builder_Len_f Tryz.lays170 B b bs w h
end Go.Proofs
namespace Go.Proofs.YtpklcnpmppaaoaaGreatDoor.Print
open Go.RowKit Go.Proofs.YtpklcnpmppaaoaaGreatDoorW.PrintWords Go.Proofs.YtpklcnpmppaaoaaGreatDoorW.PrintLast Go.Proofs.YtpklcnpmppaaoaaGreatDoorW.PrintMore
set_option linter.unusedVariables false
set_option linter.unusedSimpArgs false
theorem idx_of1 (z : UInt8) (a b : List UInt8) (h : ∀ c ∈ a, c ≠ z) : Lib.index (a ++ z :: b) [z] = (a.length : Int) := by
 rw [Lib.index_one]; induction a with
 | nil => simp [Lib.indexByte]
 | cons c a ih =>
  have hc := h c (by simp); have ih := ih fun x hx => h x (by simp [hx])
  rw [List.cons_append, Lib.indexByte, if_neg (by simpa using hc), ih, if_neg (by simp <;> omega)]; simp
theorem first_z (z : UInt8) (l : List UInt8) : (∀ c ∈ l, c ≠ z) ∨ ∃ a b, l = a ++ z :: b ∧ ∀ c ∈ a, c ≠ z := by
 induction l with
 | nil => exact .inl (by simp)
 | cons c l ih =>
  by_cases hc : c = z
  ·exact .inr ⟨[], l, by rw [hc]; rfl, by simp⟩
  ·rcases ih with h | ⟨a, b, rfl, h⟩
   ·exact .inl fun x hx => by rcases List.mem_cons.1 hx with rfl | hx; exact hc; exact h x hx
   ·exact .inr ⟨c :: a, b, rfl, fun x hx => by rcases List.mem_cons.1 hx with rfl | hx; exact hc; exact h x hx⟩
def swapZ (z : UInt8) (new l : List UInt8) : List UInt8 := l.flatMap fun c => if c = z then new else [c]
theorem swapZ_none (z : UInt8) (new : List UInt8) : ∀ (a : List UInt8), (∀ c ∈ a, c ≠ z) → swapZ z new a = a
 | [], _ => rfl
 | c :: a, h => by
  have ih := swapZ_none z new a fun x hx => h x (by simp [hx])
  show (if c = z then new else [c]) ++ swapZ z new a = _
  rw [if_neg (h c (by simp)), ih]; rfl
theorem replaceK_z (z : UInt8) (new : List UInt8) : ∀ (k : Nat) (l : List UInt8), l.count z = k → Lib.replaceK [z] new k l = swapZ z new l
 | 0, l, h => by
  have hn : ∀ c ∈ l, c ≠ z := by
   intro c hc h2; subst h2; have := List.count_pos_iff.2 hc; omega
  rw [swapZ_none z new l hn]; rfl
 | k + 1, l, h => by
  rcases first_z z l with hn | ⟨a, b, rfl, hn⟩
  ·have : l.count z = 0 := List.count_eq_zero.2 fun hc => hn z hc rfl
   omega
  ·have hc : b.count z = k := by
    rw [List.count_append, List.count_cons] at h; have : a.count z = 0 := List.count_eq_zero.2 fun hc => hn z hc rfl
    simp at h; omega
   rw [Lib.replaceK_hit [z] new k _ a.length (idx_of1 z a b hn), show (a ++ z :: b).drop (a.length + ([z] : List UInt8).length) = b by simp, replaceK_z z new k b hc]; have : swapZ z new (a ++ z :: b) = swapZ z new a ++ (new ++ swapZ z new b) := by simp [swapZ]
   rw [this, swapZ_none z new a hn]; simp
theorem replaceAll_z (z : UInt8) (new l : List UInt8) (h : ([z] == new) = false) : Lib.replaceAll l [z] new = swapZ z new l := by
 unfold Lib.replaceAll Lib.replace; rw [h]; have : Lib.replaceNum l [z] (-1) = l.count z := by
  unfold Lib.replaceNum; rw [if_pos (Or.inl (by decide)), Lib.count_one]
 rw [this, replaceK_z z new _ l rfl]; rfl
theorem swapZ_len (z : UInt8) (new : List UInt8) (B : Nat) (hB : 1 ≤ B) (hn : new.length ≤ B) : ∀ (l : List UInt8), (swapZ z new l).length ≤ B * l.length
 | [] => by simp [swapZ]
 | c :: l => by
  have ih := swapZ_len z new B hB hn l
  have h : (if c = z then new else [c]).length ≤ B := by
   split
   ·exact hn
   ·simpa using hB
  have : swapZ z new (c :: l) = (if c = z then new else [c]) ++ swapZ z new l := rfl; rw [this, List.length_append, List.length_cons, Nat.mul_succ]; omega
def part1 (p : ByteArray) : List UInt8 := swapZ 0 [0, 255] p.data.toList ++ [0, 1]
def tupOf (l : List ByteArray) : List UInt8 := l.flatMap part1
def field_Tuple.f (l0 : List ByteArray) : Option (ByteArray × Int) :=
 if 16 < l0.length then some (⟨#[]⟩, 1) else if l0.any (fun p => decide (4096 < p.size)) = true then some (⟨#[]⟩, 5) else if 4096 < (tupOf l0).length then some (⟨#[]⟩, 5) else some (⟨(tupOf l0).toArray⟩, 0)
theorem tupOf_snoc (l : List ByteArray) (p : ByteArray) : tupOf (l ++ [p]) = tupOf l ++ part1 p := by simp [tupOf]
theorem part1_len (p : ByteArray) (h : p.size ≤ 4096) : (part1 p).length ≤ 8194 := by
 have := swapZ_len 0 [0, 255] 2 (by omega) (by simp) p.data.toList; have h2 : p.data.toList.length = p.size := by simp
 unfold part1; rw [List.length_append]; simp only [List.length_cons, List.length_nil]; omega
theorem rep_f (p : ByteArray) (h : p.size ≤ 4096) : strings_ReplaceAll.f p (⟨#[0]⟩ : ByteArray) (⟨#[0, 255]⟩ : ByteArray) = some ⟨(swapZ 0 [0, 255] p.data.toList).toArray⟩ := by
 unfold strings_ReplaceAll.f; rw [if_pos (by omega), if_pos (show 1 ≤ (⟨#[0]⟩ : ByteArray).size from Nat.le_refl _), if_pos (show (⟨#[0, 255]⟩ : ByteArray).size ≤ 1000 by decide)]; have : Lib.replaceAll p.data.toList (⟨#[0]⟩ : ByteArray).data.toList (⟨#[0, 255]⟩ : ByteArray).data.toList = swapZ 0 [0, 255] p.data.toList := replaceAll_z 0 [0, 255] _ (by decide); rw [this]
theorem take_succ_ba (l : List ByteArray) (k : Nat) (h : k < l.length) : l.take (k + 1) = l.take k ++ [l.getD k ByteArray.empty] := by
 rw [List.take_succ_eq_append_getElem h]; simp [List.getD_eq_getElem?_getD, h]
set_option maxHeartbeats 4000000 in
set_option maxRecDepth 1000000 in
theorem field_Tuple.calls (A0 : Option Addr) (c0 : Nat) (l0 : List ByteArray) (r1 : ByteArray) (r2 : Int) (w : World) (hr0 : Kd.C Kd.string w A0 l0.length l0) (hc0 : l0.length ≤ c0) (hG : Gw w) (h : field_Tuple.f l0 = some (r1, r2)) :
  Calls Tryz.prog 126 #[.slice A0 l0.length c0] w fun e w' => e = .returned (.tuple #[.string r1, .int .i64 r2]) ∧ Below w.heap.size w w' := by
 have hlm := hr0.2.1
 unfold field_Tuple.f at h
 by_cases h16 : 16 < l0.length
 ·rw [if_pos h16] at h; simp only [Option.some.injEq, Prod.mk.injEq] at h; obtain ⟨rfl, rfl⟩ := h; clear hr0; go_enter Tryz.func126, Tryz.ntmps126; go_wp2; go_ret2; exact ⟨rfl, Below.refl _ _⟩
 ·rw [if_neg h16] at h; have HH := Aside0.mk h; have HC := Aside0.mk hr0; have HG := Aside0.mk hG; clear h hr0 hG; go_enter Tryz.func126, Tryz.ntmps126; go_wp2; go_loopw [12] (fun i wr => ∃ (k : Nat) (acc : List UInt8), k ≤ l0.length ∧ i = .int .i64 k ∧ Aside0 (Bld w.heap.size w.heap.size (Lib.byteCells acc) wr) ∧ Aside0 (Below w.heap.size w wr) ∧ Aside0 (acc = tupOf (l0.take k)) ∧ Aside0 (acc.length ≤ 8194 * k) ∧ Aside0 (∀ p ∈ l0.take k, p.size ≤ 4096)) (fun i wr => l0.length - (intOf i).toNat); case atStart =>
   exact ⟨0, [], Nat.zero_le _, rfl, ⟨Lib.IsBuilderF.of (Lib.fresh_isBuilder 110 5 w)⟩, ⟨(Below.refl _ w).alloc (Nat.le_refl _) _⟩, ⟨rfl⟩, ⟨by simp⟩, ⟨by simp⟩⟩
  case round =>
   obtain ⟨k, acc, hk, rfl, HB, hbw, hacc, hacl, hsml⟩ := hrel; by_cases hlt : k < l0.length
   ·obtain ⟨ad, hA, hc⟩ := (Kd.reads_of_C (d := ByteArray.empty) HC.out).at_ (k : Int) (by omega) (by omega); have hcw := (hbw.out.cell (World.block_lt_of_cell? _ _ hc)).trans hc; clear hc; subst hA; have hts := take_succ_ba l0 k hlt; have hmem : l0.getD k ByteArray.empty ∈ l0 := by rw [List.getD_eq_getElem?_getD, List.getElem?_eq_getElem hlt]; simp
    simp only [Int.toNat_natCast, rdOf] at hcw; generalize hx : l0.getD k ByteArray.empty = p at *; have HT := Aside0.mk hts; have HM := Aside0.mk hmem; clear hts hx hmem; by_cases hz : 4096 < p.size
    ·go_wp2; go_ret2; have hany : l0.any (fun p => decide (4096 < p.size)) = true := List.any_eq_true.2 ⟨p, HM.out, by simpa using hz⟩; have := HH.out; rw [if_pos hany] at this; simp only [Option.some.injEq, Prod.mk.injEq] at this; obtain ⟨rfl, rfl⟩ := this; exact ⟨rfl, hbw.out⟩
    ·have HF := Aside0.mk (rep_f p (by omega)); have hpl := part1_len p (by omega); have h15 : k ≤ 15 := by omega
     have hsw := swapZ_len 0 [0, 255] 2 (by omega) (by simp) p.data.toList; have h2 : p.data.toList.length = p.size := by simp
     have HS := Aside0.mk (show (swapZ 0 [0, 255] p.data.toList).length ≤ 8192 by omega); clear hsw h2; go_wp2_with (first
      | (go_at_call 83; (with_reducible refine (strings_ReplaceAll.calls _ _ _ _ _ ?hG HF.out).mono ?_); (case hG => exact HG.out.below hbw.out); rintro e w2 ⟨rfl, hb2⟩; have hcc := Aside0.mk (Lib.IsBuilderF.below HB.out hb2); replace hb2 := Aside0.mk (hbw.out.trans (hb2.mono hbw.out.size)))
      | (go_at_call 102; first
        | ((with_reducible refine (bld_WriteString w.heap.size w.heap.size _ _ _ g1.out ?h3 ?h4).mono ?_); (case h3 => have q1 := hacl.out; have q2 := HS.out; simp [Lib.byteCells_length, Lib.strCells_length, ByteArray.size]; omega); (case h4 => have a2 := hb2.out.size; have a3 := g2.out.size; omega); rintro e w4 ⟨rfl, f1, f2, _⟩; replace f1 := Aside0.mk f1; replace f2 := Aside0.mk f2)
        | ((with_reducible refine (bld_WriteString w.heap.size w.heap.size (Lib.byteCells acc) _ _ ?hB ?h3 ?h4).mono ?_); (case hB => exact hcc.out); (case h3 => have q1 := hacl.out; have q2 := HS.out; simp [Lib.byteCells_length, ByteArray.size]; omega); (case h4 => have a2 := hb2.out.size; omega); rintro e w3 ⟨rfl, g1, g2, _⟩; replace g1 := Aside0.mk g1; replace g2 := Aside0.mk g2)))
     go_roundw; case rel =>
      refine ⟨k + 1, acc ++ part1 p, by omega, by go_num, ⟨?_⟩, ⟨hb2.out.trans (g2.out.trans f2.out)⟩, ⟨?_⟩, ⟨?_⟩, ⟨?_⟩⟩
      ·have := f1.out; rw [Lib.byteCells_append]; simpa [Lib.byteCells, Lib.strCells, part1, List.append_assoc] using this
      ·rw [HT.out, tupOf_snoc, hacc.out]
      ·have := hacl.out; rw [List.length_append]; omega
      ·intro x hx; rw [HT.out] at hx; rcases List.mem_append.1 hx with hx | hx
       ·exact hsml.out x hx
       ·simp only [List.mem_singleton] at hx; subst hx; omega
     case measure => simp [intOf]; omega
   ·obtain rfl : k = l0.length := by omega
    have hac2 : acc = tupOf l0 := by rw [hacc.out, List.take_length]
    have hall : ¬ l0.any (fun p => decide (4096 < p.size)) = true := by
     rw [List.any_eq_true]; rintro ⟨x, hx, h2⟩; have := hsml.out x (by rw [List.take_length]; exact hx); simp at h2; omega
    have H2 := HH.out; rw [if_neg hall, ← hac2] at H2; have HA := Aside0.mk H2; clear hac2 hall H2 HH hacc; have hbl : (Lib.byteCells acc).length = acc.length := Lib.byteCells_length _; by_cases hz : 4096 < acc.length
    ·have := HA.out; rw [if_pos hz] at this; simp only [Option.some.injEq, Prod.mk.injEq] at this; obtain ⟨rfl, rfl⟩ := this; have hz2 : 4096 < (Lib.byteCells acc).length := by omega
     clear hbl; go_wp2_with (go_at_call 148; (with_reducible refine (Tryz.Builder_Len_f w.heap.size w.heap.size _ _ HB.out).mono ?_); rintro e w2 ⟨rfl, rfl⟩); go_ret2; exact ⟨rfl, hbw.out⟩
    ·have := HA.out; rw [if_neg hz] at this; simp only [Option.some.injEq, Prod.mk.injEq] at this; obtain ⟨rfl, rfl⟩ := this; have hz2 : ¬ 4096 < (Lib.byteCells acc).length := by omega
     clear hbl; go_wp2_with (first
      | (go_at_call 148; (with_reducible refine (Tryz.Builder_Len_f w.heap.size w.heap.size _ _ HB.out).mono ?_); rintro e w2 ⟨rfl, rfl⟩)
      | (go_at_call 89; (with_reducible refine (bld_String w.heap.size w.heap.size _ _ HB.out ?h1).mono ?_); (case h1 => have := hbw.out.size; omega); rintro e w2 ⟨rfl, h2⟩; replace h2 := Aside0.mk h2))
     go_ret2; exact ⟨rfl, hbw.out.trans h2.out⟩
end Go.Proofs.YtpklcnpmppaaoaaGreatDoor.Print
namespace Go.Proofs
open Go.Shelf
def Tryz.lays190_ren : Go.Shelf.Ren := ⟨fun | 190 => 127 | 125 => 150 | 258 => 149 | 128 => 170 | 129 => 171 | 302 => 161 | 303 => 162 | 304 => 163 | 305 => 164 | 306 => 165 | 307 => 166 | 308 => 167 | 309 => 168 | 310 => 169 | 333 => 176 | 329 => 177 | 330 => 178 | 334 => 179 | 335 => 180 | 336 => 181 | 344 => 186 | n => n, fun | 31 => 31 | 9 => 9 | 3 => 3 | 46 => 68 | 0 => 0 | 51 => 152 | 53 => 128 | 4 => 4 | 183 => 169 | 182 => 168 | 131 => 173 | 5 => 5 | 218 => 185 | 222 => 189 | 228 => 194 | 229 => 114 | n => n, fun | n => n⟩
theorem Tryz.lays190 : Go.Proofs.Lays.n190 Tryz.prog Tryz.lays190_ren := {
  mixed := by kernel_rfl
  f125 := Tryz.func150.trans (congrArg some (by kernel_rfl))
  f128 := Tryz.func170.trans (congrArg some (by kernel_rfl))
  f129 := Tryz.func171.trans (congrArg some (by kernel_rfl))
  f190 := Tryz.func127.trans (congrArg some (by kernel_rfl))
  f258 := Tryz.func149.trans (congrArg some (by kernel_rfl))
  f302 := Tryz.func161.trans (congrArg some (by kernel_rfl))
  f303 := Tryz.func162.trans (congrArg some (by kernel_rfl))
  f304 := Tryz.func163.trans (congrArg some (by kernel_rfl))
  f305 := Tryz.func164.trans (congrArg some (by kernel_rfl))
  f306 := Tryz.func165.trans (congrArg some (by kernel_rfl))
  f307 := Tryz.func166.trans (congrArg some (by kernel_rfl))
  f308 := Tryz.func167.trans (congrArg some (by kernel_rfl))
  f309 := Tryz.func168.trans (congrArg some (by kernel_rfl))
  f310 := Tryz.func169.trans (congrArg some (by kernel_rfl))
  f329 := Tryz.func177.trans (congrArg some (by kernel_rfl))
  f330 := Tryz.func178.trans (congrArg some (by kernel_rfl))
  f333 := Tryz.func176.trans (congrArg some (by kernel_rfl))
  f334 := Tryz.func179.trans (congrArg some (by kernel_rfl))
  f335 := Tryz.func180.trans (congrArg some (by kernel_rfl))
  f336 := Tryz.func181.trans (congrArg some (by kernel_rfl))
  f344 := Tryz.func186.trans (congrArg some (by kernel_rfl))
  t0 := Tryz.underlying0
  a0 := Tryz.isAgg0
  z0 := Tryz.sizeOf0
  v0 := Tryz.zeroValue0
  t3 := Tryz.underlying3
  a3 := Tryz.isAgg3
  z3 := Tryz.sizeOf3
  v3 := Tryz.zeroValue3
  t4 := Tryz.underlying4
  a4 := Tryz.isAgg4
  z4 := Tryz.sizeOf4
  v4 := Tryz.zeroValue4
  t5 := Tryz.underlying5
  a5 := Tryz.isAgg5
  z5 := Tryz.sizeOf5
  v5 := Tryz.zeroValue5
  t9 := Tryz.underlying9
  a9 := Tryz.isAgg9
  z9 := Tryz.sizeOf9
  v9 := Tryz.zeroValue9
  t31 := Tryz.underlying31
  a31 := Tryz.isAgg31
  z31 := Tryz.sizeOf31
  v31 := Tryz.zeroValue31
  t46 := Tryz.underlying68
  a46 := Tryz.isAgg68
  z46 := Tryz.sizeOf68
  v46 := Tryz.zeroValue68
  t51 := Tryz.underlying152
  a51 := Tryz.isAgg152
  z51 := Tryz.sizeOf152
  v51 := Tryz.zeroValue152
  t53 := Tryz.underlying128
  a53 := Tryz.isAgg128
  z53 := Tryz.sizeOf128
  v53 := Tryz.zeroValue128
  t131 := Tryz.underlying173
  a131 := Tryz.isAgg173
  z131 := Tryz.sizeOf173
  v131 := Tryz.zeroValue173
  t182 := Tryz.underlying168
  a182 := Tryz.isAgg168
  z182 := Tryz.sizeOf168
  v182 := Tryz.zeroValue168
  t183 := Tryz.underlying169
  a183 := Tryz.isAgg169
  z183 := Tryz.sizeOf169
  v183 := Tryz.zeroValue169
  t218 := Tryz.underlying185
  a218 := Tryz.isAgg185
  z218 := Tryz.sizeOf185
  v218 := Tryz.zeroValue185
  t222 := Tryz.underlying189
  a222 := Tryz.isAgg189
  z222 := Tryz.sizeOf189
  v222 := Tryz.zeroValue189
  t228 := Tryz.underlying194
  a228 := Tryz.isAgg194
  z228 := Tryz.sizeOf194
  v228 := Tryz.zeroValue194
  t229 := Tryz.underlying114
  a229 := Tryz.isAgg114
  z229 := Tryz.sizeOf114
  v229 := Tryz.zeroValue114 }
open Go.Sort Go.RowKit in
theorem Tryz.slices_Sort_string (blk off cap : Nat) (ss : List (List UInt8)) (w : World) (hH : Holds encStr w blk off ss.toArray) (hblk : blk < w.heap.size) (hsz : ss.length < 4611686018427387904) :
    Calls Tryz.prog 127 #[.slice (some ⟨blk, off, none⟩) ss.length cap] w fun e w' =>
      e = .returned (.tuple #[]) ∧ ∃ n os, w' = grow (putRow encStr (Sort.ahead w n) blk off (ss.mergeSort fun x y => decide (x ≤ y)).toArray) os := Any.slices_Sort_string Tryz.lays190 blk off cap ss w hH hblk hsz
open Go.RowKit Go.Sort in
theorem Tryz.slices_Sort_string_none (p : Option Addr) (cap : Nat) (w : World) :
    Calls Tryz.prog 127 #[.slice p 0 cap] w fun e w' => e = .returned (.tuple #[]) ∧ w' = w := Any.slices_Sort_string_none Tryz.lays190 p cap w
end Go.Proofs
namespace Go.Proofs.YtpklcnpmppaaoaaGreatDoor.Print
open Go.RowKit Go.Proofs.YtpklcnpmppaaoaaGreatDoorW.PrintWords Go.Proofs.YtpklcnpmppaaoaaGreatDoorW.PrintLast Go.Proofs.YtpklcnpmppaaoaaGreatDoorW.PrintMore Go.Sort
set_option linter.unusedVariables false
def sortL (l : List (List UInt8)) : List (List UInt8) := l.mergeSort fun x y => decide (x ≤ y)
def sortB (xs : List ByteArray) : List ByteArray := (sortL (xs.map (·.data.toList))).map fun l => ⟨l.toArray⟩
theorem sortB_len (xs : List ByteArray) : (sortB xs).length = xs.length := by simp [sortB, sortL]
theorem encs_str (xs : List ByteArray) : encs Value.string xs = (xs.map (·.data.toList)).map encStr := by
 unfold encs; rw [List.map_map]; exact List.map_congr_left fun x _ => rfl
theorem encs_sort (xs : List ByteArray) : encs Value.string (sortB xs) = (sortL (xs.map (·.data.toList))).map encStr := by
 unfold encs sortB; rw [List.map_map]; exact List.map_congr_left fun x _ => rfl
theorem sort_own (A : Option Addr) (c : Nat) (xs : List ByteArray) (B : Nat) (w : World) (ho : Kd.R Kd.string 9 w B (fun _ => True) (.slice A xs.length c) xs) (hB : B ≤ w.heap.size) (hle : xs.length ≤ 1000000) :
  Calls Tryz.prog 127 #[.slice A xs.length c] w fun e w' => e = .returned (.tuple #[]) ∧ Kd.R Kd.string 9 w' B (fun _ => True) (.slice A xs.length c) (sortB xs) ∧ Below B w w' := by
 have hrow := Kd.own_of_R ho
 rw [encs_str] at hrow
 have hmax := (Kd.R_reads' ho).2.2.2.1
 rcases hrow.2 with ⟨hnil, hn0⟩ | ⟨g, cap, cur, hv, hbase, hb, h1, h2, h3, h4⟩
 ·have hx : xs = [] := List.eq_nil_of_length_eq_zero (by simpa using hn0); subst hx; refine (Tryz.slices_Sort_string_none A c w).mono ?_; rintro e w' ⟨he, rfl⟩; have e0 : sortB [] = [] := by simp [sortB, sortL]
  rw [e0]; exact ⟨he, ho, Below.refl _ _⟩
 ·injection hv with hA hl hc; subst hA; subst hc; have hH : Holds encStr w g 0 (xs.map (·.data.toList)).toArray := holds_of_block hb (by simpa using h4); have hlen : xs.length = (xs.map (·.data.toList)).length := by simp
  have hcall := Tryz.slices_Sort_string g 0 c (xs.map (·.data.toList)) w hH (Array.getElem?_eq_some_iff.1 hb).1 (by rw [← hlen]; omega); rw [← hlen] at hcall; refine hcall.mono ?_; rintro e w' ⟨he, n, os, rfl⟩; have hs := ownsRow_sorted (w := w) (n := n) (os := os) (ss := xs.map (·.data.toList)) (ts := sortL (xs.map (·.data.toList))) (by simp [sortL]) hbase hb (by rw [← hlen]; exact h1) h2 h3; rw [← hlen, ← encs_sort] at hs; refine ⟨he, Kd.R_of_own (by rw [sortB_len]; exact hs) (fun _ _ => trivial), ?_⟩; exact (Below.refl B w).grown (grownBy_sorted _) hB (fun j hj => by cases hj; exact hbase)
theorem join_le {l : List ByteArray} {s r : ByteArray} (h : strings_Join.f (sortB l) s = some r) : l.length ≤ 1000000 := by
 unfold strings_Join.f at h; by_cases c : (sortB l).length ≤ 1000000
 ·rw [sortB_len] at c; exact c
 ·rw [if_neg c] at h; cases h
theorem join_n (A0 : Option Addr) (c0 : Nat) (l0 : List ByteArray) (n : Nat) (hn : l0.length = n) (a1 : ByteArray) (r : ByteArray) (w : World) (hr0 : Kd.C Kd.string w A0 l0.length l0) (hc0 : l0.length ≤ c0) (h : strings_Join.f l0 a1 = some r) :
  Calls Tryz.prog 71 #[.slice A0 n c0, .string a1] w fun e w' => e = .returned (.string r) ∧ Below w.heap.size w w' := by
 subst hn
 exact strings_Join.calls A0 c0 l0 a1 r w hr0 hc0 h
theorem reads_srt {A : Option Addr} {c : Nat} {xs : List ByteArray} {B : Nat} {w : World} {ok : Nat → Prop} (h : Kd.R Kd.string 9 w B ok (.slice A xs.length c) (sortB xs)) : (sortB xs).length ≤ c ∧ Kd.C Kd.string w A (sortB xs).length (sortB xs) := by
 have h2 := Kd.R_reads' (xs := sortB xs) (n := xs.length) h; refine ⟨?_, ?_⟩
 ·rw [sortB_len]; exact h2.2.1
 ·exact h2.2.2
end Go.Proofs.YtpklcnpmppaaoaaGreatDoor.Print
namespace Go.Proofs.YtpklcnpmppaaoaaGreatDoor.Print
open Go.RowKit Go.Proofs.YtpklcnpmppaaoaaGreatDoorW.PrintWords Go.Proofs.YtpklcnpmppaaoaaGreatDoorW.PrintLast Go.Proofs.YtpklcnpmppaaoaaGreatDoorW.PrintMore
attribute [local go_sem] max2_int min2_int max_two min_two max_three min_three max_four min_four
set_option linter.unusedVariables false
set_option linter.unusedSimpArgs false
def dn_key.l0 : Nat → List ByteArray → List (S96) → Int → Int → Option (ByteArray)
 | 0, _, _, _, _ => none
 | k + 1, x3, x10, x11, x12 => if x12 < x11 then (if 0 ≤ x12 then (if x12 < (x10.length : Int) then ((prep_Ready.f k ((rd_T96 x10 x12).f1) true).bind fun bt335 => ((field_Tuple.f (([(rd_T96 x10 x12).f0, bt335.1] : List ByteArray))).bind fun bt340 => (if x3.length < 8796093022208 then (dn_key.l0 k (x3 ++ [bt340.1]) x10 x11 (wrap64 (x12 + 1))) else (none)))) else (none)) else (none)) else ((strings_Join.f (sortB x3) (⟨#[]⟩ : ByteArray)).bind fun t345 => (some t345))
def dn_key.f (k : Nat) (l0 : List (S96)) : Option (ByteArray) := dn_key.l0 k ([] : List ByteArray) l0 (l0.length : Int) 0
theorem dn_key.mono_l : ∀ k, (∀ y0 y1 y2 y3, LeO (dn_key.l0 k y0 y1 y2 y3) (dn_key.l0 (k + 1) y0 y1 y2 y3))
 | 0 => fun _ _ _ _ r h => by simp [dn_key.l0] at h
 | k + 1 => by
  have ih0 := dn_key.mono_l k
  ·
   intro y0 y1 y2 y3
   unfold dn_key.l0
   repeat' first
   | (with_reducible exact ih0 _ _ _ _)
   | (with_reducible exact prep_Ready.mono _ _ _)
   | (with_reducible exact LeO.refl _)
   | (with_reducible exact LeO.none _)
   | (with_reducible refine LeO.ite ?_ ?_)
   | (with_reducible refine LeO.bind ?_ (fun _ => ?_))
theorem dn_key.mono : ∀ a0 k, LeO (dn_key.f k a0) (dn_key.f (k + 1) a0) := by
 intro a0 k; have ih0 := dn_key.mono_l k; unfold dn_key.f; repeat' first
   | (with_reducible exact ih0 _ _ _ _)
   | (with_reducible exact prep_Ready.mono _ _ _)
   | (with_reducible exact LeO.refl _)
   | (with_reducible exact LeO.none _)
   | (with_reducible refine LeO.ite ?_ ?_)
   | (with_reducible refine LeO.bind ?_ (fun _ => ?_))
set_option maxHeartbeats 8000000 in
set_option maxRecDepth 100000 in
theorem dn_key.calls (k : Nat) (A0 : Option Addr) (c0 : Nat) (l0 : List (S96)) (r : ByteArray) (w : World) (hr0 : Kd.C k96 w A0 l0.length l0) (hc0 : l0.length ≤ c0) (hG : Gw w) (h : dn_key.f k l0 = some r) :
  Calls Tryz.prog 100 #[.slice A0 l0.length c0] w fun e w' => e = .returned (.string r) ∧ Below w.heap.size w w' := by
 have hu96 := Tryz.underlying96
 have HR0 := am hr0
 have HC0 := am hc0
 clear hr0 hc0
 have HB := am (Below.refl w.heap.size w)
 have HG := am hG
 clear hG
 have H : (dn_key.l0 k ([] : List ByteArray) l0 (l0.length : Int) 0) = some r := h
 clear h
 have H' := am H
 clear H
 go_enter Tryz.func100, Tryz.ntmps100
 go_wp2
 go_loopg [3, 12] k (fun kq v3 v12 w' => ∃ (x3_1 : List ByteArray) (x12_1 : Int), v12 = .int .i64 x12_1 ∧ Aside0 (dn_key.l0 kq x3_1 l0 (l0.length : Int) x12_1 = some r) ∧ Aside0 (kq ≤ k) ∧ Aside0 (Kd.R Kd.string 9 w' w.heap.size (fun _ => True) v3 x3_1) ∧ Aside0 (Below w.heap.size w w'))
 case atStart => exact ⟨(([] : List ByteArray)), (0), ap2, H', ⟨Nat.le_refl _⟩, ⟨by first | exact Kd.R_nil _ _ _ _ _ | exact Kd.N_nil _ _ _ _ _ | exact Kd.V_nil _ _ _ _ _ | exact Kd.Q_nil _ _ _ _ _ | exact Kd.S_nil _ _ _ _ _⟩, ⟨ap1⟩⟩
 case round =>
  clear H'; obtain ⟨x3_1, x12_1, rfl, HA, HK1, HO_3, HB⟩ := hrel; cases gk with
  | zero => exact absurd HA.out (by simp [dn_key.l0])
  | succ k1 =>
   have H := HA.out; clear HA; simp only [dn_key.l0] at H; revert H; refine spd00 ?_ ?_
   ·intro c2b0 H; revert H; refine spn0 ?_; intro c3b0 H; revert H; refine spn0 ?_; intro c4b0 H; replace H := Option.bind_eq_some_iff.mp H; obtain ⟨⟨t335, t336⟩, A50, H⟩ := H; replace H : ((field_Tuple.f (([(rd_T96 l0 x12_1).f0, t335] : List ByteArray))).bind fun bt340 => (if x3_1.length < 8796093022208 then (dn_key.l0 k1 (x3_1 ++ [bt340.1]) l0 (l0.length : Int) (wrap64 (x12_1 + 1))) else (none))) = some r := H; have A5 := am A50; clear A50; obtain ⟨y337, hy337⟩ : ∃ y_ : List ByteArray, y_ = (([(rd_T96 l0 x12_1).f0, t335] : List ByteArray)) := ⟨_, rfl⟩; replace H : ((field_Tuple.f y337).bind fun bt340 => (if x3_1.length < 8796093022208 then (dn_key.l0 k1 (x3_1 ++ [bt340.1]) l0 (l0.length : Int) (wrap64 (x12_1 + 1))) else (none))) = some r := apY hy337 H; have Ny337 := am hy337; clear hy337; replace H := Option.bind_eq_some_iff.mp H; obtain ⟨⟨t340, t341⟩, A60, H⟩ := H; replace H : (if x3_1.length < 8796093022208 then (dn_key.l0 k1 (x3_1 ++ [t340]) l0 (l0.length : Int) (wrap64 (x12_1 + 1))) else (none)) = some r := H; have A6 := am A60; clear A60; by_cases c7 : x3_1.length < 8796093022208
    ·rw [if_pos c7] at H; have LMc7 := am c7; clear c7; obtain ⟨y342, hy342⟩ : ∃ y_ : List ByteArray, y_ = (x3_1 ++ [t340]) := ⟨_, rfl⟩; replace H : (dn_key.l0 k1 y342 l0 (l0.length : Int) (wrap64 (x12_1 + 1))) = some r := apY hy342 H; have Ny342 := am hy342; clear hy342; have H' := am H; clear H; have p333 : 0 ≤ (x12_1 : Int) := apD; have q333 : x12_1 < (l0.length : Int) := apD; obtain ⟨ad333, e333, hx333_0, hx333_1⟩ := at_T96 HR0.out x12_1 p333 q333; cases e333; replace hx333_0 := (HB.out.cell (World.block_lt_of_cell? w _ hx333_0)).trans hx333_0; replace hx333_1 := (HB.out.cell (World.block_lt_of_cell? w _ hx333_1)).trans hx333_1; replace p333 := eq_true p333; replace q333 := eq_true q333; go_wp2_with (first | ((with_reducible refine gate_dst (N := 5) rfl ?_); refine box_event ?hg (N := 5) ?hd (cs := #[.string (⟨#[]⟩ : ByteArray), .string (⟨#[]⟩ : ByteArray)]) (t := 96) ?hr ?_; (case hd => rfl); (case hg => rfl); (case hr => first | (go_simp; done) | (go_simp; rfl)); intro gb334 hg w8 hbox hb; replace HO_3 := am (Kd.R_below (apAR HO_3.out) hb); have BK334 := am (hbox); have GW334 := am ((by rw [hg]; exact (below_size ap1) : w.heap.size ≤ gb334)); have GE334 := am ((by rw [hg]; exact (below_size ap1) : w.heap.size ≤ gb334)); replace HB := am (below_step ap1 hb); clear hb hbox hg; obtain ⟨hcz9_0, hcz9_1, hfz9_0, hfz9_1⟩ := bc2 BK334.out) | ((with_reducible refine gate_callee (f := 67) rfl ?_); refine goesL_ (some 19) rfl rfl Tryz.func67 (by kernel_rfl) rfl #[.string ((rd_T96 l0 x12_1).f1), .bool true] rfl ap3 ?_; (with_reducible refine (prep_Ready.calls k1 ((rd_T96 l0 x12_1).f1) true t335 t336 _ ?side1 A5.out).mono ?_); (case side1 => exact apH1 GE334.out); rintro e w10 ⟨rfl, hb⟩; refine ⟨_, rfl, ?_⟩; replace HO_3 := am (Kd.R_below (by (with_reducible repeat (first | apply Kd.R_alloc | apply Kd.R_drewN | apply Kd.R_drew)); exact (Kd.R_mono (Kd.R_far (p := ⟨gb334, 1, none⟩) (Kd.R_far (p := ⟨gb334, 0, none⟩) (Kd.R_types HO_3.out BK334.out (by decide)) (fun _ hk => hk.2) (.string ((rd_T96 l0 x12_1).f0))) (fun _ hk => hk.2) (.string ((rd_T96 l0 x12_1).f1))) (fun _ h_ => h_.1))) hb); replace BK334 := am (blk_below (g := gb334) (o := .cells #[.string ((rd_T96 l0 x12_1).f0), .string ((rd_T96 l0 x12_1).f1)] 96 (0, 0)) (by (with_reducible repeat (first | refine blk_drewN ?_ _ | refine blk_drew ?_ | refine blk_alloc ?_ _)); refine blk_put (cs := #[.string ((rd_T96 l0 x12_1).f0), .string (⟨#[]⟩ : ByteArray)]) ?_ 1 _ rfl; (with_reducible repeat (first | refine blk_drewN ?_ _ | refine blk_drew ?_ | refine blk_alloc ?_ _)); refine blk_put (cs := #[.string (⟨#[]⟩ : ByteArray), .string (⟨#[]⟩ : ByteArray)]) ?_ 0 _ rfl; (with_reducible repeat (first | refine blk_drewN ?_ _ | refine blk_drew ?_ | refine blk_alloc ?_ _)); exact BK334.out) hb); replace HB := am (below_step (apG GE334.out) hb); obtain ⟨hcz11_0, hcz11_1, hfz11_0, hfz11_1⟩ := bc2 BK334.out) | ((with_reducible refine gate_dst (N := 26) rfl ?_); refine Kd.R_lit Kd.string _ 9 ?hg (N := 26) ?hd (xs := ([(rd_T96 l0 x12_1).f0, t335] : List ByteArray)) (inner := [.string ((rd_T96 l0 x12_1).f0), .string t335]) (ok := fun _ => True) (okp := fun _ => True) ?hr ?hp (fun _ hk => hk) trivial (Below.refl _ _) (Nat.le_refl _) (by simp) ?_; (case hd => rfl); (case hg => rfl); (case hr => first | (go_simp; done) | (go_simp; rfl)); (case hp => exact (Reps.one (show Kd.M Kd.string _ _ _ ((rd_T96 l0 x12_1).f0) [.string ((rd_T96 l0 x12_1).f0)] from rfl) (Reps.one (show Kd.M Kd.string _ _ _ t335 [.string t335] from rfl) (Reps.none _ _)))); intro v338 w12 ho13 hb hg_ hnew_; clear hg_ hnew_; (first | rw [← Ny337.out] at ho13 | (simp only [Int.reduceToNat] at ho13; rw [← Ny337.out] at ho13)); have n0_ := am (Kd.R_elder' (apAR HO_3.out) (Kd.R_base ho13) hb); have n1_ := am (Kd.R_lower (Kd.R_new' ho13 (Kd.R_lt (apAR HO_3.out))) (below_size (apG GE334.out))); have n2_ := am (blk_below (g := gb334) (o := .cells #[.string ((rd_T96 l0 x12_1).f0), .string ((rd_T96 l0 x12_1).f1)] 96 (0, 0)) (apB BK334.out) hb); have n3_ := am (below_step (apG GE334.out) hb); clear HO_3; clear BK334; clear HB; have HO_3 := n0_; have HO339 := n1_; have BK334 := n2_; have HB := n3_; clear n0_ n1_ n2_ n3_; clear hb ho13; obtain ⟨Ao14, co14, eo14⟩ := Kd.R_slice HO339.out; subst eo14) | ((with_reducible refine gate_callee (f := 126) rfl ?_); refine goesL_ (some 27) rfl rfl Tryz.func126 (by kernel_rfl) rfl #[.slice Ao14 y337.length co14] rfl ap3 ?_; (with_reducible refine (field_Tuple.calls _ _ y337 t340 t341 _ ?side1 ?side2 ?side3 A6.out).mono ?_); (case side1 => repeat (first | exact (Kd.R_reads' HO339.out).2.2 | (with_reducible refine Kd.C_alloc ?_ _) | (with_reducible refine Kd.C_drewN ?_ _) | (with_reducible refine Kd.C_drew ?_))); (case side2 => exact (Kd.R_reads' HO339.out).2.1); (case side3 => exact apH1 GE334.out); rintro e w15 ⟨rfl, hb⟩; refine ⟨_, rfl, ?_⟩; replace HO_3 := am (Kd.R_below (apAR HO_3.out) hb); replace HO339 := am (Kd.R_below (apAR HO339.out) hb); replace BK334 := am (blk_below (g := gb334) (o := .cells #[.string ((rd_T96 l0 x12_1).f0), .string ((rd_T96 l0 x12_1).f1)] 96 (0, 0)) (apB BK334.out) hb); replace HB := am (below_step (apG GE334.out) hb)) | ((with_reducible refine gate_builtin (b := .append) (xs := #[.tmp 30, .tmp 32]) rfl ?_); at_builtin; refine Kd.R_append Kd.string (w0 := w) w.heap.size rfl (.tmp 30) (.tmp 32) 31 9 (.string ⟨#[]⟩) 16 rfl Tryz.underlying31 info9 rfl (by decide) (by omega) u3 x3_1 t340 [.string t340] (fun k_ => some k_ ≠ (.slice Ao14 y337.length co14 : Value).ownBlock) (fun _ => False) rfl rfl ?aP (fun _ hk => hk.elim) ?aF ?aO ?aB ?aS ?aL ?_; (case aP => exact rfl); (case aB => exact (apG GE334.out)); (case aF => exact (fun k_ hk => Kd.fresh' (Kd.R_lt (apAR HO339.out)) k_ hk)); (case aO => exact (by (with_reducible repeat (first | apply Kd.R_alloc | apply Kd.R_drewN | apply Kd.R_drew)); exact Kd.R_mono HO_3.out (fun _ hk => hk.2))); (case aS => exact (below_size (apG GE334.out))); (case aL => have := LMc7.out; omega); intro v343 w16 ho hb hg hat; rw [← Ny342.out] at ho; replace BK334 := am (blk_grown (g := gb334) (o := .cells #[.string ((rd_T96 l0 x12_1).f0), .string ((rd_T96 l0 x12_1).f1)] 96 (0, 0)) (apB BK334.out) hg (Kd.R_ne HO_3.out BK334.out (by decide))); replace HO339 := am (Kd.R_after (ok := (fun _ => True)) (apAR HO339.out) hg hat); have HO344 := am (ho); replace HB := am (hb); clear ho hb hg hat)); go_roundg k1; (case measure => have := HK1.out; omega); case rel => exact ⟨(y342), (wrap64 (x12_1 + 1)), ap2, H', ⟨by have := HK1.out; omega⟩, ⟨by (with_reducible repeat (first | apply Kd.R_alloc | apply Kd.R_drewN | apply Kd.R_drew)); exact Kd.R_mono HO344.out (fun _ hk => trivial)⟩, ⟨apG1 GE334.out⟩⟩
    ·rw [if_neg c7] at H; exact absurd H (by simp)
   ·intro c2b0 H; replace H := Option.bind_eq_some_iff.mp H; obtain ⟨t345, A170, H⟩ := H; replace H : (some t345) = some r := H; have A17 := am A170; clear A170; obtain rfl := Option.some.inj H; have JL := am A17.out; obtain ⟨Ao18, co18, eo18⟩ := Kd.R_slice HO_3.out; subst eo18; go_wp2_with (first | ((with_reducible refine gate_callee (f := 127) rfl ?_); refine goesL_ (some 36) rfl rfl Tryz.func127 (by kernel_rfl) rfl #[.slice Ao18 x3_1.length co18] rfl ap3 ?_; (with_reducible refine (sort_own Ao18 co18 x3_1 w.heap.size _ ?sa ?sb ?sc).mono ?_); (case sa => exact (apAR HO_3.out)); (case sb => exact (below_size ap1)); (case sc => exact join_le JL.out); rintro e w90 ⟨rfl, ho0, hb⟩; refine ⟨_, rfl, ?_⟩; have n0_ := am ho0; have n1_ := am (Below.trans ap1 hb); clear HO_3; clear HB; have HO_3 := n0_; have HB := n1_; clear n0_ n1_; clear hb ho0) | ((with_reducible refine gate_callee (f := 71) rfl ?_); refine goesL_ (some 38) rfl rfl Tryz.func71 (by kernel_rfl) rfl #[.slice Ao18 x3_1.length co18, .string (⟨#[]⟩ : ByteArray)] rfl ap3 ?_; (with_reducible refine (join_n _ _ (sortB x3_1) x3_1.length (sortB_len _) (⟨#[]⟩ : ByteArray) t345 _ ?side1 ?side2 A17.out).mono ?_); (case side1 => repeat (first | exact (reads_srt HO_3.out).2 | (with_reducible refine Kd.C_alloc ?_ _) | (with_reducible refine Kd.C_drewN ?_ _) | (with_reducible refine Kd.C_drew ?_))); (case side2 => exact (reads_srt HO_3.out).1); rintro e w19 ⟨rfl, hb⟩; refine ⟨_, rfl, ?_⟩; replace HO_3 := am (Kd.R_below (apAR HO_3.out) hb); replace HB := am (below_step ap1 hb))); go_ret; exact ⟨ap9, ap1⟩
def dn_Keys.l0 : Nat → List (List (S96)) → List ByteArray → Int → Int → Option (List ByteArray × Int)
 | 0, _, _, _, _ => none
 | k + 1, x0, x4, x10, x11 => if x11 < x10 then (if 0 ≤ (wrap64 ((wrap64 ((x0.length : Int) - 1)) - x11)) then (if (wrap64 ((wrap64 ((x0.length : Int) - 1)) - x11)) < (x0.length : Int) then ((dn_key.f k (rd_L8 x0 (wrap64 ((wrap64 ((x0.length : Int) - 1)) - x11)))).bind fun t348 => (if x4.length < 8796093022208 then (dn_Keys.l0 k x0 (x4 ++ [t348]) x10 (wrap64 (x11 + 1))) else (none))) else (none)) else (none)) else (some (x4, 0))
def dn_Keys.f (k : Nat) (l0 : List (List (S96))) : Option (List ByteArray × Int) := (dn_Right.f k l0).bind fun t346 => (if t346 = true then (dn_Keys.l0 k l0 ([] : List ByteArray) (l0.length : Int) 0) else (some (([] : List ByteArray), 4)))
theorem dn_Keys.mono_l : ∀ k, (∀ y0 y1 y2 y3, LeO (dn_Keys.l0 k y0 y1 y2 y3) (dn_Keys.l0 (k + 1) y0 y1 y2 y3))
 | 0 => fun _ _ _ _ r h => by simp [dn_Keys.l0] at h
 | k + 1 => by
  have ih0 := dn_Keys.mono_l k
  ·
   intro y0 y1 y2 y3
   unfold dn_Keys.l0
   repeat' first
   | (with_reducible exact ih0 _ _ _ _)
   | (with_reducible exact dn_Right.mono _ _)
   | (with_reducible exact dn_key.mono _ _)
   | (with_reducible exact LeO.refl _)
   | (with_reducible exact LeO.none _)
   | (with_reducible refine LeO.ite ?_ ?_)
   | (with_reducible refine LeO.bind ?_ (fun _ => ?_))
theorem dn_Keys.mono : ∀ a0 k, LeO (dn_Keys.f k a0) (dn_Keys.f (k + 1) a0) := by
 intro a0 k; have ih0 := dn_Keys.mono_l k; unfold dn_Keys.f; repeat' first
   | (with_reducible exact ih0 _ _ _ _)
   | (with_reducible exact dn_Right.mono _ _)
   | (with_reducible exact dn_key.mono _ _)
   | (with_reducible exact LeO.refl _)
   | (with_reducible exact LeO.none _)
   | (with_reducible refine LeO.ite ?_ ?_)
   | (with_reducible refine LeO.bind ?_ (fun _ => ?_))
end Go.Proofs.YtpklcnpmppaaoaaGreatDoor.Print
