/- Lemmas for the statement of this claim, part F13: they hold with no conditions but those that each one names. -/
import Derived.Test.YtfcpapokknfeeaaGreatDoorF12
import Derived.Shelf.Strings.OnBuilder
import Derived.Test.YtfcpapokknfeeaaGreatDoorF10
import Derived.Test.YtfcpapokknfeeaaGreatDoorF07
set_option linter.unusedVariables false
set_option maxRecDepth 20000
set_option linter.unusedSimpArgs false
set_option linter.unnecessarySimpa false
namespace Go.Proofs.YtfcpapokknfeeaaGreatDoor
open Go Go.Proofs Go.Abs
def zlG (g : Gr) (i : Nat) : Cl := g.next.getD i 0 :: (if g.init.getD i 0 = 0 then [] else if g.init.getD i 0 = 1 then [1] else [2 * (1 + g.ins + (i : Int))])
def znX (g : Gr) (i : Nat) : S := grp (2 * (g.first + (i : Int)) - (g.ands.getD i (0, 0)).1).toNat ++ grp ((g.ands.getD i (0, 0)).1 - (g.ands.getD i (0, 0)).2).toNat
def zjI (g : Gr) (n : Nat) : S := (List.range n).flatMap fun i : Nat => lnT (zlG g i)
def zbk (g : Gr) (n : Nat) : S := (List.range n).flatMap fun i : Nat => znX g i
def zss (g : Gr) : S := [97, 105, 103, 32] ++ (lnT (zdd g) ++ (zjI g g.next.length ++ (zhh g.outs g.outs.length ++ zbk g g.ands.length)))
def znE (m : Mo) : S := zss m.g ++ zcA m
def zfS (m : Mo) : S × Int := if m.chk = 0 then (znE m.norm, 0) else ([], m.chk)
def ziF (g : Gr) : S × Int := if g.chk = 0 then (zbk (zas g) (zas g).ands.length, 0) else ([], g.chk)
def ziG (s : S) (mo : Int) (a : Nat) : RE (Int × Nat) := match zf0 s a with
 | .error e => .error e
 | .ok (n, b) => if n ≤ mo then .ok (n, b) else .error (a, 1)
def znF (s : S) (lit : Int) (a : Nat) : RE (Int × Nat) := if zen s a 32 = true then (match ziG s 2147483647 (a + 1) with
 | .error e => .error e
 | .ok (n, b) => if n < 2 ∨ n = lit then .ok (min n 2, b) else .error (a + 1, 1)) else .ok (0, a)
def zst (s : S) (mo lit : Int) (a : Nat) : RE ((Int × Int) × Nat) := match ziG s mo a with
 | .error e => .error e
 | .ok (n, b) => match znF s lit b with
  | .error e => .error e
  | .ok (i, c) => match zde s 10 c with
   | .error e => .error e
   | .ok d => .ok ((n, i), d)
def zsu (s : S) (mo : Int) (a : Nat) : RE (Int × Nat) := match ziG s mo a with
 | .error e => .error e
 | .ok (n, b) => match zde s 10 b with
  | .error e => .error e
  | .ok c => .ok (n, c)
def zfT (s : S) (mo f : Int) : Nat → Nat → Nat → Cl → Cl → RE ((Cl × Cl) × Nat)
 | 0, _, a, N, I => .ok ((N, I), a)
 | k + 1, i, a, N, I => match zst s mo (2 * (f + (i : Int))) a with
  | .error e => .error e
  | .ok ((n, v), b) => zfT s mo f k (i + 1) b (N ++ [n]) (I ++ [v])
def zfU (s : S) (mo : Int) : Nat → Nat → Cl → RE (Cl × Nat)
 | 0, a, L => .ok (L, a)
 | k + 1, a, L => match zsu s mo a with
  | .error e => .error e
  | .ok (n, b) => zfU s mo k b (L ++ [n])
abbrev RI (α : Type) := Except (Int × Int) α
def zev (s : S) (lo hi a : Int) : RI (Int × Int) := if (ziS s a).2.2 = 0 then if lo ≤ (ziS s a).1 ∧ (ziS s a).1 ≤ hi then .ok ((ziS s a).1, (ziS s a).2.1) else .error (a, 1) else .error (a, (ziS s a).2.2)
def znG (s : S) (own a : Int) : RI (Pr × Int) := match zev s 1 own a with
 | .error e => .error e
 | .ok (x, b) => match zev s 0 (own - x) b with
  | .error e => .error e
  | .ok (y, c) => .ok ((own - x, own - x - y), c)
def zax (s : S) (f : Int) : Nat → Nat → Int → List Pr → RI (List Pr × Int)
 | 0, _, a, L => .ok (L, a)
 | k + 1, i, a, L => match znG s (2 * (f + (i : Int))) a with
  | .error e => .error e
  | .ok (p, b) => zax s f k (i + 1) b (L ++ [p])
def zcx (s : S) (a f n : Int) : List Pr × Int × Int :=
 if f < 1 ∨ 4001 < f ∨ n < 0 ∨ 4000 < n then ([], a, 1) else match zax s f n.toNat 0 a [] with
  | .ok (L, b) => (L, b, 0)
  | .error (w, e) => ([], w, e)
def zb5 (s : S) : RE Mo :=
 match zeP s [97, 105, 103] with
 | .error e => .error e
 | .ok (h, a) => if h.getD 0 0 = h.getD 1 0 + h.getD 2 0 + h.getD 4 0 then (match zfT s (2 * h.getD 0 0 + 1) (1 + h.getD 1 0) (h.getD 2 0).toNat 0 a [] [] with
  | .error e => .error e
  | .ok ((N, I), b) => match zfU s (2 * h.getD 0 0 + 1) (h.getD 3 0 + h.getD 5 0 + h.getD 6 0).toNat b [] with
   | .error e => .error e
   | .ok (O, c) => match zax s (1 + h.getD 1 0 + h.getD 2 0) (h.getD 4 0).toNat 0 (c : Int) [] with
    | .error (w, e) => .error (w.toNat, e)
    | .ok (A, d) => zsS ⟨h.getD 1 0, N, I, A, O⟩ (zkb s [h.getD 1 0, h.getD 2 0, h.getD 3 0, h.getD 5 0, h.getD 6 0] d.toNat)) else .error (0, 1)
structure GP (g : Gr) : Prop where
 f0 : 0 ≤ g.first
 f1 : g.first + g.ands.length ≤ 5000
 at_ : ∀ i (h : i < g.ands.length), 0 ≤ g.ands[i].2 ∧ g.ands[i].2 ≤ g.ands[i].1 ∧ g.ands[i].1 < 2 * (g.first + (i : Int))
theorem GP.of {g : Gr} (hg : g.chk = 0) (hd : ∀ i (h : i < g.ands.length), g.ands[i].2 ≤ g.ands[i].1) : GP g := by
 obtain ⟨_, i0, i1, i2, i3, i4, i5⟩ := zI hg
 have wf : g.first = 1 + g.ins + g.next.length := rfl
 refine ⟨by omega, by omega, fun i hi => ?_⟩
 obtain ⟨o1, o2, o3, o4⟩ := zal i5 hi
 exact ⟨by omega, hd i hi, by omega⟩
theorem zhm {g : Gr} (hg : GP g) {i : Nat} (hi : i < g.ands.length) : (znX g i).length ≤ 4 := by
 have hf := hg.f0
 have hf1 := hg.f1
 obtain ⟨q1, q2, q3⟩ := hg.at_ i hi
 have e : g.ands.getD i (0, 0) = g.ands[i] := zw hi
 unfold znX
 rw [e, List.length_append]
 have a1 := zcT 1 (2 * (g.first + (i : Int)) - g.ands[i].1).toNat (by omega)
 have a2 := zcT 1 (g.ands[i].1 - g.ands[i].2).toNat (by omega)
 omega
theorem zd3 {g : Gr} (hg : g.chk = 0) : ∀ i (h : i < (zas g).ands.length), (zas g).ands[i].2 ≤ (zas g).ands[i].1 := fun i hi => by
 have hst := zeF hg
 unfold zfJ at hst
 simp only [Bool.not_eq_true', List.any_eq_false, List.mem_range] at hst
 have := hst i hi
 unfold zsC at this
 simp only [Bool.or_eq_true, not_or, decide_eq_true_eq] at this
 have h1 := this.1
 have e : (zas g).ands.getD i (0, 0) = (zas g).ands[i] := zw hi
 rw [e] at h1
 omega
abbrev rdP (s : S) (a : Int) : O := .cells [.str s, vi a]
abbrev zdB (a e : Int) : V := .iface 86 (.agg [vi a, vi e])
theorem zV {h : H} {R : AEnd → H → (Nat → Bool) → Prop} (b : Bool) (a e : Int)
 (h1 : b = true → R (.ret (.tup [])) h (fun _ => false)) (h2 : b = false → R (.pan (zdB a e)) h (fun _ => false)) : zb TE 46 [.bool b, vi a, vi e] h R := by
 refine zl Tryz.func46 rfl (by simp [nts]) (vm ?_)
 cases b with
 | true =>
  simp only [wq.down, seval, Tryz.results46]
  exact h1 rfl
 | false =>
  simp only [wq.down, seval, Tryz.results46]
  exact ⟨nofun, h2 rfl⟩
theorem ziH {k a : Nat} {s : S} {h : H} {R : AEnd → H → (Nat → Bool) → Prop} (c : UInt8) (hk : h[k]? = some (rdP s a))
 (hr : R (.ret (.bool (zen s a c))) h (fun _ => false)) : zb TE 94 [.lp k 0, vb c] h R := by
 refine zl Tryz.func94 rfl (by simp [nts]) (vm ?_)
 unfold zen at hr
 by_cases hlt : a < s.length
 ·have e1 : decide ((a : Int) < (s.length : Int)) = true := by simpa using hlt
  have e2 : s.getD a 0 = s[a] := zw hlt
  rw [List.getElem?_eq_getElem hlt] at hr
  simp only [wq.down, seval, Tryz.results94, hk, e1, e2, zrX]
  refine ⟨by decide +kernel, ⟨by omega, by omega⟩, hr⟩
 ·have e1 : decide ((a : Int) < (s.length : Int)) = false := by simpa using hlt
  rw [List.getElem?_eq_none (by omega)] at hr
  simp only [wq.down, seval, Tryz.results94, hk, e1]
  exact ⟨by decide +kernel, hr⟩
theorem zo9 (s : S) (a : Nat) : 0 ≤ (zha s a).2.1 := by
 unfold zha
 split
 ·exact Int.natCast_nonneg _
 ·split
  ·show 0 ≤ (a : Int) + _
   omega
  ·exact Int.natCast_nonneg _
theorem za4 {k a : Nat} {mo : Int} {s : S} {h : H} {R : AEnd → H → (Nat → Bool) → Prop} (hs : s.length ≤ 100000) (hk : h[k]? = some (rdP s a))
 (h1 : ∀ n b, ziG s mo a = .ok (n, b) → R (.ret (vi n)) (h.set k (rdP s (b : Nat))) (fun _ => false)) (h2 : ∀ w e, ziG s mo a = .error (w, e) → R (.pan (zdB (w : Nat) e)) h (fun _ => false)) : zb TE 47 [.lp k 0, vi mo] h R := by
 have hG := zpt s a hs
 have hend := zo9 s a
 obtain ⟨r, hr⟩ : ∃ r, r = zha s a := ⟨_, rfl⟩
 unfold ziG zf0 at h1 h2
 rw [← hr] at hG h1 h2 hend
 obtain ⟨b, hb⟩ : ∃ b : Nat, r.2.1 = b := ⟨r.2.1.toNat, by omega⟩
 refine zl Tryz.func47 rfl (by simp [nts]) (vm ?_)
 simp only [wq.down, seval, Tryz.results47, hk]
 refine ⟨by decide +kernel, zeb.mk hG rfl rfl ?_⟩
 simp only [wq.down, seval, hk, hb]
 by_cases he : r.2.2 = 0
 ·rw [if_pos he] at h1 h2
  have hd : (r.2.2 == 0) = true := by simpa using he
  dsimp only at h1 h2
  simp only [wq.down, hd]
  refine zV true a 3 (fun _ => ?_) (fun h => by cases h)
  simp only [wq.down, seval, hk]
  refine zV _ a 1 (fun hle => ?_) (fun hle => ?_)
  ·rw [if_pos (by simpa using hle)] at h1
   have := h1 _ _ rfl
   rw [hb, Int.toNat_natCast] at this
   simp only [wq.down, seval, hk]
   exact this
  ·rw [if_neg (by simpa using hle)] at h2
   simp only [wq.down, z8]
   exact h2 _ _ rfl
 ·rw [if_neg he] at h2
  have hd : (r.2.2 == 0) = false := by simpa using he
  simp only [wq.down, hd]
  refine zV false a 3 (fun h => by cases h) (fun _ => ?_)
  simp only [wq.down, z8]
  exact h2 _ _ rfl
def znH : Plan := .take 0 <| .take 2 <| .take 3 <| .take 4 <| .alt 1 (.one 5 <| .one 6 <| .fin) (.one 5 (.one 1 <| .one 6 <| .fin))
theorem zgz {k a : Nat} {s : S} {h : H} {R : AEnd → H → (Nat → Bool) → Prop} (ha : s.length ≤ 1000000000) (hk : h[k]? = some (rdP s a))
 (h1 : zen s a 10 = true → R (.ret (.tup [])) (h.set k (rdP s ((a + 1 : Nat) : Int))) (fun _ => false)) (h2 : zen s a 10 = false → R (.pan (zdB a 2)) h (fun _ => false)) : zb TE 49 [.lp k 0] h R := by
 have hM : maxLen = 9223372036854775807 := rfl
 refine zl Tryz.func49 rfl (by simp [nts]) ?_
 refine za (zaG mixed znH (fun f' h' => zen s a 10 = true ∧ f'.t 0 = .lp k 0 ∧ f'.d = [] ∧ (∀ j, f'.k j = false) ∧ h' = h) [] (fun v d kk t h' => d = [] ∧ (∀ j, kk j = false) ∧ zen s a 10 = false ∧ v = zdB a 2 ∧ h' = h) (by decide +kernel) (by decide +kernel) ?_ ?_ ?_)
 ·simp only [wq.down, seval, znH, hk]
  repeat' apply And.intro
  all_goals
   refine ziH 10 hk ?_
   simp only [wq.down, seval, hk]
   refine zV _ _ 2 (fun hb => ?_) (fun hb => ?_)
   ·simp only [wq.down, seval, zaH]
    exact hb
   ·simp only [wq.down, z8, zbF]
    exact hb
 ·rintro f h' ⟨hb, h0, hd, hkf, rfl⟩
  have hl := zfC hb
  have hw := zi (show a < maxLen by omega)
  refine vm ?_
  simp only [wq.down, seval, Tryz.results49, h0, hd, hk, hw]
  rw [show f.k = fun _ => false from funext hkf]
  exact h1 hb
 ·rintro v f h' ⟨hd, hkf, hb, rfl, rfl⟩
  simp only [XE.seq, zau]
  simp only [wq.down, hd]
  rw [show f.k = fun _ => false from funext hkf]
  exact h2 hb
theorem zd4 {k a : Nat} {lit : Int} {s : S} {h : H} {R : AEnd → H → (Nat → Bool) → Prop} (hs : s.length ≤ 100000) (hk : h[k]? = some (rdP s a))
 (h1 : ∀ n b, znF s lit a = .ok (n, b) → R (.ret (vi n)) (h.set k (rdP s (b : Nat))) (fun _ => false)) (h2 : ∀ w e, znF s lit a = .error (w, e) → ∀ b : Nat, R (.pan (zdB (w : Nat) e)) (h.set k (rdP s b)) (fun _ => false)) : zb TE 48 [.lp k 0, vi lit] h R := by
 have hM : maxLen = 9223372036854775807 := rfl
 unfold znF at h1 h2
 refine zl Tryz.func48 rfl (by simp [nts]) ?_
 have hkl := (List.getElem?_eq_some_iff.1 hk).1
 refine za (vm ?_)
 simp only [wq.down, Nat.reduceLT, Tryz.results48]
 refine za (vm ?_)
 simp only [wq.down, seval]
 refine ziH 32 hk ?_
 simp only [wq.down, seval]
 by_cases hb : zen s a 32 = true
 ·rw [if_pos hb] at h1 h2
  have hl := zfC hb
  have hw := zi (show a < maxLen by omega)
  have hk2 : (h.set k (rdP s ((a + 1 : Nat) : Int)))[k]? = some (rdP s ((a + 1 : Nat) : Int)) := by rw [List.getElem?_set_self hkl]
  simp only [wq.down, hb]
  refine za (vm ?_)
  simp only [wq.down, seval, hk, hw]
  refine za (vm ?_)
  simp only [wq.down, seval, hk2]
  refine za (vm ?_)
  simp only [wq.down, seval]
  refine za4 hs hk2 (fun n b hn => ?_) (fun w e hn => ?_)
  ·rw [hn] at h1 h2
   dsimp only at h1 h2
   simp only [wq.down, seval]
   refine za (vm ?_)
   simp only [wq.down, seval]
   refine zV _ _ 1 (fun hc => ?_) (fun hc => ?_)
   ·have hc' : n < 2 ∨ n = lit := by simpa using hc
    rw [if_pos hc'] at h1
    simp only [wq.down]
    refine vm ?_
    simp only [wq.down, seval, mn]
    rw [List.set_set]
    exact h1 _ _ rfl
   ·have hc' : ¬ (n < 2 ∨ n = lit) := by simpa using hc
    rw [if_neg hc'] at h2
    simp only [wq.down, z8]
    simp only [XE.seq, zau]
    simp only [wq.down]
    rw [List.set_set]
    exact h2 _ _ rfl _
  ·rw [hn] at h1 h2
   dsimp only at h1 h2
   simp only [wq.down, z8]
   simp only [XE.seq, zau]
   simp only [wq.down]
   exact h2 _ _ rfl _
 ·rw [if_neg hb] at h1
  have hb' : zen s a 32 = false := by simpa using hb
  simp only [wq.down, seval, hb']
  have := h1 0 a rfl
  rw [zg7 hk] at this
  exact this
theorem zcU {k : Nat} {a lo hi : Int} {s : S} {h : H} {R : AEnd → H → (Nat → Bool) → Prop} (hs : s.length ≤ 100000) (hk : h[k]? = some (rdP s a))
 (h1 : ∀ n b, zev s lo hi a = .ok (n, b) → R (.ret (vi n)) (h.set k (rdP s b)) (fun _ => false)) (h2 : ∀ w e, zev s lo hi a = .error (w, e) → R (.pan (zdB w e)) h (fun _ => false)) : zb TE 76 [.lp k 0, vi lo, vi hi] h R := by
 have hG := zly s a hs
 obtain ⟨r, hr⟩ : ∃ r, r = ziS s a := ⟨_, rfl⟩
 unfold zev at h1 h2
 rw [← hr] at hG h1 h2
 refine zl Tryz.func76 rfl (by simp [nts]) (vm ?_)
 simp only [wq.down, seval, Tryz.results76, hk]
 refine ⟨by decide +kernel, zeb.mk hG rfl rfl ?_⟩
 simp only [wq.down, seval, hk]
 by_cases he : r.2.2 = 0
 ·rw [if_pos he] at h1 h2
  have hd : (r.2.2 == 0) = true := by simpa using he
  simp only [wq.down, hd]
  refine zV true _ _ (fun _ => ?_) (fun h => by cases h)
  simp only [wq.down, seval, hk]
  refine zV _ a 1 (fun hle => ?_) (fun hle => ?_)
  ·rw [if_pos (by simpa using hle)] at h1
   simp only [wq.down, seval, hk]
   exact h1 _ _ rfl
  ·rw [if_neg (by simpa using hle)] at h2
   simp only [wq.down, z8]
   exact h2 _ _ rfl
 ·rw [if_neg he] at h2
  have hd : (r.2.2 == 0) = false := by simpa using he
  simp only [wq.down, hd]
  refine zV false _ _ (fun h => by cases h) (fun _ => ?_)
  simp only [wq.down, z8]
  exact h2 _ _ rfl
theorem znI {h : H} {K : H → (Nat → Bool) → Prop} (hK : ∀ X, K (h ++ [X]) (fun _ => false)) : zba TE 75 [.lp 0 0, .lp 1 0, .lp 2 0] h K := by
 have hgE : ∀ x : O, (h ++ [x])[h.length]? = some x := fun x => by simp
 have hgS : ∀ x y : O, (h ++ [x]).set h.length y = h ++ [y] := fun x y => by simp
 refine zb2 rfl Tryz.func75 rfl rfl (by simp [nts]) rfl (fun ev w => rfl) rfl (by decide) ?_
 simp only [nts]
 refine zap rfl rfl ?_
 refine zbE (x := .tmp 6) (t := 86) (q := ⟨.struct [(0, 3), (1, 31)], 2, 16, .agg [vi 0, vi 0]⟩) rfl (by simp only [wq.down]) (by simp only [wq.down, ↓reduceIte]) (by simp only [wq.down, ↓reduceIte]) ?_
 refine zm rfl rfl ?_
 simp only [wq.down, ↓reduceIte]
 refine zm rfl rfl ?_
 simp only [wq.down, seval]
 refine zm rfl rfl ?_
 simp only [wq.down, seval]
 refine zm rfl rfl ?_
 simp only [wq.down]
 refine zm rfl rfl ?_
 simp only [wq.down, seval, hgE, hgS]
 refine zm rfl rfl ?_
 simp only [wq.down, seval]
 refine zak ?_
 show awp _ _ _ _ _ _ _
 refine za (vm ?_)
 simp only [wq.down, seval]
 refine zS (b := false) (by simp only [wq.down, ↓reduceIte]) (by simp only [wq.down, ↓reduceIte]) (fun hb => by cases hb) (fun _ => ?_)
 refine vm ?_
 simp only [wq.down, reduceCtorEq]
 exact hK _
def znJ : Plan := .take 0 <| .take 2 <| .alt 1 (.alt 3 (.one 4 <| .one 5 <| .one 6 <| .fin) (.one 4 (.alt 3 (.one 5 <| .one 6 <| .fin) (.one 5 (.one 3 <| .one 6 <| .fin))))) (.alt 3 (.alt 1 (.one 4 <| .one 5 <| .one 6 <| .fin) (.one 4 (.one 1 <| .one 5 <| .one 6 <| .fin))) (.one 4 (.alt 1 (.alt 3 (.one 5 <| .one 6 <| .fin) (.one 5 (.one 3 <| .one 6 <| .fin))) (.one 3 (.one 1 <| .one 5 <| .one 6 <| .fin)))))
theorem znK {h : H} {d0 d1 d2 : V} {K : H → (Nat → Bool) → Prop} (a e : Int) (h0 : h[0]? = some (.cells [d0])) (h1 : h[1]? = some (.cells [d1])) (h2 : h[2]? = some (.cells [d2]))
 (hK : ∀ X, K ((((h.set 0 (.cells [.nils])).set 1 (.cells [vi a])).set 2 (.cells [vi e])) ++ [X]) (fun _ => false)) :
 zcq TE 75 [.lp 0 0, .lp 1 0, .lp 2 0] (zdB a e) h K := by
 obtain ⟨Y, rfl⟩ : ∃ Y, h = .cells [d0] :: .cells [d1] :: .cells [d2] :: Y := by
  match h, h0, h1, h2 with
  | _ :: _ :: _ :: Y, h0, h1, h2 => cases h0; cases h1; cases h2; exact ⟨Y, rfl⟩
 have hgE : ∀ x : O, (Y ++ [x])[Y.length]? = some x := fun x => by simp
 have hgS : ∀ x y : O, (Y ++ [x]).set Y.length y = Y ++ [y] := fun x y => by simp
 refine zb0 rfl Tryz.func75 rfl rfl (by simp [nts]) rfl (fun ev w => rfl) rfl (by decide) ?_
 simp only [nts]
 refine zm rfl rfl ?_
 simp only [wq.down, ↓reduceIte]
 refine ⟨by decide, ?_⟩
 refine zm rfl rfl ?_
 simp only [wq.down, ↓reduceIte]
 refine zm rfl rfl ?_
 simp only [wq.down, seval]
 refine zm rfl rfl ?_
 simp only [wq.down, seval]
 refine zm rfl rfl ?_
 simp only [wq.down]
 refine zm rfl rfl ?_
 simp only [wq.down, seval, hgE, hgS]
 refine zm rfl rfl ?_
 simp only [wq.down, seval]
 refine zak ?_
 show awp _ _ _ _ _ _ _
 refine za (vm ?_)
 simp only [wq.down, seval]
 refine zS (b := true) (by simp only [wq.down, ↓reduceIte]) (by simp only [wq.down, ↓reduceIte]) (fun _ => ?_) (fun hb => by cases hb)
 refine zM mixed znJ (fun f' h' => f'.d = [] ∧ (∀ j, f'.k j = false) ∧ ∃ X, h' = .cells [.nils] :: .cells [vi a] :: .cells [vi e] :: (Y ++ [X])) (by decide +kernel) (by decide +kernel) ?_ ?_
 ·simp only [wq.down, seval, znJ, hgE]
  exact ⟨_, rfl⟩
 ·rintro f' h' ⟨hd, hk, X, rfl⟩
  refine ⟨.inl rfl, hd, ?_⟩
  rw [show f'.k = fun _ => false from funext hk]
  exact hK X
theorem zkt {s : S} {lo hi a n b : Int} (h : zev s lo hi a = .ok (n, b)) : lo ≤ n ∧ n ≤ hi := by
 unfold zev at h
 split at h
 ·split at h
  ·rename_i hc
   cases h
   exact hc
  ·cases h
 ·cases h
abbrev hU (s : S) (b : Int) (L : List Pr) : H := [.cells [.ls 4 2 0 L.length L.length], .cells [vi 0], .cells [vi 0], rdP s b, .cells (fl L)]
def zd5 : Plan := .take 1 <| .take 2 <| .take 3 <| .take 4 <| .alt 0 (.one 5 <| .one 6 <| .one 7 <| .one 8 <| .one 9 <| .one 10 <| .fin) (.one 5 (.alt 0 (.one 6 <| .one 7 <| .one 8 <| .one 9 <| .one 10 <| .fin) (.one 6 (.alt 0 (.one 7 <| .one 8 <| .one 9 <| .one 10 <| .fin) (.one 7 (.alt 0 (.one 8 <| .one 9 <| .one 10 <| .fin) (.one 8 (.one 0 <| .one 9 <| .one 10 <| .fin))))))))
def zku : Plan := .take 1 <| .take 2 <| .take 3 <| .alt 0 (.alt 4 (.one 5 <| .one 6 <| .one 7 <| .fin) (.one 5 (.one 4 <| .one 6 <| .one 7 <| .fin))) (.one 4 (.one 0 <| .one 5 <| .one 6 <| .one 7 <| .fin))
set_option maxHeartbeats 8000000 in
theorem zfV (s : S) (a f0 m0 : Int) (hs : s.length ≤ 100000) : Ev TE 35 [.str s, vi a, vi f0, vi m0] (.tup [prs (zcx s a f0 m0).1, vi (zcx s a f0 m0).2.1, vi (zcx s a f0 m0).2.2]) := by
 have hM : maxLen = 9223372036854775807 := rfl
 obtain ⟨r1, r2, r3, hr⟩ : ∃ r1 r2 r3, zcx s a f0 m0 = (r1, r2, r3) := ⟨_, _, _, rfl⟩
 rw [hr]
 unfold zcx at hr
 refine za9 ?_
 refine zbd rfl Tryz.func35 rfl (by simp [nts]) fun ok pl0 w0 => ?_
 simp only [nts]
 refine zdK (Q := fun _ _ _ => False) ?_ (fun _ _ _ h => by obtain ⟨_, _, _, _, _, _, h⟩ := h; exact h.elim)
 refine vm ?_
 simp only [wq.down, seval]
 refine zdK (Q := zau TE.P (Func.results Tryz.f35).toList (fun ae h p => match ae with | AEnd.ret v => zn TE h v (.tup [prs r1, vi r2, vi r3]) | AEnd.pan v => False)) ?_ (fun ex a w h => zmu (e := TE) rfl ex a w h)
 have fin : f0 < 1 ∨ 4001 < f0 ∨ m0 < 0 ∨ 4000 < m0 → zn TE [.cells [.nils], .cells [vi a], .cells [vi 1]] (.tup [.nils, vi a, vi 1]) (.tup [prs r1, vi r2, vi r3]) := fun hc => by
  rw [if_pos hc] at hr
  cases hr
  exact zn.tup (zj.cons zn.nils (zj.dat rfl))
 cases e1 : decide (f0 < 1) with
 | true =>
  refine vm ?_
  simp only [wq.down, seval, Tryz.results35, e1]
  exact fin (.inl (of_decide_eq_true e1))
 | false =>
 cases e2 : decide (4001 < f0) with
 | true =>
  refine vm ?_
  simp only [wq.down, seval, Tryz.results35, e1, e2]
  exact fin (.inr (.inl (of_decide_eq_true e2)))
 | false =>
 cases e3 : decide (m0 < 0) with
 | true =>
  refine vm ?_
  simp only [wq.down, seval, Tryz.results35, e1, e2, e3]
  exact fin (.inr (.inr (.inl (of_decide_eq_true e3))))
 | false =>
 cases e4 : decide (4000 < m0) with
 | true =>
  refine vm ?_
  simp only [wq.down, seval, Tryz.results35, e1, e2, e3, e4]
  exact fin (.inr (.inr (.inr (of_decide_eq_true e4))))
 | false =>
 simp only [decide_eq_false_iff_not] at e1 e2 e3 e4
 rw [if_neg (by omega)] at hr
 have e1' : decide (f0 < 1) = false := by simpa using e1
 have e2' : decide (4001 < f0) = false := by simpa using e2
 have e3' : decide (m0 < 0) = false := by simpa using e3
 have e4' : decide (4000 < m0) = false := by simpa using e4
 refine vm ?_
 simp only [wq.down, seval, Tryz.results35, e1', e2', e3', e4']
 clear fin e1' e2' e3' e4'
 generalize hFF : Fr.put _ _ _ = FF
 have t0 : FF.t 0 = .str s := by rw [← hFF]; rfl
 have t1 : FF.t 1 = vi a := by rw [← hFF]; rfl
 have t2 : FF.t 2 = vi f0 := by rw [← hFF]; rfl
 have t3 : FF.t 3 = vi m0 := by rw [← hFF]; rfl
 have t8 : FF.t 8 = .lp 0 0 := by rw [← hFF]; rfl
 have t9 : FF.t 9 = .lp 1 0 := by rw [← hFF]; rfl
 have t10 : FF.t 10 = .lp 2 0 := by rw [← hFF]; rfl
 have fd : FF.d = [] := by rw [← hFF]; rfl
 have fk : FF.k = fun _ => false := by rw [← hFF]; rfl
 clear hFF
 refine zfs (fn := Tryz.f35) (q := 75) (avs := [.lp 0 0, .lp 1 0, .lp 2 0]) (F1 := FF.put (some 30) (.fn (.func 75) [] [.lp 0 0, .lp 1 0, .lp 2 0])) rfl ⟨rfl, by simp only [wq.down, Nat.reduceLT], by simp only [wq.down, t8, t9, t10], by simp only [wq.down, t8, t9, t10], rfl, rfl, ⟨.tmp 30, #[], #[], [.lp 0 0, .lp 1 0, .lp 2 0], rfl, by simp only [wq.down, ↓reduceIte], by simp only [wq.down, ↓reduceIte], by simp, by simp only [wq.down]⟩, by simp only [wq.down, fd]⟩ rfl fk fun d => ?_
 obtain ⟨ee, hee⟩ : ∃ ee : E, ee = { TE with tl := [d] } := ⟨_, rfl⟩
 have hP : ee.P = P := by rw [hee]; rfl
 have hmix : ee.P.follows .mixedOrders = true := by rw [hP]; exact mixed
 have hT : ∀ {g : FuncId} {args : List V} {h : H} {R : AEnd → H → (Nat → Bool) → Prop}, zb TE g args h R → zb ee g args h R := fun hc => by rw [hee]; exact hc.tl _
 rw [← hee]
 obtain ⟨QP, eQP⟩ : ∃ QP : XE → Fr → H → Prop, QP = LV TE Tryz.f35 (fun ae h x => match ae with | AEnd.ret v => zn TE h v (.tup [prs r1, vi r2, vi r3]) | AEnd.pan v => False) [(75, [.lp 0 0, .lp 1 0, .lp 2 0])] := ⟨_, rfl⟩
 refine zN (Q := QP) (fun xe f' h' hq => by rw [eQP] at hq; exact hq) ?_
 have hkd : ∀ {f' : Fr}, (∀ j, f'.k j = true → 4 ≤ j) → ∀ x ∈ [((75 : FuncId), [V.lp 0 0, V.lp 1 0, V.lp 2 0])], V.drops f'.k x.2 = x.2 := fun {f'} h x hx => by
  have z : ∀ i, i < 4 → f'.k i = false := fun i hi => by
   cases hj : f'.k i with
   | false => rfl
   | true => exact absurd (h i hj) (by omega)
  simp only [List.mem_singleton] at hx
  subst hx
  simp [V.drops, V.drop, z 0 (by decide), z 1 (by decide), z 2 (by decide)]
 have hpan : ∀ {w e : Int} {f' : Fr} {b : Int} {L : List Pr}, zax s f0 m0.toNat 0 a [] = .error (w, e) → f'.d = [] → (∀ j, f'.k j = true → 4 ≤ j) → f'.t 8 = .lp 0 0 → f'.t 9 = .lp 1 0 → f'.t 10 = .lp 2 0 → QP (.pan (zdB w e)) f' (hU s b L) := by
  intro w e f' b L hp hd hk t8 t9 t10
  rw [hp] at hr
  simp only [Prod.mk.injEq] at hr
  obtain ⟨z1, z2, z3⟩ := hr
  rw [eQP, ← z1, ← z2, ← z3]
  refine ⟨hd, hkd hk, ?_⟩
  refine znK w e rfl rfl rfl fun X => ⟨fun y hy => (by cases hy), ?_⟩
  unfold LVr
  simp only [Tryz.results35, nts]
  simp only [wq.down, ↓reduceIte, hd, t8, t9, t10]
  exact zn.tup (zj.cons zn.nils (zj.dat rfl))
 have hret : ∀ {f' : Fr} {b : Int} {L : List Pr}, zax s f0 m0.toNat 0 a [] = .ok (L, b) → f'.d = [] → (∀ j, f'.k j = true → 4 ≤ j) → f'.t 8 = .lp 0 0 → f'.t 9 = .lp 1 0 → f'.t 10 = .lp 2 0 → QP .ret f' [.cells [.ls 4 2 0 L.length L.length], .cells [vi b], .cells [vi 0], rdP s b, .cells (fl L)] := by
  intro f' b L hp hd hk t8 t9 t10
  rw [hp] at hr
  simp only [Prod.mk.injEq] at hr
  obtain ⟨z1, z2, z3⟩ := hr
  rw [eQP, ← z1, ← z2, ← z3]
  refine ⟨hd, hkd hk, ?_⟩
  refine znI fun X => ⟨fun y hy => (by cases hy), ?_⟩
  unfold LVr
  simp only [Tryz.results35, nts]
  simp only [wq.down, ↓reduceIte, hd, t8, t9, t10]
  exact zn.tup (zj.cons (zc1 rfl rfl) (zj.dat rfl))
 refine za (zC hmix _ _ _ _ ?_)
 simp only [wq.down, seval, hP, t0, t1, fd]
 refine zbR ?_
 refine zfl (h' := hU s a []) (HLe.set (i := 0) (o' := .cells [.ls 4 2 0 0 0]) rfl (OLe.cells (by simp) (zar.cons zaU zar.nil))) ?_
 obtain ⟨n, hn⟩ : ∃ n : Nat, m0 = n := ⟨m0.toNat, by omega⟩
 subst hn
 rw [Int.toNat_natCast] at hpan hret
 obtain ⟨U0, hU0⟩ : ∃ U0, U0 = zax s f0 n 0 a [] := ⟨_, rfl⟩
 rw [← hU0] at hpan hret
 refine za ?_
 refine za (zC hmix _ _ _ _ ?_)
 simp only [wq.down, seval, hP, t3]
 refine zy ?_
 refine zp (fun mm f h' => ∃ (i : Nat) (b : Int) (L : List Pr), mm + i = n ∧ L.length = i ∧ U0 = zax s f0 (n - i) i b L ∧ f.t 2 = vi f0 ∧ f.t 8 = .lp 0 0 ∧ f.t 9 = .lp 1 0 ∧ f.t 10 = .lp 2 0 ∧ f.t 11 = .lp 3 0 ∧ f.t 35 = vi n ∧ f.t 36 = vi i ∧ f.d = [] ∧ (∀ j, f.k j = true → 4 ≤ j) ∧ h' = hU s b L) n ⟨0, a, [], by omega, rfl, hU0, by simp only [wq.down, seval, t2], by simp only [wq.down, seval, t8], by simp only [wq.down, seval, t9], by simp only [wq.down, seval, t10], by simp only [wq.down, seval], by simp only [wq.down, seval], rfl, by simp only [wq.down], fun j hj => (by cases hj), rfl⟩ ?_
 clear t0 t1 t2 t3 t8 t9 t10 fd fk
 rintro mm f h' ⟨i, b, L, hmm, hLl, hun, t2, t8, t9, t10, t11, t35, t36, fd, hk, rfl⟩
 refine za (zC hmix _ _ _ _ ?_)
 simp only [wq.down, Nat.reduceLT, hP, t35, t36]
 refine za (zC hmix _ _ _ _ ?_)
 simp only [wq.down, ↓reduceIte]
 refine vcB.mk (fun hlt => ?_) (fun hlt => ?_)
 ·have hlt : i < n := by
   have := of_decide_eq_true hlt
   omega
  rw [show n - i = (n - i - 1) + 1 by omega] at hun
  unfold zax znG at hun
  obtain ⟨own, hown⟩ : ∃ own, own = 2 * (f0 + (i : Int)) := ⟨_, rfl⟩
  rw [← hown] at hun
  have w1 : IntKind.i64.wrap (f0 + (i : Int)) = f0 + i := zD (by omega) (by omega)
  have w2 : IntKind.i64.wrap (2 * (f0 + (i : Int))) = own := by rw [hown]; exact zD (by omega) (by omega)
  have hw := zi (show i < maxLen by omega)
  refine za (zy ?_)
  refine za (zC hmix _ _ _ _ ?_)
  simp only [wq.down, seval, hP, t36]
  refine za (zC hmix _ _ _ _ ?_)
  simp only [wq.down, seval, hP, t2, w1, w2]
  refine za (zC hmix _ _ _ _ ?_)
  simp only [wq.down, seval, hP, t11]
  refine hT (zcU (s := s) (a := b) hs rfl (fun x c hx => ?_) (fun w e hx => ?_))
  ·rw [hx] at hun
   dsimp only at hun
   have hxo := zkt hx
   obtain ⟨p, hp⟩ : ∃ p, p = own - x := ⟨_, rfl⟩
   rw [← hp] at hun
   have w3 : IntKind.i64.wrap (own - x) = p := by rw [hp]; exact zD (by omega) (by omega)
   simp only [wq.down, seval, hP, w3]
   show awp _ _ _ _ _ _ (hU s c L)
   have dF : ∀ q, V.drops q (fl L) = fl L := fun q => zaT
   have hfl : (fl L).length = L.length * 2 := zig L
   cases hy : zev s 0 p c with
   | error er =>
    obtain ⟨w, e⟩ := er
    rw [hy] at hun
    dsimp only at hun
    refine zaG hmix zd5 (fun _ _ => False) [8, 9, 10] (fun v d kk ts h' => d = [] ∧ (∀ j, kk j = true → 4 ≤ j) ∧ ts = [.lp 0 0, .lp 1 0, .lp 2 0] ∧ v = zdB w e ∧ h' = hU s c L) (by rw [hP]; decide +kernel) (by decide +kernel) ?_ (fun _ _ h => h.elim) ?_
    ·simp only [wq.down, seval, zd5, hP, t8, t11]
     repeat' apply And.intro
     all_goals
      refine hT (zcU (s := s) (a := c) hs rfl (fun x c hx => by rw [hy] at hx; cases hx) (fun w' e' hx => ?_))
      rw [hy] at hx
      cases hx
      simp only [wq.down, seval, z8, zbF, t8, t9, t10, fd]
      exact hk
    ·rintro v f' h' ⟨kd, kk, kt, rfl, rfl⟩
     simp only [XE.block, XE.seq]
     simp only [List.map_cons, List.map_nil, List.cons.injEq, and_true] at kt
     exact hpan hun kd kk kt.1 kt.2.1 kt.2.2
   | ok yd =>
    obtain ⟨y, d⟩ := yd
    rw [hy] at hun
    dsimp only at hun
    have hyo := zkt hy
    have w4 : IntKind.i64.wrap (p - y) = p - y := zD (by omega) (by omega)
    refine zaG hmix zd5 (fun f h => f.t 2 = vi f0 ∧ f.t 8 = .lp 0 0 ∧ f.t 9 = .lp 1 0 ∧ f.t 10 = .lp 2 0 ∧ f.t 11 = .lp 3 0 ∧ f.t 35 = vi n ∧ f.t 36 = vi i ∧ f.d = [] ∧ (∀ j, f.k j = true → 4 ≤ j) ∧ h = hU s d (L ++ [(p, p - y)])) [] (fun _ _ _ _ _ => False) (by rw [hP]; decide +kernel) (by decide +kernel) ?_ ?_ (fun _ _ _ h => h.elim)
    ·simp only [wq.down, ↓reduceIte, Nat.reduceEqDiff, Nat.reduceLT, Nat.reduceLeDiff, Nat.reduceAdd, Nat.reduceSub, Int.reduceToNat, Nat.reduceDiv, Int.reduceLT, Int.reduceLE, Int.reduceNeg, Int.reduceBEq, Int.reduceBNe, Int.reduceAdd, Int.reduceSub, Nat.reduceBEq, reduceCtorEq, Nat.reduceMul, zg, Tryz.results35, zd5, hP, t2, t8, t9, t10, t11, t35, t36, fd]
     repeat' apply And.intro
     all_goals
      refine hT (zcU (s := s) (a := c) hs rfl (fun x' c' hx => ?_) (fun w' e' hx => by rw [hy] at hx; cases hx))
      rw [hy] at hx
      cases hx
      simp only [wq.down, ↓reduceIte, Nat.reduceEqDiff, Nat.reduceLT, Nat.reduceLeDiff, Nat.reduceAdd, Nat.reduceSub, Int.reduceToNat, Nat.reduceDiv, Int.reduceLT, Int.reduceLE, Int.reduceNeg, Int.reduceBEq, Int.reduceBNe, Int.reduceAdd, Int.reduceSub, Nat.reduceBEq, reduceCtorEq, Nat.reduceMul, zg, Tryz.results35, zX, zd5, zaH, hP, t2, t8, t9, t10, t11, t35, t36, fd, w4, dF, hfl]
      refine ⟨⟨rfl, by decide⟩, rfl, ⟨rfl, by omega, by omega⟩, fun j hj => ?_, ?_⟩
      ·rw [Bool.or_eq_true] at hj
       rcases hj with hj | hj
       ·exact hk j hj
       ·have : j = 4 := by simpa using hj
        omega
      ·show [O.cells _, _, _, _, O.cells (fl L ++ [vi p, vi (p - y)])] = hU s d (L ++ [(p, p - y)])
       rw [show fl L ++ [vi p, vi (p - y)] = fl (L ++ [(p, p - y)]) by simp]
       simp only [hU, List.length_append, List.length_singleton]
    ·rintro f h ⟨t2, t8, t9, t10, t11, t35, t36, fd, hk, rfl⟩
     show awp _ _ _ _ _ _ _
     refine zC hmix _ _ _ _ ?_
     simp only [wq.down, seval, hP, t36, hw]
     exact .inl ⟨mm - 1, by omega, i + 1, d, L ++ [(p, p - y)], by omega, by simp [hLl], by rw [hun, Nat.sub_sub], by simp only [wq.down, seval, t2], by simp only [wq.down, seval, t8], by simp only [wq.down, seval, t9], by simp only [wq.down, seval, t10], by simp only [wq.down, seval, t11], by simp only [wq.down, seval, t35], rfl, by simp only [wq.down, fd], hk, rfl⟩
  ·rw [hx] at hun
   dsimp only at hun
   simp only [wq.down, z8]
   simp only [XE.seq, XE.block]
   exact hpan hun (by simp only [wq.down, fd]) (fun j hj => hk j (by simpa only [zez, zhL, Bool.or_false, Bool.false_or] using hj)) (by simp only [wq.down, seval, t8]) (by simp only [wq.down, seval, t9]) (by simp only [wq.down, seval, t10])
 ·have hin : i = n := by
   have := of_decide_eq_false hlt
   omega
  subst hin
  rw [Nat.sub_self] at hun
  simp only [wq.down]
  refine za ?_
  refine zM hmix zku (fun f h => f.t 8 = .lp 0 0 ∧ f.t 9 = .lp 1 0 ∧ f.t 10 = .lp 2 0 ∧ f.d = [] ∧ (∀ j, f.k j = true → 4 ≤ j) ∧ h = [.cells [.ls 4 2 0 L.length L.length], .cells [vi b], .cells [vi 0], rdP s b, .cells (fl L)]) (by rw [hP]; decide +kernel) (by decide +kernel) ?_ ?_
  ·simp only [wq.down, seval, zku, hP, t8, t9, t10, t11, fd]
   all_goals exact hk
  ·rintro f h ⟨t8, t9, t10, fd, hk, rfl⟩
   show awp _ _ _ _ _ _ _
   refine zC hmix _ _ _ _ ?_
   simp only [wq.down]
   exact hret hun fd hk t8 t9 t10
open Go.RowKit
open Go.Shelf
open Go.Lib
open Go.Sort
theorem zsv : Builder.Extra Tryz.prog zm3 where
 sizeBuilder := by kernel_rfl
 liesBuilder := by kernel_rfl
 t5 := Tryz.underlying5
 a5 := Tryz.isAgg5
 z5 := Tryz.sizeOf5
 v5 := Tryz.zeroValue5
 infoByte := by kernel_rfl
 cellsByte := by kernel_rfl
 sizeByte := by kernel_rfl
 neB5 := by decide
theorem zqZ {w : World} {b o : Nat} {v : Value} (h : w.cell? ⟨b, o, none⟩ = some v) : b < w.heap.size := by
 rcases Nat.lt_or_ge b w.heap.size with h1 | h1
 ·exact h1
 ·exfalso
  unfold World.cell? at h
  simp [Array.getElem?_eq_none h1] at h
theorem zgA : ∀ l : List S, (l.map fun s : S => (⟨s.toArray⟩ : ByteArray)).map (·.data.toList) = l
 | [] => rfl
 | a :: l => by rw [List.map_cons, List.map_cons, zgA l]
theorem zpa (l : List S) (sep : S) (hn : l.length ≤ 100000000) (hj : (Lib.join l sep).length ≤ 100000000) : Ev TE 78 [zT l, .str sep] (.str (Lib.join l sep)) := by
 intro ok w vs hs hl
 simp only [VList] at hl
 obtain ⟨y, ys, rfl, h1, y2, ys2, rfl, h2, rfl⟩ := hl
 have := zgr h2; subst this
 simp only [VRel] at h1
 obtain ⟨a, cp, rfl, hle, hcp, _, hel⟩ := h1
 rw [List.length_map] at hle
 have fin : Calls TE.P 78 (Value.slice a (l.map V.str).length cp :: Value.string ⟨sep.toArray⟩ :: []).toArray w fun en w' => en = .returned (.string ⟨(Lib.join l sep).toArray⟩) ∧ Below w.heap.size w w' := by
  rw [List.length_map]
  rcases l with _ | ⟨s0, l0⟩
  ·exact (Any.strings_Join_none zrZ zsv a cp ⟨sep.toArray⟩ w).mono fun e w' ⟨he, hw⟩ => ⟨he, hw ▸ Below.refl _ _⟩
  ·obtain ⟨b, off, rfl, hv⟩ := hel.resolve_left (by simp)
   obtain ⟨xs, hx1, hx2, hx3⟩ := VElems.list hv (by intro v hv; obtain ⟨s, _, rfl⟩ := List.mem_map.1 hv; rfl)
   have hxs := zj2 hx3
   subst hxs
   have zam : ∀ (j : Nat) (x : ByteArray), ((s0 :: l0).map fun s : S => (⟨s.toArray⟩ : ByteArray))[j]? = some x → w.cell? ⟨b, off + j, none⟩ = some (.string x) := fun j x hj => by
    refine hx2 j _ ?_
    rw [List.getElem?_map] at hj ⊢
    cases hg : (s0 :: l0)[j]? with
    | none => rw [hg] at hj; simp at hj
    | some s => rw [hg] at hj; simp at hj; subst hj; rfl
   have hmm := zgA (s0 :: l0)
   have := Any.strings_Join zrZ zsv b off cp ((s0 :: l0).map fun s : S => (⟨s.toArray⟩ : ByteArray)) ⟨sep.toArray⟩ w zam (zqZ (zam 0 _ rfl)) (by simp at hn ⊢; omega) (by simpa using hle) (by rw [hmm]; show (Lib.join (s0 :: l0) sep).length ≤ _; omega)
   rw [hmm, List.length_map] at this
   exact this
 refine Calls.mono fin ?_
 rintro en w' ⟨rfl, hb⟩
 refine ⟨_, rfl, zfz hb, ?_⟩
 simp only [VRel]
 exact ⟨_, rfl, by simp, by have hM : maxLen = 9223372036854775807 := rfl; omega⟩
theorem zkv : ∀ l : Cl, Lib.joinTail [32] (l.map Lib.itoa) ++ [10] = lnG l
 | [] => rfl
 | n :: l => by
  have h := zkv l
  show Lib.joinTail [32] (Lib.itoa n :: l.map Lib.itoa) ++ [10] = 32 :: (Lib.itoa n ++ lnG l)
  rw [← h]
  simp [Lib.joinTail]
theorem znL (n : Int) (l : Cl) : Lib.join ((n :: l).map Lib.itoa) [32] ++ [10] = lnT (n :: l) := by
 show Lib.join (Lib.itoa n :: l.map Lib.itoa) [32] ++ [10] = Lib.itoa n ++ lnG l
 rw [Lib.join_cons, List.append_assoc, zkv]
theorem zcc (C : Cl) (a : Int) (h0 : 0 ≤ a) (h1 : a / 2 < C.length) (h2 : a ≤ 1000000000) (hC : ∀ x ∈ C, 0 ≤ x ∧ x ≤ 1000000) : Ev TE 89 [zo C, vi a] (vi (zK C a)) := by
 obtain ⟨k, hk⟩ : ∃ k : Nat, a / 2 = k := ⟨(a / 2).toNat, by omega⟩
 have hkl : k < C.length := by omega
 have hg : (C.map vi).getD k .any = vi C[k] := zeL hkl _
 have hx := hC _ (List.getElem_mem hkl)
 have q1 : IntKind.i64.wrap (a.tdiv 2) = k := by rw [Int.tdiv_eq_ediv_of_nonneg h0, zad (by omega) (by omega)]; exact hk
 have q2 : IntKind.i64.wrap (a.tmod 2) = a % 2 := by rw [Int.tmod_eq_emod_of_nonneg h0, zad (by omega) (by omega)]
 have q3 : a.tmod 2 = a % 2 := Int.tmod_eq_emod_of_nonneg h0
 have n2 : ((2 : Int) ≠ 0) := by decide
 have hcv : zK C a = if a % 2 = 1 then zgs C[k] else C[k] := by unfold zK; rw [hk, Int.toNat_natCast, zw hkl]
 refine zh Tryz.func89 rfl (by simp [nts]) (vm ?_)
 rcases Int.emod_two_eq a with hm | hm
 ·simp only [wq.down, ↓reduceIte, Nat.reduceEqDiff, Nat.reduceLT, Nat.reduceLeDiff, Nat.reduceAdd, Nat.reduceSub, Int.reduceToNat, Nat.reduceDiv, Int.reduceLT, Int.reduceLE, Int.reduceNeg, Int.reduceBEq, Int.reduceBNe, Int.reduceAdd, Int.reduceSub, Nat.reduceBEq, reduceCtorEq, Nat.reduceMul, zg, Tryz.results89, q1, q2, q3, hk, hg, hm]
  refine ⟨n2, n2, ⟨by omega, by omega⟩, zr rfl ?_⟩
  rw [hcv, hm, if_neg (by decide)]
 ·simp only [wq.down, ↓reduceIte, Nat.reduceEqDiff, Nat.reduceLT, Nat.reduceLeDiff, Nat.reduceAdd, Nat.reduceSub, Int.reduceToNat, Nat.reduceDiv, Int.reduceLT, Int.reduceLE, Int.reduceNeg, Int.reduceBEq, Int.reduceBNe, Int.reduceAdd, Int.reduceSub, Nat.reduceBEq, reduceCtorEq, Nat.reduceMul, zg, Tryz.results89, q1, q2, q3, hk, hg, hm, zju hx.1 (show C[k] ≤ 1000000000 by omega)]
  refine ⟨n2, n2, ⟨by omega, by omega⟩, zr rfl ?_⟩
  rw [hcv, hm, if_pos rfl]
theorem zcy (C l : Cl) (hll : l.length ≤ 4000) (hl : ∀ a ∈ l, 0 ≤ a ∧ a / 2 < C.length ∧ a ≤ 1000000000) (hC : ∀ x ∈ C, 0 ≤ x ∧ x ≤ 1000000) : Ev TE 91 [zo C, zo l] (zo (l.map (zK C))) := by
 have hM : maxLen = 9223372036854775807 := rfl
 refine zh Tryz.func91 rfl (by simp [nts]) ?_
 refine za (vm ?_)
 simp only [wq.down, Nat.reduceLT, Tryz.results91]
 refine za (vm ?_)
 simp only [wq.down, Nat.reduceLT]
 refine zbt 5 1 (by simp only [wq.down, ↓reduceIte]) ?_
 refine vm ?_
 simp only [wq.down, Nat.reduceLT]
 refine zp (fun m f h' => ∃ (i : Nat) (cs : List V), m + i = l.length ∧ f.t 0 = zo C ∧ f.t 1 = zo l ∧ f.t 5 = .ls 0 1 0 i i ∧ f.t 6 = vi i ∧ f.d = [] ∧ cs = ((l.take i).map (zK C)).map vi ∧ h' = [.cells cs]) l.length
  ⟨0, [], by simp, by simp only [wq.down, seval], by simp only [wq.down, seval], by simp only [wq.down, seval], rfl, by simp only [wq.down], rfl, rfl⟩ ?_
 rintro m f h' ⟨i, cs, hm, h0, h1, h5, h6, hd, hcs, rfl⟩
 refine vm ?_
 simp only [wq.down, seval, h1, h6]
 refine vcB.mk (fun hlt => ?_) (fun hlt => ?_)
 ·simp only [decide_eq_true_eq, Int.ofNat_lt] at hlt
  have hg : (l.map vi).getD i .any = vi l[i] := zeL hlt _
  obtain ⟨a0, a1, a2⟩ := hl _ (List.getElem_mem hlt)
  have hw := zi (show i < maxLen by omega)
  have hcl : cs.length = i * 1 := by rw [hcs]; simp; omega
  have dcs : ∀ p, V.drops p cs = cs := fun p => by rw [hcs]; exact zB _
  simp only [wq.down, seval, h0, h1, h5, h6, hg]
  refine ⟨⟨by omega, by omega⟩, zb.ev (zcc C l[i] a0 a1 a2 hC) rfl ?_⟩
  simp only [wq.down, seval, h6, hd, hw, hcl, dcs]
  refine ⟨by decide, by omega, ?_⟩
  exact .inl ⟨m - 1, by omega, i + 1, _, by omega, by simp only [wq.down, seval, h0], by simp only [wq.down, seval, h1], by simp only [wq.down, seval], by simp only [wq.down, ↓reduceIte], by simp only [wq.down, hd], by rw [hcs, List.take_add_one, List.getElem?_eq_getElem hlt, List.map_append, List.map_append]; rfl, rfl⟩
 ·simp only [decide_eq_false_iff_not, Int.ofNat_lt] at hlt
  have : i = l.length := by omega
  subst this
  rw [List.take_length] at hcs
  subst hcs
  simp only [wq.down, seval, h5, hd]
  exact z7 rfl (by simp)
theorem zlz {l : List Pr} {p : Pr} {i : Nat} (hi : i < l.length) (hall : ∀ x ∈ l.take i, (x == p) = false) (hp : (l[i] == p) = true) : l.findIdx? (· == p) = some i := by
 rw [List.findIdx?_eq_some_iff_getElem]
 refine ⟨hi, hp, fun j hj => ?_⟩
 have := hall l[j] (List.mem_take_iff_getElem.2 ⟨j, by omega, rfl⟩)
 simpa using this
set_option maxHeartbeats 4000000 in
theorem zkw (A : List Pr) (f a b : Int) (hA : A.length ≤ 5000) (f0 : 0 ≤ f) (f1 : f ≤ 10000) (b0 : 0 ≤ b) (hb : b ≤ a) (a1 : a ≤ 100000) : Ev TE 88 [prs A, vi f, vi a, vi b] (.agg [prs (zbq f A a b).1, vi (zbq f A a b).2]) := by
 have hM : maxLen = 9223372036854775807 := rfl
 have n2 : ((2 : Int) ≠ 0) := by decide
 have qa : IntKind.i64.wrap (a.tdiv 2) = a / 2 := by rw [Int.tdiv_eq_ediv_of_nonneg (by omega), zad (by omega) (by omega)]
 have qb : IntKind.i64.wrap (b.tdiv 2) = b / 2 := by rw [Int.tdiv_eq_ediv_of_nonneg (by omega), zad (by omega) (by omega)]
 have hlt : decide (a < b) = false := by simp; omega
 have hmx : max a b = a := by omega
 have hmn : min a b = b := by omega
 have dA : V.dat (prs A) = true := by simp only [V.dat]
 refine zh Tryz.func88 rfl (by simp [nts]) ?_
 refine za (vm ?_)
 simp only [wq.down, Nat.reduceLT, Tryz.results88]
 refine za (vm ?_)
 simp only [wq.down, seval, hlt]
 by_cases c1 : b = 0 ∨ (a ≠ b ∧ a / 2 = b / 2)
 ·have hv : zbq f A a b = (A, 0) := by
   unfold zbq
   rw [hmx, hmn, if_pos]
   rcases c1 with h | ⟨h1, h2⟩
   ·exact .inl h
   ·refine .inr ?_
    unfold zgs
    split <;> omega
  rw [hv]
  by_cases e1 : b = 0
  ·refine za (vm ?_)
   simp only [wq.down, ↓reduceIte, Nat.reduceEqDiff, Nat.reduceLT, Nat.reduceLeDiff, Nat.reduceAdd, Nat.reduceSub, Int.reduceToNat, Nat.reduceDiv, Int.reduceLT, Int.reduceLE, Int.reduceNeg, Int.reduceBEq, Int.reduceBNe, Int.reduceAdd, Int.reduceSub, Nat.reduceBEq, reduceCtorEq, Nat.reduceMul, zg, Tryz.results88, e1]
   exact zn.dat (by simp only [V.dats, V.dat, Bool.and_self])
  ·obtain ⟨e2, e3⟩ := c1.resolve_left e1
   have x1 : (b == 0) = false := by simpa using e1
   have x2 : (a != b) = true := by simpa using e2
   have x3 : (a / 2 == b / 2) = true := by simpa using e3
   refine za (vm ?_)
   simp only [wq.down, ↓reduceIte, Nat.reduceEqDiff, Nat.reduceLT, Nat.reduceLeDiff, Nat.reduceAdd, Nat.reduceSub, Int.reduceToNat, Nat.reduceDiv, Int.reduceLT, Int.reduceLE, Int.reduceNeg, Int.reduceBEq, Int.reduceBNe, Int.reduceAdd, Int.reduceSub, Nat.reduceBEq, reduceCtorEq, Nat.reduceMul, zg, Tryz.results88, x1, x2, x3, qa, qb]
   refine ⟨n2, n2, ?_⟩
   exact zn.dat (by simp only [V.dats, V.dat, Bool.and_self])
 have e1 : ¬ b = 0 := fun h => c1 (.inl h)
 have x1 : (b == 0) = false := by simpa using e1
 have c1' : ¬ (min a b = 0 ∨ zgs (max a b) = min a b) := by
  rw [hmx, hmn]
  rintro (h | h)
  ·exact e1 h
  ·refine c1 (.inr ?_)
   unfold zgs at h
   split at h <;> omega
 by_cases c2 : b = 1 ∨ a = b
 ·have hv : zbq f A a b = (A, a) := by
   unfold zbq
   rw [if_neg c1', hmx, hmn, if_pos c2]
  rw [hv]
  by_cases e2 : a = b
  ·have x2 : (a != b) = false := by simpa using e2
   have x5 : (a == b) = true := by simpa using e2
   refine za (vm ?_)
   simp only [wq.down, seval, x1, x2]
   by_cases e3 : b = 1
   ·have x4 : (b == 1) = true := by simpa using e3
    refine za (vm ?_)
    simp only [wq.down, seval, x4]
    exact zn.dat (by simp only [V.dats, V.dat, Bool.and_self])
   ·have x4 : (b == 1) = false := by simpa using e3
    refine za (vm ?_)
    simp only [wq.down, ↓reduceIte, Nat.reduceEqDiff, Nat.reduceLT, Nat.reduceLeDiff, Nat.reduceAdd, Nat.reduceSub, Int.reduceToNat, Nat.reduceDiv, Int.reduceLT, Int.reduceLE, Int.reduceNeg, Int.reduceBEq, Int.reduceBNe, Int.reduceAdd, Int.reduceSub, Nat.reduceBEq, reduceCtorEq, Nat.reduceMul, zg, Tryz.results88, x4, x5]
    exact zn.dat (by simp only [V.dats, V.dat, Bool.and_self])
  ·have x2 : (a != b) = true := by simpa using e2
   have x3 : (a / 2 == b / 2) = false := by simpa using fun h => c1 (.inr ⟨e2, h⟩)
   have x4 : (b == 1) = true := by simpa using c2.resolve_right e2
   refine za (vm ?_)
   simp only [wq.down, ↓reduceIte, Nat.reduceEqDiff, Nat.reduceLT, Nat.reduceLeDiff, Nat.reduceAdd, Nat.reduceSub, Int.reduceToNat, Nat.reduceDiv, Int.reduceLT, Int.reduceLE, Int.reduceNeg, Int.reduceBEq, Int.reduceBNe, Int.reduceAdd, Int.reduceSub, Nat.reduceBEq, reduceCtorEq, Nat.reduceMul, zg, Tryz.results88, x1, x2, x3, qa, qb]
   refine ⟨n2, n2, ?_⟩
   refine za (vm ?_)
   simp only [wq.down, ↓reduceIte, Nat.reduceEqDiff, Nat.reduceLT, Nat.reduceLeDiff, Nat.reduceAdd, Nat.reduceSub, Int.reduceToNat, Nat.reduceDiv, Int.reduceLT, Int.reduceLE, Int.reduceNeg, Int.reduceBEq, Int.reduceBNe, Int.reduceAdd, Int.reduceSub, Nat.reduceBEq, reduceCtorEq, Nat.reduceMul, zg, Tryz.results88, x4]
   exact zn.dat (by simp only [V.dats, V.dat, Bool.and_self])
 have e2 : ¬ a = b := fun h => c2 (.inr h)
 have x2 : (a != b) = true := by simpa using e2
 have x3 : (a / 2 == b / 2) = false := by simpa using fun h => c1 (.inr ⟨e2, h⟩)
 have x4 : (b == 1) = false := by simpa using fun h => c2 (.inl h)
 have x5 : (a == b) = false := by simpa using e2
 have c2' : ¬ (min a b = 1 ∨ max a b = min a b) := by rw [hmx, hmn]; exact c2
 refine za (vm ?_)
 simp only [wq.down, ↓reduceIte, Nat.reduceEqDiff, Nat.reduceLT, Nat.reduceLeDiff, Nat.reduceAdd, Nat.reduceSub, Int.reduceToNat, Nat.reduceDiv, Int.reduceLT, Int.reduceLE, Int.reduceNeg, Int.reduceBEq, Int.reduceBNe, Int.reduceAdd, Int.reduceSub, Nat.reduceBEq, reduceCtorEq, Nat.reduceMul, zg, Tryz.results88, x1, x2, x3, qa, qb]
 refine ⟨n2, n2, ?_⟩
 refine za (vm ?_)
 simp only [wq.down, seval, x4, x5]
 refine za (vm ?_)
 simp only [wq.down, Nat.reduceLT]
 refine zp (fun m f' h' => ∃ i, m + i = A.length ∧ f'.t 0 = prs A ∧ f'.t 1 = vi f ∧ f'.t 2 = vi a ∧ f'.t 3 = vi b ∧ f'.t 8 = .lp 0 0 ∧ f'.t 9 = vi i ∧ f'.d = [] ∧ h' = [.cells [.nils, vi 0]] ∧ ∀ x ∈ A.take i, (x == (a, b)) = false) A.length ⟨0, by simp, by simp only [wq.down, seval], by simp only [wq.down, seval], by simp only [wq.down, seval], by simp only [wq.down, seval], by simp only [wq.down, seval], rfl, by simp only [wq.down], rfl, by simp⟩ ?_
 rintro m f' h' ⟨i, hm, h0, h1, h2, h3, h8, h9, hd, rfl, hall⟩
 refine za (vm ?_)
 simp only [wq.down, seval, h0, h9]
 refine vcB.mk (fun hc => ?_) (fun hc => ?_)
 ·simp only [decide_eq_true_eq, Int.ofNat_lt] at hc
  have hg := zcS hc V.any
  have hw := zi (show i < maxLen by omega)
  have hbe : ([A[i].1, A[i].2] == [a, b]) = (A[i] == (a, b)) := by
   rw [Bool.eq_iff_iff]
   simp only [beq_iff_eq, List.cons.injEq, and_true]
   constructor
   ·rintro ⟨h1, h2⟩; exact Prod.ext h1 h2
   ·intro h; rw [h]; exact ⟨rfl, rfl⟩
  have wf : IntKind.i64.wrap (f + (i : Int)) = f + i := zD (by omega) (by omega)
  have wf2 : IntKind.i64.wrap (2 * (f + (i : Int))) = 2 * (f + i) := zD (by omega) (by omega)
  refine za (zy ?_)
  refine za (vm ?_)
  simp only [wq.down, seval, h0, h2, h3, h9, hg]
  refine ⟨⟨by omega, by omega⟩, zng, ?_⟩
  rw [hbe]
  cases hq : A[i] == (a, b) with
  | true =>
   have hv : zbq f A a b = (A, 2 * (f + (i : Int))) := by
    unfold zbq
    rw [if_neg c1', if_neg c2', hmx, hmn, zlz hc hall hq]
   rw [hv]
   refine vm ?_
   simp only [wq.down, seval, h0, h1, h8, h9, hd, wf, wf2]
   exact zn.dat (by simp only [V.dats, V.dat, Bool.and_self])
  | false =>
   refine vm ?_
   simp only [wq.down, ↓reduceIte]
   refine vm ?_
   simp only [wq.down, seval, h9, hw]
   exact .inl ⟨m - 1, by omega, i + 1, by omega, by simp only [wq.down, seval, h0], by simp only [wq.down, seval, h1], by simp only [wq.down, seval, h2], by simp only [wq.down, seval, h3], by simp only [wq.down, seval, h8], rfl, by simp only [wq.down, hd], rfl, zJ hc hall hq⟩
 ·simp only [decide_eq_false_iff_not, Int.ofNat_lt] at hc
  have : i = A.length := by omega
  subst this
  rw [List.take_length] at hall
  have wf : IntKind.i64.wrap (f + (A.length : Int)) = f + A.length := zD (by omega) (by omega)
  have wf2 : IntKind.i64.wrap (2 * (f + (A.length : Int))) = 2 * (f + A.length) := zD (by omega) (by omega)
  have hv : zbq f A a b = (A ++ [(a, b)], 2 * (f + (A.length : Int))) := by
   unfold zbq
   rw [if_neg c1', if_neg c2', hmx, hmn, List.findIdx?_eq_none_iff.2 hall]
  rw [hv]
  have dF : ∀ p, V.drops p (fl A) = fl A := fun p => zaT
  simp only [wq.down]
  refine za (vm ?_)
  simp only [wq.down, Nat.reduceLT]
  refine zbt 10 2 (by simp only [wq.down, ↓reduceIte]) ?_
  have vF : (A.map prV).flatMap V.vc = fl A := zqC A
  refine za (vm ?_)
  simp only [wq.down, ↓reduceIte, Nat.reduceEqDiff, Nat.reduceLT, Nat.reduceAdd, reduceCtorEq, Nat.reduceMul, h0, hd, vF, dF]
  refine ⟨znc A, ⟨zpx A, by omega, by omega⟩, ?_⟩
  have hfl : (fl A).length = A.length * 2 := zig A
  refine vm ?_
  simp only [wq.down, ↓reduceIte, Nat.reduceEqDiff, Nat.reduceLT, Nat.reduceLeDiff, Nat.reduceAdd, Nat.reduceBEq, reduceCtorEq, Nat.reduceMul, h0, h1, h2, h3, h8, dF, hfl, wf, wf2]
  refine ⟨⟨rfl, by decide⟩, rfl, ⟨rfl, by omega, by omega⟩, zn.agg (zj.cons (zc1 ?_ (by simp)) (zj.dat rfl))⟩
  show some (O.cells (fl A ++ [vi a, vi b])) = some (O.cells (fl (A ++ [(a, b)])))
  rw [show fl (A ++ [(a, b)]) = fl A ++ [vi a, vi b] by simp]
theorem zq0 (A : List Pr) (f a b : Int) (hA : A.length ≤ 5000) (f0 : 0 ≤ f) (f1 : f ≤ 10000) (a0 : 0 ≤ a) (b0 : 0 ≤ b) (a1 : a ≤ 100000) (b1 : b ≤ 100000) : Ev TE 88 [prs A, vi f, vi a, vi b] (.agg [prs (zbq f A a b).1, vi (zbq f A a b).2]) := by
 by_cases hb : b ≤ a
 ·exact zkw A f a b hA f0 f1 b0 hb a1
 have e1 := zkw A f b a hA f0 f1 a0 (by omega) b1
 have hv : zbq f A b a = zbq f A a b := by
  unfold zbq
  rw [Int.max_comm, Int.min_comm]
 rw [hv] at e1
 have hlt : decide (a < b) = true := by simp; omega
 refine zh Tryz.func88 rfl (by simp [nts]) ?_
 refine za (vm ?_)
 simp only [wq.down, Nat.reduceLT, Tryz.results88]
 refine za (vm ?_)
 simp only [wq.down, seval, hlt]
 refine zb.ev e1 (by simp only [V.dats, V.dat, Bool.and_self]) ?_
 simp only [wq.down, seval]
 exact zn.dat (by simp only [V.dats, V.dat, Bool.and_self])
end Go.Proofs.YtfcpapokknfeeaaGreatDoor
