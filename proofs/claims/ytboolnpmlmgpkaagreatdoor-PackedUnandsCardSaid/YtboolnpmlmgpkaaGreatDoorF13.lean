/- Lemmas for the statement of this claim, part F13: they hold with no conditions but those that each one names. -/
import Derived.Test.YtboolnpmlmgpkaaGreatDoorF03
import Derived.Test.YtboolnpmlmgpkaaGreatDoorA9
import Derived.Test.YtboolnpmlmgpkaaGreatDoorF12
set_option linter.unusedVariables false
set_option maxRecDepth 20000
set_option linter.unusedSimpArgs false
set_option linter.unnecessarySimpa false
namespace Go.Proofs.YtboolnpmlmgpkaaGreatDoor
open Go Go.Proofs Go.Abs Go.RowKit
def grp (n : Nat) : By := if h : n < 128 then [UInt8.ofNat n] else UInt8.ofNat (n % 128 + 128) :: grp (n / 128)
termination_by n
decreasing_by omega
theorem zb0 {n : Nat} (h : n < 128) : grp n = [UInt8.ofNat n] := by rw [grp, dif_pos h]
theorem zfD {n : Nat} (h : ¬ n < 128) : grp n = UInt8.ofNat (n % 128 + 128) :: grp (n / 128) := by rw [grp, dif_neg h]
theorem zdm : ∀ (k n : Nat), n < 128 ^ (k + 1) → (grp n).length ≤ k + 1
 | 0, n, h => by rw [zb0 (by simpa using h)]; simp
 | k + 1, n, h => by
  by_cases hn : n < 128
  ·rw [zb0 hn]; simp
  ·rw [zfD hn, List.length_cons]
   have := zdm k (n / 128) (by rw [Nat.pow_succ] at h; omega)
   omega
theorem zrY : ∀ m : Fin 256, IntKind.u8.wrap (((BitVec.ofInt 8 (m.val : Int)) ||| (BitVec.ofInt 8 128)).toNat : Int) = ((m.val % 128 + 128 : Nat) : Int) := by decide +kernel
theorem zqA (n : Nat) : IntKind.u8.wrap (((BitVec.ofInt 8 (IntKind.u8.wrap (n : Int))) ||| (BitVec.ofInt 8 128)).toNat : Int) = ((UInt8.ofNat (n % 128 + 128)).toNat : Int) := by
 have h1 : IntKind.u8.wrap (n : Int) = ((n % 256 : Nat) : Int) := by rw [IntKind.wrap_u8]; omega
 rw [h1]
 have := zrY ⟨n % 256, by omega⟩
 dsimp only at this
 rw [this, UInt8.toNat_ofNat']
 omega
theorem zoQ (n : Nat) : IntKind.u8.wrap (((BitVec.ofInt IntKind.u8.bits (IntKind.u8.wrap (n : Int))) ||| (BitVec.ofInt IntKind.u8.bits 128)).toNat : Int) = ((UInt8.ofNat (n % 128 + 128)).toNat : Int) := zqA n
theorem zpy (h : H) (n : Int) : zbF P h 3 5 (vi n) = (True, .int .u8 (IntKind.u8.wrap n)) := by simp only [zbF, tis]
theorem zpz (h : H) (n : Int) : zbF P h 5 3 (.int .u8 n) = (True, vi (IntKind.i64.wrap n)) := by simp only [zbF, tis]
theorem zsS (n : Nat) : (n : Int).fdiv (2 ^ (min 7 IntKind.i64.bits)) = ((n / 128 : Nat) : Int) := by
 show (n : Int).fdiv 128 = _
 rw [Int.fdiv_eq_ediv_of_nonneg _ (by decide)]
 rfl
theorem zqB (n : Nat) (h : n < 128) : IntKind.u8.wrap (n : Int) = ((UInt8.ofNat n).toNat : Int) := by
 rw [IntKind.wrap_u8, UInt8.toNat_ofNat']; omega
def HD (L : (Nat → V) → LoopState → Option Code → O) (out : By) (n : Nat) (st : LoopState) (h : H) : Prop :=
 ∃ t, t 4 = .lp 0 0 ∧ ((out = [] ∧ h = [.cells [.nils], .cells [vi n], .misc .dfd, L t st none]) ∨ h = [.cells [.ls 4 1 0 out.length out.length], .cells [vi n], .misc .dfd, L t st none, .cells (out.map vb)])
set_option maxHeartbeats 2000000 in
theorem ziv (L : (Nat → V) → LoopState → Option Code → O) (hL : ∀ p t st c, (L t st c).drop p = L (fun i => (t i).drop p) st c) (n0 : Nat) (hn : n0 ≤ 2147483647) (h : H) (h0 : HD L [] n0 .ready h)
 (step : ∀ out c n h, HD L out n .ready h → out.length ≤ 100 → zqJ TE 3 [vb c] h fun j h'' p => j = none ∧ (∀ i, i < 4 → p i = false) ∧ HD L (out ++ [c]) n .ready h'') :
 zb TE 200 ([] ++ [.yd 3] ++ [.lp 1 0]) h fun ae h' p => (∀ i, i < 4 → p i = false) ∧ match ae with
  | .ret _ => ∃ n', HD L (grp n0) n' .ready h'
  | .pan _ => False := by
 have hM : maxLen = 9223372036854775807 := rfl
 have hgl := zdm 4 n0 (by omega)
 refine zi Tryz.func200 rfl (by simp [nts]) (vm ?_)
 simp only [wq.down, Tryz.results200]
 refine zw (fun m f h => ∃ out n, m = n ∧ f.t 0 = .yd 3 ∧ f.t 1 = .lp 1 0 ∧ f.d = [] ∧ (∀ i, i < 4 → f.k i = false) ∧ HD L out n .ready h ∧ grp n0 = out ++ grp n ∧ n ≤ 2147483647) n0 ⟨[], n0, rfl, rfl, rfl, rfl, fun _ _ => rfl, h0, rfl, hn⟩ ?_
 rintro m f h ⟨out, n, rfl, h0, h1, hd, hk, hHD, hgrp, hnn⟩
 have hol : out.length ≤ 5 := by
  have := congrArg List.length hgrp
  rw [List.length_append] at this
  omega
 have hcell : h[1]? = some (.cells [vi m]) := by
  obtain ⟨t, _, ⟨_, rfl⟩ | rfl⟩ := hHD <;> rfl
 have hk3 := hk 3 (by omega)
 refine vm ?_
 simp only [wq.down, seval, h1, hcell]
 refine vcB.mk (fun hc => ?_) (fun hc => ?_)
 ·have hc : ¬ m < 128 := by have := of_decide_eq_true hc; omega
  obtain ⟨t, n', ps, asg, body, pend, hLp, hsz, hps, hw⟩ := step out (UInt8.ofNat (m % 128 + 128)) m h hHD (by omega)
  simp only [wq.down, seval, h0, h1, hcell, zpy, zoQ, hLp]
  refine ⟨⟨by simpa using hsz, hps⟩, zbt hw ?_⟩
  rintro j h' p hp ⟨rfl, hp5, hHD'⟩
  have hcell : h'[1]? = some (.cells [vi m]) := by
   obtain ⟨t, _, ⟨_, rfl⟩ | rfl⟩ := hHD' <;> rfl
  have hp1 := hp5 1 (by omega)
  refine ⟨by simp [zfO, hd], ?_⟩
  simp only [wq.down, seval, h1, hp1, hcell, Option.isNone_none, zsS]
  refine .inl ⟨m / 128, by omega, out ++ [UInt8.ofNat (m % 128 + 128)], m / 128, rfl, by simp only [wq.down, seval, h0, hp], by simp only [wq.down, seval, h1, hp1], by simp only [wq.down, hd], fun i hi => ?_, ?_, ?_, by omega⟩
  ·simp only [zhC, zej, hk i hi, hp5 i hi, Bool.or_self]
  ·obtain ⟨t, ht, ⟨he, rfl⟩ | rfl⟩ := hHD'
   ·exact ⟨t, ht, .inl ⟨he, rfl⟩⟩
   ·exact ⟨t, ht, .inr rfl⟩
  ·rw [hgrp, zfD hc, List.append_assoc]; rfl
 ·have hc : m < 128 := by have := of_decide_eq_false hc; omega
  obtain ⟨t, n', ps, asg, body, pend, hLp, hsz, hps, hw⟩ := step out (UInt8.ofNat m) m h hHD (by omega)
  simp only [wq.down, seval, h0, h1, hcell, zpy, zqB m hc, hLp]
  refine ⟨⟨by simpa using hsz, hps⟩, zbt hw ?_⟩
  rintro j h' p hp ⟨rfl, hp5, hHD'⟩
  refine ⟨by simp [zfO, hd], ?_⟩
  simp only [wq.down, hd]
  exact ⟨fun i hi => by rw [hk i hi, hp5 i hi]; rfl, m, by rw [hgrp, zb0 hc]; exact hHD'⟩
theorem zjq (n : Int) (o0 : O) (R : AEnd → H → (Nat → Bool) → Prop) (hr : R (.ret (.fn (.func 200) [] [.lp 1 0])) [o0, .cells [vi n]] (fun _ => false)) : zb TE 156 [vi n] [o0] R := by
 refine zi Tryz.func156 rfl (by simp [nts]) (vm ?_)
 simp only [wq.down, seval, Tryz.results156]
 exact hr
theorem ziw : ∀ l : By, zah (l.map vb) = some l
 | [] => rfl
 | c :: l => by
  simp only [List.map_cons, zah, ziw l, Option.map_some]
  congr 2
  exact UInt8.ofNat_toNat
theorem zle {h : H} {l : By} {k cap : Nat} (hc : h[k]? = some (.cells (l.map vb)))   : (zbF P h 96 9 (.ls k 1 0 l.length cap)).1 = True ∧ (zbF P h 96 9 (.ls k 1 0 l.length cap)).2 = .str l := by
 have h1 : zad h k = l.map vb := by simp only [zad, hc]
 have h2 : zah (((zad h k).drop 0).take l.length) = some l := by
  rw [h1, List.drop_zero, List.take_of_length_le (by simp), ziw]
 have h3 : 0 + l.length ≤ (zad h k).length := by rw [h1]; simp
 unfold zbF
 simp only [tis, h2]
 exact ⟨eq_true ⟨trivial, trivial, h3⟩, trivial⟩
def zdM (n : Int) : By × Int := if zcU n = true then (grp n.toNat, 0) else ([], 3)
set_option maxHeartbeats 2000000 in
theorem zeP (n : Int) : Ev TE 84 [vi n] (.tup [.str (zdM n).1, vi (zdM n).2]) := by
 refine zh Tryz.func84 rfl (by simp [nts]) (vm ?_)
 simp only [wq.down, seval, Tryz.results84]
 refine zb.ev (zmz n) rfl ?_
 unfold zdM
 cases hf : zcU n with
 | false =>
  simp only [wq.down, seval]
  exact zo.dat rfl
 | true =>
  have hf : 0 ≤ n ∧ n ≤ 2147483647 := by simpa [zcU] using hf
  obtain ⟨m, rfl⟩ : ∃ m : Nat, n = m := ⟨n.toNat, by omega⟩
  rw [if_pos rfl, Int.toNat_natCast]
  simp only [wq.down, seval]
  refine zjq _ _ _ ?_
  simp only [wq.down]
  refine zcK (n := 18) (q := 200) (first := []) (captured := [.lp 1 0]) (by simp only [wq.down, ↓reduceIte]) (by simp only [wq.down, ↓reduceIte]) rfl (by decide) ?_
  intro L hLd gets
  refine zb.mono (ziv L hLd m (by omega) _ ⟨_, ?_, .inl ⟨rfl, rfl⟩⟩ ?_) ?_
  ·rfl
  ·rintro out c n h ⟨t, ht4, ⟨rfl, rfl⟩ | rfl⟩ hol
   ·refine gets _ _ _ t rfl rfl (fun lb => ?_)
    refine vm ?_
    simp only [wq.down, ↓reduceIte, Nat.reduceLT, Nat.reduceAdd, ze7]
    refine ⟨t, rfl, ?_⟩
    refine vm ?_
    simp only [wq.down, ↓reduceIte, Nat.reduceEqDiff, Nat.reduceLT, Nat.reduceLeDiff, Nat.reduceAdd, reduceCtorEq, Nat.reduceMul, ht4, zek, XE.jump]
    exact ⟨⟨rfl, by decide⟩, by decide, t, _, rfl, t, ht4, .inr rfl⟩
   ·refine gets _ _ _ t rfl rfl (fun lb => ?_)
    refine vm ?_
    simp only [wq.down, ↓reduceIte, Nat.reduceLT, Nat.reduceAdd, ze7]
    refine ⟨t, rfl, ?_⟩
    refine vm ?_
    simp only [wq.down, ↓reduceIte, Nat.reduceEqDiff, Nat.reduceLT, Nat.reduceBEq, reduceCtorEq, Nat.reduceMul, ht4, zek, XE.jump]
    refine ⟨⟨rfl, by decide⟩, ⟨by omega, by simp only [maxLen]; omega, by omega⟩, fun i => (t i).drop fun x => x == 4, _, by rw [hLd], fun i hi => by simp; omega, fun i => (t i).drop fun x => x == 4, by simp only [ht4, V.drop]; rfl, .inr ?_⟩
    rw [zcM, List.map_append, List.length_append]
    rfl
  ·rintro ae h' p ⟨hp5, hr⟩
   cases ae with
   | pan v => exact hr.elim
   | ret v =>
    obtain ⟨n', t, ht4, hh⟩ := hr
    have hne : grp m ≠ [] := by
     by_cases h : m < 128
     ·rw [zb0 h]; simp
     ·rw [zfD h]; simp
    rcases hh with ⟨hh, _⟩ | rfl
    ·exact absurd hh hne
    ·refine ⟨?_, hp5 3 (by omega), t, _, none, (by decide), rfl, ?_⟩
     ·intro i hi
      have hi : i = 2 := by simpa [zfO, zo4] using hi
      subst hi
      exact hp5 2 (by omega)
     ·have k0 := hp5 0 (by omega)
      have k1 := hp5 1 (by omega)
      have k2 := hp5 2 (by omega)
      have k3 := hp5 3 (by omega)
      simp only [wq.down, seval, zkE, k0]
      obtain ⟨e1, e2⟩ := zle (h := [.cells [.ls 4 1 0 (grp m).length (grp m).length], .cells [vi n'], .misc .dfd, L t .exhausted none, .cells ((grp m).map vb)]) (l := grp m) (k := 4) (cap := (grp m).length) rfl
      rw [e1, e2]
      refine ⟨trivial, ?_⟩
      clear e1 e2 hne
      generalize grp m = g
      exact zo.dat rfl
def vgD : By → Nat
 | [] => 0
 | c :: l => c.toNat % 128 + 128 * vgD l
theorem zkc (c : UInt8) : ∀ x : By, vgD (x ++ [c]) = vgD x + c.toNat % 128 * 128 ^ x.length
 | [] => by simp [vgD]
 | a :: x => by
  rw [List.cons_append, vgD, vgD, zkc c x, List.length_cons, Nat.pow_succ, Nat.mul_add]
  have : 128 * (c.toNat % 128 * 128 ^ x.length) = c.toNat % 128 * (128 ^ x.length * 128) := by
   rw [Nat.mul_comm (128 ^ x.length) 128, ← Nat.mul_assoc, ← Nat.mul_assoc, Nat.mul_comm 128 (c.toNat % 128)]
  omega
theorem zpA : ∀ x : By, vgD x < 128 ^ x.length
 | [] => by simp [vgD]
 | a :: x => by
  have := zpA x
  rw [vgD, List.length_cons, Nat.pow_succ]
  omega
def zfE (l : By) : Prop := vgD l ≤ 2147483647 ∧ grp (vgD l) = l
instance (l : By) : Decidable (zfE l) := by unfold zfE; infer_instance
theorem zrZ {a b : Nat} (ha : a < 2 ^ 62) (hb : b < 2 ^ 62) : IntKind.i64.wrap (((BitVec.ofInt IntKind.i64.bits (a : Int)) ||| (BitVec.ofInt IntKind.i64.bits (b : Int))).toNat : Int) = ((a ||| b : Nat) : Int) := by
 show IntKind.i64.wrap (((BitVec.ofInt 64 (a : Int)) ||| (BitVec.ofInt 64 (b : Int))).toNat : Int) = _
 have h1 : (a ||| b) < 2 ^ 62 := Nat.or_lt_two_pow ha hb
 rw [BitVec.ofInt_natCast, BitVec.ofInt_natCast, BitVec.toNat_or, BitVec.toNat_ofNat, BitVec.toNat_ofNat, Nat.mod_eq_of_lt (by omega), Nat.mod_eq_of_lt (by omega), zJ (by omega) (by omega)]
theorem zlf : ∀ m : Fin 256, IntKind.u8.wrap (((BitVec.ofInt 8 (m.val : Int)) &&& ~~~ (BitVec.ofInt 8 128)).toNat : Int) = ((m.val % 128 : Nat) : Int) := by decide +kernel
theorem zjr (c : UInt8) : IntKind.u8.wrap (((BitVec.ofInt IntKind.u8.bits (c.toNat : Int)) &&& ~~~ (BitVec.ofInt IntKind.u8.bits 128)).toNat : Int) = ((c.toNat % 128 : Nat) : Int) :=
 zlf ⟨c.toNat, c.toNat_lt⟩
theorem znj {c i : Nat} (hc : c < 128) (hi : i < 5) : IntKind.i64.wrap ((c : Int) * 2 ^ (min ((7 * i : Nat) : Int).toNat IntKind.i64.bits)) = ((c * 128 ^ i : Nat) : Int) := by
 rw [Int.toNat_natCast, show min (7 * i) IntKind.i64.bits = 7 * i from Nat.min_eq_left (by show 7 * i ≤ 64; omega)]
 have h1 : (2 : Int) ^ (7 * i) = ((128 ^ i : Nat) : Int) := by
  rw [Int.natCast_pow, Int.pow_mul]; rfl
 have h2 : 128 ^ i ≤ 128 ^ 4 := Nat.pow_le_pow_right (by omega) (by omega)
 have h3 : c * 128 ^ i ≤ 127 * 128 ^ 4 := Nat.mul_le_mul (by omega) h2
 rw [h1, ← Int.natCast_mul, zJ (by omega) (by omega)]
theorem zr0 {a c i : Nat} (ha : a < 128 ^ i) : a ||| c * 128 ^ i = a + c * 128 ^ i := by
 have h : (128 : Nat) ^ i = 2 ^ (7 * i) := by rw [Nat.pow_mul]
 rw [h] at ha ⊢
 have := Nat.shiftLeft_add_eq_or_of_lt ha c
 rw [Nat.shiftLeft_eq] at this
 rw [Nat.or_comm, ← this, Nat.add_comm]
theorem zlg {c i : Nat} (hc : c < 128) (hi : i < 5) : IntKind.i64.wrap ((c : Int) * 2 ^ (min (7 * i) IntKind.i64.bits)) = ((c * 128 ^ i : Nat) : Int) := by
 have := znj hc hi
 rwa [Int.toNat_natCast] at this
def zny (l : By) : Int × Int × V :=
 if (l.takeWhile fun c => decide (128 ≤ c.toNat)).length = l.length then (0, 0, zjN 10)
 else if zfE (l.take ((l.takeWhile fun c => decide (128 ≤ c.toNat)).length + 1)) then ((vgD (l.take ((l.takeWhile fun c => decide (128 ≤ c.toNat)).length + 1)) : Nat), (((l.takeWhile fun c => decide (128 ≤ c.toNat)).length + 1 : Nat) : Int), .nili)
 else (0, 0, zjN 3)
theorem twP {p : UInt8 → Bool} {l : By} {i : Nat} (hi : i ≤ l.length) (h1 : (l.take i).all p = true) (h2 : i < l.length → p (l.getD i 0) = false) : (l.takeWhile p).length = i := by
 have h3 : l.takeWhile p = l.take i ++ (l.drop i).takeWhile p := by
  conv => lhs; rw [← List.take_append_drop i l]
  exact List.takeWhile_append_of_pos (List.all_eq_true.1 h1)
 have h4 : (l.drop i).takeWhile p = [] := by
  by_cases hl : i < l.length
  ·rw [List.drop_eq_getElem_cons hl]
   have := h2 hl
   rw [zt hl] at this
   rw [List.takeWhile_cons, this]; rfl
  ·rw [List.drop_eq_nil_of_le (by omega)]; rfl
 rw [h3, h4, List.append_nil, List.length_take]
 omega
theorem zix {l : By} {i : Nat} (hi : i < l.length) : (zcU ((vgD (l.take (min (i + 1) 5)) : Nat) : Int) = true ∧ grp (vgD (l.take (min (i + 1) 5))) = l.take (i + 1)) ↔ zfE (l.take (i + 1)) := by
 have hf : ∀ n : Nat, zcU (n : Int) = true ↔ n ≤ 2147483647 := by intro n; simp [zcU]; omega
 rw [hf]
 unfold zfE
 by_cases h5 : i + 1 ≤ 5
 ·rw [Nat.min_eq_left h5]
 ·have hl : (l.take (i + 1)).length = i + 1 := by rw [List.length_take]; omega
  constructor
  ·rintro ⟨h1, h2⟩
   have := zdm 4 _ (show vgD (l.take (min (i + 1) 5)) < 128 ^ 5 by omega)
   rw [h2, hl] at this
   omega
  ·rintro ⟨h1, h2⟩
   have := zdm 4 _ (show vgD (l.take (i + 1)) < 128 ^ 5 by omega)
   rw [h2, hl] at this
   omega
theorem zkd {l : By} {i : Nat} (hi : i < l.length) (h : zfE (l.take (i + 1))) : vgD (l.take (min (i + 1) 5)) = vgD (l.take (i + 1)) := by
 by_cases h5 : i + 1 ≤ 5
 ·rw [Nat.min_eq_left h5]
 ·have hl : (l.take (i + 1)).length = i + 1 := by rw [List.length_take]; omega
  have := zdm 4 _ (show vgD (l.take (i + 1)) < 128 ^ 5 by have := h.1; omega)
  rw [h.2, hl] at this
  omega
set_option maxHeartbeats 4000000 in
theorem zlh (l : By) (hl : l.length ≤ 100000) : Ev TE 207 [.str l] (.tup [vi (zny l).1, vi (zny l).2.1, (zny l).2.2]) := by
 have hM : maxLen = 9223372036854775807 := rfl
 refine zh Tryz.func207 rfl (by simp [nts]) (vm ?_)
 simp only [wq.down, seval, Tryz.results207]
 refine zw (fun m f h => ∃ i, m + i = l.length ∧ f.t 0 = .str l ∧ f.t 5 = vi (vgD (l.take (min i 5)) : Nat) ∧ f.t 10 = vi l.length ∧ f.t 11 = vi i ∧ f.d = [] ∧ h = [] ∧ (l.take i).all (fun c => decide (128 ≤ c.toNat)) = true) l.length ⟨0, by omega, rfl, by simp [vgD]; rfl, rfl, rfl, rfl, rfl, by simp⟩ ?_
 rintro m f h ⟨i, hm, h0, h5, h10, h11, hd, rfl, hall⟩
 have hpow : (128 : Nat) ^ 5 = 34359738368 := by decide
 refine vm ?_
 simp only [wq.down, seval, h10, h11]
 refine vcB.mk (fun hlt => ?_) (fun hlt => ?_)
 ·simp only [decide_eq_true_eq, Int.ofNat_lt] at hlt
  simp only [wq.down, seval, h11]
  have hmin : ∀ h : i < 5, vgD (l.take (min (i + 1) 5)) = vgD (l.take (min i 5)) + (l.getD i 0).toNat % 128 * 128 ^ i := by
   intro h
   rw [Nat.min_eq_left (by omega), Nat.min_eq_left (by omega), List.take_add_one, List.getElem?_eq_getElem hlt, Option.toList_some, zkc, zt hlt, List.length_take, Nat.min_eq_left (by omega)]
  refine vcB.mk (fun h5' => ?_) (fun h5' => ?_)
  ·have hi5 : i < 5 := by have := of_decide_eq_true h5'; omega
   have hlow : vgD (l.take (min i 5)) < 128 ^ i := by
    have := zpA (l.take i)
    rw [List.length_take, Nat.min_eq_left (show i ≤ l.length by omega)] at this
    rw [Nat.min_eq_left (show i ≤ 5 by omega)]
    exact this
   have hp4 : 128 ^ i ≤ 128 ^ 4 := Nat.pow_le_pow_right (by omega) (by omega)
   have hcm : (l.getD i 0).toNat % 128 < 128 := Nat.mod_lt _ (by omega)
   have hcm2 : (l.getD i 0).toNat % 128 * 128 ^ i ≤ 127 * 128 ^ 4 := Nat.mul_le_mul (by omega) hp4
   have hw1 : IntKind.i64.wrap (((l.getD i 0).toNat % 128 : Nat) : Int) = (((l.getD i 0).toNat % 128 : Nat) : Int) := zJ (by omega) (by omega)
   have hw2 : IntKind.i64.wrap (7 * (i : Int)) = ((7 * i : Nat) : Int) := by rw [zJ (by omega) (by omega)]; omega
   have hor := zrZ (a := vgD (l.take (min i 5))) (b := (l.getD i 0).toNat % 128 * 128 ^ i) (by omega) (by omega)
   rw [zr0 hlow, ← hmin hi5] at hor
   simp only [wq.down, seval, h0, h5, zpz, zjr, hw1, hw2, zlg hcm hi5, hor]
   refine ⟨⟨by omega, by omega⟩, by omega, ⟨by omega, by omega⟩, ?_⟩
   cases hD : decide (128 ≤ (l.getD i 0).toNat) with
   | true =>
    have hall2 : (l.take (i + 1)).all (fun c => decide (128 ≤ c.toNat)) = true := by
     have hD2 : decide (128 ≤ (l[i]).toNat) = true := by rw [← zt (d := 0) hlt]; exact hD
     rw [List.take_add_one, List.all_append, hall, List.getElem?_eq_getElem hlt, Option.toList_some, List.all_cons, hD2]
     rfl
    have hD3 : decide ((128 : Int) ≤ ((l.getD i 0).toNat : Int)) = true := by have := of_decide_eq_true hD; rw [decide_eq_true_eq]; omega
    simp only [wq.down, seval, h11, hD3, zm (show i < maxLen by omega)]
    exact .inl ⟨m - 1, by omega, i + 1, by omega, h0, rfl, h10, rfl, hd, rfl, hall2⟩
   | false =>
    have hD3 : decide ((128 : Int) ≤ ((l.getD i 0).toNat : Int)) = false := by have := of_decide_eq_false hD; rw [decide_eq_false_iff_not]; omega
    have hlen := twP (p := fun c => decide (128 ≤ c.toNat)) (l := l) (i := i) (by omega) hall (fun _ => hD)
    have hu : zny l = if zfE (l.take (i + 1)) then (((vgD (l.take (i + 1)) : Nat) : Int), ((i + 1 : Nat) : Int), V.nili) else (0, 0, zjN 3) := by
     unfold zny
     rw [hlen, if_neg (by omega)]
    have hg5 := zix hlt
    simp only [wq.down, seval, hD3]
    refine zb.ev (zeP _) rfl ?_
    unfold zdM
    cases hf : zcU ((vgD (l.take (min (i + 1) 5)) : Nat) : Int) with
    | false =>
     rw [if_neg (fun h => by rw [hf] at hg5; have := hg5.2 h; cases this.1)] at hu
     rw [hu]
     simp only [wq.down, seval, h0, hd]
     exact ⟨nofun, nofun, zo.tup (zl.cons (zo.dat rfl) (zl.cons (zo.dat rfl) (zl.cons (zaI 3) zl.nil)))⟩
    | true =>
     rw [if_pos rfl, Int.toNat_natCast]
     by_cases hgr : grp (vgD (l.take (min (i + 1) 5))) = l.take (i + 1)
     ·have hgd := hg5.1 ⟨hf, hgr⟩
      rw [if_pos hgd, ← zkd hlt hgd] at hu
      have hbq : (grp (vgD (l.take (min (i + 1) 5))) == l.take (i + 1)) = true := by simp [hgr]
      rw [hu]
      simp only [wq.down, seval, h0, hd, hbq, zm (show i < maxLen by omega)]
      exact ⟨⟨by omega, by omega⟩, zo.dat rfl⟩
     ·rw [if_neg (fun h => hgr (hg5.2 h).2)] at hu
      have hbq : (grp (vgD (l.take (min (i + 1) 5))) == l.take (i + 1)) = false := by simp [hgr]
      rw [hu]
      simp only [wq.down, seval, h0, hd, hbq, zm (show i < maxLen by omega)]
      exact ⟨⟨by omega, by omega⟩, nofun, nofun, zo.tup (zl.cons (zo.dat rfl) (zl.cons (zo.dat rfl) (zl.cons (zaI 3) zl.nil)))⟩
  ·have hi5 : ¬ i < 5 := by have := of_decide_eq_false h5'; omega
   have hmin2 : min i 5 = min (i + 1) 5 := by omega
   rw [hmin2] at h5
   simp only [wq.down, seval, h0]
   refine ⟨⟨by omega, by omega⟩, ?_⟩
   cases hD : decide (128 ≤ (l.getD i 0).toNat) with
   | true =>
    have hall2 : (l.take (i + 1)).all (fun c => decide (128 ≤ c.toNat)) = true := by
     have hD2 : decide (128 ≤ (l[i]).toNat) = true := by rw [← zt (d := 0) hlt]; exact hD
     rw [List.take_add_one, List.all_append, hall, List.getElem?_eq_getElem hlt, Option.toList_some, List.all_cons, hD2]
     rfl
    have hD3 : decide ((128 : Int) ≤ ((l.getD i 0).toNat : Int)) = true := by have := of_decide_eq_true hD; rw [decide_eq_true_eq]; omega
    simp only [wq.down, seval, h11, hD3, zm (show i < maxLen by omega)]
    exact .inl ⟨m - 1, by omega, i + 1, by omega, h0, h5, h10, rfl, hd, rfl, hall2⟩
   | false =>
    have hD3 : decide ((128 : Int) ≤ ((l.getD i 0).toNat : Int)) = false := by have := of_decide_eq_false hD; rw [decide_eq_false_iff_not]; omega
    have hlen := twP (p := fun c => decide (128 ≤ c.toNat)) (l := l) (i := i) (by omega) hall (fun _ => hD)
    have hu : zny l = if zfE (l.take (i + 1)) then (((vgD (l.take (i + 1)) : Nat) : Int), ((i + 1 : Nat) : Int), V.nili) else (0, 0, zjN 3) := by
     unfold zny
     rw [hlen, if_neg (by omega)]
    have hg5 := zix hlt
    simp only [wq.down, seval, h5, hD3]
    refine zb.ev (zeP _) rfl ?_
    unfold zdM
    cases hf : zcU ((vgD (l.take (min (i + 1) 5)) : Nat) : Int) with
    | false =>
     rw [if_neg (fun h => by rw [hf] at hg5; have := hg5.2 h; cases this.1)] at hu
     rw [hu]
     simp only [wq.down, seval, h0, hd]
     exact ⟨nofun, nofun, zo.tup (zl.cons (zo.dat rfl) (zl.cons (zo.dat rfl) (zl.cons (zaI 3) zl.nil)))⟩
    | true =>
     rw [if_pos rfl, Int.toNat_natCast]
     by_cases hgr : grp (vgD (l.take (min (i + 1) 5))) = l.take (i + 1)
     ·have hgd := hg5.1 ⟨hf, hgr⟩
      rw [if_pos hgd, ← zkd hlt hgd] at hu
      have hbq : (grp (vgD (l.take (min (i + 1) 5))) == l.take (i + 1)) = true := by simp [hgr]
      rw [hu]
      simp only [wq.down, seval, h0, h5, hd, hbq, zm (show i < maxLen by omega)]
      exact ⟨⟨by omega, by omega⟩, zo.dat rfl⟩
     ·rw [if_neg (fun h => hgr (hg5.2 h).2)] at hu
      have hbq : (grp (vgD (l.take (min (i + 1) 5))) == l.take (i + 1)) = false := by simp [hgr]
      rw [hu]
      simp only [wq.down, seval, h0, hd, hbq, zm (show i < maxLen by omega)]
      exact ⟨⟨by omega, by omega⟩, nofun, nofun, zo.tup (zl.cons (zo.dat rfl) (zl.cons (zo.dat rfl) (zl.cons (zaI 3) zl.nil)))⟩
 ·simp only [decide_eq_false_iff_not, Int.ofNat_lt] at hlt
  have hlen := twP (p := fun c => decide (128 ≤ c.toNat)) (l := l) (i := i) (by omega) hall (fun h => absurd h hlt)
  have hu : zny l = (0, 0, zjN 10) := by
   unfold zny
   rw [if_pos (by rw [hlen]; omega)]
  rw [hu]
  simp only [wq.down, seval, hd]
  exact ⟨nofun, nofun, zo.tup (zl.cons (zo.dat rfl) (zl.cons (zo.dat rfl) (zl.cons (zaI 10) zl.nil)))⟩
def zfW (s : By) (a : Int) : Int × Int × Int :=
 if a < 0 ∨ (s.length : Int) < a then (0, a, 10)
 else if ((s.drop a.toNat).takeWhile fun c => decide (128 ≤ c.toNat)).length = (s.drop a.toNat).length then (0, a, 10)
 else if zfE ((s.drop a.toNat).take (((s.drop a.toNat).takeWhile fun c => decide (128 ≤ c.toNat)).length + 1)) then
  ((vgD ((s.drop a.toNat).take (((s.drop a.toNat).takeWhile fun c => decide (128 ≤ c.toNat)).length + 1)) : Nat), a + (((s.drop a.toNat).takeWhile fun c => decide (128 ≤ c.toNat)).length + 1 : Nat), 0)
 else (0, a, 3)
theorem zli (s : By) (a : Int) (hl : s.length ≤ 100000) : Ev TE 169 [.str s, vi a] (.tup [vi (zfW s a).1, vi (zfW s a).2.1, vi (zfW s a).2.2]) := by
 have hM : maxLen = 9223372036854775807 := rfl
 refine zh Tryz.func169 rfl (by simp [nts]) (vm ?_)
 simp only [wq.down, seval, Tryz.results169]
 refine vcB.mk (fun hc => ?_) (fun hc => ?_)
 ·have h0 : zfW s a = (0, a, 10) := by
   unfold zfW
   rw [if_pos (by simpa using hc)]
  rw [h0]
  simp only [wq.down, seval]
  exact zo.dat rfl
 ·simp only [Bool.or_eq_false_iff, decide_eq_false_iff_not] at hc
  obtain ⟨p, rfl⟩ : ∃ p : Nat, a = p := ⟨a.toNat, by omega⟩
  have hp : p ≤ s.length := by omega
  have hlen : (s.drop p).length ≤ 100000 := by rw [List.length_drop]; omega
  unfold zfW
  rw [if_neg (by omega), Int.toNat_natCast]
  have hdl : (s.drop p).length = s.length - p := List.length_drop
  have htl := (List.takeWhile_prefix (l := s.drop p) fun c => decide (128 ≤ c.toNat)).length_le
  have htk : List.take (s.length - p) (List.drop p s) = s.drop p := List.take_of_length_le (by omega)
  have hu := zlh (s.drop p) hlen
  unfold zny at hu
  generalize hl' : s.drop p = l at hu hdl htl htk hlen ⊢
  generalize (l.takeWhile fun c => decide (128 ≤ c.toNat)).length = k at hu htl ⊢
  have hadd : IntKind.i64.wrap ((p : Int) + ((k + 1 : Nat) : Int)) = (p : Int) + ((k + 1 : Nat) : Int) := zJ (by omega) (by omega)
  have hadd0 : IntKind.i64.wrap ((p : Int) + 0) = (p : Int) := by rw [zJ (by omega) (by omega)]; omega
  simp only [wq.down, seval, hl']
  by_cases h1 : k = l.length
  ·rw [if_pos h1] at hu ⊢
   refine ⟨⟨by omega, by omega⟩, zb.ev hu rfl ?_⟩
   simp only [wq.down, seval, hadd0]
   refine ⟨trivial, zb.ev (zbz _ _ _ 10) rfl ?_⟩
   simp only [wq.down, seval]
   exact zo.dat rfl
  ·rw [if_neg h1] at hu ⊢
   by_cases h2 : zfE (l.take (k + 1))
   ·rw [if_pos h2] at hu ⊢
    refine ⟨⟨by omega, by omega⟩, zb.ev hu rfl ?_⟩
    simp only [wq.down, seval, hadd]
    refine zb.ev (zf9 _ _ _) rfl ?_
    simp only [wq.down, seval]
    exact zo.dat rfl
   ·rw [if_neg h2] at hu ⊢
    refine ⟨⟨by omega, by omega⟩, zb.ev hu rfl ?_⟩
    simp only [wq.down, seval, hadd0]
    refine ⟨trivial, zb.ev (zbz _ _ _ 3) rfl ?_⟩
    simp only [wq.down, seval]
    exact zo.dat rfl
theorem zfF (n : Nat) : ∃ x c, grp n = x ++ [c] ∧ (∀ b ∈ x, 128 ≤ b.toNat) ∧ c.toNat < 128 := by
 induction n using Nat.strongRecOn with
 | _ n ih =>
  by_cases h : n < 128
  ·refine ⟨[], UInt8.ofNat n, by rw [zb0 h]; rfl, by simp, ?_⟩
   rw [UInt8.toNat_ofNat']; omega
  ·obtain ⟨x, c, h1, h2, h3⟩ := ih (n / 128) (by omega)
   refine ⟨UInt8.ofNat (n % 128 + 128) :: x, c, by rw [zfD h, h1]; rfl, ?_, h3⟩
   intro b hb
   rcases List.mem_cons.1 hb with rfl | hb
   ·rw [UInt8.toNat_ofNat']; omega
   ·exact h2 b hb
theorem zjs (n : Nat) : vgD (grp n) = n := by
 induction n using Nat.strongRecOn with
 | _ n ih =>
  by_cases h : n < 128
  ·rw [zb0 h]
   show (UInt8.ofNat n).toNat % 128 + 128 * 0 = n
   rw [UInt8.toNat_ofNat']; omega
  ·rw [zfD h]
   show (UInt8.ofNat (n % 128 + 128)).toNat % 128 + 128 * vgD (grp (n / 128)) = n
   rw [ih _ (by omega), UInt8.toNat_ofNat']; omega
theorem zfG (n : Nat) : 0 < (grp n).length := by
 obtain ⟨x, c, h, _⟩ := zfF n
 rw [h]; simp
theorem zoR {n : Nat} (h : n ≤ 2147483647) : zfE (grp n) := ⟨by rw [zjs]; exact h, by rw [zjs]⟩
theorem zr1 (n : Nat) (t : By) : ((grp n ++ t).takeWhile fun c => decide (128 ≤ c.toNat)).length + 1 = (grp n).length := by
 obtain ⟨x, c, h, h1, h2⟩ := zfF n
 rw [h, List.append_assoc, List.takeWhile_append_of_pos (fun b hb => by simpa using h1 b hb), List.singleton_append, List.takeWhile_cons]
 rw [if_neg (by simpa using h2)]
 simp
theorem zoS {n : Nat} (h : n ≤ 2147483647) (x t : By) : zfW (x ++ grp n ++ t) (x.length : Nat) = (((n : Nat) : Int), ((x.length + (grp n).length : Nat) : Int), 0) := by
 have hd : (x ++ grp n ++ t).drop x.length = grp n ++ t := by rw [List.append_assoc, List.drop_left]
 have htw := zr1 n t
 have htk : (grp n ++ t).take (grp n).length = grp n := List.take_left
 have hp := zfG n
 unfold zfW
 rw [if_neg (by simp; omega), Int.toNat_natCast, hd, if_neg (by simp; omega), htw, htk, if_pos (zoR h), zjs]
 simp
def ziy (g : Gr) (i : Nat) : Cl := g.next.getD i 0 :: (if g.init.getD i 0 = 0 then [] else if g.init.getD i 0 = 1 then [1] else [2 * (1 + g.ins + (i : Int))])
def zeq (g : Gr) (i : Nat) : S := grp (2 * (g.first + (i : Int)) - (g.ands.getD i (0, 0)).1).toNat ++ grp ((g.ands.getD i (0, 0)).1 - (g.ands.getD i (0, 0)).2).toNat
def zhb (g : Gr) (n : Nat) : S := (List.range n).flatMap fun i : Nat => lnT (ziy g i)
def zaC (g : Gr) (n : Nat) : S := (List.range n).flatMap fun i : Nat => zeq g i
def zqC (g : Gr) : S := [97, 105, 103, 32] ++ (lnT (zaV g) ++ (zhb g g.next.length ++ (zez g.outs g.outs.length ++ zaC g g.ands.length)))
def zed (m : Mo) : S := zqC m.g ++ zcB m
def zfH (m : Mo) : S × Int := if m.chk = 0 then (zed m.norm, 0) else ([], m.chk)
def zlj (g : Gr) : S × Int := if g.chk = 0 then (zaC (zaE g) (zaE g).ands.length, 0) else ([], g.chk)
def zfX (s : S) (mo : Int) (a : Nat) : RE (Int × Nat) := match zeN s a with
 | .error e => .error e
 | .ok (n, b) => if n ≤ mo then .ok (n, b) else .error (a, 1)
def zjt (s : S) (lit : Int) (a : Nat) : RE (Int × Nat) := if zdj s a 32 = true then (match zfX s 2147483647 (a + 1) with
 | .error e => .error e
 | .ok (n, b) => if n < 2 ∨ n = lit then .ok (min n 2, b) else .error (a + 1, 1)) else .ok (0, a)
def zlk (s : S) (mo lit : Int) (a : Nat) : RE ((Int × Int) × Nat) := match zfX s mo a with
 | .error e => .error e
 | .ok (n, b) => match zjt s lit b with
  | .error e => .error e
  | .ok (i, c) => match zbX s 10 c with
   | .error e => .error e
   | .ok d => .ok ((n, i), d)
def zqD (s : S) (mo : Int) (a : Nat) : RE (Int × Nat) := match zfX s mo a with
 | .error e => .error e
 | .ok (n, b) => match zbX s 10 b with
  | .error e => .error e
  | .ok c => .ok (n, c)
def zc6 (s : S) (mo f : Int) : Nat → Nat → Nat → Cl → Cl → RE ((Cl × Cl) × Nat)
 | 0, _, a, N, I => .ok ((N, I), a)
 | k + 1, i, a, N, I => match zlk s mo (2 * (f + (i : Int))) a with
  | .error e => .error e
  | .ok ((n, v), b) => zc6 s mo f k (i + 1) b (N ++ [n]) (I ++ [v])
def zc7 (s : S) (mo : Int) : Nat → Nat → Cl → RE (Cl × Nat)
 | 0, a, L => .ok (L, a)
 | k + 1, a, L => match zqD s mo a with
  | .error e => .error e
  | .ok (n, b) => zc7 s mo k b (L ++ [n])
abbrev RI (α : Type) := Except (Int × Int) α
def zcD (s : S) (lo hi a : Int) : RI (Int × Int) := if (zfW s a).2.2 = 0 then if lo ≤ (zfW s a).1 ∧ (zfW s a).1 ≤ hi then .ok ((zfW s a).1, (zfW s a).2.1) else .error (a, 1) else .error (a, (zfW s a).2.2)
def zer (s : S) (own a : Int) : RI (Pr × Int) := match zcD s 1 own a with
 | .error e => .error e
 | .ok (x, b) => match zcD s 0 (own - x) b with
  | .error e => .error e
  | .ok (y, c) => .ok ((own - x, own - x - y), c)
def zQ (s : S) (f : Int) : Nat → Nat → Int → List Pr → RI (List Pr × Int)
 | 0, _, a, L => .ok (L, a)
 | k + 1, i, a, L => match zer s (2 * (f + (i : Int))) a with
  | .error e => .error e
  | .ok (p, b) => zQ s f k (i + 1) b (L ++ [p])
def za4 (s : S) (a f n : Int) : List Pr × Int × Int :=
 if f < 1 ∨ 4001 < f ∨ n < 0 ∨ 4000 < n then ([], a, 1) else match zQ s f n.toNat 0 a [] with
  | .ok (L, b) => (L, b, 0)
  | .error (w, e) => ([], w, e)
def za5 (s : S) : RE Mo :=
 match zdI s [97, 105, 103] with
 | .error e => .error e
 | .ok (h, a) => if h.getD 0 0 = h.getD 1 0 + h.getD 2 0 + h.getD 4 0 then (match zc6 s (2 * h.getD 0 0 + 1) (1 + h.getD 1 0) (h.getD 2 0).toNat 0 a [] [] with
  | .error e => .error e
  | .ok ((N, I), b) => match zc7 s (2 * h.getD 0 0 + 1) (h.getD 3 0 + h.getD 5 0 + h.getD 6 0).toNat b [] with
   | .error e => .error e
   | .ok (O, c) => match zQ s (1 + h.getD 1 0 + h.getD 2 0) (h.getD 4 0).toNat 0 (c : Int) [] with
    | .error (w, e) => .error (w.toNat, e)
    | .ok (A, d) => zsd ⟨h.getD 1 0, N, I, A, O⟩ (ziD s [h.getD 1 0, h.getD 2 0, h.getD 3 0, h.getD 5 0, h.getD 6 0] d.toNat)) else .error (0, 1)
theorem zll {s t : S} {a : Nat} (h : s.drop a = t) (ht : t ≠ []) : ∃ x : S, s = x ++ t ∧ x.length = a := by
 have hl : a < s.length := by
  rcases Nat.lt_or_ge a s.length with h1 | h1
  ·exact h1
  ·rw [List.drop_eq_nil_of_le h1] at h; exact absurd h.symm ht
 exact ⟨s.take a, by rw [← h, List.take_append_drop], by rw [List.length_take]; omega⟩
theorem zke {s t : S} {a n : Nat} (h : s.drop a = grp n ++ t) (hn : n ≤ 2147483647) : zfW s (a : Int) = ((n : Int), ((a + (grp n).length : Nat) : Int), 0) ∧ s.drop (a + (grp n).length) = t := by
 have hp := zfG n
 obtain ⟨x, rfl, rfl⟩ := zll h (by intro h0; rw [List.append_eq_nil_iff] at h0; rw [h0.1] at hp; simp at hp)
 refine ⟨?_, ?_⟩
 ·rw [← List.append_assoc]; exact zoS hn x t
 ·rw [← List.append_assoc, List.drop_append_of_le_length (by simp), show x.length + (grp n).length = (x ++ grp n).length by simp, List.drop_length, List.nil_append]
theorem znk {s : S} {a n c : Nat} (h : s.drop a = (grp n).take c) (hc : c < (grp n).length) (ha : a ≤ s.length) : zfW s (a : Int) = (0, (a : Int), 10) := by
 obtain ⟨x, b, hg, h1, h2⟩ := zfF n
 rw [hg] at hc h
 rw [List.length_append, List.length_singleton] at hc
 rw [List.take_append_of_le_length (by omega)] at h
 have h3 : ∀ b ∈ x.take c, 128 ≤ b.toNat := fun b hb => h1 b (List.mem_of_mem_take hb)
 rw [← h] at h3
 have h4 : ((s.drop a).takeWhile fun c => decide (128 ≤ c.toNat)) = s.drop a := by
  have := List.takeWhile_append_of_pos (l₂ := []) (p := fun c : UInt8 => decide (128 ≤ c.toNat)) (l₁ := s.drop a) fun b hb => by simpa using h3 b hb
  simpa using this
 unfold zfW
 rw [if_neg (by omega), Int.toNat_natCast, h4, if_pos rfl]
theorem zju {s t : S} {a n : Nat} {lo hi : Int} (h : s.drop a = grp n ++ t) (hn : n ≤ 2147483647) (h1 : lo ≤ n) (h2 : (n : Int) ≤ hi) : zcD s lo hi (a : Int) = .ok ((n : Int), ((a + (grp n).length : Nat) : Int)) := by
 unfold zcD
 rw [(zke h hn).1, if_pos rfl, if_pos ⟨h1, h2⟩]
theorem zgk {s : S} {a n c : Nat} {lo hi : Int} (h : s.drop a = (grp n).take c) (hc : c < (grp n).length) (ha : a ≤ s.length) : zcD s lo hi (a : Int) = .error ((a : Int), 10) := by
 unfold zcD
 rw [znk h hc ha, if_neg (by decide : ¬ ((10 : Int) = 0))]
structure GP (g : Gr) : Prop where
 f0 : 0 ≤ g.first
 f1 : g.first + g.ands.length ≤ 5000
 at_ : ∀ i (h : i < g.ands.length), 0 ≤ g.ands[i].2 ∧ g.ands[i].2 ≤ g.ands[i].1 ∧ g.ands[i].1 < 2 * (g.first + (i : Int))
theorem zkf {g : Gr} (hg : GP g) {s t : S} {a i : Nat} (hi : i < g.ands.length) (h : s.drop a = zeq g i ++ t) :
 zer s (2 * (g.first + (i : Int))) (a : Int) = .ok (g.ands[i], ((a + (zeq g i).length : Nat) : Int)) ∧ s.drop (a + (zeq g i).length) = t := by
 have hf := hg.f0
 have hf1 := hg.f1
 obtain ⟨q1, q2, q3⟩ := hg.at_ i hi
 have e : g.ands.getD i (0, 0) = g.ands[i] := zt hi
 unfold zeq at h ⊢
 rw [e] at h ⊢
 obtain ⟨x, hx⟩ : ∃ x : Nat, 2 * (g.first + (i : Int)) - g.ands[i].1 = x := ⟨_, (Int.toNat_of_nonneg (a := 2 * (g.first + (i : Int)) - g.ands[i].1) (by omega)).symm⟩
 obtain ⟨y, hy⟩ : ∃ y : Nat, g.ands[i].1 - g.ands[i].2 = y := ⟨_, (Int.toNat_of_nonneg (a := g.ands[i].1 - g.ands[i].2) (by omega)).symm⟩
 rw [hx, hy, Int.toNat_natCast, Int.toNat_natCast] at h ⊢
 rw [List.append_assoc] at h
 have d1 := zju (lo := 1) (hi := 2 * (g.first + (i : Int))) h (by omega) (by omega) (by omega)
 have n1 := (zke h (by omega)).2
 have d2 := zju (lo := 0) (hi := 2 * (g.first + (i : Int)) - x) n1 (by omega) (by omega) (by omega)
 have n2 := (zke n1 (by omega)).2
 refine ⟨?_, by rw [List.length_append, ← Nat.add_assoc]; exact n2⟩
 unfold zer
 rw [d1]
 dsimp only
 rw [d2]
 dsimp only
 have e1 : 2 * (g.first + (i : Int)) - x = g.ands[i].1 := by omega
 have e2 : g.ands[i].1 - y = g.ands[i].2 := by omega
 rw [e1, e2, List.length_append, ← Nat.add_assoc]
theorem zfI {g : Gr} (hg : GP g) {s t : S} : ∀ (k i a : Nat), i + k = g.ands.length → s.drop a = zcW (zeq g) i g.ands.length ++ t →
 zQ s g.first k i (a : Int) (g.ands.take i) = .ok (g.ands, ((a + (zcW (zeq g) i g.ands.length).length : Nat) : Int)) ∧ s.drop (a + (zcW (zeq g) i g.ands.length).length) = t
 | 0, i, a, hk, h => by
  have : i = g.ands.length := by omega
  subst this
  rw [zdJ] at h ⊢
  unfold zQ
  rw [List.take_length]
  exact ⟨rfl, h⟩
 | k + 1, i, a, hk, h => by
  have hi : i < g.ands.length := by omega
  rw [zcO hi] at h ⊢
  rw [List.append_assoc] at h
  obtain ⟨u1, u2⟩ := zkf hg hi h
  obtain ⟨r1, r2⟩ := zfI hg k (i + 1) _ (by omega) u2
  unfold zQ
  rw [u1]
  dsimp only
  have : g.ands.take i ++ [g.ands[i]] = g.ands.take (i + 1) := by rw [List.take_succ_eq_append_getElem hi]
  rw [this, r1, List.length_append, ← Nat.add_assoc]
  exact ⟨rfl, r2⟩
theorem zjv {g : Gr} (hg : GP g) {s : S} {a i c : Nat} (hi : i < g.ands.length) (h : s.drop a = (zeq g i).take c) (hc : c < (zeq g i).length) (ha : a ≤ s.length) :
 ∃ w, zer s (2 * (g.first + (i : Int))) (a : Int) = .error (w, 10) := by
 have hf := hg.f0
 have hf1 := hg.f1
 obtain ⟨q1, q2, q3⟩ := hg.at_ i hi
 have e : g.ands.getD i (0, 0) = g.ands[i] := zt hi
 unfold zeq at h hc
 rw [e] at h hc
 obtain ⟨x, hx⟩ : ∃ x : Nat, 2 * (g.first + (i : Int)) - g.ands[i].1 = x := ⟨_, (Int.toNat_of_nonneg (a := 2 * (g.first + (i : Int)) - g.ands[i].1) (by omega)).symm⟩
 obtain ⟨y, hy⟩ : ∃ y : Nat, g.ands[i].1 - g.ands[i].2 = y := ⟨_, (Int.toNat_of_nonneg (a := g.ands[i].1 - g.ands[i].2) (by omega)).symm⟩
 rw [hx, hy, Int.toNat_natCast, Int.toNat_natCast] at h hc
 by_cases hcx : c < (grp x).length
 ·rw [List.take_append_of_le_length (by omega)] at h
  unfold zer
  rw [zgk h hcx ha]
  exact ⟨_, rfl⟩
 ·rw [List.length_append] at hc
  rw [List.take_append, List.take_of_length_le (by omega)] at h
  have d1 := zju (lo := 1) (hi := 2 * (g.first + (i : Int))) h (by omega) (by omega) (by omega)
  have n1 := (zke h (by omega)).2
  have hle : a + (grp x).length ≤ s.length := by
   have := congrArg List.length h
   rw [List.length_drop, List.length_append] at this
   have := zfG x
   omega
  unfold zer
  rw [d1]
  dsimp only
  rw [zgk n1 (by omega) hle]
  exact ⟨_, rfl⟩
theorem zes {g : Gr} (hg : GP g) {s : S} : ∀ (k i a c : Nat) (L : List Pr), i + k = g.ands.length → s.drop a = (zcW (zeq g) i g.ands.length).take c → c < (zcW (zeq g) i g.ands.length).length → a ≤ s.length →
 ∃ w, zQ s g.first k i (a : Int) L = .error (w, 10)
 | 0, i, a, c, L, hk, h, hc, ha => by
  have : i = g.ands.length := by omega
  subst this
  rw [zdJ] at hc
  simp at hc
 | k + 1, i, a, c, L, hk, h, hc, ha => by
  have hi : i < g.ands.length := by omega
  rw [zcO hi] at h hc
  by_cases hci : c < (zeq g i).length
  ·rw [List.take_append_of_le_length (by omega)] at h
   obtain ⟨w, hw⟩ := zjv hg hi h hci ha
   unfold zQ
   rw [hw]
   exact ⟨_, rfl⟩
  ·rw [List.length_append] at hc
   rw [List.take_append, List.take_of_length_le (by omega)] at h
   obtain ⟨u1, u2⟩ := zkf hg hi h
   have hle : a + (zeq g i).length ≤ s.length := by
    have := congrArg List.length h
    rw [List.length_drop, List.length_append] at this
    have : 0 < (zeq g i).length := by unfold zeq; rw [List.length_append]; have := zfG (2 * (g.first + (i : Int)) - (g.ands.getD i (0, 0)).1).toNat; omega
    omega
   obtain ⟨w, hw⟩ := zes hg k (i + 1) _ (c - (zeq g i).length) (L ++ [g.ands[i]]) (by omega) u2 (by omega) hle
   unfold zQ
   rw [u1]
   exact ⟨w, hw⟩
theorem zeQ {s : S} {mo : Int} {a : Nat} {n : Int} {c : UInt8} {r : S} (h : s.drop a = Lib.itoa n ++ c :: r) (h0 : 0 ≤ n) (hn : n ≤ 2147483647) (hc : zP c = false) (hm : n ≤ mo) : ∃ b, zfX s mo a = .ok (n, b) ∧ s.drop b = c :: r := by
 obtain ⟨b, h1, h2, _⟩ := zjj h h0 hn hc
 unfold zfX
 rw [h1]
 dsimp only
 rw [if_pos hm]
 exact ⟨b, rfl, h2⟩
theorem zhc {s : S} {a : Nat} {c : UInt8} {r : S} (h : s.drop a = c :: r) : zbX s c a = .ok (a + 1) ∧ s.drop (a + 1) = r := by
 obtain ⟨h1, h2, _⟩ := zch h
 unfold zbX
 rw [if_pos h1]
 exact ⟨rfl, h2⟩
theorem zqE {s : S} {mo : Int} {g : Gr} {a i : Nat} {r : S} (hm : mo ≤ 100000) (i0 : 0 ≤ g.ins) (hl : 2 * (1 + g.ins + (i : Int)) ≤ 100000) (hn : 0 ≤ g.next.getD i 0 ∧ g.next.getD i 0 ≤ mo) (hv : 0 ≤ g.init.getD i 0 ∧ g.init.getD i 0 ≤ 2)
 (h : s.drop a = lnT (ziy g i) ++ r) : ∃ b, zlk s mo (2 * (1 + g.ins + (i : Int))) a = .ok ((g.next.getD i 0, g.init.getD i 0), b) ∧ s.drop b = r := by
 obtain ⟨lit, hlit⟩ : ∃ lit, lit = 2 * (1 + g.ins + (i : Int)) := ⟨_, rfl⟩
 obtain ⟨n, hnn⟩ : ∃ n, n = g.next.getD i 0 := ⟨_, rfl⟩
 obtain ⟨v, hvv⟩ : ∃ v, v = g.init.getD i 0 := ⟨_, rfl⟩
 unfold ziy at h
 rw [← hlit, ← hnn, ← hvv] at h
 rw [← hlit, ← hnn, ← hvv]
 rw [← hnn] at hn
 rw [← hvv] at hv
 rw [← hlit] at hl
 have key : ∀ k : Int, 0 ≤ k → k ≤ 100000 → (k < 2 ∨ k = lit) → s.drop a = lnT [n, k] ++ r → ∃ b, zlk s mo lit a = .ok ((n, min k 2), b) ∧ s.drop b = r := by
  intro k k0 k1 k2 hk
  simp only [lnT, lnG, List.append_assoc, List.cons_append, List.nil_append] at hk
  obtain ⟨b, p1, p2⟩ := zeQ hk hn.1 (by omega) zqk hn.2
  obtain ⟨a1, a2, _⟩ := zch p2
  obtain ⟨c, p3, p4⟩ := zeQ a2 k0 (by omega) zoA (show k ≤ 2147483647 by omega)
  obtain ⟨p5, p6⟩ := zhc p4
  unfold zlk
  rw [p1]
  dsimp only
  unfold zjt
  rw [if_pos a1, p3]
  dsimp only
  rw [if_pos k2]
  dsimp only
  rw [p5]
  exact ⟨_, rfl, p6⟩
 by_cases h0 : v = 0
 ·rw [if_pos h0] at h
  simp only [lnT, lnG, List.append_assoc, List.cons_append, List.nil_append] at h
  obtain ⟨b, p1, p2⟩ := zeQ h hn.1 (by omega) zoA hn.2
  obtain ⟨_, _, _, a4, _⟩ := zch p2
  obtain ⟨p5, p6⟩ := zhc p2
  unfold zlk
  rw [p1]
  dsimp only
  unfold zjt
  rw [if_neg (by rw [a4 32 (by decide)]; decide)]
  dsimp only
  rw [p5, h0]
  exact ⟨_, rfl, p6⟩
 ·rw [if_neg h0] at h
  by_cases h1 : v = 1
  ·rw [if_pos h1] at h
   obtain ⟨b, hb⟩ := key 1 (by omega) (by omega) (.inl (by omega)) h
   rw [h1]
   exact ⟨b, hb⟩
  ·rw [if_neg h1] at h
   obtain ⟨b, hb⟩ := key lit (by omega) hl (.inr rfl) h
   rw [show min lit 2 = v by omega] at hb
   exact ⟨b, hb⟩
theorem zkg {s : S} {mo : Int} {g : Gr} {r : S} (hm : mo ≤ 100000) (i0 : 0 ≤ g.ins) (hl : 2 * (1 + g.ins + (g.next.length : Int)) ≤ 100000) (hn : ∀ a ∈ g.next, 0 ≤ a ∧ a ≤ mo) (hil : g.init.length = g.next.length) (hin : ∀ a ∈ g.init, 0 ≤ a ∧ a ≤ 2) :
 ∀ (k i a : Nat), i + k = g.next.length → s.drop a = zcW (fun i => lnT (ziy g i)) i g.next.length ++ r → ∃ b, zc6 s mo (1 + g.ins) k i a (g.next.take i) (g.init.take i) = .ok ((g.next, g.init), b) ∧ s.drop b = r
 | 0, i, a, hk, h => by
  have : i = g.next.length := by omega
  subst this
  rw [zdJ, List.nil_append] at h
  unfold zc6
  rw [List.take_length, ← hil, List.take_length]
  exact ⟨a, rfl, h⟩
 | k + 1, i, a, hk, h => by
  have hi : i < g.next.length := by omega
  have hi2 : i < g.init.length := by omega
  rw [zcO hi, List.append_assoc] at h
  have e1 : g.next.getD i 0 = g.next[i] := zt hi
  have e2 : g.init.getD i 0 = g.init[i] := zt hi2
  obtain ⟨b, p1, p2⟩ := zqE (i := i) hm i0 (by omega) (by rw [e1]; exact hn _ (List.getElem_mem hi)) (by rw [e2]; exact hin _ (List.getElem_mem hi2)) h
  obtain ⟨c, q1, q2⟩ := zkg hm i0 hl hn hil hin k (i + 1) b (by omega) p2
  unfold zc6
  rw [p1]
  dsimp only
  rw [← zfx hi, ← zfx hi2, q1]
  exact ⟨c, rfl, q2⟩
theorem zkh {s : S} {mo : Int} {l : Cl} {r : S} (hm : mo ≤ 100000) (hn : ∀ a ∈ l, 0 ≤ a ∧ a ≤ mo) :
 ∀ (k i a : Nat), i + k = l.length → s.drop a = zcW (fun i => lnT [l.getD i 0]) i l.length ++ r → ∃ b, zc7 s mo k a (l.take i) = .ok (l, b) ∧ s.drop b = r
 | 0, i, a, hk, h => by
  have : i = l.length := by omega
  subst this
  rw [zdJ, List.nil_append] at h
  unfold zc7
  rw [List.take_length]
  exact ⟨a, rfl, h⟩
 | k + 1, i, a, hk, h => by
  have hi : i < l.length := by omega
  rw [zcO hi, List.append_assoc] at h
  have e1 : l.getD i 0 = l[i] := zt hi
  have hb := hn _ (List.getElem_mem hi)
  rw [← e1] at hb
  simp only [lnT, lnG, List.append_assoc, List.cons_append, List.nil_append] at h
  obtain ⟨b, p1, p2⟩ := zeQ h hb.1 (by omega) zoA hb.2
  obtain ⟨p5, p6⟩ := zhc p2
  obtain ⟨c, q1, q2⟩ := zkh hm hn k (i + 1) (b + 1) (by omega) p6
  unfold zc7 zqD
  rw [p1]
  dsimp only
  rw [p5]
  dsimp only
  rw [← zfx hi, q1]
  exact ⟨c, rfl, q2⟩
theorem GP.of {g : Gr} (hg : g.chk = 0) (hd : ∀ i (h : i < g.ands.length), g.ands[i].2 ≤ g.ands[i].1) : GP g := by
 obtain ⟨_, i0, i1, i2, i3, i4, i5⟩ := zE hg
 have wf : g.first = 1 + g.ins + g.next.length := rfl
 refine ⟨by omega, by omega, fun i hi => ?_⟩
 obtain ⟨o1, o2, o3, o4⟩ := zaK i5 hi
 exact ⟨by omega, hd i hi, by omega⟩
theorem zlm {m : Mo} (h : m.chk = 0) (hd : ∀ i (h : i < m.g.ands.length), m.g.ands[i].2 ≤ m.g.ands[i].1) {r : S} (hr : zsq r) : za5 (zed m ++ r) = .ok m := by
 obtain ⟨hg, hl, hn, ht, ho⟩ := zaO h
 obtain ⟨_, i0, i1, i2, i3, i4, i5⟩ := zE hg
 obtain ⟨r1, r2, r3, r4⟩ := zaj i4
 have wf : m.g.first = 1 + m.g.ins + m.g.next.length := rfl
 have wa : m.g.all = 2 * (m.g.first + m.g.ands.length) := rfl
 have hls : (m.ins.length : Int) = m.g.ins ∧ (m.lat.length : Int) = m.g.next.length ∧ (m.out.length : Int) = m.g.outs.length := by
  simpa [Mo.lens, Bool.or_eq_false_iff, and_assoc] using hl
 obtain ⟨l1, l2, l3⟩ := hls
 obtain ⟨s, hs⟩ : ∃ s, s = zed m ++ r := ⟨_, rfl⟩
 rw [← hs]
 have h0 : (hd9 (zaV m.g)).getD 0 0 = m.g.first - 1 + (m.g.ands.length : Int) := rfl
 have h1 : (hd9 (zaV m.g)).getD 1 0 = m.g.ins := rfl
 have h2 : (hd9 (zaV m.g)).getD 2 0 = (m.g.next.length : Int) := rfl
 have h3 : (hd9 (zaV m.g)).getD 3 0 = (m.g.outs.length : Int) := rfl
 have h4 : (hd9 (zaV m.g)).getD 4 0 = (m.g.ands.length : Int) := rfl
 have h5 : (hd9 (zaV m.g)).getD 5 0 = 0 := rfl
 have h6 : (hd9 (zaV m.g)).getD 6 0 = 0 := rfl
 obtain ⟨a, ha, hda⟩ := zoB (s := s) (magic := [97, 105, 103]) (l := zaV m.g) (r := zhb m.g m.g.next.length ++ (zez m.g.outs m.g.outs.length ++ (zaC m.g m.g.ands.length ++ (zcB m ++ r)))) (by
  rw [hs, ← zsp (zaV m.g) (by simp [zaV])]
  simp [zed, zqC]) (fun n hn => by
  simp only [zaV, List.mem_cons, List.not_mem_nil, or_false] at hn
  omega) (by simp [zaV]) (by simp [zaV]) (by
  unfold zg5
  rw [h0, h1, h2, h3, h4, h5, h6]
  simp only [Bool.and_eq_true, decide_eq_true_eq]
  omega)
 unfold zhb zez zaC at hda
 rw [zbY, zbY, zbY] at hda
 obtain ⟨b, p1, p2⟩ := zkg (mo := 2 * (m.g.first - 1 + (m.g.ands.length : Int)) + 1) (by omega) i0 (by omega) (fun x hx => by have := r3 x hx; omega) r1 r2 m.g.next.length 0 a (by omega) hda
 obtain ⟨c, q1, q2⟩ := zkh (mo := 2 * (m.g.first - 1 + (m.g.ands.length : Int)) + 1) (by omega) (fun x hx => by have := r4 x hx; omega) m.g.outs.length 0 b (by omega) p2
 obtain ⟨u1, u2⟩ := zfI (GP.of hg hd) m.g.ands.length 0 c (by omega) q2
 rw [List.take_zero, List.take_zero] at p1
 rw [List.take_zero] at q1 u1
 unfold za5
 rw [ha]
 dsimp only
 rw [h0, h1, h2, h3, h4, h5, h6, if_pos (by omega), Int.toNat_natCast, p1]
 dsimp only
 rw [show ((m.g.outs.length : Int) + 0 + 0).toNat = m.g.outs.length by omega, q1]
 dsimp only
 rw [Int.toNat_natCast, ← wf, u1]
 dsimp only
 rw [Int.toNat_natCast]
 rw [← l1, ← l2, ← l3, zoD (m := m) (n3 := 0) (n4 := 0) (zcC h) (by omega) (by omega) (by omega) u2 hr]
 unfold zsd
 dsimp only
 rw [l1]
 show (if Mo.chk ⟨m.g, m.ins, m.lat, m.out ++ ([] ++ [])⟩ = 0 then Except.ok (⟨m.g, m.ins, m.lat, m.out ++ ([] ++ [])⟩ : Mo) else _) = _
 rw [List.append_nil, List.append_nil]
 show (if m.chk = 0 then Except.ok m else _) = _
 rw [if_pos h]
theorem znl {f k : Nat → S} : ∀ {n : Nat}, (∀ i, i < n → (f i).length ≤ (k i).length) → ((List.range n).flatMap f).length ≤ ((List.range n).flatMap k).length
 | 0, _ => by simp
 | n + 1, h => by
  rw [zcP, zcP, List.length_append, List.length_append]
  have h1 := znl (n := n) (f := f) (k := k) fun i hi => h i (by omega)
  have h2 := h n (by omega)
  omega
theorem zki (n : Int) (h : 0 ≤ n) : 0 < (Lib.itoa n).length := by
 obtain ⟨k, rfl⟩ : ∃ k : Nat, n = k := ⟨n.toNat, by omega⟩
 rw [zgY]
 exact List.length_pos_iff.2 (zpb k)
theorem zeR {g : Gr} (hg : GP g) {i : Nat} (hi : i < g.ands.length) : (zeq g i).length ≤ 4 := by
 have hf := hg.f0
 have hf1 := hg.f1
 obtain ⟨q1, q2, q3⟩ := hg.at_ i hi
 have e : g.ands.getD i (0, 0) = g.ands[i] := zt hi
 unfold zeq
 rw [e, List.length_append]
 have a1 := zdm 1 (2 * (g.first + (i : Int)) - g.ands[i].1).toNat (by omega)
 have a2 := zdm 1 (g.ands[i].1 - g.ands[i].2).toNat (by omega)
 omega
theorem zqF {m : Mo} (h : m.chk = 0) (hd : ∀ i (h : i < m.g.ands.length), m.g.ands[i].2 ≤ m.g.ands[i].1) : (zed m).length ≤ (zoz m).length := by
 have hg := zit h
 obtain ⟨_, i0, i1, i2, i3, i4, i5⟩ := zE hg
 have hgp := GP.of hg hd
 have e1 : (zhb m.g m.g.next.length).length ≤ (zmY m.g m.g.next.length).length := znl fun i hi => by
  show (lnT (ziy m.g i)).length ≤ (lnT (2 * (1 + m.g.ins + (i : Int)) :: ziy m.g i)).length
  have : lnT (2 * (1 + m.g.ins + (i : Int)) :: ziy m.g i) = Lib.itoa (2 * (1 + m.g.ins + (i : Int))) ++ 32 :: lnT (ziy m.g i) := rfl
  rw [this, List.length_append, List.length_cons]
  omega
 have e2 : (zaC m.g m.g.ands.length).length ≤ (zmZ m.g m.g.ands.length).length := znl fun i hi => by
  have a1 := zeR hgp hi
  obtain ⟨q1, q2, q3⟩ := hgp.at_ i hi
  have e : m.g.ands.getD i (0, 0) = m.g.ands[i] := zt hi
  have p2 := zki m.g.ands[i].1 (by omega)
  have p3 := zki m.g.ands[i].2 (by omega)
  rw [e]
  simp only [lnT, lnG, List.length_append, List.length_cons, List.length_nil]
  omega
 unfold zed zoz zqC zoy
 simp only [List.length_append, List.length_cons, List.length_nil]
 omega
theorem zcE {g : Gr} (hg : g.chk = 0) : ∀ i (h : i < (zaE g).ands.length), (zaE g).ands[i].2 ≤ (zaE g).ands[i].1 := fun i hi => by
 have hst := zep hg
 unfold zft at hst
 simp only [Bool.not_eq_true', List.any_eq_false, List.mem_range] at hst
 have := hst i hi
 unfold zsb at this
 simp only [Bool.or_eq_true, not_or, decide_eq_true_eq] at this
 have h1 := this.1
 have e : (zaE g).ands.getD i (0, 0) = (zaE g).ands[i] := zt hi
 rw [e] at h1
 omega
theorem zjw {m : Mo} (h : m.chk = 0) : za5 (zed m.norm) = .ok m.norm := by
 have := zlm (zdL h) (zcE (zit h)) (r := []) (.inl rfl)
 rwa [List.append_nil] at this
theorem zjx {m : Mo} (h : m.chk = 0) : zfH m.norm = (zed m.norm, 0) := by
 unfold zfH
 rw [if_pos (zdL h)]
 rw [show m.norm.norm = m.norm from by unfold Mo.norm; dsimp only; rw [zkb (zit h)]]
theorem zoT {m : Mo} (hf : m.few = true) (h : m.chk = 0) : (zed m.norm).length ≤ 20000 := by
 have h1 := zoP hf h
 have h2 := zqF (zdL h) (zcE (zit h))
 omega
abbrev rdP (s : S) (a : Int) : O := .cells [.str s, vi a]
abbrev zdn (a e : Int) : V := .iface 155 (.agg [vi a, vi e])
theorem zR {h : H} {R : AEnd → H → (Nat → Bool) → Prop} (b : Bool) (a e : Int)
 (h1 : b = true → R (.ret (.tup [])) h (fun _ => false)) (h2 : b = false → R (.pan (zdn a e)) h (fun _ => false)) : zb TE 98 [.bool b, vi a, vi e] h R := by
 refine zi Tryz.func98 rfl (by simp [nts]) (vm ?_)
 cases b with
 | true =>
  simp only [wq.down, seval, Tryz.results98]
  exact h1 rfl
 | false =>
  simp only [wq.down, seval, Tryz.results98]
  exact ⟨nofun, h2 rfl⟩
theorem ziz {k a : Nat} {s : S} {h : H} {R : AEnd → H → (Nat → Bool) → Prop} (c : UInt8) (hk : h[k]? = some (rdP s a))
 (hr : R (.ret (.bool (zdj s a c))) h (fun _ => false)) : zb TE 171 [.lp k 0, vb c] h R := by
 refine zi Tryz.func171 rfl (by simp [nts]) (vm ?_)
 unfold zdj at hr
 by_cases hlt : a < s.length
 ·have e1 : decide ((a : Int) < (s.length : Int)) = true := by simpa using hlt
  have e2 : s.getD a 0 = s[a] := zt hlt
  rw [List.getElem?_eq_getElem hlt] at hr
  simp only [wq.down, seval, Tryz.results171, hk, e1, e2, zrw]
  refine ⟨by decide +kernel, ⟨by omega, by omega⟩, hr⟩
 ·have e1 : decide ((a : Int) < (s.length : Int)) = false := by simpa using hlt
  rw [List.getElem?_eq_none (by omega)] at hr
  simp only [wq.down, seval, Tryz.results171, hk, e1]
  exact ⟨by decide +kernel, hr⟩
theorem zoU (s : S) (a : Nat) : 0 ≤ (zfT s a).2.1 := by
 unfold zfT
 split
 ·exact Int.natCast_nonneg _
 ·split
  ·show 0 ≤ (a : Int) + _
   omega
  ·exact Int.natCast_nonneg _
theorem zaX {k a : Nat} {mo : Int} {s : S} {h : H} {R : AEnd → H → (Nat → Bool) → Prop} (hs : s.length ≤ 100000) (hk : h[k]? = some (rdP s a))
 (h1 : ∀ n b, zfX s mo a = .ok (n, b) → R (.ret (vi n)) (h.set k (rdP s (b : Nat))) (fun _ => false)) (h2 : ∀ w e, zfX s mo a = .error (w, e) → R (.pan (zdn (w : Nat) e)) h (fun _ => false)) : zb TE 99 [.lp k 0, vi mo] h R := by
 have hG := zpe s a hs
 have hend := zoU s a
 obtain ⟨r, hr⟩ : ∃ r, r = zfT s a := ⟨_, rfl⟩
 unfold zfX zeN at h1 h2
 rw [← hr] at hG h1 h2 hend
 obtain ⟨b, hb⟩ : ∃ b : Nat, r.2.1 = b := ⟨r.2.1.toNat, by omega⟩
 refine zi Tryz.func99 rfl (by simp [nts]) (vm ?_)
 simp only [wq.down, seval, Tryz.results99, hk]
 refine ⟨by decide +kernel, zhw.mk hG rfl rfl ?_⟩
 simp only [wq.down, seval, hk, hb]
 by_cases he : r.2.2 = 0
 ·rw [if_pos he] at h1 h2
  have hd : (r.2.2 == 0) = true := by simpa using he
  dsimp only at h1 h2
  simp only [wq.down, hd]
  refine zR true a 3 (fun _ => ?_) (fun h => by cases h)
  simp only [wq.down, seval, hk]
  refine zR _ a 1 (fun hle => ?_) (fun hle => ?_)
  ·rw [if_pos (by simpa using hle)] at h1
   have := h1 _ _ rfl
   rw [hb, Int.toNat_natCast] at this
   simp only [wq.down, seval, hk]
   exact this
  ·rw [if_neg (by simpa using hle)] at h2
   simp only [wq.down, zY]
   exact h2 _ _ rfl
 ·rw [if_neg he] at h2
  have hd : (r.2.2 == 0) = false := by simpa using he
  simp only [wq.down, hd]
  refine zR false a 3 (fun h => by cases h) (fun _ => ?_)
  simp only [wq.down, zY]
  exact h2 _ _ rfl
def znm : Plan := .take 0 <| .take 2 <| .take 3 <| .take 4 <| .alt 1 (.one 5 <| .one 6 <| .fin) (.one 5 (.one 1 <| .one 6 <| .fin))
theorem zgl {k a : Nat} {s : S} {h : H} {R : AEnd → H → (Nat → Bool) → Prop} (ha : s.length ≤ 1000000000) (hk : h[k]? = some (rdP s a))
 (h1 : zdj s a 10 = true → R (.ret (.tup [])) (h.set k (rdP s ((a + 1 : Nat) : Int))) (fun _ => false)) (h2 : zdj s a 10 = false → R (.pan (zdn a 2)) h (fun _ => false)) : zb TE 101 [.lp k 0] h R := by
 have hM : maxLen = 9223372036854775807 := rfl
 refine zi Tryz.func101 rfl (by simp [nts]) ?_
 refine za (zax mixed znm (fun f' h' => zdj s a 10 = true ∧ f'.t 0 = .lp k 0 ∧ f'.d = [] ∧ (∀ j, f'.k j = false) ∧ h' = h) [] (fun v d kk t h' => d = [] ∧ (∀ j, kk j = false) ∧ zdj s a 10 = false ∧ v = zdn a 2 ∧ h' = h) (by decide +kernel) (by decide +kernel) ?_ ?_ ?_)
 ·simp only [wq.down, seval, znm, hk]
  repeat' apply And.intro
  all_goals
   refine ziz 10 hk ?_
   simp only [wq.down, seval, hk]
   refine zR _ _ 2 (fun hb => ?_) (fun hb => ?_)
   ·simp only [wq.down, seval, zay]
    exact hb
   ·simp only [wq.down, zY, zby]
    exact hb
 ·rintro f h' ⟨hb, h0, hd, hkf, rfl⟩
  have hl := zfn hb
  have hw := zm (show a < maxLen by omega)
  refine vm ?_
  simp only [wq.down, seval, Tryz.results101, h0, hd, hk, hw]
  rw [show f.k = fun _ => false from funext hkf]
  exact h1 hb
 ·rintro v f h' ⟨hd, hkf, hb, rfl, rfl⟩
  simp only [XE.seq, zai]
  simp only [wq.down, hd]
  rw [show f.k = fun _ => false from funext hkf]
  exact h2 hb
theorem zdN {k a : Nat} {lit : Int} {s : S} {h : H} {R : AEnd → H → (Nat → Bool) → Prop} (hs : s.length ≤ 100000) (hk : h[k]? = some (rdP s a))
 (h1 : ∀ n b, zjt s lit a = .ok (n, b) → R (.ret (vi n)) (h.set k (rdP s (b : Nat))) (fun _ => false)) (h2 : ∀ w e, zjt s lit a = .error (w, e) → ∀ b : Nat, R (.pan (zdn (w : Nat) e)) (h.set k (rdP s b)) (fun _ => false)) : zb TE 100 [.lp k 0, vi lit] h R := by
 have hM : maxLen = 9223372036854775807 := rfl
 unfold zjt at h1 h2
 refine zi Tryz.func100 rfl (by simp [nts]) ?_
 have hkl := (List.getElem?_eq_some_iff.1 hk).1
 refine za (vm ?_)
 simp only [wq.down, Nat.reduceLT, Tryz.results100]
 refine za (vm ?_)
 simp only [wq.down, seval]
 refine ziz 32 hk ?_
 simp only [wq.down, seval]
 by_cases hb : zdj s a 32 = true
 ·rw [if_pos hb] at h1 h2
  have hl := zfn hb
  have hw := zm (show a < maxLen by omega)
  have hk2 : (h.set k (rdP s ((a + 1 : Nat) : Int)))[k]? = some (rdP s ((a + 1 : Nat) : Int)) := by rw [List.getElem?_set_self hkl]
  simp only [wq.down, hb]
  refine za (vm ?_)
  simp only [wq.down, seval, hk, hw]
  refine za (vm ?_)
  simp only [wq.down, seval, hk2]
  refine za (vm ?_)
  simp only [wq.down, seval]
  refine zaX hs hk2 (fun n b hn => ?_) (fun w e hn => ?_)
  ·rw [hn] at h1 h2
   dsimp only at h1 h2
   simp only [wq.down, seval]
   refine za (vm ?_)
   simp only [wq.down, seval]
   refine zR _ _ 1 (fun hc => ?_) (fun hc => ?_)
   ·have hc' : n < 2 ∨ n = lit := by simpa using hc
    rw [if_pos hc'] at h1
    simp only [wq.down]
    refine vm ?_
    simp only [wq.down, seval, mn]
    rw [List.set_set]
    exact h1 _ _ rfl
   ·have hc' : ¬ (n < 2 ∨ n = lit) := by simpa using hc
    rw [if_neg hc'] at h2
    simp only [wq.down, zY]
    simp only [XE.seq, zai]
    simp only [wq.down]
    rw [List.set_set]
    exact h2 _ _ rfl _
  ·rw [hn] at h1 h2
   dsimp only at h1 h2
   simp only [wq.down, zY]
   simp only [XE.seq, zai]
   simp only [wq.down]
   exact h2 _ _ rfl _
 ·rw [if_neg hb] at h1
  have hb' : zdj s a 32 = false := by simpa using hb
  simp only [wq.down, seval, hb']
  have := h1 0 a rfl
  rw [zgV hk] at this
  exact this
theorem zcF {k : Nat} {a lo hi : Int} {s : S} {h : H} {R : AEnd → H → (Nat → Bool) → Prop} (hs : s.length ≤ 100000) (hk : h[k]? = some (rdP s a))
 (h1 : ∀ n b, zcD s lo hi a = .ok (n, b) → R (.ret (vi n)) (h.set k (rdP s b)) (fun _ => false)) (h2 : ∀ w e, zcD s lo hi a = .error (w, e) → R (.pan (zdn w e)) h (fun _ => false)) : zb TE 94 [.lp k 0, vi lo, vi hi] h R := by
 have hG := zli s a hs
 obtain ⟨r, hr⟩ : ∃ r, r = zfW s a := ⟨_, rfl⟩
 unfold zcD at h1 h2
 rw [← hr] at hG h1 h2
 refine zi Tryz.func94 rfl (by simp [nts]) (vm ?_)
 simp only [wq.down, seval, Tryz.results94, hk]
 refine ⟨by decide +kernel, zhw.mk hG rfl rfl ?_⟩
 simp only [wq.down, seval, hk]
 by_cases he : r.2.2 = 0
 ·rw [if_pos he] at h1 h2
  have hd : (r.2.2 == 0) = true := by simpa using he
  simp only [wq.down, hd]
  refine zR true _ _ (fun _ => ?_) (fun h => by cases h)
  simp only [wq.down, seval, hk]
  refine zR _ a 1 (fun hle => ?_) (fun hle => ?_)
  ·rw [if_pos (by simpa using hle)] at h1
   simp only [wq.down, seval, hk]
   exact h1 _ _ rfl
  ·rw [if_neg (by simpa using hle)] at h2
   simp only [wq.down, zY]
   exact h2 _ _ rfl
 ·rw [if_neg he] at h2
  have hd : (r.2.2 == 0) = false := by simpa using he
  simp only [wq.down, hd]
  refine zR false _ _ (fun h => by cases h) (fun _ => ?_)
  simp only [wq.down, zY]
  exact h2 _ _ rfl
end Go.Proofs.YtboolnpmlmgpkaaGreatDoor
