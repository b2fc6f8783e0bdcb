/- Lemmas for the statement of this claim, part F01: they hold with no conditions but those that each one names. -/
import Derived.Test.YtfcpapokknfeeaaGreatDoorP0
import Derived.Test.YtfcpapokknfeeaaGreatDoorA10
import Derived.Test.YtfcpapokknfeeaaGreatDoorA9
set_option linter.unusedVariables false
set_option maxRecDepth 20000
set_option linter.unusedSimpArgs false
set_option linter.unnecessarySimpa false
namespace Go.Proofs.YtfcpapokknfeeaaGreatDoor
open Go Go.Proofs Go.Abs
abbrev Cl := List Int
abbrev vi (n : Int) : V := .int .i64 n
abbrev aF (c : Cl) : V := .is false 1 (c.map vi)
abbrev cls (l : List Cl) : V := .is false 1 (l.map fun c => aF c)
theorem SN {l : Cl} {r : List V} (hb : V.bnds (aF l :: r)) : l.length ≤ maxLen := by simp only [V.bnds, V.bnd, List.length_map] at hb;exact hb.1.1
theorem rU {l : Cl} {i : Nat} (h : i < l.length) (d : V) : (List.map vi l).getD i d = vi l[i] := jL h _
def lit (vars a : Int) : Bool := decide (a ≠ 0) && (decide (-vars ≤ a) && decide (a ≤ vars))
theorem bu {n : Int} (h1 : -9223372036854775808 ≤ n) (h2 : n ≤ 9223372036854775807) : IntKind.i64.wrap n = n := dD h1 (by omega)
theorem bz {α : Type} {l : List α} {i : Nat} (h : i < l.length) {P : α → Prop} (h1 : ∀ s ∈ l.take i, P s) (h2 : P l[i]) : ∀ s ∈ l.take (i + 1), P s := by
 intro s hs;rw [List.take_add_one] at hs;simp only [h, List.getElem?_eq_getElem, Option.toList_some, List.mem_append, List.mem_singleton] at hs;rcases hs with hs | rfl
 ·exact h1 s hs
 ·exact h2
def chk (l : List Cl) (vars : Int) : Int :=
 if (decide (vars < 0) || decide (20000 < vars) || decide (100000 < l.length)) = true then 8
 else if (l.all fun c => c.all (lit vars)) = true then 0 else 1
theorem V7 {α : Type} {a b : List α} {i : Nat} (h : a.take i = b.take i) (ha : i < a.length) (hb : i < b.length) (he : a[i] = b[i]) : a.take (i + 1) = b.take (i + 1) := by rw [List.take_add_one, List.take_add_one, h];simp [ha, hb, he]
abbrev EN (l : List Bool) : V := .is false 1 (l.map V.bool)
theorem Zv {l : List Bool} {i : Nat} (h : i < l.length) (d : V) : (List.map V.bool l).getD i d = .bool l[i] := jL h _
theorem aO {α : Type} {l : List α} {i : Nat} {d : α} (h : i < l.length) : l.getD i d = l[i] := by simp [List.getD_eq_getElem?_getD, h]
def hol (vs : List Bool) (a : Int) : Bool := if a < 0 then !(vs.getD (-a - 1).toNat false) else vs.getD (a - 1).toNat false
def hld (on : Cl) (a : Int) : Bool := if a < 0 then on.getD (-a).toNat 0 == -1 else on.getD a.toNat 0 == 1
def idx {α : Type} (l : List α) (p : α → Bool) : Int := match l.findIdx? p with | some i => i | none => -1
theorem pW {α : Type} {l : List α} {p : α → Bool} {i : Nat} (h : i < l.length) (hn : ∀ x ∈ l.take i, p x = false) (hb : p l[i] = true) : idx l p = i := by
 have : l.findIdx? p = some i := by
  rw [List.findIdx?_eq_some_iff_getElem];refine ⟨h, hb, fun j hj => ?_⟩;have : l[j] ∈ l.take i := by
   rw [List.mem_take_iff_getElem];exact ⟨j, by omega, rfl⟩
  simp [hn _ this]
 simp [idx, this]
theorem nJ {α : Type} {l : List α} {p : α → Bool} (hn : ∀ x ∈ l, p x = false) : idx l p = -1 := by
 have : l.findIdx? p = none := by rw [List.findIdx?_eq_none_iff];simpa using hn
 simp [idx, this]
theorem Nz {α : Type} (l : List α) (p : α → Bool) : decide (0 ≤ idx l p) = l.any p := by
 cases h : l.any p with
 | false => rw [nJ (by simpa using h)];rfl
 | true =>
  have : ∃ x ∈ l, p x = true := by simpa using h
  unfold idx;cases hb : l.findIdx? p with
  | none => obtain ⟨x, hx, hx2⟩ := this;have := (List.findIdx?_eq_none_iff.1 hb) x hx;simp [hx2] at this
  | some i => simp
abbrev S := List UInt8
abbrev aV (l : List S) : V := .is false 1 (l.map V.str)
theorem jP {l : List S} {r : List V} (hb : V.bnds (aV l :: r)) : l.length ≤ maxLen := by simp only [V.bnds, V.bnd, List.length_map] at hb;exact hb.1.1
theorem J3 {l : List S} {i : Nat} (h : i < l.length) (d : V) : (List.map V.str l).getD i d = .str l[i] := jL h _
def J4 (n : Nat) (l : List S) : Bool := decide (l.length ≤ n) && l.all fun s => decide (s.length ≤ 60)
theorem uB (l : List S) (n : Nat) : Ev TE 24 [aV l, .int .i64 n] (.bool (J4 n l)) := by
 refine Ev.bnd fun hb => ?_;have hlen := jP hb;refine ax Tryz.func24 rfl (by simp [nts]) (vm ?_);simp only [wq.1, Nat.reduceLT, Tryz.results24];refine aA (fun m f h => ∃ i, m + i = l.length ∧ f.t 0 = aV l ∧ f.t 1 = .int .i64 n ∧ f.t 5 = .int .i64 (i : Int) ∧ f.d = [] ∧ ∀ s ∈ l.take i, s.length ≤ 60) l.length ⟨0, by simp, rfl, rfl, rfl, rfl, by simp⟩ ?_;rintro m f h ⟨i, hm, h0, h1, h5, hd, hall⟩;refine vm ?_;simp only [wq.1, seval, h0, h1, h5];refine vcB.mk (fun hc => ?_) (fun hc => ?_)
 ·simp only [Bool.and_eq_true, decide_eq_true_eq, Int.ofNat_lt, Int.ofNat_le] at hc;obtain ⟨hc1, hc2⟩ := hc;simp only [wq.1, seval, h0, h5, J3 hc1];refine ⟨⟨by omega, by omega⟩, vcB.mk (fun hc => ?_) (fun hc => ?_)⟩
  ·simp only [wq.1, seval, hd];have : J4 n l = false := by
    simp only [decide_eq_true_eq] at hc;have hx : ∃ x ∈ l, ¬ x.length ≤ 60 := ⟨l[i], List.getElem_mem _, by omega⟩;simpa [J4] using fun _ => hx
   rw [this];exact aG.dat rfl
  ·simp only [wq.1, seval, h5, ak (show i < maxLen by omega)];refine .inl ⟨m - 1, by omega, i + 1, by omega, h0, h1, rfl, hd, ?_⟩;simp only [decide_eq_false_iff_not] at hc;intro s hs;rw [List.take_add_one] at hs;simp only [hc1, List.getElem?_eq_getElem, Option.toList_some, List.mem_append, List.mem_singleton] at hs;rcases hs with hs | rfl
   ·exact hall s hs
   ·omega
 ·simp only [wq.1, seval, h0, h1, hd];have : (decide ((l.length : Int) ≤ n)) = J4 n l := by
   simp only [Bool.and_eq_false_iff, decide_eq_false_iff_not, Int.ofNat_lt, Int.ofNat_le] at hc;by_cases hi : i < l.length
   ·have h2 : ¬ l.length ≤ n := by omega
    simp [J4, h2]
   ·rw [List.take_of_length_le (by omega)] at hall;have : (l.all fun s => decide (s.length ≤ 60)) = true := by simpa using hall
    simp [J4, this]
  rw [this];exact aG.dat rfl
theorem NC (a b : List S) : Ev TE 22 [aV a, aV b] (.bool (a == b)) := by
 refine Ev.bnd fun hb => ?_;have hlen := jP hb;refine ax Tryz.func22 rfl (by simp [nts]) (vm ?_);simp only [wq.1, seval, Tryz.results22];refine vcB.mk (fun hc => ?_) (fun hc => ?_)
 ·simp only [wq.1, seval];refine aI rfl ?_;simp only [bne_iff_ne, ne_eq, Int.natCast_inj] at hc;have : ¬ a = b := fun h => hc (by rw [h]);simp [this]
 ·have hl : a.length = b.length := by simpa [Int.natCast_inj] using hc
  simp only [wq.1, Nat.reduceLT];refine aA (fun m f h => ∃ i, m + i = a.length ∧ f.t 0 = aV a ∧ f.t 1 = aV b ∧ f.t 5 = .int .i64 (i : Int) ∧ f.d = [] ∧ a.take i = b.take i) a.length ⟨0, by simp, rfl, rfl, rfl, rfl, by simp⟩ ?_;rintro m f h ⟨i, hm, h0, h1, h5, hd, hall⟩;refine vm ?_;simp only [wq.1, seval, h0, h5];refine vcB.mk (fun hc => ?_) (fun hc => ?_)
  ·simp only [decide_eq_true_eq, Int.ofNat_lt] at hc;have hc2 : i < b.length := by omega
   simp only [wq.1, seval, h0, h1, h5, J3 hc, J3 hc2];refine ⟨by decide +kernel, ⟨by omega, by omega⟩, ⟨by omega, by omega⟩, vcB.mk (fun hc => ?_) (fun hc => ?_)⟩
   ·simp only [wq.1, seval, hd];refine aI rfl ?_;have : ¬ a = b := fun h => by subst h; simp at hc
    simp [this]
   ·simp only [wq.1, seval, h5, ak (show i < maxLen by omega)];exact .inl ⟨m - 1, by omega, i + 1, by omega, h0, h1, rfl, hd, V7 hall (by omega) (by omega) (by simpa using hc)⟩
  ·simp only [decide_eq_false_iff_not, Int.ofNat_lt] at hc;simp only [wq.1, seval, hd];refine aI rfl ?_;rw [List.take_of_length_le (by omega), List.take_of_length_le (by omega)] at hall;simp [hall]
theorem XW (l : List S) (s : S) : Ev TE 152 [aV l, .str s] (.bool (l.contains s)) := by
 refine Ev.bnd fun hb => ?_;have hlen := jP hb;refine ax Tryz.func152 rfl (by simp [nts]) (vm ?_);simp only [wq.1, Nat.reduceLT, Tryz.results152];refine aA (fun m f h => ∃ i, m + i = l.length ∧ f.t 0 = aV l ∧ f.t 1 = .str s ∧ f.t 5 = .int .i64 (i : Int) ∧ f.d = [] ∧ ∀ x ∈ l.take i, ¬ x = s) l.length ⟨0, by simp, rfl, rfl, rfl, rfl, by simp⟩ ?_;rintro m f h ⟨i, hm, h0, h1, h5, hd, hall⟩;refine vm ?_;simp only [wq.1, seval, h0, h5];refine vcB.mk (fun hc => ?_) (fun hc => ?_)
 ·simp only [decide_eq_true_eq, Int.ofNat_lt] at hc;simp only [wq.1, seval, h0, h1, h5, J3 hc];refine ⟨⟨by omega, by omega⟩, vcB.mk (fun hc' => ?_) (fun hc' => ?_)⟩
  ·simp only [wq.1, seval, hd];refine aI rfl ?_;have he : l[i] = s := by simpa using hc'
   have : s ∈ l := he ▸ List.getElem_mem _;simp [this]
  ·simp only [wq.1, seval, h5, ak (show i < maxLen by omega)];exact .inl ⟨m - 1, by omega, i + 1, by omega, h0, h1, rfl, hd, bz hc hall (by simpa using hc')⟩
 ·simp only [decide_eq_false_iff_not, Int.ofNat_lt] at hc;simp only [wq.1, seval, hd];refine aI rfl ?_;rw [List.take_of_length_le (by omega)] at hall;have : ¬ s ∈ l := fun h => hall s h rfl;simp [this]
def fZ (c : UInt8) : Bool := decide (33 ≤ c.toNat) && decide (c.toNat ≤ 126)
def jC (s : S) : Bool := s.all fZ && (decide (1 ≤ s.length) && decide (s.length ≤ 40))
theorem Y0 {s : S} {i : Nat} (h : i < s.length) : s.getD i 0 = s[i] := by simp [List.getD_eq_getElem?_getD, h]
theorem SQ (s : S) : Ev TE 151 [.str s] (.bool (jC s)) := by
 refine Ev.bnd fun hb => ?_;have hlen : s.length ≤ maxLen := hb.1;refine ax Tryz.func151 rfl (by simp [nts]) (vm ?_);simp only [wq.1, Nat.reduceLT, Tryz.results151];refine aA (fun m f h => ∃ i, m + i = s.length ∧ f.t 0 = .str s ∧ f.t 3 = .int .i64 (i : Int) ∧ f.d = [] ∧ ∀ x ∈ s.take i, fZ x = true) s.length ⟨0, by simp, rfl, rfl, rfl, by simp⟩ ?_;rintro m f h ⟨i, hm, h0, h5, hd, hall⟩;refine vm ?_;simp only [wq.1, seval, h0, h5];refine vcB.mk (fun hc => ?_) (fun hc => ?_)
 ·simp only [decide_eq_true_eq, Int.ofNat_lt] at hc;simp only [wq.1, seval, h0, h5, Y0 hc];refine ⟨⟨by omega, by omega⟩, fun h => ⟨h, by omega, by omega⟩, vcB.mk (fun hc' => ?_) (fun hc' => ?_)⟩
  ·simp only [wq.1, seval, hd];refine aI rfl ?_;have hx : ∃ x ∈ s, ¬ fZ x = true := ⟨s[i], List.getElem_mem _, by simp [fZ] at hc' ⊢; omega⟩;have : s.all fZ = false := by simpa using hx
   simp [jC, this]
  ·simp only [wq.1, seval, h5, ak (show i < maxLen by omega)];exact .inl ⟨m - 1, by omega, i + 1, by omega, h0, rfl, hd, bz hc hall (by simp [fZ] at hc' ⊢; omega)⟩
 ·simp only [decide_eq_false_iff_not, Int.ofNat_lt] at hc;simp only [wq.1, seval, h0, hd];refine aI rfl ?_;rw [List.take_of_length_le (by omega)] at hall;have : s.all fZ = true := by simpa using hall
  simp only [jC, this, Bool.true_and, V.bool.injEq]
  congr 1 <;> exact decide_eq_decide.2 (by omega)
def XX (l : List S) : Bool := decide l.Nodup
theorem J5 {l : List S} {i : Nat} (h : i < l.length) (hn : (l.take i).Nodup) (hc : ¬ l[i] ∈ l.take i) : (l.take (i + 1)).Nodup := by rw [List.take_add_one];simp only [h, List.getElem?_eq_getElem, Option.toList_some];rw [List.nodup_append];refine ⟨hn, by simp, ?_⟩;intro a ha b hb hab;simp only [List.mem_singleton] at hb;subst hb; subst hab;exact hc ha
theorem ND {l : List S} {i : Nat} (h : i < l.length) (hc : l[i] ∈ l.take i) : ¬ l.Nodup := by intro hn;obtain ⟨j, hj, he⟩ := List.mem_iff_getElem.1 hc;simp only [List.length_take] at hj;rw [List.getElem_take] at he;have := (List.getElem_inj (h₀ := by omega) (h₁ := h) hn).1 he;omega
theorem NE (l : List S) : Ev TE 122 [aV l] (.bool (XX l)) := by
 refine Ev.bnd fun hb => ?_;have hlen := jP hb;refine ax Tryz.func122 rfl (by simp [nts]) (vm ?_);simp only [wq.1, Nat.reduceLT, Tryz.results122];refine aA (fun m f h => ∃ i, m + i = l.length ∧ f.t 0 = aV l ∧ f.t 3 = .int .i64 (i : Int) ∧ f.d = [] ∧ (l.take i).Nodup) l.length ⟨0, by simp, rfl, rfl, rfl, by simp⟩ ?_;rintro m f h ⟨i, hm, h0, h5, hd, hall⟩;refine vm ?_;simp only [wq.1, seval, h0, h5];refine vcB.mk (fun hc => ?_) (fun hc => ?_)
 ·simp only [decide_eq_true_eq, Int.ofNat_lt] at hc;have hs : List.take i (List.map V.str l) = List.map V.str (l.take i) := (List.map_take ..).symm;simp only [wq.1, seval, h0, h5, J3 hc, hs];refine ⟨by decide +kernel, ⟨by omega, by omega⟩, ⟨by omega, by omega⟩, tZ.mk (XW _ _) rfl rfl ?_⟩;simp only [wq.1, ↓reduceIte];refine vcB.mk (fun hc' => ?_) (fun hc' => ?_)
  ·simp only [wq.1, seval, hd];refine aI rfl ?_;have := ND hc (by simpa using hc');simp [XX, this]
  ·simp only [wq.1, seval, h5, ak (show i < maxLen by omega)];exact .inl ⟨m - 1, by omega, i + 1, by omega, h0, rfl, hd, J5 hc hall (by simpa using hc')⟩
 ·simp only [decide_eq_false_iff_not, Int.ofNat_lt] at hc;simp only [wq.1, seval, hd];refine aI rfl ?_;rw [List.take_of_length_le (by omega)] at hall;simp [XX, hall]
def XY (n : Int) : Bool := decide (n ≤ 32) || decide (126 < n)
theorem XZ (n : Int) : Ev TE 169 [.int .i32 n] (.bool (XY n)) := by refine ax Tryz.func169 rfl (by simp [nts]) (vm ?_);simp only [wq.1, seval, Tryz.results169];exact aI rfl rfl
theorem NF {s : S} {i : Nat} (h : i < s.length) (hb : s[i].toNat < 128) : FU s i = (s[i].toNat, 1) := by
 unfold FU Utf8.decode;have : ((ByteArray.mk s.toArray).get! (i + 0)).toNat = s[i].toNat := by
  simp [ByteArray.get!, h]
 simp only [this];rw [if_pos hb]
theorem SS {s : S} {i : Nat} (h : i < s.length) (hb : ¬ s[i].toNat < 128) : 128 ≤ (FU s i).1 := by
 unfold FU Utf8.decode;have : ((ByteArray.mk s.toArray).get! (i + 0)).toNat = s[i].toNat := by
  simp [ByteArray.get!, h]
 simp only [this];rw [if_neg hb]
 repeat' split
 all_goals first
  | (simp [Utf8.runeError]; done)
  | (rename_i hc; simp only [Bool.and_eq_true, decide_eq_true_eq, ge_iff_le] at hc; dsimp only; omega)
  | (rename_i hc; simp only [ge_iff_le] at hc; dsimp only; omega)
theorem SV {s : S} {i : Nat} (h : i < s.length) : XY (FU s i).1 = !fZ s[i] := by
 by_cases hb : s[i].toNat < 128
 ·rw [NF h hb];refine Bool.eq_iff_iff.2 ?_;simp only [XY, fZ, Bool.or_eq_true, decide_eq_true_eq, Bool.not_eq_true', Bool.and_eq_false_iff, decide_eq_false_iff_not];omega
 ·have := SS h hb;have h1 : XY (FU s i).1 = true := by simp only [XY, Bool.or_eq_true, decide_eq_true_eq]; omega
  have h2 : fZ s[i] = false := by simp only [fZ, Bool.and_eq_false_iff, decide_eq_false_iff_not]; omega
  rw [h1, h2]; rfl
def J6 (s : S) : Option Nat := s.findIdx? fun c => !fZ c
def UO (s : S) : Int := match J6 s with | some i => i | none => -1
theorem NG {s : S} {i : Nat} (h : i < s.length) (hn : ∀ x ∈ s.take i, fZ x = true) (hb : fZ s[i] = false) : UO s = i := by
 have : J6 s = some i := by
  unfold J6;rw [List.findIdx?_eq_some_iff_getElem];refine ⟨h, by simp [hb], fun j hj => ?_⟩;have : s[j] ∈ s.take i := by
   rw [List.mem_take_iff_getElem];exact ⟨j, by omega, rfl⟩
  simp [hn _ this]
 simp [UO, this]
theorem BG {s : S} (hn : ∀ x ∈ s, fZ x = true) : UO s = -1 := by
 have : J6 s = none := by unfold J6;rw [List.findIdx?_eq_none_iff];simpa using hn
 simp [UO, this]
theorem X4 (s : S) : Ev TE 192 [.str s, .fn (.func 169) [] [], .bool true] (.int .i64 (UO s)) := by
 refine Ev.bnd fun hb => ?_;have hlen : s.length ≤ maxLen := hb.1;refine ax Tryz.func192 rfl (by simp [nts]) (vm ?_);simp only [wq.1, seval, Tryz.results192];refine aA (fun m f h => ∃ i, m + i = s.length ∧ f.t 1 = .fn (.func 169) [] [] ∧ f.t 2 = .bool true ∧ f.t 10 = .lp 0 0 ∧ f.d = [] ∧ h = [.misc (.siter s i)] ∧ ∀ x ∈ s.take i, fZ x = true) s.length ⟨0, by simp, rfl, rfl, rfl, rfl, rfl, by simp⟩ ?_;rintro m f h ⟨i, hm, h1, h2, h10, hd, rfl, hall⟩;refine vm ?_;simp only [wq.1, seval, h10];refine mG.mk (fun hc => ?_) (fun hc => ?_)
 ·simp only [decide_eq_true_eq] at hc;simp only [wq.1, seval, h1, mG];refine ah.ev (XZ _) rfl ?_;rw [SV hc];simp only [wq.1, seval, h2];refine vcB.mk (fun hc' => ?_) (fun hc' => ?_)
  ·have hb : fZ s[i] = false := by simpa using hc'
   simp only [wq.1, seval, hd];rw [NG hc hall hb];exact aG.dat rfl
  ·have hb : fZ s[i] = true := by simpa using hc'
   have h128 : s[i].toNat < 128 := by simp only [fZ, Bool.and_eq_true, decide_eq_true_eq] at hb;omega
   simp only [wq.1, Int.reduceNeg];exact .inl ⟨m - 1, by omega, i + 1, by omega, h1, h2, h10, hd, by rw [NF hc h128], bz hc hall hb⟩
 ·simp only [decide_eq_false_iff_not] at hc;simp only [wq.1, seval, hd, mG];rw [List.take_of_length_le (by omega)] at hall;rw [BG hall];exact aG.dat rfl
theorem X5 (s : S) : Ev TE 170 [.str s, .fn (.func 169) [] []] (.int .i64 (UO s)) := by refine ax Tryz.func170 rfl (by simp [nts]) (vm ?_);simp only [wq.1, seval, Tryz.results170];refine ah.ev (X4 s) rfl ?_;simp only [wq.1, seval];exact aG.dat rfl
theorem SX (s : S) : decide (UO s < 0) = s.all fZ := by
 cases h : s.all fZ with
 | true => rw [BG (by simpa using h)];rfl
 | false =>
  have : ∃ x ∈ s, fZ x = false := by simpa using h
  cases hb : J6 s with
  | none => obtain ⟨x, hx, hx2⟩ := this;have := (List.findIdx?_eq_none_iff.1 hb) x hx;simp [hx2] at this
  | some i => simp [UO, hb]
theorem SY (s : S) : Ev TE 147 [.str s] (.bool (jC s)) := by
 refine ax Tryz.func147 rfl (by simp [nts]) (vm ?_);simp only [wq.1, seval, Tryz.results147];refine Ew.ev (q := 170) (vs := [.str s, .fn (.func 169) [] []]) (by simp only [wq.1, seval]) (by simp only [wq.1, seval]) rfl (fun _ => X5 s) (fun _ => rfl) ?_;simp only [wq.1, seval];refine aI rfl ?_;rw [SX];unfold jC
 congr 1
 have h1 : (!s == []) = decide (1 ≤ s.length) := by cases s <;> simp
 have h2 : decide ((s.length : Int) ≤ 40) = decide (s.length ≤ 40) := decide_eq_decide.2 (by omega);rw [h1, h2, Bool.and_comm]
theorem Gf (s : S) : Ev TE 114 [.str s] (.bool (jC s)) := by refine ax Tryz.func114 rfl (by simp [nts]) (vm ?_);simp only [wq.1, seval, Tryz.results114];refine ah.ev (SY s) rfl ?_;simp only [wq.1, seval];exact aG.dat rfl
theorem bD {dst : Option Tmp} {Kn : Fr → H → Prop} {Q : XE → Fr → H → Prop} {f : Fr} {v : V} {h : H} {p : Nat → Bool} : bI dst Kn Q f (.ret v) h p = ((∀ i ∈ f.d, p i = false) ∧ Kn ((f.drop p).put dst v) h) := rfl
theorem Gg : ∀ l : List Bool, V.dats (l.map V.bool) = true
 | [] => rfl
 | a :: l => by simp only [List.map_cons, V.dats, V.dat, Gg l, Bool.and_self]
theorem X6 : ∀ l : List Bool, dY 1 (l.map V.bool) = true
 | [] => rfl
 | a :: l => by simp only [List.map_cons, dY, X6 l, V.fit, V.vc, List.length_singleton]; rfl
theorem UQ : ∀ l : List Bool, (l.map V.bool).flatMap V.vc = l.map V.bool
 | [] => rfl
 | a :: l => by simp only [List.map_cons, List.flatMap_cons, V.vc, UQ l]; rfl
theorem uC : ∀ l : Cl, V.dats (l.map vi) = true
 | [] => rfl
 | a :: l => by simp only [List.map_cons, V.dats, V.dat, uC l, Bool.and_self]
theorem UR : ∀ c : Cl, dY 1 (c.map vi) = true
 | [] => rfl
 | a :: l => by simp only [List.map_cons, dY, UR l, V.fit, V.vc, List.length_singleton]; rfl
theorem NH : ∀ c : Cl, (c.map vi).flatMap V.vc = c.map vi
 | [] => rfl
 | a :: l => by simp only [List.map_cons, List.flatMap_cons, V.vc, NH l]; rfl
theorem aQ {p : Nat → Bool} : ∀ c : Cl, V.drops p (c.map vi) = c.map vi
 | [] => rfl
 | a :: l => by simp only [List.map_cons, V.drops, V.drop, aQ l]
theorem uD : ∀ l : Cl, cu (l.map vi) = true
 | [] => rfl
 | a :: l => by simp only [List.map_cons, cu, uD l, V.one, V.vc, List.length_singleton]; rfl
theorem J7 {e : E} {h : H} {id len cap : Nat} {l : List Bool} (hc : h[id]? = some (.cells (l.map V.bool))) (hl : len = l.length) : aG e h (.ls id 1 0 len cap) (EN l) :=
 aG.ls hc (aC.dat (Gg l)) (X6 l) (UQ l) (by simpa using hl)
theorem bK {e : E} {h : H} {id len cap : Nat} {l : Cl} (hc : h[id]? = some (.cells (l.map vi))) (hl : len = l.length) : aG e h (.ls id 1 0 len cap) (aF l) :=
 aG.ls hc (aC.dat (uC l)) (UR l) (NH l) (by simpa using hl)
abbrev Pr := Int × Int
abbrev prV (p : Pr) : V := .agg [vi p.1, vi p.2]
abbrev prs (l : List Pr) : V := .is false 2 (l.map prV)
structure Gr where
 ins : Int
 next : Cl
 init : Cl
 ands : List Pr
 outs : Cl
abbrev Gr.v (g : Gr) : V := .agg [vi g.ins, aF g.next, aF g.init, prs g.ands, aF g.outs]
def Gr.first (g : Gr) : Int := 1 + g.ins + g.next.length
theorem X7 (c : Cl) (q : FuncId) (caps : List V) (p : Int → Bool) (he : aj P q = true) (hd : V.dats caps = true) (hq : ∀ x ∈ c, Ev TE q (vi x :: caps) (.bool (p x))) : Ev TE 148 [aF c, .fn (.func q) [] caps] (vi (idx c p)) := by
 refine Ev.bnd fun hb => ?_;have hlen := SN hb;refine ax Tryz.func148 rfl (by simp [nts]) (vm ?_);simp only [wq.1, seval, Tryz.results148];refine aA (fun m f h => ∃ i, m + i = c.length ∧ f.t 0 = aF c ∧ f.t 1 = .fn (.func q) [] caps ∧ f.t 7 = .int .i64 (c.length : Int) ∧ f.t 8 = .int .i64 (i : Int) ∧ f.d = [] ∧ ∀ x ∈ c.take i, p x = false) c.length ⟨0, by simp, rfl, rfl, rfl, rfl, rfl, by simp⟩ ?_;rintro m f h ⟨i, hm, h0, h1, h7, h8, hdd, hall⟩;refine vm ?_;simp only [wq.1, seval, h7, h8];refine vcB.mk (fun hc => ?_) (fun hc => ?_)
 ·simp only [decide_eq_true_eq, Int.ofNat_lt] at hc;simp only [wq.1, seval, h0, h1, h8, rU hc, he];refine ⟨⟨by omega, by omega⟩, ah.ev (hq _ (List.getElem_mem _)) (by simp [V.dats, V.dat, hd]) ?_⟩;simp only [wq.1, seval];refine vcB.mk (fun hc' => ?_) (fun hc' => ?_)
  ·simp only [wq.1, seval, hdd];rw [pW hc hall hc'];exact aG.dat rfl
  ·simp only [wq.1, seval, h8, ak (show i < maxLen by omega)];exact .inl ⟨m - 1, by omega, i + 1, by omega, h0, h1, h7, rfl, hdd, bz hc hall hc'⟩
 ·simp only [decide_eq_false_iff_not, Int.ofNat_lt] at hc;simp only [wq.1, seval, hdd];rw [List.take_of_length_le (by omega)] at hall;rw [nJ hall];exact aG.dat rfl
theorem jQ (g : Gr) (h0 : -1000000000 ≤ g.ins) (h1 : g.ins ≤ 1000000000) (h2 : g.next.length ≤ 1000000000) : Ev TE 68 [g.v] (vi g.first) := by
 unfold Gr.v Gr.first
 refine ax Tryz.func68 rfl (by simp [nts]) (vm ?_);simp only [wq.1, seval, Tryz.results68];rw [bu (n := 1 + g.ins) (by omega) (by omega), bu (by omega) (by omega)];exact aG.dat rfl
theorem NI (c : Cl) (q : FuncId) (caps : List V) (p : Int → Bool) (he : aj P q = true) (hd : V.dats caps = true) (hq : ∀ x ∈ c, Ev TE q (vi x :: caps) (.bool (p x))) : Ev TE 117 [aF c, .fn (.func q) [] caps] (.bool (c.any p)) := by refine ax Tryz.func117 rfl (by simp [nts]) (vm ?_);simp only [wq.1, seval, Tryz.results117];refine ah.ev (X7 c q caps p he hd hq) (by simp [V.dats, V.dat, hd]) ?_;simp only [wq.1, seval];exact aI rfl (by rw [Nz])
def uF (all a : Int) : Bool := decide (a < 0) || decide (all ≤ a)
theorem NJ (all a : Int) : Ev TE 115 [vi a, .ip (vi all)] (.bool (uF all a)) := by refine ax Tryz.func115 rfl (by simp [nts]) (vm ?_);simp only [wq.1, seval, Tryz.results115];exact aI rfl rfl
def J8 (a : Int) : Bool := decide (a < 0) || decide (2 < a)
theorem V8 (a : Int) : Ev TE 116 [vi a] (.bool (J8 a)) := by refine ax Tryz.func116 rfl (by simp [nts]) (vm ?_);simp only [wq.1, seval, Tryz.results116];exact aI rfl rfl
def Gr.all (g : Gr) : Int := 2 * (g.first + g.ands.length)
def UT (own : Int) (p : Pr) : Bool := decide (p.1 < 0) || decide (p.2 < 0) || decide (own ≤ p.1) || decide (own ≤ p.2)
def Gr.lim (g : Gr) : Bool := decide (g.ins < 0) || decide (4000 < g.ins) || decide (4000 < g.ins + g.next.length + g.ands.length) || decide (4000 < (g.outs.length : Int))
def Gr.oddR (g : Gr) : Bool := (g.init.length != g.next.length) || g.init.any J8 || g.next.any (uF g.all) || g.outs.any (uF g.all)
def Gr.oddAs (g : Gr) (n : Nat) : Bool := (List.range n).any fun i => UT (2 * (g.first + i)) (g.ands.getD i (0, 0))
def Gr.chk (g : Gr) : Int := if g.lim then 8 else if g.oddR then 1 else if g.oddAs g.ands.length then 1 else 0
structure Gr.Sm (g : Gr) : Prop where
 next : g.next.length ≤ 200000000000000
 ands : g.ands.length ≤ 200000000000000
def X8 : Plan := .take 2 <| .alt 0 (.alt 1 (.alt 3 (.alt 4 (.alt 5 (.alt 6 (.one 7 <| .one 8 <| .fin) (.one 7 (.one 6 <| .one 8 <| .fin))) (.one 7 (.one 5 <| .one 6 <| .one 8 <| .fin))) (.one 7 (.one 4 <| .one 5 <| .one 6 <| .one 8 <| .fin))) (.one 7 (.one 3 <| .one 4 <| .one 5 <| .one 6 <| .one 8 <| .fin))) (.alt 3 (.alt 1 (.alt 4 (.alt 5 (.alt 6 (.one 7 <| .one 8 <| .fin) (.one 7 (.one 6 <| .one 8 <| .fin))) (.one 7 (.one 5 <| .one 6 <| .one 8 <| .fin))) (.one 7 (.one 4 <| .one 5 <| .one 6 <| .one 8 <| .fin))) (.alt 4 (.alt 1 (.alt 5 (.alt 6 (.one 7 <| .one 8 <| .fin) (.one 7 (.one 6 <| .one 8 <| .fin))) (.one 7 (.one 5 <| .one 6 <| .one 8 <| .fin))) (.one 7 (.one 1 <| .one 5 <| .one 6 <| .one 8 <| .fin))) (.one 7 (.alt 1 (.one 4 <| .one 5 <| .one 6 <| .one 8 <| .fin) (.one 4 (.one 1 <| .one 5 <| .one 6 <| .one 8 <| .fin)))))) (.one 7 (.alt 1 (.one 3 <| .one 4 <| .one 5 <| .one 6 <| .one 8 <| .fin) (.one 3 (.alt 1 (.one 4 <| .one 5 <| .one 6 <| .one 8 <| .fin) (.one 4 (.one 1 <| .one 5 <| .one 6 <| .one 8 <| .fin)))))))) (.alt 3 (.alt 0 (.alt 1 (.alt 4 (.alt 5 (.alt 6 (.one 7 <| .one 8 <| .fin) (.one 7 (.one 6 <| .one 8 <| .fin))) (.one 7 (.one 5 <| .one 6 <| .one 8 <| .fin))) (.one 7 (.one 4 <| .one 5 <| .one 6 <| .one 8 <| .fin))) (.alt 4 (.alt 1 (.alt 5 (.alt 6 (.one 7 <| .one 8 <| .fin) (.one 7 (.one 6 <| .one 8 <| .fin))) (.one 7 (.one 5 <| .one 6 <| .one 8 <| .fin))) (.one 7 (.one 1 <| .one 5 <| .one 6 <| .one 8 <| .fin))) (.one 7 (.alt 1 (.one 4 <| .one 5 <| .one 6 <| .one 8 <| .fin) (.one 4 (.one 1 <| .one 5 <| .one 6 <| .one 8 <| .fin)))))) (.alt 4 (.alt 0 (.alt 1 (.alt 5 (.alt 6 (.one 7 <| .one 8 <| .fin) (.one 7 (.one 6 <| .one 8 <| .fin))) (.one 7 (.one 5 <| .one 6 <| .one 8 <| .fin))) (.one 7 (.one 1 <| .one 5 <| .one 6 <| .one 8 <| .fin))) (.one 7 (.one 0 <| .one 1 <| .one 5 <| .one 6 <| .one 8 <| .fin))) (.one 7 (.alt 0 (.alt 1 (.one 4 <| .one 5 <| .one 6 <| .one 8 <| .fin) (.one 4 (.one 1 <| .one 5 <| .one 6 <| .one 8 <| .fin))) (.one 4 (.one 0 <| .one 1 <| .one 5 <| .one 6 <| .one 8 <| .fin)))))) (.one 7 (.alt 0 (.alt 1 (.one 3 <| .one 4 <| .one 5 <| .one 6 <| .one 8 <| .fin) (.one 3 (.alt 1 (.one 4 <| .one 5 <| .one 6 <| .one 8 <| .fin) (.one 4 (.one 1 <| .one 5 <| .one 6 <| .one 8 <| .fin))))) (.one 3 (.alt 0 (.alt 1 (.one 4 <| .one 5 <| .one 6 <| .one 8 <| .fin) (.one 4 (.one 1 <| .one 5 <| .one 6 <| .one 8 <| .fin))) (.one 4 (.one 0 <| .one 1 <| .one 5 <| .one 6 <| .one 8 <| .fin)))))))
set_option maxHeartbeats 8000000 in
theorem qN (g : Gr) (hs : g.Sm) : Ev TE 66 [g.v] (vi g.chk) := by
 obtain ⟨hs1, hs2⟩ := hs;unfold Gr.v;refine ax Tryz.func66 rfl (by simp [nts]) (vm ?_);simp only [wq.1, seval, Tryz.results66];have hins : g.lim = false → 0 ≤ g.ins ∧ g.ins ≤ 4000 ∧ g.ins + g.next.length + g.ands.length ≤ 4000 ∧ (g.outs.length : Int) ≤ 4000 := by intro h;simp only [Gr.lim, Bool.or_eq_false_iff, decide_eq_false_iff_not] at h;omega
 have hl : (decide (g.ins < 0) || decide (4000 < g.ins) || decide (4000 < IntKind.i64.wrap (IntKind.i64.wrap (g.ins + (g.next.length : Int)) + (g.ands.length : Int))) || decide (4000 < (g.outs.length : Int))) = g.lim := by
  unfold Gr.lim;by_cases a1 : g.ins < 0
  ·simp [a1]
  by_cases a2 : 4000 < g.ins
  ·simp [a2]
  rw [bu (n := g.ins + (g.next.length : Int)) (by omega) (by omega), bu (by omega) (by omega)]
 rw [hl];refine vcB.mk (fun hc => ?_) (fun hc => ?_)
 ·simp only [wq.1, seval];exact aI rfl (by unfold Gr.chk; rw [if_pos hc])
 ·obtain ⟨i0, i1, i2, i3⟩ := hins hc;simp only [wq.1];refine bg mixed X8 (fun f' h' => f'.t 1 = .lp 0 0 ∧ f'.t 3 = .lp 1 0 ∧ f'.d = [] ∧ h' = [.cells [vi g.ins, aF g.next, aF g.init, prs g.ands, aF g.outs], .cells [vi g.all]]) (by decide +kernel) (by decide +kernel) ?_ ?_
  ·simp only [wq.1, seval, X8];have wf : g.first = 1 + g.ins + g.next.length := rfl
   have w1 : IntKind.i64.wrap (g.first + (g.ands.length : Int)) = g.first + g.ands.length := bu (by omega) (by omega)
   have w2 : IntKind.i64.wrap (2 * (g.first + (g.ands.length : Int))) = g.all := bu (by omega) (by omega);have hfi := jQ g (by omega) (by omega) (by omega);unfold Gr.v at hfi;have dg : V.dats [.agg [vi g.ins, aF g.next, aF g.init, prs g.ands, aF g.outs]] = true := by simp only [V.dats, V.dat, Bool.and_self]
   repeat' apply And.intro
   all_goals (refine ah.ev hfi dg ?_)
   all_goals (simp only [wq.1, seval, w1, w2])
   all_goals (first | exact ⟨rfl, rfl, rfl, rfl⟩ | trace_state)
  ·rintro f h ⟨h1, h3, hd, rfl⟩;have hlim : g.lim = false := hc;have fin1 : g.oddR = true → aG TE [.cells [vi g.ins, aF g.next, aF g.init, prs g.ands, aF g.outs], .cells [vi g.all]] (vi 1) (vi g.chk) := fun h => aI rfl (by unfold Gr.chk; rw [hlim, h]; rfl);by_cases e : g.init.length = g.next.length
   ·have e1 : ((g.init.length : Int) != (g.next.length : Int)) = false := by simp [e]
    simp only [wq.1, seval, h1, h3, e1];refine ah.ev (NI g.init 116 [] J8 rfl rfl fun x _ => V8 x) rfl ?_;cases hA : g.init.any J8 with
    | true => simp only [wq.1, seval, h1];refine ⟨.bool true, ?_⟩;simp only [wq.1, seval];refine ⟨.bool true, ?_⟩;simp only [wq.1, seval, hd];exact fin1 (by simp [Gr.oddR, hA])
    | false =>
     simp only [wq.1, seval, h1];have rf : aC TE [.cells [vi g.ins, aF g.next, aF g.init, prs g.ands, aF g.outs], .cells [vi g.all]] [.fn (.func 115) [] [.lp 1 0]] [.fn (.func 115) [] [.ip (vi g.all)]] :=
      aC.cons (aG.fn aC.nil (aC.cons (aG.lp rfl (aC.dat rfl) rfl rfl (by simp [V.vc]) rfl) aC.nil)) aC.nil
     refine ah.lend (NI g.next 115 [.ip (vi g.all)] (uF g.all) rfl rfl fun x _ => NJ g.all x) (aC.cons (aG.dat rfl) rf) rfl ?_;cases hB : g.next.any (uF g.all) with
     | true => simp only [wq.1, seval, h1];refine ⟨.bool true, ?_⟩;simp only [wq.1, seval, hd];exact fin1 (by simp [Gr.oddR, hB])
     | false =>
      simp only [wq.1, seval, h1];refine ah.lend (NI g.outs 115 [.ip (vi g.all)] (uF g.all) rfl rfl fun x _ => NJ g.all x) (aC.cons (aG.dat rfl) rf) rfl ?_;cases hC : g.outs.any (uF g.all) with
      | true => simp only [wq.1, seval, hd];exact fin1 (by simp [Gr.oddR, hC])
      | false =>
       simp only [wq.1, seval, h1];refine aA (fun m f h => ∃ i G, m + i = g.ands.length ∧ f.t 1 = .lp 0 0 ∧ f.t 70 = prs g.ands ∧ f.t 71 = vi g.ands.length ∧ f.t 72 = vi i ∧ f.d = [] ∧ h = [.cells [vi g.ins, aF g.next, aF g.init, prs g.ands, aF g.outs], .cells [vi g.all]] ++ G ∧ g.oddAs i = false) g.ands.length ⟨0, [], by simp, by simp only [wq.1, seval, h1], by simp only [wq.1, seval], by simp only [wq.1, seval], rfl, by simp only [wq.1, hd], by simp, rfl⟩ ?_;rintro m f h ⟨i, G, hm, h1, h70, h71, h72, hd, rfl, hno⟩;refine vm ?_;simp only [wq.1, seval, h71, h72];refine vcB.mk (fun hlt => ?_) (fun hlt => ?_)
       ·simp only [decide_eq_true_eq, Int.ofNat_lt] at hlt;have hg : (g.ands.map prV).getD i .any = prV g.ands[i] := jL hlt _;have hM : maxLen = 9223372036854775807 := rfl;have hgE : ∀ x : O, (G ++ [x])[G.length]? = some x := fun x => by simp
        have hgS : ∀ x y : O, (G ++ [x]).set G.length y = G ++ [y] := fun x y => by simp
        have dg : V.dats [.agg [vi g.ins, aF g.next, aF g.init, prs g.ands, aF g.outs]] = true := by simp only [V.dats, V.dat, Bool.and_self]
        have wf : g.first = 1 + g.ins + g.next.length := rfl
        have w1 : IntKind.i64.wrap (g.first + (i : Int)) = g.first + i := bu (by omega) (by omega)
        have w2 : IntKind.i64.wrap (2 * (g.first + (i : Int))) = 2 * (g.first + i) := bu (by omega) (by omega);have hfi := jQ g (by omega) (by omega) (by omega);unfold Gr.v at hfi;simp only [wq.1, ↓reduceIte, Nat.reduceEqDiff, Nat.reduceLT, Nat.reduceLeDiff, Nat.reduceAdd, Nat.reduceSub, Int.reduceToNat, Nat.reduceDiv, Int.reduceLT, Int.reduceLE, Int.reduceNeg, Int.reduceBEq, Int.reduceBNe, Int.reduceAdd, Int.reduceSub, Nat.reduceBEq, reduceCtorEq, Nat.reduceMul, au, Tryz.results66, h1, h70, h71, h72, hd, hg, Int.toNat_natCast, hgE, hgS, List.drop_nil];refine ⟨⟨by omega, by omega⟩, ah.ev hfi dg ?_⟩;simp only [wq.1, ↓reduceIte, Nat.reduceEqDiff, Nat.reduceLT, Nat.reduceLeDiff, Nat.reduceAdd, Nat.reduceSub, Int.reduceToNat, Nat.reduceDiv, Int.reduceLT, Int.reduceLE, Int.reduceNeg, Int.reduceBEq, Int.reduceBNe, Int.reduceAdd, Int.reduceSub, Nat.reduceBEq, reduceCtorEq, Nat.reduceMul, au, Tryz.results66, bD, h1, h70, h71, h72, hd, w1, w2, hgE, hgS, ak (show i < maxLen by omega)];refine ⟨by decide, fun _ => by decide, fun _ => by decide, fun _ => by decide, vcB.mk (fun hb => ?_) (fun hb => ?_)⟩
        ·simp only [wq.1, ↓reduceIte, Nat.reduceLT, hd];refine aI rfl ?_;unfold Gr.chk;rw [hlim, if_neg (by simp), if_neg (by simp [Gr.oddR, e, hA, hB, hC]), if_pos];simp only [Gr.oddAs, List.any_eq_true, List.mem_range];refine ⟨i, hlt, ?_⟩;rw [aO hlt];exact hb
        ·simp only [wq.1, seval, h72, ak (show i < maxLen by omega)];refine .inl ⟨m - 1, by omega, i + 1, G ++ [.cells [vi g.ands[i].1, vi g.ands[i].2]], by omega, h1, h70, h71, rfl, hd, rfl, ?_⟩;simp only [Gr.oddAs, List.range_succ, List.any_append, List.any_cons, List.any_nil, Bool.or_false, Bool.or_eq_false_iff];refine ⟨hno, ?_⟩;rw [aO hlt];exact hb
       ·simp only [decide_eq_false_iff_not, Int.ofNat_lt] at hlt;simp only [wq.1, seval, hd];have hi : i = g.ands.length := by omega
        refine aI rfl ?_;unfold Gr.chk;rw [hlim, if_neg (by simp), if_neg (by simp [Gr.oddR, e, hA, hB, hC]), ← hi, hno];rfl
   ·have e1 : ((g.init.length : Int) != (g.next.length : Int)) = true := by simpa [Int.natCast_inj] using e
    simp only [wq.1, seval, h1, h3, e1];refine ⟨.bool true, ?_⟩;simp only [wq.1, seval, h1];refine ⟨.bool true, ?_⟩;simp only [wq.1, seval];refine ⟨.bool true, ?_⟩;simp only [wq.1, seval, hd];exact fin1 (by simp [Gr.oddR, e])
theorem J9 (n : Nat) (hn : n ≤ 1000000000) (h : H) (R : AEnd → H → (Nat → Bool) → Prop) (hr0 : n = 0 → R (.ret .nils) h (fun _ => false))
 (hr : 0 < n → R (.ret (.ls h.length 1 0 0 n)) (h ++ [.cells (List.replicate n (.str []))]) (fun _ => false)) : ah TE 95 [.nils, vi n] h R := by
 refine ay Tryz.func95 rfl (by simp [nts]) ?_;refine ag (vm ?_);simp only [wq.1, Nat.reduceLT, Tryz.results95];refine ag ?_;refine vm ?_;simp only [wq.1, seval];refine vcB.mk (fun hc => ?_) (fun hc => ?_)
 ·simp only [decide_eq_true_eq] at hc; omega
 simp only [wq.1];refine ag (ag (gK ?_));refine aB rfl rfl ?_;simp only [wq.1, seval];refine aB rfl rfl ?_;simp only [wq.1, seval];refine dO rfl rfl ?_;have hq : ti TE.P 26 = some ⟨.slice 9, 1, 24, .nils⟩ := by simp only [wq.1]
 have hqe : ti TE.P 9 = some ⟨.str, 1, 16, .str []⟩ := by simp only [wq.1]
 have hqi : ti TE.P 3 = some ⟨.int .i64, 1, 8, .int .i64 0⟩ := by simp only [wq.1]
 refine jM (t := 26) rfl rfl hq rfl trivial rfl ?_;refine aB rfl rfl ?_;simp only [wq.1, seval];refine aB rfl rfl ?_;simp only [wq.1, ↓reduceIte];refine aB rfl rfl ?_;simp only [wq.1, seval];refine aB rfl rfl ?_;simp only [wq.1, seval];refine aB rfl rfl ?_;simp only [wq.1, ↓reduceIte];have w0 : IntKind.i64.wrap 0 = 0 := by decide
 have w1 : IntKind.i64.wrap ((n : Int) - 0) = n := by rw [Int.sub_zero]; exact bu (by omega) (by omega)
 refine eX ?_;simp only [wq.1, w0, w1];refine ag ?_;refine vm ?_;simp only [wq.1, seval];refine gJ (b := decide ((0 : Int) < n)) (by simp only [wq.1, ↓reduceIte]) (by simp only [wq.1, ↓reduceIte]) (fun hb => ?_) (fun hb => ?_)
 ·have hpos : 0 < n := by simp only [decide_eq_true_eq] at hb; omega
  refine gK ?_;refine aB rfl rfl ?_;simp only [wq.1, seval];refine aB rfl rfl ?_;simp only [wq.1, seval];refine dO rfl rfl ?_;refine jM (t := 26) rfl rfl hq rfl trivial rfl ?_;refine dO rfl rfl ?_;refine nY rfl hq rfl hqe (by simp only [wq.1, seval]) (by simp only [wq.1, seval]) (by simp only [wq.1, ↓reduceIte]) (k := .i64) (by simp only [wq.1, ↓reduceIte]) ?_;refine aB rfl rfl ?_;simp only [wq.1, seval];refine dO rfl rfl ?_;refine mP (x := .tmp 20) (y := .tmp 21) (t := 26) (xt := 3) (el := 9) ⟨⟨_, rfl, rfl, rfl⟩, hq, rfl, hqe, rfl, rfl, Nat.zero_lt_one⟩ (by simp only [wq.1, seval]) (by simp only [wq.1, ↓reduceIte]) (by simp only [wq.1, seval]) (by simp only [wq.1, ↓reduceIte]) hqi rfl hpos (by omega) ?_ rfl (zv := .str []) rfl ?_
  ·show n * 16 ≤ _;omega
  refine aB rfl rfl ?_;simp only [wq.1, seval];refine aB rfl rfl ?_;simp only [wq.1, ↓reduceIte];refine aB rfl rfl ?_;simp only [wq.1, seval];refine ⟨by omega, ?_⟩;refine aB rfl rfl ?_;simp only [wq.1, ↓reduceIte];refine eX ?_;simp only [wq.1];refine vm ?_;simp only [wq.1, seval];exact hr hpos
 ·have : n = 0 := by simp only [decide_eq_false_iff_not] at hb; omega
  refine vm ?_;simp only [wq.1];refine vm ?_;simp only [wq.1, seval];exact hr0 this
theorem Ko {α : Type} (ls : List (List α)) (i : Nat) : ls.flatten = (ls.take i).flatten ++ (ls.drop i).flatten := by rw [← List.flatten_append, List.take_append_drop]
theorem iD {α : Type} {ls : List (List α)} {i : Nat} (h : i < ls.length) : (ls.take (i + 1)).flatten = (ls.take i).flatten ++ ls[i] := by rw [List.take_add_one, List.flatten_append]; simp [h]
theorem sO {α : Type} {ls : List (List α)} {i : Nat} (h : i < ls.length) : (ls.take i).flatten.length + ls[i].length ≤ ls.flatten.length := by have h1 := congrArg List.length (Ko ls (i + 1));rw [iD h] at h1;simp only [List.length_append] at h1;omega
def Zm (n : Nat) (c : List S) (v : V) (h : H) : Prop :=
 (c = [] ∧ v = .nils ∧ h = [] ∧ n = 0) ∨ (c.length ≤ n ∧ v = .ls 0 1 0 c.length n ∧ h = [.cells (c.map V.str ++ List.replicate (n - c.length) (.str []))])
theorem S9 (n : Nat) (hn : n ≤ 1000000000) (R : AEnd → H → (Nat → Bool) → Prop) (hr : ∀ v h, Zm n [] v h → R (.ret v) h (fun _ => false)) : ah TE 95 [.nils, vi n] [] R :=
 J9 n hn [] R (fun hz => hr _ _ (.inl ⟨rfl, rfl, rfl, hz⟩)) (fun hz => hr _ _ (.inr ⟨Nat.zero_le _, rfl, rfl⟩))
theorem yS : ∀ l : List S, cu (l.map V.str) = true
 | [] => rfl
 | a :: l => by simp only [List.map_cons, cu, yS l, V.one, V.vc, List.length_singleton]; rfl
theorem EO (c l : List S) (n : Nat) (h : c.length + l.length ≤ n) : dR (c.map V.str ++ List.replicate (n - c.length) (.str [])) c.length (l.map V.str) = (c ++ l).map V.str ++ List.replicate (n - (c ++ l).length) (.str []) := by
 unfold dR;have e1 : (c.map V.str ++ List.replicate (n - c.length) (V.str [])).take c.length = c.map V.str := by
  simp
 have e2 : (c.map V.str ++ List.replicate (n - c.length) (V.str [])).drop (c.length + (l.map V.str).length) = List.replicate (n - (c ++ l).length) (V.str []) := by
  rw [List.drop_append];have : (c.map V.str).drop (c.length + (l.map V.str).length) = [] := List.drop_of_length_le (by simp);rw [this, List.nil_append, List.drop_replicate]
  congr 1
  simp only [List.length_map, List.length_append];omega
 rw [e1, e2, List.map_append]
theorem EP (ls : List (List S)) (hn : ls.flatten.length ≤ 1000000000) (hls : ls.length ≤ 1000000000) : EvF TE 50 [.is true 1 (ls.map aV)] 1 ls.flatten.length (ls.flatten.map V.str) := by
 have hM : maxLen = 9223372036854775807 := rfl;have hget : ∀ {i : Nat} (h : i < ls.length) (d : V), (ls.map aV).getD i d = aV ls[i] := fun h d => jL h d;unfold EvF;refine ay Tryz.func50 rfl (by simp [nts]) (vm ?_);simp only [wq.1, seval, Tryz.results50];refine aA (fun m f h => ∃ i, m + i = ls.length ∧ f.t 0 = .is true 1 (ls.map aV) ∧ f.t 3 = vi (ls.take i).flatten.length ∧ f.t 9 = .is true 1 (ls.map aV) ∧ f.t 10 = vi ls.length ∧ f.t 11 = vi i ∧ f.d = [] ∧ h = []) ls.length ⟨0, by simp, rfl, rfl, rfl, by simp only [wq.1, seval], rfl, rfl, rfl⟩ ?_;rintro m f h ⟨i, hm, h0, h3, h9, h10, h11, hd, rfl⟩;refine vm ?_;simp only [wq.1, seval, h10, h11];refine vcB.mk (fun hc => ?_) (fun hc => ?_)
 ·simp only [decide_eq_true_eq, Int.ofNat_lt] at hc;have hfl := sO hc;have hw : IntKind.i64.wrap (((ls.take i).flatten.length : Int) + (ls[i].length : Int)) = ((ls.take (i + 1)).flatten.length : Int) := by
   rw [iD hc, List.length_append, dD (by omega) (by omega)]; omega
  simp only [wq.1, seval, h3, h9, h11, hget hc, hw];refine ⟨⟨by omega, by omega⟩, vcB.mk (fun hc' => ?_) (fun hc' => ?_)⟩
  ·simp only [decide_eq_true_eq] at hc'; omega
  ·simp only [wq.1, seval, h11, ak (show i < maxLen by omega)];exact .inl ⟨m - 1, by omega, i + 1, by omega, h0, rfl, h9, h10, rfl, hd, rfl⟩
 ·simp only [decide_eq_false_iff_not, Int.ofNat_lt] at hc;have hi : ls.take i = ls := List.take_of_length_le (by omega);rw [hi] at h3;simp only [wq.1, seval, h3];refine S9 ls.flatten.length hn _ (fun v0 h0' hcat => ?_);simp only [wq.1, seval, h0];refine aA (fun m f h => ∃ i v, m + i = ls.length ∧ f.t 25 = .is true 1 (ls.map aV) ∧ f.t 26 = vi ls.length ∧ f.t 27 = vi i ∧ f.t 6 = v ∧ f.d = [] ∧ Zm ls.flatten.length (ls.take i).flatten v h) ls.length ⟨0, v0, by simp, by simp only [wq.1, seval], by simp only [wq.1, seval], rfl, rfl, by simp only [wq.1, hd], by simpa using hcat⟩ ?_;rintro m f h ⟨i, v, hm, h25, h26, h27, h6, hd, hcat⟩;refine vm ?_;simp only [wq.1, seval, h26, h27];refine vcB.mk (fun hc => ?_) (fun hc => ?_)
  ·simp only [decide_eq_true_eq, Int.ofNat_lt] at hc;have hfl := sO hc;have hnext : f.t 27 = vi i → IntKind.i64.wrap ((i : Int) + 1) = ((i + 1 : Nat) : Int) := fun _ => ak (by omega);rcases hcat with ⟨hc0, rfl, rfl, hn0⟩ | ⟨hcl, rfl, rfl⟩
   ·have hl0 : ls[i] = [] := List.eq_nil_of_length_eq_zero (by omega);simp only [wq.1, seval, h25, h27, h6, hget hc, hl0, ak (show i < maxLen by omega)];refine ⟨⟨by omega, by omega⟩, by omega, .inl ⟨m - 1, by omega, i + 1, _, by omega, h25, h26, rfl, rfl, hd, ?_⟩⟩;right;rw [iD hc, hl0, hc0, hn0];exact ⟨Nat.le_refl _, rfl, rfl⟩
   ·by_cases hlt : (ls.take i).flatten.length < ls.flatten.length
    ·have hdt : decide ((ls.take i).flatten.length < ls.flatten.length) = true := by simpa using hlt
     simp only [wq.1, seval, h25, h27, h6, hget hc, ak (show i < maxLen by omega), yS, hdt];refine ⟨⟨by omega, by omega⟩, ⟨by omega, by omega, by rw [List.length_replicate]; omega⟩, .inl ⟨m - 1, by omega, i + 1, _, by omega, h25, h26, rfl, rfl, hd, ?_⟩⟩;right;rw [iD hc];refine ⟨by rw [List.length_append]; omega, by simp only [wq.1, seval], ?_⟩;have hsp := EO (ls.take i).flatten ls[i] ls.flatten.length hfl;unfold dR at hsp;rw [List.length_map] at hsp;rw [Nat.mul_one, hsp]
    ·have hdt : decide ((ls.take i).flatten.length < ls.flatten.length) = false := by simpa using hlt
     have hl0 : ls[i] = [] := List.eq_nil_of_length_eq_zero (by omega);have hne : (ls.take i).flatten.length = ls.flatten.length := by omega
     simp only [wq.1, seval, h25, h27, h6, hd, hget hc, ak (show i < maxLen by omega), hdt, hl0];refine ⟨⟨by omega, by omega⟩, ⟨by rw [List.length_replicate]; omega, by omega, by omega⟩, .inl ⟨m - 1, by omega, i + 1, _, by omega, by simp only [wq.1, seval, h25], by simp only [wq.1, seval, h26], rfl, rfl, hd, ?_⟩⟩;right;rw [iD hc, hl0, List.append_nil, hne, Nat.sub_self];refine ⟨Nat.le_refl _, by simp only [wq.1, seval], ?_⟩;simp only [List.replicate_zero, V.drops]
  ·simp only [decide_eq_false_iff_not, Int.ofNat_lt] at hc;have hi : ls.take i = ls := List.take_of_length_le (by omega);rw [hi] at hcat;simp only [wq.1, seval, h6, hd];rcases hcat with ⟨hc0, rfl, rfl, hn0⟩ | ⟨hcl, rfl, rfl⟩
   ·exact .inl ⟨rfl, hn0, by rw [hc0]; rfl⟩
   ·rw [Nat.sub_self, List.replicate_zero, List.append_nil];exact .inr ⟨0, _, rfl, Nat.le_refl _, rfl⟩
theorem qO (ls : List (List S)) (hn : ls.flatten.length ≤ 1000000000) (hls : ls.length ≤ 1000000000) : Ev TE 50 [.is true 1 (ls.map aV)] (aV ls.flatten) := by
 refine (EP ls hn hls).ev (fun _ hc => ?_) (fun h' id cap _ hid => fH hid rfl) (fun _ hc h' => ?_)
 ·rw [List.map_eq_nil_iff.1 hc];exact jy
 ·rw [List.map_eq_nil_iff.1 hc]; exact aG.nils
theorem EQ (n : Nat) (hn : n ≤ 1000000000) (h : H) (R : AEnd → H → (Nat → Bool) → Prop) (hr0 : n = 0 → R (.ret .nils) h (fun _ => false))
 (hr : 0 < n → R (.ret (.ls h.length 1 0 0 n)) (h ++ [.cells (List.replicate n (.int .i64 0))]) (fun _ => false)) : ah TE 144 [.nils, vi n] h R := by
 refine ay Tryz.func144 rfl (by simp [nts]) ?_;refine ag (vm ?_);simp only [wq.1, Nat.reduceLT, Tryz.results144];refine ag ?_;refine vm ?_;simp only [wq.1, seval];refine vcB.mk (fun hc => ?_) (fun hc => ?_)
 ·simp only [decide_eq_true_eq] at hc; omega
 simp only [wq.1];refine ag (ag (gK ?_));refine aB rfl rfl ?_;simp only [wq.1, seval];refine aB rfl rfl ?_;simp only [wq.1, seval];refine dO rfl rfl ?_;have hq : ti TE.P 22 = some ⟨.slice 3, 1, 24, .nils⟩ := by simp only [wq.1]
 have hqe : ti TE.P 3 = some ⟨.int .i64, 1, 8, .int .i64 0⟩ := by simp only [wq.1]
 have hqi : ti TE.P 3 = some ⟨.int .i64, 1, 8, .int .i64 0⟩ := by simp only [wq.1]
 refine jM (t := 22) rfl rfl hq rfl trivial rfl ?_;refine aB rfl rfl ?_;simp only [wq.1, seval];refine aB rfl rfl ?_;simp only [wq.1, ↓reduceIte];refine aB rfl rfl ?_;simp only [wq.1, seval];refine aB rfl rfl ?_;simp only [wq.1, seval];refine aB rfl rfl ?_;simp only [wq.1, ↓reduceIte];have w0 : IntKind.i64.wrap 0 = 0 := by decide
 have w1 : IntKind.i64.wrap ((n : Int) - 0) = n := by rw [Int.sub_zero]; exact bu (by omega) (by omega)
 refine eX ?_;simp only [wq.1, w0, w1];refine ag ?_;refine vm ?_;simp only [wq.1, seval];refine gJ (b := decide ((0 : Int) < n)) (by simp only [wq.1, ↓reduceIte]) (by simp only [wq.1, ↓reduceIte]) (fun hb => ?_) (fun hb => ?_)
 ·have hpos : 0 < n := by simp only [decide_eq_true_eq] at hb; omega
  refine gK ?_;refine aB rfl rfl ?_;simp only [wq.1, seval];refine aB rfl rfl ?_;simp only [wq.1, seval];refine dO rfl rfl ?_;refine jM (t := 22) rfl rfl hq rfl trivial rfl ?_;refine dO rfl rfl ?_;refine nY rfl hq rfl hqe (by simp only [wq.1, seval]) (by simp only [wq.1, seval]) (by simp only [wq.1, ↓reduceIte]) (k := .i64) (by simp only [wq.1, ↓reduceIte]) ?_;refine aB rfl rfl ?_;simp only [wq.1, seval];refine dO rfl rfl ?_;refine mP (x := .tmp 20) (y := .tmp 21) (t := 22) (xt := 3) (el := 3) ⟨⟨_, rfl, rfl, rfl⟩, hq, rfl, hqe, rfl, rfl, Nat.zero_lt_one⟩ (by simp only [wq.1, seval]) (by simp only [wq.1, ↓reduceIte]) (by simp only [wq.1, seval]) (by simp only [wq.1, ↓reduceIte]) hqi rfl hpos (by omega) ?_ rfl (zv := .int .i64 0) rfl ?_
  ·show n * 8 ≤ _;omega
  refine aB rfl rfl ?_;simp only [wq.1, seval];refine aB rfl rfl ?_;simp only [wq.1, ↓reduceIte];refine aB rfl rfl ?_;simp only [wq.1, seval];refine ⟨by omega, ?_⟩;refine aB rfl rfl ?_;simp only [wq.1, ↓reduceIte];refine eX ?_;simp only [wq.1];refine vm ?_;simp only [wq.1, seval];exact hr hpos
 ·have : n = 0 := by simp only [decide_eq_false_iff_not] at hb; omega
  refine vm ?_;simp only [wq.1];refine vm ?_;simp only [wq.1, seval];exact hr0 this
def X9 (n : Nat) (c : List Int) (v : V) (h : H) : Prop :=
 (c = [] ∧ v = .nils ∧ h = [] ∧ n = 0) ∨ (c.length ≤ n ∧ v = .ls 0 1 0 c.length n ∧ h = [.cells (c.map vi ++ List.replicate (n - c.length) (.int .i64 0))])
theorem NK (n : Nat) (hn : n ≤ 1000000000) (R : AEnd → H → (Nat → Bool) → Prop) (hr : ∀ v h, X9 n [] v h → R (.ret v) h (fun _ => false)) : ah TE 144 [.nils, vi n] [] R :=
 EQ n hn [] R (fun hz => hr _ _ (.inl ⟨rfl, rfl, rfl, hz⟩)) (fun hz => hr _ _ (.inr ⟨Nat.zero_le _, rfl, rfl⟩))
theorem rE {p : Nat → Bool} : ∀ l : List Int, V.drops p (l.map vi) = l.map vi
 | [] => rfl
 | a :: l => by simp only [List.map_cons, V.drops, V.drop, rE l]
theorem BH : ∀ l : List Int, cu (l.map vi) = true
 | [] => rfl
 | a :: l => by simp only [List.map_cons, cu, BH l, V.one, V.vc, List.length_singleton]; rfl
theorem BI (c l : List Int) (n : Nat) (h : c.length + l.length ≤ n) : dR (c.map vi ++ List.replicate (n - c.length) (.int .i64 0)) c.length (l.map vi) = (c ++ l).map vi ++ List.replicate (n - (c ++ l).length) (.int .i64 0) := by
 unfold dR;have e1 : (c.map vi ++ List.replicate (n - c.length) (V.int .i64 0)).take c.length = c.map vi := by
  simp
 have e2 : (c.map vi ++ List.replicate (n - c.length) (V.int .i64 0)).drop (c.length + (l.map vi).length) = List.replicate (n - (c ++ l).length) (V.int .i64 0) := by
  rw [List.drop_append];have : (c.map vi).drop (c.length + (l.map vi).length) = [] := List.drop_of_length_le (by simp);rw [this, List.nil_append, List.drop_replicate]
  congr 1
  simp only [List.length_map, List.length_append];omega
 rw [e1, e2, List.map_append]
theorem rF (ls : List (List Int)) (hn : ls.flatten.length ≤ 1000000000) (hls : ls.length ≤ 1000000000) : EvF TE 106 [.is true 1 (ls.map aF)] 1 ls.flatten.length (ls.flatten.map vi) := by
 have hM : maxLen = 9223372036854775807 := rfl;have hget : ∀ {i : Nat} (h : i < ls.length) (d : V), (ls.map aF).getD i d = aF ls[i] := fun h d => jL h d;unfold EvF;refine ay Tryz.func106 rfl (by simp [nts]) (vm ?_);simp only [wq.1, seval, Tryz.results106];refine aA (fun m f h => ∃ i, m + i = ls.length ∧ f.t 0 = .is true 1 (ls.map aF) ∧ f.t 3 = vi (ls.take i).flatten.length ∧ f.t 9 = .is true 1 (ls.map aF) ∧ f.t 10 = vi ls.length ∧ f.t 11 = vi i ∧ f.d = [] ∧ h = []) ls.length ⟨0, by simp, rfl, rfl, rfl, by simp only [wq.1, seval], rfl, rfl, rfl⟩ ?_;rintro m f h ⟨i, hm, h0, h3, h9, h10, h11, hd, rfl⟩;refine vm ?_;simp only [wq.1, seval, h10, h11];refine vcB.mk (fun hc => ?_) (fun hc => ?_)
 ·simp only [decide_eq_true_eq, Int.ofNat_lt] at hc;have hfl := sO hc;have hw : IntKind.i64.wrap (((ls.take i).flatten.length : Int) + (ls[i].length : Int)) = ((ls.take (i + 1)).flatten.length : Int) := by
   rw [iD hc, List.length_append, dD (by omega) (by omega)]; omega
  simp only [wq.1, seval, h3, h9, h11, hget hc, hw];refine ⟨⟨by omega, by omega⟩, vcB.mk (fun hc' => ?_) (fun hc' => ?_)⟩
  ·simp only [decide_eq_true_eq] at hc'; omega
  ·simp only [wq.1, seval, h11, ak (show i < maxLen by omega)];exact .inl ⟨m - 1, by omega, i + 1, by omega, h0, rfl, h9, h10, rfl, hd, rfl⟩
 ·simp only [decide_eq_false_iff_not, Int.ofNat_lt] at hc;have hi : ls.take i = ls := List.take_of_length_le (by omega);rw [hi] at h3;simp only [wq.1, seval, h3];refine NK ls.flatten.length hn _ (fun v0 h0' hcat => ?_);simp only [wq.1, seval, h0];refine aA (fun m f h => ∃ i v, m + i = ls.length ∧ f.t 25 = .is true 1 (ls.map aF) ∧ f.t 26 = vi ls.length ∧ f.t 27 = vi i ∧ f.t 6 = v ∧ f.d = [] ∧ X9 ls.flatten.length (ls.take i).flatten v h) ls.length ⟨0, v0, by simp, by simp only [wq.1, seval], by simp only [wq.1, seval], rfl, rfl, by simp only [wq.1, hd], by simpa using hcat⟩ ?_;rintro m f h ⟨i, v, hm, h25, h26, h27, h6, hd, hcat⟩;refine vm ?_;simp only [wq.1, seval, h26, h27];refine vcB.mk (fun hc => ?_) (fun hc => ?_)
  ·simp only [decide_eq_true_eq, Int.ofNat_lt] at hc;have hfl := sO hc;have hnext : f.t 27 = vi i → IntKind.i64.wrap ((i : Int) + 1) = ((i + 1 : Nat) : Int) := fun _ => ak (by omega);rcases hcat with ⟨hc0, rfl, rfl, hn0⟩ | ⟨hcl, rfl, rfl⟩
   ·have hl0 : ls[i] = [] := List.eq_nil_of_length_eq_zero (by omega);simp only [wq.1, seval, h25, h27, h6, hget hc, hl0, ak (show i < maxLen by omega)];refine ⟨⟨by omega, by omega⟩, by omega, .inl ⟨m - 1, by omega, i + 1, _, by omega, h25, h26, rfl, rfl, hd, ?_⟩⟩;right;rw [iD hc, hl0, hc0, hn0];exact ⟨Nat.le_refl _, rfl, rfl⟩
   ·by_cases hlt : (ls.take i).flatten.length < ls.flatten.length
    ·have hdt : decide ((ls.take i).flatten.length < ls.flatten.length) = true := by simpa using hlt
     simp only [wq.1, seval, h25, h27, h6, hget hc, ak (show i < maxLen by omega), BH, hdt];refine ⟨⟨by omega, by omega⟩, ⟨by omega, by omega, by rw [List.length_replicate]; omega⟩, .inl ⟨m - 1, by omega, i + 1, _, by omega, h25, h26, rfl, rfl, hd, ?_⟩⟩;right;rw [iD hc];refine ⟨by rw [List.length_append]; omega, by simp only [wq.1, seval], ?_⟩;have hsp := BI (ls.take i).flatten ls[i] ls.flatten.length hfl;unfold dR at hsp;rw [List.length_map] at hsp;rw [Nat.mul_one, hsp]
    ·have hdt : decide ((ls.take i).flatten.length < ls.flatten.length) = false := by simpa using hlt
     have hl0 : ls[i] = [] := List.eq_nil_of_length_eq_zero (by omega);have hne : (ls.take i).flatten.length = ls.flatten.length := by omega
     simp only [wq.1, seval, h25, h27, h6, hd, hget hc, ak (show i < maxLen by omega), hdt, hl0, rE];refine ⟨⟨by omega, by omega⟩, ⟨by rw [List.length_replicate]; omega, by omega, by omega⟩, .inl ⟨m - 1, by omega, i + 1, _, by omega, by simp only [wq.1, seval, h25], by simp only [wq.1, seval, h26], rfl, rfl, hd, ?_⟩⟩;right;rw [iD hc, hl0, List.append_nil, hne, Nat.sub_self];refine ⟨Nat.le_refl _, by simp only [wq.1, seval], ?_⟩;simp only [List.replicate_zero, V.drops]
  ·simp only [decide_eq_false_iff_not, Int.ofNat_lt] at hc;have hi : ls.take i = ls := List.take_of_length_le (by omega);rw [hi] at hcat;simp only [wq.1, seval, h6, hd];rcases hcat with ⟨hc0, rfl, rfl, hn0⟩ | ⟨hcl, rfl, rfl⟩
   ·exact .inl ⟨rfl, hn0, by rw [hc0]; rfl⟩
   ·rw [Nat.sub_self, List.replicate_zero, List.append_nil];exact .inr ⟨0, _, rfl, Nat.le_refl _, rfl⟩
theorem ER (ls : List (List Int)) (hn : ls.flatten.length ≤ 1000000000) (hls : ls.length ≤ 1000000000) : Ev TE 106 [.is true 1 (ls.map aF)] (aF ls.flatten) := by
 refine (rF ls hn hls).ev (fun _ hc => ?_) (fun h' id cap _ hid => bK hid (by simp)) (fun _ hc h' => ?_)
 ·rw [List.map_eq_nil_iff.1 hc];exact jy
 ·rw [List.map_eq_nil_iff.1 hc]; exact aG.nils
end Go.Proofs.YtfcpapokknfeeaaGreatDoor
