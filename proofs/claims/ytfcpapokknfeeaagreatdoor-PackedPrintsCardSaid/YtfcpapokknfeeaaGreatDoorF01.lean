/- Lemmas for the statement of this claim, part F01: they hold with no conditions but those that each one names. -/
import Derived.Test.YtfcpapokknfeeaaGreatDoorP0
import Derived.Test.YtfcpapokknfeeaaGreatDoorA10
import Derived.Test.YtfcpapokknfeeaaGreatDoorA9
set_option linter.unusedVariables false
set_option maxRecDepth 20000
set_option linter.unusedSimpArgs false
set_option linter.unnecessarySimpa false
namespace Go.Proofs.YtfcpapokknfeeaaGreatDoor
open Go Go.Proofs Go.Abs
abbrev Cl := List Int
abbrev vi (n : Int) : V := .int .i64 n
abbrev zo (c : Cl) : V := .is false 1 (c.map vi)
abbrev cls (l : List Cl) : V := .is false 1 (l.map fun c => zo c)
theorem zjX {l : Cl} {r : List V} (hb : V.bnds (zo l :: r)) : l.length ≤ maxLen := by
 simp only [V.bnds, V.bnd, List.length_map] at hb
 exact hb.1.1
theorem zeL {l : Cl} {i : Nat} (h : i < l.length) (d : V) : (List.map vi l).getD i d = vi l[i] := zbQ h _
def lit (vars a : Int) : Bool := decide (a ≠ 0) && (decide (-vars ≤ a) && decide (a ≤ vars))
theorem zD {n : Int} (h1 : -9223372036854775808 ≤ n) (h2 : n ≤ 9223372036854775807) : IntKind.i64.wrap n = n := zad h1 (by omega)
theorem zJ {α : Type} {l : List α} {i : Nat} (h : i < l.length) {P : α → Prop} (h1 : ∀ s ∈ l.take i, P s) (h2 : P l[i]) : ∀ s ∈ l.take (i + 1), P s := by
 intro s hs
 rw [List.take_add_one] at hs
 simp only [h, List.getElem?_eq_getElem, Option.toList_some, List.mem_append, List.mem_singleton] at hs
 rcases hs with hs | rfl
 ·exact h1 s hs
 ·exact h2
def chk (l : List Cl) (vars : Int) : Int :=
 if (decide (vars < 0) || decide (20000 < vars) || decide (100000 < l.length)) = true then 8
 else if (l.all fun c => c.all (lit vars)) = true then 0 else 1
theorem zqj {α : Type} {a b : List α} {i : Nat} (h : a.take i = b.take i) (ha : i < a.length) (hb : i < b.length) (he : a[i] = b[i]) : a.take (i + 1) = b.take (i + 1) := by
 rw [List.take_add_one, List.take_add_one, h]
 simp [ha, hb, he]
theorem zqk (a b : Cl) : Ev TE 127 [zo a, zo b] (.bool (a == b)) := by
 refine Ev.bnd fun hb => ?_
 have hlen := zjX hb
 refine zh Tryz.func127 rfl (by simp [nts]) (vm ?_)
 simp only [wq.down, seval, Tryz.results127]
 refine vcB.mk (fun hc => ?_) (fun hc => ?_)
 ·simp only [wq.down, seval]
  refine zr rfl ?_
  simp only [bne_iff_ne, ne_eq, Int.natCast_inj] at hc
  have : ¬ a = b := fun h => hc (by rw [h])
  simp [this]
 ·have hl : a.length = b.length := by simpa [Int.natCast_inj] using hc
  simp only [wq.down, Nat.reduceLT]
  refine zp (fun m f h => ∃ i, m + i = a.length ∧ f.t 0 = zo a ∧ f.t 1 = zo b ∧ f.t 5 = .int .i64 (i : Int) ∧ f.d = [] ∧ a.take i = b.take i) a.length ⟨0, by simp, rfl, rfl, rfl, rfl, by simp⟩ ?_
  rintro m f h ⟨i, hm, h0, h1, h5, hd, hall⟩
  refine vm ?_
  simp only [wq.down, seval, h0, h5]
  refine vcB.mk (fun hc => ?_) (fun hc => ?_)
  ·simp only [decide_eq_true_eq, Int.ofNat_lt] at hc
   have hc2 : i < b.length := by omega
   simp only [wq.down, seval, h0, h1, h5, zeL hc, zeL hc2]
   refine ⟨by decide +kernel, ⟨by omega, by omega⟩, ⟨by omega, by omega⟩, vcB.mk (fun hc => ?_) (fun hc => ?_)⟩
   ·simp only [wq.down, seval, hd]
    refine zr rfl ?_
    have : ¬ a = b := fun h => by subst h; simp at hc
    simp [this]
   ·simp only [wq.down, seval, h5, zi (show i < maxLen by omega)]
    exact .inl ⟨m - 1, by omega, i + 1, by omega, h0, h1, rfl, hd, zqj hall (by omega) (by omega) (by simpa using hc)⟩
  ·simp only [decide_eq_false_iff_not, Int.ofNat_lt] at hc
   simp only [wq.down, seval, hd]
   refine zr rfl ?_
   rw [List.take_of_length_le (by omega), List.take_of_length_le (by omega)] at hall
   simp [hall]
abbrev zjc (l : List Bool) : V := .is false 1 (l.map V.bool)
theorem ztc {l : List Bool} {i : Nat} (h : i < l.length) (d : V) : (List.map V.bool l).getD i d = .bool l[i] := zbQ h _
theorem zw {α : Type} {l : List α} {i : Nat} {d : α} (h : i < l.length) : l.getD i d = l[i] := by simp [List.getD_eq_getElem?_getD, h]
def hol (vs : List Bool) (a : Int) : Bool := if a < 0 then !(vs.getD (-a - 1).toNat false) else vs.getD (a - 1).toNat false
def hld (on : Cl) (a : Int) : Bool := if a < 0 then on.getD (-a).toNat 0 == -1 else on.getD a.toNat 0 == 1
def idx {α : Type} (l : List α) (p : α → Bool) : Int := match l.findIdx? p with | some i => i | none => -1
theorem zeW {α : Type} {l : List α} {p : α → Bool} {i : Nat} (h : i < l.length) (hn : ∀ x ∈ l.take i, p x = false) (hb : p l[i] = true) : idx l p = i := by
 have : l.findIdx? p = some i := by
  rw [List.findIdx?_eq_some_iff_getElem]
  refine ⟨h, hb, fun j hj => ?_⟩
  have : l[j] ∈ l.take i := by
   rw [List.mem_take_iff_getElem]
   exact ⟨j, by omega, rfl⟩
  simp [hn _ this]
 simp [idx, this]
theorem zdO {α : Type} {l : List α} {p : α → Bool} (hn : ∀ x ∈ l, p x = false) : idx l p = -1 := by
 have : l.findIdx? p = none := by
  rw [List.findIdx?_eq_none_iff]
  simpa using hn
 simp [idx, this]
theorem zmH {α : Type} (l : List α) (p : α → Bool) : decide (0 ≤ idx l p) = l.any p := by
 cases h : l.any p with
 | false =>
  rw [zdO (by simpa using h)]
  rfl
 | true =>
  have : ∃ x ∈ l, p x = true := by simpa using h
  unfold idx
  cases hb : l.findIdx? p with
  | none =>
   obtain ⟨x, hx, hx2⟩ := this
   have := (List.findIdx?_eq_none_iff.1 hb) x hx
   simp [hx2] at this
  | some i => simp
abbrev S := List UInt8
abbrev zT (l : List S) : V := .is false 1 (l.map V.str)
theorem zcs {l : List S} {r : List V} (hb : V.bnds (zT l :: r)) : l.length ≤ maxLen := by
 simp only [V.bnds, V.bnd, List.length_map] at hb
 exact hb.1.1
theorem zmI {l : List S} {i : Nat} (h : i < l.length) (d : V) : (List.map V.str l).getD i d = .str l[i] := zbQ h _
def zk7 (n : Nat) (l : List S) : Bool := decide (l.length ≤ n) && l.all fun s => decide (s.length ≤ 60)
theorem zft (l : List S) (n : Nat) : Ev TE 24 [zT l, .int .i64 n] (.bool (zk7 n l)) := by
 refine Ev.bnd fun hb => ?_
 have hlen := zcs hb
 refine zh Tryz.func24 rfl (by simp [nts]) (vm ?_)
 simp only [wq.down, Nat.reduceLT, Tryz.results24]
 refine zp (fun m f h => ∃ i, m + i = l.length ∧ f.t 0 = zT l ∧ f.t 1 = .int .i64 n ∧ f.t 5 = .int .i64 (i : Int) ∧ f.d = [] ∧ ∀ s ∈ l.take i, s.length ≤ 60) l.length ⟨0, by simp, rfl, rfl, rfl, rfl, by simp⟩ ?_
 rintro m f h ⟨i, hm, h0, h1, h5, hd, hall⟩
 refine vm ?_
 simp only [wq.down, seval, h0, h1, h5]
 refine vcB.mk (fun hc => ?_) (fun hc => ?_)
 ·simp only [Bool.and_eq_true, decide_eq_true_eq, Int.ofNat_lt, Int.ofNat_le] at hc
  obtain ⟨hc1, hc2⟩ := hc
  simp only [wq.down, seval, h0, h5, zmI hc1]
  refine ⟨⟨by omega, by omega⟩, vcB.mk (fun hc => ?_) (fun hc => ?_)⟩
  ·simp only [wq.down, seval, hd]
   have : zk7 n l = false := by
    simp only [decide_eq_true_eq] at hc
    have hx : ∃ x ∈ l, ¬ x.length ≤ 60 := ⟨l[i], List.getElem_mem _, by omega⟩
    simpa [zk7] using fun _ => hx
   rw [this]
   exact zn.dat rfl
  ·simp only [wq.down, seval, h5, zi (show i < maxLen by omega)]
   refine .inl ⟨m - 1, by omega, i + 1, by omega, h0, h1, rfl, hd, ?_⟩
   simp only [decide_eq_false_iff_not] at hc
   intro s hs
   rw [List.take_add_one] at hs
   simp only [hc1, List.getElem?_eq_getElem, Option.toList_some, List.mem_append, List.mem_singleton] at hs
   rcases hs with hs | rfl
   ·exact hall s hs
   ·omega
 ·simp only [wq.down, seval, h0, h1, hd]
  have : (decide ((l.length : Int) ≤ n)) = zk7 n l := by
   simp only [Bool.and_eq_false_iff, decide_eq_false_iff_not, Int.ofNat_lt, Int.ofNat_le] at hc
   by_cases hi : i < l.length
   ·have h2 : ¬ l.length ≤ n := by omega
    simp [zk7, h2]
   ·rw [List.take_of_length_le (by omega)] at hall
    have : (l.all fun s => decide (s.length ≤ 60)) = true := by simpa using hall
    simp [zk7, this]
  rw [this]
  exact zn.dat rfl
theorem zrB (l : List S) (s : S) : Ev TE 152 [zT l, .str s] (.bool (l.contains s)) := by
 refine Ev.bnd fun hb => ?_
 have hlen := zcs hb
 refine zh Tryz.func152 rfl (by simp [nts]) (vm ?_)
 simp only [wq.down, Nat.reduceLT, Tryz.results152]
 refine zp (fun m f h => ∃ i, m + i = l.length ∧ f.t 0 = zT l ∧ f.t 1 = .str s ∧ f.t 5 = .int .i64 (i : Int) ∧ f.d = [] ∧ ∀ x ∈ l.take i, ¬ x = s) l.length ⟨0, by simp, rfl, rfl, rfl, rfl, by simp⟩ ?_
 rintro m f h ⟨i, hm, h0, h1, h5, hd, hall⟩
 refine vm ?_
 simp only [wq.down, seval, h0, h5]
 refine vcB.mk (fun hc => ?_) (fun hc => ?_)
 ·simp only [decide_eq_true_eq, Int.ofNat_lt] at hc
  simp only [wq.down, seval, h0, h1, h5, zmI hc]
  refine ⟨⟨by omega, by omega⟩, vcB.mk (fun hc' => ?_) (fun hc' => ?_)⟩
  ·simp only [wq.down, seval, hd]
   refine zr rfl ?_
   have he : l[i] = s := by simpa using hc'
   have : s ∈ l := he ▸ List.getElem_mem _
   simp [this]
  ·simp only [wq.down, seval, h5, zi (show i < maxLen by omega)]
   exact .inl ⟨m - 1, by omega, i + 1, by omega, h0, h1, rfl, hd, zJ hc hall (by simpa using hc')⟩
 ·simp only [decide_eq_false_iff_not, Int.ofNat_lt] at hc
  simp only [wq.down, seval, hd]
  refine zr rfl ?_
  rw [List.take_of_length_le (by omega)] at hall
  have : ¬ s ∈ l := fun h => hall s h rfl
  simp [this]
def zaN (c : UInt8) : Bool := decide (33 ≤ c.toNat) && decide (c.toNat ≤ 126)
def zbH (s : S) : Bool := s.all zaN && (decide (1 ≤ s.length) && decide (s.length ≤ 40))
theorem zsF {s : S} {i : Nat} (h : i < s.length) : s.getD i 0 = s[i] := by
 simp [List.getD_eq_getElem?_getD, h]
theorem zow (s : S) : Ev TE 151 [.str s] (.bool (zbH s)) := by
 refine Ev.bnd fun hb => ?_
 have hlen : s.length ≤ maxLen := hb.1
 refine zh Tryz.func151 rfl (by simp [nts]) (vm ?_)
 simp only [wq.down, Nat.reduceLT, Tryz.results151]
 refine zp (fun m f h => ∃ i, m + i = s.length ∧ f.t 0 = .str s ∧ f.t 3 = .int .i64 (i : Int) ∧ f.d = [] ∧ ∀ x ∈ s.take i, zaN x = true) s.length ⟨0, by simp, rfl, rfl, rfl, by simp⟩ ?_
 rintro m f h ⟨i, hm, h0, h5, hd, hall⟩
 refine vm ?_
 simp only [wq.down, seval, h0, h5]
 refine vcB.mk (fun hc => ?_) (fun hc => ?_)
 ·simp only [decide_eq_true_eq, Int.ofNat_lt] at hc
  simp only [wq.down, seval, h0, h5, zsF hc]
  refine ⟨⟨by omega, by omega⟩, fun h => ⟨h, by omega, by omega⟩, vcB.mk (fun hc' => ?_) (fun hc' => ?_)⟩
  ·simp only [wq.down, seval, hd]
   refine zr rfl ?_
   have hx : ∃ x ∈ s, ¬ zaN x = true := ⟨s[i], List.getElem_mem _, by simp [zaN] at hc' ⊢; omega⟩
   have : s.all zaN = false := by simpa using hx
   simp [zbH, this]
  ·simp only [wq.down, seval, h5, zi (show i < maxLen by omega)]
   exact .inl ⟨m - 1, by omega, i + 1, by omega, h0, rfl, hd, zJ hc hall (by simp [zaN] at hc' ⊢; omega)⟩
 ·simp only [decide_eq_false_iff_not, Int.ofNat_lt] at hc
  simp only [wq.down, seval, h0, hd]
  refine zr rfl ?_
  rw [List.take_of_length_le (by omega)] at hall
  have : s.all zaN = true := by simpa using hall
  simp only [zbH, this, Bool.true_and, V.bool.injEq]
  congr 1 <;> exact decide_eq_decide.2 (by omega)
def zrC (l : List S) : Bool := decide l.Nodup
theorem zk8 {l : List S} {i : Nat} (h : i < l.length) (hn : (l.take i).Nodup) (hc : ¬ l[i] ∈ l.take i) : (l.take (i + 1)).Nodup := by
 rw [List.take_add_one]
 simp only [h, List.getElem?_eq_getElem, Option.toList_some]
 rw [List.nodup_append]
 refine ⟨hn, by simp, ?_⟩
 intro a ha b hb hab
 simp only [List.mem_singleton] at hb
 subst hb; subst hab
 exact hc ha
theorem zmJ {l : List S} {i : Nat} (h : i < l.length) (hc : l[i] ∈ l.take i) : ¬ l.Nodup := by
 intro hn
 obtain ⟨j, hj, he⟩ := List.mem_iff_getElem.1 hc
 simp only [List.length_take] at hj
 rw [List.getElem_take] at he
 have := (List.getElem_inj (h₀ := by omega) (h₁ := h) hn).1 he
 omega
theorem zmK (l : List S) : Ev TE 122 [zT l] (.bool (zrC l)) := by
 refine Ev.bnd fun hb => ?_
 have hlen := zcs hb
 refine zh Tryz.func122 rfl (by simp [nts]) (vm ?_)
 simp only [wq.down, Nat.reduceLT, Tryz.results122]
 refine zp (fun m f h => ∃ i, m + i = l.length ∧ f.t 0 = zT l ∧ f.t 3 = .int .i64 (i : Int) ∧ f.d = [] ∧ (l.take i).Nodup) l.length ⟨0, by simp, rfl, rfl, rfl, by simp⟩ ?_
 rintro m f h ⟨i, hm, h0, h5, hd, hall⟩
 refine vm ?_
 simp only [wq.down, seval, h0, h5]
 refine vcB.mk (fun hc => ?_) (fun hc => ?_)
 ·simp only [decide_eq_true_eq, Int.ofNat_lt] at hc
  have hs : List.take i (List.map V.str l) = List.map V.str (l.take i) := (List.map_take ..).symm
  simp only [wq.down, seval, h0, h5, zmI hc, hs]
  refine ⟨by decide +kernel, ⟨by omega, by omega⟩, ⟨by omega, by omega⟩, zeb.mk (zrB _ _) rfl rfl ?_⟩
  simp only [wq.down, ↓reduceIte]
  refine vcB.mk (fun hc' => ?_) (fun hc' => ?_)
  ·simp only [wq.down, seval, hd]
   refine zr rfl ?_
   have := zmJ hc (by simpa using hc')
   simp [zrC, this]
  ·simp only [wq.down, seval, h5, zi (show i < maxLen by omega)]
   exact .inl ⟨m - 1, by omega, i + 1, by omega, h0, rfl, hd, zk8 hc hall (by simpa using hc')⟩
 ·simp only [decide_eq_false_iff_not, Int.ofNat_lt] at hc
  simp only [wq.down, seval, hd]
  refine zr rfl ?_
  rw [List.take_of_length_le (by omega)] at hall
  simp [zrC, hall]
def zrD (n : Int) : Bool := decide (n ≤ 32) || decide (126 < n)
theorem zrE (n : Int) : Ev TE 169 [.int .i32 n] (.bool (zrD n)) := by
 refine zh Tryz.func169 rfl (by simp [nts]) (vm ?_)
 simp only [wq.down, seval, Tryz.results169]
 exact zr rfl rfl
theorem zmL {s : S} {i : Nat} (h : i < s.length) (hb : s[i].toNat < 128) : zjT s i = (s[i].toNat, 1) := by
 unfold zjT Utf8.decode
 have : ((ByteArray.mk s.toArray).get! (i + 0)).toNat = s[i].toNat := by
  simp [ByteArray.get!, h]
 simp only [this]
 rw [if_pos hb]
theorem zox {s : S} {i : Nat} (h : i < s.length) (hb : ¬ s[i].toNat < 128) : 128 ≤ (zjT s i).1 := by
 unfold zjT Utf8.decode
 have : ((ByteArray.mk s.toArray).get! (i + 0)).toNat = s[i].toNat := by
  simp [ByteArray.get!, h]
 simp only [this]
 rw [if_neg hb]
 repeat' split
 all_goals first
  | (simp [Utf8.runeError]; done)
  | (rename_i hc; simp only [Bool.and_eq_true, decide_eq_true_eq, ge_iff_le] at hc; dsimp only; omega)
  | (rename_i hc; simp only [ge_iff_le] at hc; dsimp only; omega)
theorem zoy {s : S} {i : Nat} (h : i < s.length) : zrD (zjT s i).1 = !zaN s[i] := by
 by_cases hb : s[i].toNat < 128
 ·rw [zmL h hb]
  refine Bool.eq_iff_iff.2 ?_
  simp only [zrD, zaN, Bool.or_eq_true, decide_eq_true_eq, Bool.not_eq_true', Bool.and_eq_false_iff, decide_eq_false_iff_not]
  omega
 ·have := zox h hb
  have h1 : zrD (zjT s i).1 = true := by simp only [zrD, Bool.or_eq_true, decide_eq_true_eq]; omega
  have h2 : zaN s[i] = false := by simp only [zaN, Bool.and_eq_false_iff, decide_eq_false_iff_not]; omega
  rw [h1, h2]; rfl
def zk9 (s : S) : Option Nat := s.findIdx? fun c => !zaN c
def zpn (s : S) : Int := match zk9 s with | some i => i | none => -1
theorem zmM {s : S} {i : Nat} (h : i < s.length) (hn : ∀ x ∈ s.take i, zaN x = true) (hb : zaN s[i] = false) : zpn s = i := by
 have : zk9 s = some i := by
  unfold zk9
  rw [List.findIdx?_eq_some_iff_getElem]
  refine ⟨h, by simp [hb], fun j hj => ?_⟩
  have : s[j] ∈ s.take i := by
   rw [List.mem_take_iff_getElem]
   exact ⟨j, by omega, rfl⟩
  simp [hn _ this]
 simp [zpn, this]
theorem zhX {s : S} (hn : ∀ x ∈ s, zaN x = true) : zpn s = -1 := by
 have : zk9 s = none := by
  unfold zk9
  rw [List.findIdx?_eq_none_iff]
  simpa using hn
 simp [zpn, this]
theorem zrF (s : S) : Ev TE 192 [.str s, .fn (.func 169) [] [], .bool true] (.int .i64 (zpn s)) := by
 refine Ev.bnd fun hb => ?_
 have hlen : s.length ≤ maxLen := hb.1
 refine zh Tryz.func192 rfl (by simp [nts]) (vm ?_)
 simp only [wq.down, seval, Tryz.results192]
 refine zp (fun m f h => ∃ i, m + i = s.length ∧ f.t 1 = .fn (.func 169) [] [] ∧ f.t 2 = .bool true ∧ f.t 10 = .lp 0 0 ∧ f.d = [] ∧ h = [.misc (.siter s i)] ∧ ∀ x ∈ s.take i, zaN x = true) s.length ⟨0, by simp, rfl, rfl, rfl, rfl, rfl, by simp⟩ ?_
 rintro m f h ⟨i, hm, h1, h2, h10, hd, rfl, hall⟩
 refine vm ?_
 simp only [wq.down, seval, h10]
 refine zcJ.mk (fun hc => ?_) (fun hc => ?_)
 ·simp only [decide_eq_true_eq] at hc
  simp only [wq.down, seval, h1, zcJ]
  refine zb.ev (zrE _) rfl ?_
  rw [zoy hc]
  simp only [wq.down, seval, h2]
  refine vcB.mk (fun hc' => ?_) (fun hc' => ?_)
  ·have hb : zaN s[i] = false := by simpa using hc'
   simp only [wq.down, seval, hd]
   rw [zmM hc hall hb]
   exact zn.dat rfl
  ·have hb : zaN s[i] = true := by simpa using hc'
   have h128 : s[i].toNat < 128 := by
    simp only [zaN, Bool.and_eq_true, decide_eq_true_eq] at hb
    omega
   simp only [wq.down, Int.reduceNeg]
   exact .inl ⟨m - 1, by omega, i + 1, by omega, h1, h2, h10, hd, by rw [zmL hc h128], zJ hc hall hb⟩
 ·simp only [decide_eq_false_iff_not] at hc
  simp only [wq.down, seval, hd, zcJ]
  rw [List.take_of_length_le (by omega)] at hall
  rw [zhX hall]
  exact zn.dat rfl
theorem zrG (s : S) : Ev TE 170 [.str s, .fn (.func 169) [] []] (.int .i64 (zpn s)) := by
 refine zh Tryz.func170 rfl (by simp [nts]) (vm ?_)
 simp only [wq.down, seval, Tryz.results170]
 refine zb.ev (zrF s) rfl ?_
 simp only [wq.down, seval]
 exact zn.dat rfl
theorem zoz (s : S) : decide (zpn s < 0) = s.all zaN := by
 cases h : s.all zaN with
 | true =>
  rw [zhX (by simpa using h)]
  rfl
 | false =>
  have : ∃ x ∈ s, zaN x = false := by simpa using h
  cases hb : zk9 s with
  | none =>
   obtain ⟨x, hx, hx2⟩ := this
   have := (List.findIdx?_eq_none_iff.1 hb) x hx
   simp [hx2] at this
  | some i => simp [zpn, hb]
theorem zoA (s : S) : Ev TE 147 [.str s] (.bool (zbH s)) := by
 refine zh Tryz.func147 rfl (by simp [nts]) (vm ?_)
 simp only [wq.down, seval, Tryz.results147]
 refine zi0.ev (q := 170) (vs := [.str s, .fn (.func 169) [] []]) (by simp only [wq.down, seval]) (by simp only [wq.down, seval]) rfl (fun _ => zrG s) (fun _ => rfl) ?_
 simp only [wq.down, seval]
 refine zr rfl ?_
 rw [zoz]
 unfold zbH
 congr 1
 have h1 : (!s == []) = decide (1 ≤ s.length) := by cases s <;> simp
 have h2 : decide ((s.length : Int) ≤ 40) = decide (s.length ≤ 40) := decide_eq_decide.2 (by omega)
 rw [h1, h2, Bool.and_comm]
theorem zjY (s : S) : Ev TE 114 [.str s] (.bool (zbH s)) := by
 refine zh Tryz.func114 rfl (by simp [nts]) (vm ?_)
 simp only [wq.down, seval, Tryz.results114]
 refine zb.ev (zoA s) rfl ?_
 simp only [wq.down, seval]
 exact zn.dat rfl
theorem zX {dst : Option Tmp} {Kn : Fr → H → Prop} {Q : XE → Fr → H → Prop} {f : Fr} {v : V} {h : H} {p : Nat → Bool} : z8 dst Kn Q f (.ret v) h p = ((∀ i ∈ f.d, p i = false) ∧ Kn ((f.drop p).put dst v) h) := rfl
theorem zmN : ∀ l : List Bool, V.dats (l.map V.bool) = true
 | [] => rfl
 | a :: l => by simp only [List.map_cons, V.dats, V.dat, zmN l, Bool.and_self]
theorem zrH : ∀ l : List Bool, zat 1 (l.map V.bool) = true
 | [] => rfl
 | a :: l => by simp only [List.map_cons, zat, zrH l, V.fit, V.vc, List.length_singleton]; rfl
theorem zpo : ∀ l : List Bool, (l.map V.bool).flatMap V.vc = l.map V.bool
 | [] => rfl
 | a :: l => by simp only [List.map_cons, List.flatMap_cons, V.vc, zpo l]; rfl
theorem zej : ∀ l : Cl, V.dats (l.map vi) = true
 | [] => rfl
 | a :: l => by simp only [List.map_cons, V.dats, V.dat, zej l, Bool.and_self]
theorem zmO : ∀ c : Cl, zat 1 (c.map vi) = true
 | [] => rfl
 | a :: l => by simp only [List.map_cons, zat, zmO l, V.fit, V.vc, List.length_singleton]; rfl
theorem zjd : ∀ c : Cl, (c.map vi).flatMap V.vc = c.map vi
 | [] => rfl
 | a :: l => by simp only [List.map_cons, List.flatMap_cons, V.vc, zjd l]; rfl
theorem zB {p : Nat → Bool} : ∀ c : Cl, V.drops p (c.map vi) = c.map vi
 | [] => rfl
 | a :: l => by simp only [List.map_cons, V.drops, V.drop, zB l]
theorem zhY : ∀ l : Cl, zZ (l.map vi) = true
 | [] => rfl
 | a :: l => by simp only [List.map_cons, zZ, zhY l, V.one, V.vc, List.length_singleton]; rfl
theorem zla {e : E} {h : H} {id len cap : Nat} {l : List Bool} (hc : h[id]? = some (.cells (l.map V.bool))) (hl : len = l.length) : zn e h (.ls id 1 0 len cap) (zjc l) :=
 zn.ls hc (zj.dat (zmN l)) (zrH l) (zpo l) (by simpa using hl)
theorem z7 {e : E} {h : H} {id len cap : Nat} {l : Cl} (hc : h[id]? = some (.cells (l.map vi))) (hl : len = l.length) : zn e h (.ls id 1 0 len cap) (zo l) :=
 zn.ls hc (zj.dat (zej l)) (zmO l) (zjd l) (by simpa using hl)
abbrev Pr := Int × Int
abbrev prV (p : Pr) : V := .agg [vi p.1, vi p.2]
abbrev prs (l : List Pr) : V := .is false 2 (l.map prV)
structure Gr where
 ins : Int
 next : Cl
 init : Cl
 ands : List Pr
 outs : Cl
abbrev Gr.v (g : Gr) : V := .agg [vi g.ins, zo g.next, zo g.init, prs g.ands, zo g.outs]
def Gr.first (g : Gr) : Int := 1 + g.ins + g.next.length
theorem zrI (c : Cl) (q : FuncId) (caps : List V) (p : Int → Bool) (he : zf P q = true) (hd : V.dats caps = true) (hq : ∀ x ∈ c, Ev TE q (vi x :: caps) (.bool (p x))) : Ev TE 148 [zo c, .fn (.func q) [] caps] (vi (idx c p)) := by
 refine Ev.bnd fun hb => ?_
 have hlen := zjX hb
 refine zh Tryz.func148 rfl (by simp [nts]) (vm ?_)
 simp only [wq.down, seval, Tryz.results148]
 refine zp (fun m f h => ∃ i, m + i = c.length ∧ f.t 0 = zo c ∧ f.t 1 = .fn (.func q) [] caps ∧ f.t 7 = .int .i64 (c.length : Int) ∧ f.t 8 = .int .i64 (i : Int) ∧ f.d = [] ∧ ∀ x ∈ c.take i, p x = false) c.length ⟨0, by simp, rfl, rfl, rfl, rfl, rfl, by simp⟩ ?_
 rintro m f h ⟨i, hm, h0, h1, h7, h8, hdd, hall⟩
 refine vm ?_
 simp only [wq.down, seval, h7, h8]
 refine vcB.mk (fun hc => ?_) (fun hc => ?_)
 ·simp only [decide_eq_true_eq, Int.ofNat_lt] at hc
  simp only [wq.down, seval, h0, h1, h8, zeL hc, he]
  refine ⟨⟨by omega, by omega⟩, zb.ev (hq _ (List.getElem_mem _)) (by simp [V.dats, V.dat, hd]) ?_⟩
  simp only [wq.down, seval]
  refine vcB.mk (fun hc' => ?_) (fun hc' => ?_)
  ·simp only [wq.down, seval, hdd]
   rw [zeW hc hall hc']
   exact zn.dat rfl
  ·simp only [wq.down, seval, h8, zi (show i < maxLen by omega)]
   exact .inl ⟨m - 1, by omega, i + 1, by omega, h0, h1, h7, rfl, hdd, zJ hc hall hc'⟩
 ·simp only [decide_eq_false_iff_not, Int.ofNat_lt] at hc
  simp only [wq.down, seval, hdd]
  rw [List.take_of_length_le (by omega)] at hall
  rw [zdO hall]
  exact zn.dat rfl
theorem zct (g : Gr) (h0 : -1000000000 ≤ g.ins) (h1 : g.ins ≤ 1000000000) (h2 : g.next.length ≤ 1000000000) : Ev TE 68 [g.v] (vi g.first) := by
 unfold Gr.v Gr.first
 refine zh Tryz.func68 rfl (by simp [nts]) (vm ?_)
 simp only [wq.down, seval, Tryz.results68]
 rw [zD (n := 1 + g.ins) (by omega) (by omega), zD (by omega) (by omega)]
 exact zn.dat rfl
theorem zmP (c : Cl) (q : FuncId) (caps : List V) (p : Int → Bool) (he : zf P q = true) (hd : V.dats caps = true) (hq : ∀ x ∈ c, Ev TE q (vi x :: caps) (.bool (p x))) : Ev TE 117 [zo c, .fn (.func q) [] caps] (.bool (c.any p)) := by
 refine zh Tryz.func117 rfl (by simp [nts]) (vm ?_)
 simp only [wq.down, seval, Tryz.results117]
 refine zb.ev (zrI c q caps p he hd hq) (by simp [V.dats, V.dat, hd]) ?_
 simp only [wq.down, seval]
 exact zr rfl (by rw [zmH])
def zfu (all a : Int) : Bool := decide (a < 0) || decide (all ≤ a)
theorem zmQ (all a : Int) : Ev TE 115 [vi a, .ip (vi all)] (.bool (zfu all a)) := by
 refine zh Tryz.func115 rfl (by simp [nts]) (vm ?_)
 simp only [wq.down, seval, Tryz.results115]
 exact zr rfl rfl
def zlb (a : Int) : Bool := decide (a < 0) || decide (2 < a)
theorem zql (a : Int) : Ev TE 116 [vi a] (.bool (zlb a)) := by
 refine zh Tryz.func116 rfl (by simp [nts]) (vm ?_)
 simp only [wq.down, seval, Tryz.results116]
 exact zr rfl rfl
def Gr.all (g : Gr) : Int := 2 * (g.first + g.ands.length)
def zpp (own : Int) (p : Pr) : Bool := decide (p.1 < 0) || decide (p.2 < 0) || decide (own ≤ p.1) || decide (own ≤ p.2)
def Gr.lim (g : Gr) : Bool := decide (g.ins < 0) || decide (4000 < g.ins) || decide (4000 < g.ins + g.next.length + g.ands.length) || decide (4000 < (g.outs.length : Int))
def Gr.oddR (g : Gr) : Bool := (g.init.length != g.next.length) || g.init.any zlb || g.next.any (zfu g.all) || g.outs.any (zfu g.all)
def Gr.oddAs (g : Gr) (n : Nat) : Bool := (List.range n).any fun i => zpp (2 * (g.first + i)) (g.ands.getD i (0, 0))
def Gr.chk (g : Gr) : Int := if g.lim then 8 else if g.oddR then 1 else if g.oddAs g.ands.length then 1 else 0
structure Gr.Sm (g : Gr) : Prop where
 next : g.next.length ≤ 200000000000000
 ands : g.ands.length ≤ 200000000000000
def zrJ : Plan := .take 2 <| .alt 0 (.alt 1 (.alt 3 (.alt 4 (.alt 5 (.alt 6 (.one 7 <| .one 8 <| .fin) (.one 7 (.one 6 <| .one 8 <| .fin))) (.one 7 (.one 5 <| .one 6 <| .one 8 <| .fin))) (.one 7 (.one 4 <| .one 5 <| .one 6 <| .one 8 <| .fin))) (.one 7 (.one 3 <| .one 4 <| .one 5 <| .one 6 <| .one 8 <| .fin))) (.alt 3 (.alt 1 (.alt 4 (.alt 5 (.alt 6 (.one 7 <| .one 8 <| .fin) (.one 7 (.one 6 <| .one 8 <| .fin))) (.one 7 (.one 5 <| .one 6 <| .one 8 <| .fin))) (.one 7 (.one 4 <| .one 5 <| .one 6 <| .one 8 <| .fin))) (.alt 4 (.alt 1 (.alt 5 (.alt 6 (.one 7 <| .one 8 <| .fin) (.one 7 (.one 6 <| .one 8 <| .fin))) (.one 7 (.one 5 <| .one 6 <| .one 8 <| .fin))) (.one 7 (.one 1 <| .one 5 <| .one 6 <| .one 8 <| .fin))) (.one 7 (.alt 1 (.one 4 <| .one 5 <| .one 6 <| .one 8 <| .fin) (.one 4 (.one 1 <| .one 5 <| .one 6 <| .one 8 <| .fin)))))) (.one 7 (.alt 1 (.one 3 <| .one 4 <| .one 5 <| .one 6 <| .one 8 <| .fin) (.one 3 (.alt 1 (.one 4 <| .one 5 <| .one 6 <| .one 8 <| .fin) (.one 4 (.one 1 <| .one 5 <| .one 6 <| .one 8 <| .fin)))))))) (.alt 3 (.alt 0 (.alt 1 (.alt 4 (.alt 5 (.alt 6 (.one 7 <| .one 8 <| .fin) (.one 7 (.one 6 <| .one 8 <| .fin))) (.one 7 (.one 5 <| .one 6 <| .one 8 <| .fin))) (.one 7 (.one 4 <| .one 5 <| .one 6 <| .one 8 <| .fin))) (.alt 4 (.alt 1 (.alt 5 (.alt 6 (.one 7 <| .one 8 <| .fin) (.one 7 (.one 6 <| .one 8 <| .fin))) (.one 7 (.one 5 <| .one 6 <| .one 8 <| .fin))) (.one 7 (.one 1 <| .one 5 <| .one 6 <| .one 8 <| .fin))) (.one 7 (.alt 1 (.one 4 <| .one 5 <| .one 6 <| .one 8 <| .fin) (.one 4 (.one 1 <| .one 5 <| .one 6 <| .one 8 <| .fin)))))) (.alt 4 (.alt 0 (.alt 1 (.alt 5 (.alt 6 (.one 7 <| .one 8 <| .fin) (.one 7 (.one 6 <| .one 8 <| .fin))) (.one 7 (.one 5 <| .one 6 <| .one 8 <| .fin))) (.one 7 (.one 1 <| .one 5 <| .one 6 <| .one 8 <| .fin))) (.one 7 (.one 0 <| .one 1 <| .one 5 <| .one 6 <| .one 8 <| .fin))) (.one 7 (.alt 0 (.alt 1 (.one 4 <| .one 5 <| .one 6 <| .one 8 <| .fin) (.one 4 (.one 1 <| .one 5 <| .one 6 <| .one 8 <| .fin))) (.one 4 (.one 0 <| .one 1 <| .one 5 <| .one 6 <| .one 8 <| .fin)))))) (.one 7 (.alt 0 (.alt 1 (.one 3 <| .one 4 <| .one 5 <| .one 6 <| .one 8 <| .fin) (.one 3 (.alt 1 (.one 4 <| .one 5 <| .one 6 <| .one 8 <| .fin) (.one 4 (.one 1 <| .one 5 <| .one 6 <| .one 8 <| .fin))))) (.one 3 (.alt 0 (.alt 1 (.one 4 <| .one 5 <| .one 6 <| .one 8 <| .fin) (.one 4 (.one 1 <| .one 5 <| .one 6 <| .one 8 <| .fin))) (.one 4 (.one 0 <| .one 1 <| .one 5 <| .one 6 <| .one 8 <| .fin)))))))
set_option maxHeartbeats 8000000 in
theorem zek (g : Gr) (hs : g.Sm) : Ev TE 66 [g.v] (vi g.chk) := by
 obtain ⟨hs1, hs2⟩ := hs
 unfold Gr.v
 refine zh Tryz.func66 rfl (by simp [nts]) (vm ?_)
 simp only [wq.down, seval, Tryz.results66]
 have hins : g.lim = false → 0 ≤ g.ins ∧ g.ins ≤ 4000 ∧ g.ins + g.next.length + g.ands.length ≤ 4000 ∧ (g.outs.length : Int) ≤ 4000 := by
  intro h
  simp only [Gr.lim, Bool.or_eq_false_iff, decide_eq_false_iff_not] at h
  omega
 have hl : (decide (g.ins < 0) || decide (4000 < g.ins) || decide (4000 < IntKind.i64.wrap (IntKind.i64.wrap (g.ins + (g.next.length : Int)) + (g.ands.length : Int))) || decide (4000 < (g.outs.length : Int))) = g.lim := by
  unfold Gr.lim
  by_cases a1 : g.ins < 0
  ·simp [a1]
  by_cases a2 : 4000 < g.ins
  ·simp [a2]
  rw [zD (n := g.ins + (g.next.length : Int)) (by omega) (by omega), zD (by omega) (by omega)]
 rw [hl]
 refine vcB.mk (fun hc => ?_) (fun hc => ?_)
 ·simp only [wq.down, seval]
  exact zr rfl (by unfold Gr.chk; rw [if_pos hc])
 ·obtain ⟨i0, i1, i2, i3⟩ := hins hc
  simp only [wq.down]
  refine zM mixed zrJ (fun f' h' => f'.t 1 = .lp 0 0 ∧ f'.t 3 = .lp 1 0 ∧ f'.d = [] ∧ h' = [.cells [vi g.ins, zo g.next, zo g.init, prs g.ands, zo g.outs], .cells [vi g.all]]) (by decide +kernel) (by decide +kernel) ?_ ?_
  ·simp only [wq.down, seval, zrJ]
   have wf : g.first = 1 + g.ins + g.next.length := rfl
   have w1 : IntKind.i64.wrap (g.first + (g.ands.length : Int)) = g.first + g.ands.length := zD (by omega) (by omega)
   have w2 : IntKind.i64.wrap (2 * (g.first + (g.ands.length : Int))) = g.all := zD (by omega) (by omega)
   have hfi := zct g (by omega) (by omega) (by omega)
   unfold Gr.v at hfi
   have dg : V.dats [.agg [vi g.ins, zo g.next, zo g.init, prs g.ands, zo g.outs]] = true := by simp only [V.dats, V.dat, Bool.and_self]
   repeat' apply And.intro
   all_goals (refine zb.ev hfi dg ?_)
   all_goals (simp only [wq.down, seval, w1, w2])
   all_goals (first | exact ⟨rfl, rfl, rfl, rfl⟩ | trace_state)
  ·rintro f h ⟨h1, h3, hd, rfl⟩
   have hlim : g.lim = false := hc
   have fin1 : g.oddR = true → zn TE [.cells [vi g.ins, zo g.next, zo g.init, prs g.ands, zo g.outs], .cells [vi g.all]] (vi 1) (vi g.chk) := fun h => zr rfl (by unfold Gr.chk; rw [hlim, h]; rfl)
   by_cases e : g.init.length = g.next.length
   ·have e1 : ((g.init.length : Int) != (g.next.length : Int)) = false := by simp [e]
    simp only [wq.down, seval, h1, h3, e1]
    refine zb.ev (zmP g.init 116 [] zlb rfl rfl fun x _ => zql x) rfl ?_
    cases hA : g.init.any zlb with
    | true =>
     simp only [wq.down, seval, h1]
     refine ⟨.bool true, ?_⟩
     simp only [wq.down, seval]
     refine ⟨.bool true, ?_⟩
     simp only [wq.down, seval, hd]
     exact fin1 (by simp [Gr.oddR, hA])
    | false =>
     simp only [wq.down, seval, h1]
     have rf : zj TE [.cells [vi g.ins, zo g.next, zo g.init, prs g.ands, zo g.outs], .cells [vi g.all]] [.fn (.func 115) [] [.lp 1 0]] [.fn (.func 115) [] [.ip (vi g.all)]] :=
      zj.cons (zn.fn zj.nil (zj.cons (zn.lp rfl (zj.dat rfl) rfl rfl (by simp [V.vc]) rfl) zj.nil)) zj.nil
     refine zb.lend (zmP g.next 115 [.ip (vi g.all)] (zfu g.all) rfl rfl fun x _ => zmQ g.all x) (zj.cons (zn.dat rfl) rf) rfl ?_
     cases hB : g.next.any (zfu g.all) with
     | true =>
      simp only [wq.down, seval, h1]
      refine ⟨.bool true, ?_⟩
      simp only [wq.down, seval, hd]
      exact fin1 (by simp [Gr.oddR, hB])
     | false =>
      simp only [wq.down, seval, h1]
      refine zb.lend (zmP g.outs 115 [.ip (vi g.all)] (zfu g.all) rfl rfl fun x _ => zmQ g.all x) (zj.cons (zn.dat rfl) rf) rfl ?_
      cases hC : g.outs.any (zfu g.all) with
      | true =>
       simp only [wq.down, seval, hd]
       exact fin1 (by simp [Gr.oddR, hC])
      | false =>
       simp only [wq.down, seval, h1]
       refine zp (fun m f h => ∃ i G, m + i = g.ands.length ∧ f.t 1 = .lp 0 0 ∧ f.t 70 = prs g.ands ∧ f.t 71 = vi g.ands.length ∧ f.t 72 = vi i ∧ f.d = [] ∧ h = [.cells [vi g.ins, zo g.next, zo g.init, prs g.ands, zo g.outs], .cells [vi g.all]] ++ G ∧ g.oddAs i = false) g.ands.length ⟨0, [], by simp, by simp only [wq.down, seval, h1], by simp only [wq.down, seval], by simp only [wq.down, seval], rfl, by simp only [wq.down, hd], by simp, rfl⟩ ?_
       rintro m f h ⟨i, G, hm, h1, h70, h71, h72, hd, rfl, hno⟩
       refine vm ?_
       simp only [wq.down, seval, h71, h72]
       refine vcB.mk (fun hlt => ?_) (fun hlt => ?_)
       ·simp only [decide_eq_true_eq, Int.ofNat_lt] at hlt
        have hg : (g.ands.map prV).getD i .any = prV g.ands[i] := zbQ hlt _
        have hM : maxLen = 9223372036854775807 := rfl
        have hgE : ∀ x : O, (G ++ [x])[G.length]? = some x := fun x => by simp
        have hgS : ∀ x y : O, (G ++ [x]).set G.length y = G ++ [y] := fun x y => by simp
        have dg : V.dats [.agg [vi g.ins, zo g.next, zo g.init, prs g.ands, zo g.outs]] = true := by simp only [V.dats, V.dat, Bool.and_self]
        have wf : g.first = 1 + g.ins + g.next.length := rfl
        have w1 : IntKind.i64.wrap (g.first + (i : Int)) = g.first + i := zD (by omega) (by omega)
        have w2 : IntKind.i64.wrap (2 * (g.first + (i : Int))) = 2 * (g.first + i) := zD (by omega) (by omega)
        have hfi := zct g (by omega) (by omega) (by omega)
        unfold Gr.v at hfi
        simp only [wq.down, ↓reduceIte, Nat.reduceEqDiff, Nat.reduceLT, Nat.reduceLeDiff, Nat.reduceAdd, Nat.reduceSub, Int.reduceToNat, Nat.reduceDiv, Int.reduceLT, Int.reduceLE, Int.reduceNeg, Int.reduceBEq, Int.reduceBNe, Int.reduceAdd, Int.reduceSub, Nat.reduceBEq, reduceCtorEq, Nat.reduceMul, zg, Tryz.results66, h1, h70, h71, h72, hd, hg, Int.toNat_natCast, hgE, hgS, List.drop_nil]
        refine ⟨⟨by omega, by omega⟩, zb.ev hfi dg ?_⟩
        simp only [wq.down, ↓reduceIte, Nat.reduceEqDiff, Nat.reduceLT, Nat.reduceLeDiff, Nat.reduceAdd, Nat.reduceSub, Int.reduceToNat, Nat.reduceDiv, Int.reduceLT, Int.reduceLE, Int.reduceNeg, Int.reduceBEq, Int.reduceBNe, Int.reduceAdd, Int.reduceSub, Nat.reduceBEq, reduceCtorEq, Nat.reduceMul, zg, Tryz.results66, zX, h1, h70, h71, h72, hd, w1, w2, hgE, hgS, zi (show i < maxLen by omega)]
        refine ⟨by decide, fun _ => by decide, fun _ => by decide, fun _ => by decide, vcB.mk (fun hb => ?_) (fun hb => ?_)⟩
        ·simp only [wq.down, ↓reduceIte, Nat.reduceLT, hd]
         refine zr rfl ?_
         unfold Gr.chk
         rw [hlim, if_neg (by simp), if_neg (by simp [Gr.oddR, e, hA, hB, hC]), if_pos]
         simp only [Gr.oddAs, List.any_eq_true, List.mem_range]
         refine ⟨i, hlt, ?_⟩
         rw [zw hlt]
         exact hb
        ·simp only [wq.down, seval, h72, zi (show i < maxLen by omega)]
         refine .inl ⟨m - 1, by omega, i + 1, G ++ [.cells [vi g.ands[i].1, vi g.ands[i].2]], by omega, h1, h70, h71, rfl, hd, rfl, ?_⟩
         simp only [Gr.oddAs, List.range_succ, List.any_append, List.any_cons, List.any_nil, Bool.or_false, Bool.or_eq_false_iff]
         refine ⟨hno, ?_⟩
         rw [zw hlt]
         exact hb
       ·simp only [decide_eq_false_iff_not, Int.ofNat_lt] at hlt
        simp only [wq.down, seval, hd]
        have hi : i = g.ands.length := by omega
        refine zr rfl ?_
        unfold Gr.chk
        rw [hlim, if_neg (by simp), if_neg (by simp [Gr.oddR, e, hA, hB, hC]), ← hi, hno]
        rfl
   ·have e1 : ((g.init.length : Int) != (g.next.length : Int)) = true := by simpa [Int.natCast_inj] using e
    simp only [wq.down, seval, h1, h3, e1]
    refine ⟨.bool true, ?_⟩
    simp only [wq.down, seval, h1]
    refine ⟨.bool true, ?_⟩
    simp only [wq.down, seval]
    refine ⟨.bool true, ?_⟩
    simp only [wq.down, seval, hd]
    exact fin1 (by simp [Gr.oddR, e])
theorem zlc (n : Nat) (hn : n ≤ 1000000000) (h : H) (R : AEnd → H → (Nat → Bool) → Prop) (hr0 : n = 0 → R (.ret .nils) h (fun _ => false))
 (hr : 0 < n → R (.ret (.ls h.length 1 0 0 n)) (h ++ [.cells (List.replicate n (.str []))]) (fun _ => false)) : zb TE 95 [.nils, vi n] h R := by
 refine zl Tryz.func95 rfl (by simp [nts]) ?_
 refine za (vm ?_)
 simp only [wq.down, Nat.reduceLT, Tryz.results95]
 refine za ?_
 refine vm ?_
 simp only [wq.down, seval]
 refine vcB.mk (fun hc => ?_) (fun hc => ?_)
 ·simp only [decide_eq_true_eq] at hc; omega
 simp only [wq.down]
 refine za (za (zbc ?_))
 refine zm rfl rfl ?_
 simp only [wq.down, seval]
 refine zm rfl rfl ?_
 simp only [wq.down, seval]
 refine zap rfl rfl ?_
 have hq : ti TE.P 26 = some ⟨.slice 9, 1, 24, .nils⟩ := by simp only [wq.down]
 have hqe : ti TE.P 9 = some ⟨.str, 1, 16, .str []⟩ := by simp only [wq.down]
 have hqi : ti TE.P 3 = some ⟨.int .i64, 1, 8, .int .i64 0⟩ := by simp only [wq.down]
 refine zbS (t := 26) rfl rfl hq rfl trivial rfl ?_
 refine zm rfl rfl ?_
 simp only [wq.down, seval]
 refine zm rfl rfl ?_
 simp only [wq.down, ↓reduceIte]
 refine zm rfl rfl ?_
 simp only [wq.down, seval]
 refine zm rfl rfl ?_
 simp only [wq.down, seval]
 refine zm rfl rfl ?_
 simp only [wq.down, ↓reduceIte]
 have w0 : IntKind.i64.wrap 0 = 0 := by decide
 have w1 : IntKind.i64.wrap ((n : Int) - 0) = n := by rw [Int.sub_zero]; exact zD (by omega) (by omega)
 refine zak ?_
 simp only [wq.down, w0, w1]
 refine za ?_
 refine vm ?_
 simp only [wq.down, seval]
 refine zS (b := decide ((0 : Int) < n)) (by simp only [wq.down, ↓reduceIte]) (by simp only [wq.down, ↓reduceIte]) (fun hb => ?_) (fun hb => ?_)
 ·have hpos : 0 < n := by simp only [decide_eq_true_eq] at hb; omega
  refine zbc ?_
  refine zm rfl rfl ?_
  simp only [wq.down, seval]
  refine zm rfl rfl ?_
  simp only [wq.down, seval]
  refine zap rfl rfl ?_
  refine zbS (t := 26) rfl rfl hq rfl trivial rfl ?_
  refine zap rfl rfl ?_
  refine zdh rfl hq rfl hqe (by simp only [wq.down, seval]) (by simp only [wq.down, seval]) (by simp only [wq.down, ↓reduceIte]) (k := .i64) (by simp only [wq.down, ↓reduceIte]) ?_
  refine zm rfl rfl ?_
  simp only [wq.down, seval]
  refine zap rfl rfl ?_
  refine zcM (x := .tmp 20) (y := .tmp 21) (t := 26) (xt := 3) (el := 9) ⟨⟨_, rfl, rfl, rfl⟩, hq, rfl, hqe, rfl, rfl, Nat.zero_lt_one⟩ (by simp only [wq.down, seval]) (by simp only [wq.down, ↓reduceIte]) (by simp only [wq.down, seval]) (by simp only [wq.down, ↓reduceIte]) hqi rfl hpos (by omega) ?_ rfl (zv := .str []) rfl ?_
  ·show n * 16 ≤ _
   omega
  refine zm rfl rfl ?_
  simp only [wq.down, seval]
  refine zm rfl rfl ?_
  simp only [wq.down, ↓reduceIte]
  refine zm rfl rfl ?_
  simp only [wq.down, seval]
  refine ⟨by omega, ?_⟩
  refine zm rfl rfl ?_
  simp only [wq.down, ↓reduceIte]
  refine zak ?_
  simp only [wq.down]
  refine vm ?_
  simp only [wq.down, seval]
  exact hr hpos
 ·have : n = 0 := by simp only [decide_eq_false_iff_not] at hb; omega
  refine vm ?_
  simp only [wq.down]
  refine vm ?_
  simp only [wq.down, seval]
  exact hr0 this
theorem zld {α : Type} (ls : List (List α)) (i : Nat) : ls.flatten = (ls.take i).flatten ++ (ls.drop i).flatten := by rw [← List.flatten_append, List.take_append_drop]
theorem za2 {α : Type} {ls : List (List α)} {i : Nat} (h : i < ls.length) : (ls.take (i + 1)).flatten = (ls.take i).flatten ++ ls[i] := by
 rw [List.take_add_one, List.flatten_append]; simp [h]
theorem zeX {α : Type} {ls : List (List α)} {i : Nat} (h : i < ls.length) : (ls.take i).flatten.length + ls[i].length ≤ ls.flatten.length := by
 have h1 := congrArg List.length (zld ls (i + 1))
 rw [za2 h] at h1
 simp only [List.length_append] at h1
 omega
def zs0 (n : Nat) (c : List S) (v : V) (h : H) : Prop :=
 (c = [] ∧ v = .nils ∧ h = [] ∧ n = 0) ∨ (c.length ≤ n ∧ v = .ls 0 1 0 c.length n ∧ h = [.cells (c.map V.str ++ List.replicate (n - c.length) (.str []))])
theorem zoB (n : Nat) (hn : n ≤ 1000000000) (R : AEnd → H → (Nat → Bool) → Prop) (hr : ∀ v h, zs0 n [] v h → R (.ret v) h (fun _ => false)) : zb TE 95 [.nils, vi n] [] R :=
 zlc n hn [] R (fun hz => hr _ _ (.inl ⟨rfl, rfl, rfl, hz⟩)) (fun hz => hr _ _ (.inr ⟨Nat.zero_le _, rfl, rfl⟩))
theorem zg6 : ∀ l : List S, zZ (l.map V.str) = true
 | [] => rfl
 | a :: l => by simp only [List.map_cons, zZ, zg6 l, V.one, V.vc, List.length_singleton]; rfl
theorem zje (c l : List S) (n : Nat) (h : c.length + l.length ≤ n) : zan (c.map V.str ++ List.replicate (n - c.length) (.str [])) c.length (l.map V.str) = (c ++ l).map V.str ++ List.replicate (n - (c ++ l).length) (.str []) := by
 unfold zan
 have e1 : (c.map V.str ++ List.replicate (n - c.length) (V.str [])).take c.length = c.map V.str := by
  simp
 have e2 : (c.map V.str ++ List.replicate (n - c.length) (V.str [])).drop (c.length + (l.map V.str).length) = List.replicate (n - (c ++ l).length) (V.str []) := by
  rw [List.drop_append]
  have : (c.map V.str).drop (c.length + (l.map V.str).length) = [] := List.drop_of_length_le (by simp)
  rw [this, List.nil_append, List.drop_replicate]
  congr 1
  simp only [List.length_map, List.length_append]
  omega
 rw [e1, e2, List.map_append]
theorem zjf (ls : List (List S)) (hn : ls.flatten.length ≤ 1000000000) (hls : ls.length ≤ 1000000000) : EvF TE 50 [.is true 1 (ls.map zT)] 1 ls.flatten.length (ls.flatten.map V.str) := by
 have hM : maxLen = 9223372036854775807 := rfl
 have hget : ∀ {i : Nat} (h : i < ls.length) (d : V), (ls.map zT).getD i d = zT ls[i] := fun h d => zbQ h d
 unfold EvF
 refine zl Tryz.func50 rfl (by simp [nts]) (vm ?_)
 simp only [wq.down, seval, Tryz.results50]
 refine zp (fun m f h => ∃ i, m + i = ls.length ∧ f.t 0 = .is true 1 (ls.map zT) ∧ f.t 3 = vi (ls.take i).flatten.length ∧ f.t 9 = .is true 1 (ls.map zT) ∧ f.t 10 = vi ls.length ∧ f.t 11 = vi i ∧ f.d = [] ∧ h = []) ls.length ⟨0, by simp, rfl, rfl, rfl, by simp only [wq.down, seval], rfl, rfl, rfl⟩ ?_
 rintro m f h ⟨i, hm, h0, h3, h9, h10, h11, hd, rfl⟩
 refine vm ?_
 simp only [wq.down, seval, h10, h11]
 refine vcB.mk (fun hc => ?_) (fun hc => ?_)
 ·simp only [decide_eq_true_eq, Int.ofNat_lt] at hc
  have hfl := zeX hc
  have hw : IntKind.i64.wrap (((ls.take i).flatten.length : Int) + (ls[i].length : Int)) = ((ls.take (i + 1)).flatten.length : Int) := by
   rw [za2 hc, List.length_append, zad (by omega) (by omega)]; omega
  simp only [wq.down, seval, h3, h9, h11, hget hc, hw]
  refine ⟨⟨by omega, by omega⟩, vcB.mk (fun hc' => ?_) (fun hc' => ?_)⟩
  ·simp only [decide_eq_true_eq] at hc'; omega
  ·simp only [wq.down, seval, h11, zi (show i < maxLen by omega)]
   exact .inl ⟨m - 1, by omega, i + 1, by omega, h0, rfl, h9, h10, rfl, hd, rfl⟩
 ·simp only [decide_eq_false_iff_not, Int.ofNat_lt] at hc
  have hi : ls.take i = ls := List.take_of_length_le (by omega)
  rw [hi] at h3
  simp only [wq.down, seval, h3]
  refine zoB ls.flatten.length hn _ (fun v0 h0' hcat => ?_)
  simp only [wq.down, seval, h0]
  refine zp (fun m f h => ∃ i v, m + i = ls.length ∧ f.t 25 = .is true 1 (ls.map zT) ∧ f.t 26 = vi ls.length ∧ f.t 27 = vi i ∧ f.t 6 = v ∧ f.d = [] ∧ zs0 ls.flatten.length (ls.take i).flatten v h) ls.length ⟨0, v0, by simp, by simp only [wq.down, seval], by simp only [wq.down, seval], rfl, rfl, by simp only [wq.down, hd], by simpa using hcat⟩ ?_
  rintro m f h ⟨i, v, hm, h25, h26, h27, h6, hd, hcat⟩
  refine vm ?_
  simp only [wq.down, seval, h26, h27]
  refine vcB.mk (fun hc => ?_) (fun hc => ?_)
  ·simp only [decide_eq_true_eq, Int.ofNat_lt] at hc
   have hfl := zeX hc
   have hnext : f.t 27 = vi i → IntKind.i64.wrap ((i : Int) + 1) = ((i + 1 : Nat) : Int) := fun _ => zi (by omega)
   rcases hcat with ⟨hc0, rfl, rfl, hn0⟩ | ⟨hcl, rfl, rfl⟩
   ·have hl0 : ls[i] = [] := List.eq_nil_of_length_eq_zero (by omega)
    simp only [wq.down, seval, h25, h27, h6, hget hc, hl0, zi (show i < maxLen by omega)]
    refine ⟨⟨by omega, by omega⟩, by omega, .inl ⟨m - 1, by omega, i + 1, _, by omega, h25, h26, rfl, rfl, hd, ?_⟩⟩
    right
    rw [za2 hc, hl0, hc0, hn0]
    exact ⟨Nat.le_refl _, rfl, rfl⟩
   ·by_cases hlt : (ls.take i).flatten.length < ls.flatten.length
    ·have hdt : decide ((ls.take i).flatten.length < ls.flatten.length) = true := by simpa using hlt
     simp only [wq.down, seval, h25, h27, h6, hget hc, zi (show i < maxLen by omega), zg6, hdt]
     refine ⟨⟨by omega, by omega⟩, ⟨by omega, by omega, by rw [List.length_replicate]; omega⟩, .inl ⟨m - 1, by omega, i + 1, _, by omega, h25, h26, rfl, rfl, hd, ?_⟩⟩
     right
     rw [za2 hc]
     refine ⟨by rw [List.length_append]; omega, by simp only [wq.down, seval], ?_⟩
     have hsp := zje (ls.take i).flatten ls[i] ls.flatten.length hfl
     unfold zan at hsp
     rw [List.length_map] at hsp
     rw [Nat.mul_one, hsp]
    ·have hdt : decide ((ls.take i).flatten.length < ls.flatten.length) = false := by simpa using hlt
     have hl0 : ls[i] = [] := List.eq_nil_of_length_eq_zero (by omega)
     have hne : (ls.take i).flatten.length = ls.flatten.length := by omega
     simp only [wq.down, seval, h25, h27, h6, hd, hget hc, zi (show i < maxLen by omega), hdt, hl0]
     refine ⟨⟨by omega, by omega⟩, ⟨by rw [List.length_replicate]; omega, by omega, by omega⟩, .inl ⟨m - 1, by omega, i + 1, _, by omega, by simp only [wq.down, seval, h25], by simp only [wq.down, seval, h26], rfl, rfl, hd, ?_⟩⟩
     right
     rw [za2 hc, hl0, List.append_nil, hne, Nat.sub_self]
     refine ⟨Nat.le_refl _, by simp only [wq.down, seval], ?_⟩
     simp only [List.replicate_zero, V.drops]
  ·simp only [decide_eq_false_iff_not, Int.ofNat_lt] at hc
   have hi : ls.take i = ls := List.take_of_length_le (by omega)
   rw [hi] at hcat
   simp only [wq.down, seval, h6, hd]
   rcases hcat with ⟨hc0, rfl, rfl, hn0⟩ | ⟨hcl, rfl, rfl⟩
   ·exact .inl ⟨rfl, hn0, by rw [hc0]; rfl⟩
   ·rw [Nat.sub_self, List.replicate_zero, List.append_nil]
    exact .inr ⟨0, _, rfl, Nat.le_refl _, rfl⟩
theorem zel (ls : List (List S)) (hn : ls.flatten.length ≤ 1000000000) (hls : ls.length ≤ 1000000000) : Ev TE 50 [.is true 1 (ls.map zT)] (zT ls.flatten) := by
 refine (zjf ls hn hls).ev (fun _ hc => ?_) (fun h' id cap _ hid => zav hid rfl) (fun _ hc h' => ?_)
 ·rw [List.map_eq_nil_iff.1 hc]
  exact zag
 ·rw [List.map_eq_nil_iff.1 hc]; exact zn.nils
theorem zjg (n : Nat) (hn : n ≤ 1000000000) (h : H) (R : AEnd → H → (Nat → Bool) → Prop) (hr0 : n = 0 → R (.ret .nils) h (fun _ => false))
 (hr : 0 < n → R (.ret (.ls h.length 1 0 0 n)) (h ++ [.cells (List.replicate n (.int .i64 0))]) (fun _ => false)) : zb TE 144 [.nils, vi n] h R := by
 refine zl Tryz.func144 rfl (by simp [nts]) ?_
 refine za (vm ?_)
 simp only [wq.down, Nat.reduceLT, Tryz.results144]
 refine za ?_
 refine vm ?_
 simp only [wq.down, seval]
 refine vcB.mk (fun hc => ?_) (fun hc => ?_)
 ·simp only [decide_eq_true_eq] at hc; omega
 simp only [wq.down]
 refine za (za (zbc ?_))
 refine zm rfl rfl ?_
 simp only [wq.down, seval]
 refine zm rfl rfl ?_
 simp only [wq.down, seval]
 refine zap rfl rfl ?_
 have hq : ti TE.P 22 = some ⟨.slice 3, 1, 24, .nils⟩ := by simp only [wq.down]
 have hqe : ti TE.P 3 = some ⟨.int .i64, 1, 8, .int .i64 0⟩ := by simp only [wq.down]
 have hqi : ti TE.P 3 = some ⟨.int .i64, 1, 8, .int .i64 0⟩ := by simp only [wq.down]
 refine zbS (t := 22) rfl rfl hq rfl trivial rfl ?_
 refine zm rfl rfl ?_
 simp only [wq.down, seval]
 refine zm rfl rfl ?_
 simp only [wq.down, ↓reduceIte]
 refine zm rfl rfl ?_
 simp only [wq.down, seval]
 refine zm rfl rfl ?_
 simp only [wq.down, seval]
 refine zm rfl rfl ?_
 simp only [wq.down, ↓reduceIte]
 have w0 : IntKind.i64.wrap 0 = 0 := by decide
 have w1 : IntKind.i64.wrap ((n : Int) - 0) = n := by rw [Int.sub_zero]; exact zD (by omega) (by omega)
 refine zak ?_
 simp only [wq.down, w0, w1]
 refine za ?_
 refine vm ?_
 simp only [wq.down, seval]
 refine zS (b := decide ((0 : Int) < n)) (by simp only [wq.down, ↓reduceIte]) (by simp only [wq.down, ↓reduceIte]) (fun hb => ?_) (fun hb => ?_)
 ·have hpos : 0 < n := by simp only [decide_eq_true_eq] at hb; omega
  refine zbc ?_
  refine zm rfl rfl ?_
  simp only [wq.down, seval]
  refine zm rfl rfl ?_
  simp only [wq.down, seval]
  refine zap rfl rfl ?_
  refine zbS (t := 22) rfl rfl hq rfl trivial rfl ?_
  refine zap rfl rfl ?_
  refine zdh rfl hq rfl hqe (by simp only [wq.down, seval]) (by simp only [wq.down, seval]) (by simp only [wq.down, ↓reduceIte]) (k := .i64) (by simp only [wq.down, ↓reduceIte]) ?_
  refine zm rfl rfl ?_
  simp only [wq.down, seval]
  refine zap rfl rfl ?_
  refine zcM (x := .tmp 20) (y := .tmp 21) (t := 22) (xt := 3) (el := 3) ⟨⟨_, rfl, rfl, rfl⟩, hq, rfl, hqe, rfl, rfl, Nat.zero_lt_one⟩ (by simp only [wq.down, seval]) (by simp only [wq.down, ↓reduceIte]) (by simp only [wq.down, seval]) (by simp only [wq.down, ↓reduceIte]) hqi rfl hpos (by omega) ?_ rfl (zv := .int .i64 0) rfl ?_
  ·show n * 8 ≤ _
   omega
  refine zm rfl rfl ?_
  simp only [wq.down, seval]
  refine zm rfl rfl ?_
  simp only [wq.down, ↓reduceIte]
  refine zm rfl rfl ?_
  simp only [wq.down, seval]
  refine ⟨by omega, ?_⟩
  refine zm rfl rfl ?_
  simp only [wq.down, ↓reduceIte]
  refine zak ?_
  simp only [wq.down]
  refine vm ?_
  simp only [wq.down, seval]
  exact hr hpos
 ·have : n = 0 := by simp only [decide_eq_false_iff_not] at hb; omega
  refine vm ?_
  simp only [wq.down]
  refine vm ?_
  simp only [wq.down, seval]
  exact hr0 this
def zrK (n : Nat) (c : List Int) (v : V) (h : H) : Prop :=
 (c = [] ∧ v = .nils ∧ h = [] ∧ n = 0) ∨ (c.length ≤ n ∧ v = .ls 0 1 0 c.length n ∧ h = [.cells (c.map vi ++ List.replicate (n - c.length) (.int .i64 0))])
theorem zmR (n : Nat) (hn : n ≤ 1000000000) (R : AEnd → H → (Nat → Bool) → Prop) (hr : ∀ v h, zrK n [] v h → R (.ret v) h (fun _ => false)) : zb TE 144 [.nils, vi n] [] R :=
 zjg n hn [] R (fun hz => hr _ _ (.inl ⟨rfl, rfl, rfl, hz⟩)) (fun hz => hr _ _ (.inr ⟨Nat.zero_le _, rfl, rfl⟩))
theorem zeE {p : Nat → Bool} : ∀ l : List Int, V.drops p (l.map vi) = l.map vi
 | [] => rfl
 | a :: l => by simp only [List.map_cons, V.drops, V.drop, zeE l]
theorem zhZ : ∀ l : List Int, zZ (l.map vi) = true
 | [] => rfl
 | a :: l => by simp only [List.map_cons, zZ, zhZ l, V.one, V.vc, List.length_singleton]; rfl
theorem zh0 (c l : List Int) (n : Nat) (h : c.length + l.length ≤ n) : zan (c.map vi ++ List.replicate (n - c.length) (.int .i64 0)) c.length (l.map vi) = (c ++ l).map vi ++ List.replicate (n - (c ++ l).length) (.int .i64 0) := by
 unfold zan
 have e1 : (c.map vi ++ List.replicate (n - c.length) (V.int .i64 0)).take c.length = c.map vi := by
  simp
 have e2 : (c.map vi ++ List.replicate (n - c.length) (V.int .i64 0)).drop (c.length + (l.map vi).length) = List.replicate (n - (c ++ l).length) (V.int .i64 0) := by
  rw [List.drop_append]
  have : (c.map vi).drop (c.length + (l.map vi).length) = [] := List.drop_of_length_le (by simp)
  rw [this, List.nil_append, List.drop_replicate]
  congr 1
  simp only [List.length_map, List.length_append]
  omega
 rw [e1, e2, List.map_append]
theorem zh1 (ls : List (List Int)) (hn : ls.flatten.length ≤ 1000000000) (hls : ls.length ≤ 1000000000) : EvF TE 106 [.is true 1 (ls.map zo)] 1 ls.flatten.length (ls.flatten.map vi) := by
 have hM : maxLen = 9223372036854775807 := rfl
 have hget : ∀ {i : Nat} (h : i < ls.length) (d : V), (ls.map zo).getD i d = zo ls[i] := fun h d => zbQ h d
 unfold EvF
 refine zl Tryz.func106 rfl (by simp [nts]) (vm ?_)
 simp only [wq.down, seval, Tryz.results106]
 refine zp (fun m f h => ∃ i, m + i = ls.length ∧ f.t 0 = .is true 1 (ls.map zo) ∧ f.t 3 = vi (ls.take i).flatten.length ∧ f.t 9 = .is true 1 (ls.map zo) ∧ f.t 10 = vi ls.length ∧ f.t 11 = vi i ∧ f.d = [] ∧ h = []) ls.length ⟨0, by simp, rfl, rfl, rfl, by simp only [wq.down, seval], rfl, rfl, rfl⟩ ?_
 rintro m f h ⟨i, hm, h0, h3, h9, h10, h11, hd, rfl⟩
 refine vm ?_
 simp only [wq.down, seval, h10, h11]
 refine vcB.mk (fun hc => ?_) (fun hc => ?_)
 ·simp only [decide_eq_true_eq, Int.ofNat_lt] at hc
  have hfl := zeX hc
  have hw : IntKind.i64.wrap (((ls.take i).flatten.length : Int) + (ls[i].length : Int)) = ((ls.take (i + 1)).flatten.length : Int) := by
   rw [za2 hc, List.length_append, zad (by omega) (by omega)]; omega
  simp only [wq.down, seval, h3, h9, h11, hget hc, hw]
  refine ⟨⟨by omega, by omega⟩, vcB.mk (fun hc' => ?_) (fun hc' => ?_)⟩
  ·simp only [decide_eq_true_eq] at hc'; omega
  ·simp only [wq.down, seval, h11, zi (show i < maxLen by omega)]
   exact .inl ⟨m - 1, by omega, i + 1, by omega, h0, rfl, h9, h10, rfl, hd, rfl⟩
 ·simp only [decide_eq_false_iff_not, Int.ofNat_lt] at hc
  have hi : ls.take i = ls := List.take_of_length_le (by omega)
  rw [hi] at h3
  simp only [wq.down, seval, h3]
  refine zmR ls.flatten.length hn _ (fun v0 h0' hcat => ?_)
  simp only [wq.down, seval, h0]
  refine zp (fun m f h => ∃ i v, m + i = ls.length ∧ f.t 25 = .is true 1 (ls.map zo) ∧ f.t 26 = vi ls.length ∧ f.t 27 = vi i ∧ f.t 6 = v ∧ f.d = [] ∧ zrK ls.flatten.length (ls.take i).flatten v h) ls.length ⟨0, v0, by simp, by simp only [wq.down, seval], by simp only [wq.down, seval], rfl, rfl, by simp only [wq.down, hd], by simpa using hcat⟩ ?_
  rintro m f h ⟨i, v, hm, h25, h26, h27, h6, hd, hcat⟩
  refine vm ?_
  simp only [wq.down, seval, h26, h27]
  refine vcB.mk (fun hc => ?_) (fun hc => ?_)
  ·simp only [decide_eq_true_eq, Int.ofNat_lt] at hc
   have hfl := zeX hc
   have hnext : f.t 27 = vi i → IntKind.i64.wrap ((i : Int) + 1) = ((i + 1 : Nat) : Int) := fun _ => zi (by omega)
   rcases hcat with ⟨hc0, rfl, rfl, hn0⟩ | ⟨hcl, rfl, rfl⟩
   ·have hl0 : ls[i] = [] := List.eq_nil_of_length_eq_zero (by omega)
    simp only [wq.down, seval, h25, h27, h6, hget hc, hl0, zi (show i < maxLen by omega)]
    refine ⟨⟨by omega, by omega⟩, by omega, .inl ⟨m - 1, by omega, i + 1, _, by omega, h25, h26, rfl, rfl, hd, ?_⟩⟩
    right
    rw [za2 hc, hl0, hc0, hn0]
    exact ⟨Nat.le_refl _, rfl, rfl⟩
   ·by_cases hlt : (ls.take i).flatten.length < ls.flatten.length
    ·have hdt : decide ((ls.take i).flatten.length < ls.flatten.length) = true := by simpa using hlt
     simp only [wq.down, seval, h25, h27, h6, hget hc, zi (show i < maxLen by omega), zhZ, hdt]
     refine ⟨⟨by omega, by omega⟩, ⟨by omega, by omega, by rw [List.length_replicate]; omega⟩, .inl ⟨m - 1, by omega, i + 1, _, by omega, h25, h26, rfl, rfl, hd, ?_⟩⟩
     right
     rw [za2 hc]
     refine ⟨by rw [List.length_append]; omega, by simp only [wq.down, seval], ?_⟩
     have hsp := zh0 (ls.take i).flatten ls[i] ls.flatten.length hfl
     unfold zan at hsp
     rw [List.length_map] at hsp
     rw [Nat.mul_one, hsp]
    ·have hdt : decide ((ls.take i).flatten.length < ls.flatten.length) = false := by simpa using hlt
     have hl0 : ls[i] = [] := List.eq_nil_of_length_eq_zero (by omega)
     have hne : (ls.take i).flatten.length = ls.flatten.length := by omega
     simp only [wq.down, seval, h25, h27, h6, hd, hget hc, zi (show i < maxLen by omega), hdt, hl0, zeE]
     refine ⟨⟨by omega, by omega⟩, ⟨by rw [List.length_replicate]; omega, by omega, by omega⟩, .inl ⟨m - 1, by omega, i + 1, _, by omega, by simp only [wq.down, seval, h25], by simp only [wq.down, seval, h26], rfl, rfl, hd, ?_⟩⟩
     right
     rw [za2 hc, hl0, List.append_nil, hne, Nat.sub_self]
     refine ⟨Nat.le_refl _, by simp only [wq.down, seval], ?_⟩
     simp only [List.replicate_zero, V.drops]
  ·simp only [decide_eq_false_iff_not, Int.ofNat_lt] at hc
   have hi : ls.take i = ls := List.take_of_length_le (by omega)
   rw [hi] at hcat
   simp only [wq.down, seval, h6, hd]
   rcases hcat with ⟨hc0, rfl, rfl, hn0⟩ | ⟨hcl, rfl, rfl⟩
   ·exact .inl ⟨rfl, hn0, by rw [hc0]; rfl⟩
   ·rw [Nat.sub_self, List.replicate_zero, List.append_nil]
    exact .inr ⟨0, _, rfl, Nat.le_refl _, rfl⟩
end Go.Proofs.YtfcpapokknfeeaaGreatDoor
