/- Lemmas for the statement of this claim, part F01: they hold with no conditions but those that each one names. -/
import Derived.Test.YtboolnpmlmgpkaaGreatDoorP0
import Derived.Test.YtboolnpmlmgpkaaGreatDoorA10
import Derived.Test.YtboolnpmlmgpkaaGreatDoorA9
set_option linter.unusedVariables false
set_option maxRecDepth 20000
set_option linter.unusedSimpArgs false
set_option linter.unnecessarySimpa false
namespace Go.Proofs.YtboolnpmlmgpkaaGreatDoor
open Go Go.Proofs Go.Abs
abbrev Cl := List Int
abbrev vi (n : Int) : V := .int .i64 n
abbrev zr (c : Cl) : V := .is false 1 (c.map vi)
abbrev cls (l : List Cl) : V := .is false 1 (l.map fun c => zr c)
theorem zgS {l : Cl} {r : List V} (hb : V.bnds (zr l :: r)) : l.length ≤ maxLen := by
 simp only [V.bnds, V.bnd, List.length_map] at hb
 exact hb.1.1
theorem ziY {l : Cl} {i : Nat} (h : i < l.length) (d : V) : (List.map vi l).getD i d = vi l[i] := zcJ h _
def lit (vars a : Int) : Bool := decide (a ≠ 0) && (decide (-vars ≤ a) && decide (a ≤ vars))
theorem zJ {n : Int} (h1 : -9223372036854775808 ≤ n) (h2 : n ≤ 9223372036854775807) : IntKind.i64.wrap n = n := zba h1 (by omega)
theorem zbi {α : Type} {l : List α} {i : Nat} (h : i < l.length) {P : α → Prop} (h1 : ∀ s ∈ l.take i, P s) (h2 : P l[i]) : ∀ s ∈ l.take (i + 1), P s := by
 intro s hs
 rw [List.take_add_one] at hs
 simp only [h, List.getElem?_eq_getElem, Option.toList_some, List.mem_append, List.mem_singleton] at hs
 rcases hs with hs | rfl
 ·exact h1 s hs
 ·exact h2
def chk (l : List Cl) (vars : Int) : Int :=
 if (decide (vars < 0) || decide (20000 < vars) || decide (100000 < l.length)) = true then 8
 else if (l.all fun c => c.all (lit vars)) = true then 0 else 1
theorem zgT {α : Type} {a b : List α} {i : Nat} (h : a.take i = b.take i) (ha : i < a.length) (hb : i < b.length) (he : a[i] = b[i]) : a.take (i + 1) = b.take (i + 1) := by
 rw [List.take_add_one, List.take_add_one, h]
 simp [ha, hb, he]
theorem zpX (a b : Cl) : Ev TE 113 [zr a, zr b] (.bool (a == b)) := by
 refine Ev.bnd fun hb => ?_
 have hlen := zgS hb
 refine zh Tryz.func113 rfl (by simp [nts]) (vm ?_)
 simp only [wq.down, seval, Tryz.results113]
 refine vcB.mk (fun hc => ?_) (fun hc => ?_)
 ·simp only [wq.down, seval]
  refine zB rfl ?_
  simp only [bne_iff_ne, ne_eq, Int.natCast_inj] at hc
  have : ¬ a = b := fun h => hc (by rw [h])
  simp [this]
 ·have hl : a.length = b.length := by simpa [Int.natCast_inj] using hc
  simp only [wq.down, Nat.reduceLT]
  refine zw (fun m f h => ∃ i, m + i = a.length ∧ f.t 0 = zr a ∧ f.t 1 = zr b ∧ f.t 5 = .int .i64 (i : Int) ∧ f.d = [] ∧ a.take i = b.take i) a.length ⟨0, by simp, rfl, rfl, rfl, rfl, by simp⟩ ?_
  rintro m f h ⟨i, hm, h0, h1, h5, hd, hall⟩
  refine vm ?_
  simp only [wq.down, seval, h0, h5]
  refine vcB.mk (fun hc => ?_) (fun hc => ?_)
  ·simp only [decide_eq_true_eq, Int.ofNat_lt] at hc
   have hc2 : i < b.length := by omega
   simp only [wq.down, seval, h0, h1, h5, ziY hc, ziY hc2]
   refine ⟨by decide +kernel, ⟨by omega, by omega⟩, ⟨by omega, by omega⟩, vcB.mk (fun hc => ?_) (fun hc => ?_)⟩
   ·simp only [wq.down, seval, hd]
    refine zB rfl ?_
    have : ¬ a = b := fun h => by subst h; simp at hc
    simp [this]
   ·simp only [wq.down, seval, h5, zm (show i < maxLen by omega)]
    exact .inl ⟨m - 1, by omega, i + 1, by omega, h0, h1, rfl, hd, zgT hall (by omega) (by omega) (by simpa using hc)⟩
  ·simp only [decide_eq_false_iff_not, Int.ofNat_lt] at hc
   simp only [wq.down, seval, hd]
   refine zB rfl ?_
   rw [List.take_of_length_le (by omega), List.take_of_length_le (by omega)] at hall
   simp [hall]
abbrev zsg (l : List Bool) : V := .is false 1 (l.map V.bool)
theorem zt {α : Type} {l : List α} {i : Nat} {d : α} (h : i < l.length) : l.getD i d = l[i] := by simp [List.getD_eq_getElem?_getD, h]
def hol (vs : List Bool) (a : Int) : Bool := if a < 0 then !(vs.getD (-a - 1).toNat false) else vs.getD (a - 1).toNat false
def hld (on : Cl) (a : Int) : Bool := if a < 0 then on.getD (-a).toNat 0 == -1 else on.getD a.toNat 0 == 1
def idx {α : Type} (l : List α) (p : α → Bool) : Int := match l.findIdx? p with | some i => i | none => -1
theorem zgU {α : Type} {l : List α} {p : α → Bool} {i : Nat} (h : i < l.length) (hn : ∀ x ∈ l.take i, p x = false) (hb : p l[i] = true) : idx l p = i := by
 have : l.findIdx? p = some i := by
  rw [List.findIdx?_eq_some_iff_getElem]
  refine ⟨h, hb, fun j hj => ?_⟩
  have : l[j] ∈ l.take i := by
   rw [List.mem_take_iff_getElem]
   exact ⟨j, by omega, rfl⟩
  simp [hn _ this]
 simp [idx, this]
theorem zeH {α : Type} {l : List α} {p : α → Bool} (hn : ∀ x ∈ l, p x = false) : idx l p = -1 := by
 have : l.findIdx? p = none := by
  rw [List.findIdx?_eq_none_iff]
  simpa using hn
 simp [idx, this]
theorem zmk {α : Type} (l : List α) (p : α → Bool) : decide (0 ≤ idx l p) = l.any p := by
 cases h : l.any p with
 | false =>
  rw [zeH (by simpa using h)]
  rfl
 | true =>
  have : ∃ x ∈ l, p x = true := by simpa using h
  unfold idx
  cases hb : l.findIdx? p with
  | none =>
   obtain ⟨x, hx, hx2⟩ := this
   have := (List.findIdx?_eq_none_iff.1 hb) x hx
   simp [hx2] at this
  | some i => simp
abbrev S := List UInt8
abbrev zU (l : List S) : V := .is false 1 (l.map V.str)
theorem zdz {l : List S} {r : List V} (hb : V.bnds (zU l :: r)) : l.length ≤ maxLen := by
 simp only [V.bnds, V.bnd, List.length_map] at hb
 exact hb.1.1
theorem zo6 {l : List S} {i : Nat} (h : i < l.length) (d : V) : (List.map V.str l).getD i d = .str l[i] := zcJ h _
def zkT (n : Nat) (l : List S) : Bool := decide (l.length ≤ n) && l.all fun s => decide (s.length ≤ 60)
theorem zfg (l : List S) (n : Nat) : Ev TE 56 [zU l, .int .i64 n] (.bool (zkT n l)) := by
 refine Ev.bnd fun hb => ?_
 have hlen := zdz hb
 refine zh Tryz.func56 rfl (by simp [nts]) (vm ?_)
 simp only [wq.down, Nat.reduceLT, Tryz.results56]
 refine zw (fun m f h => ∃ i, m + i = l.length ∧ f.t 0 = zU l ∧ f.t 1 = .int .i64 n ∧ f.t 5 = .int .i64 (i : Int) ∧ f.d = [] ∧ ∀ s ∈ l.take i, s.length ≤ 60) l.length ⟨0, by simp, rfl, rfl, rfl, rfl, by simp⟩ ?_
 rintro m f h ⟨i, hm, h0, h1, h5, hd, hall⟩
 refine vm ?_
 simp only [wq.down, seval, h0, h1, h5]
 refine vcB.mk (fun hc => ?_) (fun hc => ?_)
 ·simp only [Bool.and_eq_true, decide_eq_true_eq, Int.ofNat_lt, Int.ofNat_le] at hc
  obtain ⟨hc1, hc2⟩ := hc
  simp only [wq.down, seval, h0, h5, zo6 hc1]
  refine ⟨⟨by omega, by omega⟩, vcB.mk (fun hc => ?_) (fun hc => ?_)⟩
  ·simp only [wq.down, seval, hd]
   have : zkT n l = false := by
    simp only [decide_eq_true_eq] at hc
    have hx : ∃ x ∈ l, ¬ x.length ≤ 60 := ⟨l[i], List.getElem_mem _, by omega⟩
    simpa [zkT] using fun _ => hx
   rw [this]
   exact zo.dat rfl
  ·simp only [wq.down, seval, h5, zm (show i < maxLen by omega)]
   refine .inl ⟨m - 1, by omega, i + 1, by omega, h0, h1, rfl, hd, ?_⟩
   simp only [decide_eq_false_iff_not] at hc
   intro s hs
   rw [List.take_add_one] at hs
   simp only [hc1, List.getElem?_eq_getElem, Option.toList_some, List.mem_append, List.mem_singleton] at hs
   rcases hs with hs | rfl
   ·exact hall s hs
   ·omega
 ·simp only [wq.down, seval, h0, h1, hd]
  have : (decide ((l.length : Int) ≤ n)) = zkT n l := by
   simp only [Bool.and_eq_false_iff, decide_eq_false_iff_not, Int.ofNat_lt, Int.ofNat_le] at hc
   by_cases hi : i < l.length
   ·have h2 : ¬ l.length ≤ n := by omega
    simp [zkT, h2]
   ·rw [List.take_of_length_le (by omega)] at hall
    have : (l.all fun s => decide (s.length ≤ 60)) = true := by simpa using hall
    simp [zkT, this]
  rw [this]
  exact zo.dat rfl
def zbe (c : UInt8) : Bool := decide (33 ≤ c.toNat) && decide (c.toNat ≤ 126)
def zaY (s : S) : Bool := s.all zbe && (decide (1 ≤ s.length) && decide (s.length ≤ 40))
def zrd (n : Int) : Bool := decide (n ≤ 32) || decide (126 < n)
theorem zre (n : Int) : Ev TE 242 [.int .i32 n] (.bool (zrd n)) := by
 refine zh Tryz.func242 rfl (by simp [nts]) (vm ?_)
 simp only [wq.down, seval, Tryz.results242]
 exact zB rfl rfl
theorem zml {s : S} {i : Nat} (h : i < s.length) (hb : s[i].toNat < 128) : zjG s i = (s[i].toNat, 1) := by
 unfold zjG Utf8.decode
 have : ((ByteArray.mk s.toArray).get! (i + 0)).toNat = s[i].toNat := by
  simp [ByteArray.get!, h]
 simp only [this]
 rw [if_pos hb]
theorem zn5 {s : S} {i : Nat} (h : i < s.length) (hb : ¬ s[i].toNat < 128) : 128 ≤ (zjG s i).1 := by
 unfold zjG Utf8.decode
 have : ((ByteArray.mk s.toArray).get! (i + 0)).toNat = s[i].toNat := by
  simp [ByteArray.get!, h]
 simp only [this]
 rw [if_neg hb]
 repeat' split
 all_goals first
  | (simp [Utf8.runeError]; done)
  | (rename_i hc; simp only [Bool.and_eq_true, decide_eq_true_eq, ge_iff_le] at hc; dsimp only; omega)
  | (rename_i hc; simp only [ge_iff_le] at hc; dsimp only; omega)
theorem zn6 {s : S} {i : Nat} (h : i < s.length) : zrd (zjG s i).1 = !zbe s[i] := by
 by_cases hb : s[i].toNat < 128
 ·rw [zml h hb]
  refine Bool.eq_iff_iff.2 ?_
  simp only [zrd, zbe, Bool.or_eq_true, decide_eq_true_eq, Bool.not_eq_true', Bool.and_eq_false_iff, decide_eq_false_iff_not]
  omega
 ·have := zn5 h hb
  have h1 : zrd (zjG s i).1 = true := by simp only [zrd, Bool.or_eq_true, decide_eq_true_eq]; omega
  have h2 : zbe s[i] = false := by simp only [zbe, Bool.and_eq_false_iff, decide_eq_false_iff_not]; omega
  rw [h1, h2]; rfl
def zkU (s : S) : Option Nat := s.findIdx? fun c => !zbe c
def zo7 (s : S) : Int := match zkU s with | some i => i | none => -1
theorem zmm {s : S} {i : Nat} (h : i < s.length) (hn : ∀ x ∈ s.take i, zbe x = true) (hb : zbe s[i] = false) : zo7 s = i := by
 have : zkU s = some i := by
  unfold zkU
  rw [List.findIdx?_eq_some_iff_getElem]
  refine ⟨h, by simp [hb], fun j hj => ?_⟩
  have : s[j] ∈ s.take i := by
   rw [List.mem_take_iff_getElem]
   exact ⟨j, by omega, rfl⟩
  simp [hn _ this]
 simp [zo7, this]
theorem zhR {s : S} (hn : ∀ x ∈ s, zbe x = true) : zo7 s = -1 := by
 have : zkU s = none := by
  unfold zkU
  rw [List.findIdx?_eq_none_iff]
  simpa using hn
 simp [zo7, this]
theorem zrf (s : S) : Ev TE 276 [.str s, .fn (.func 242) [] [], .bool true] (.int .i64 (zo7 s)) := by
 refine Ev.bnd fun hb => ?_
 have hlen : s.length ≤ maxLen := hb.1
 refine zh Tryz.func276 rfl (by simp [nts]) (vm ?_)
 simp only [wq.down, seval, Tryz.results276]
 refine zw (fun m f h => ∃ i, m + i = s.length ∧ f.t 1 = .fn (.func 242) [] [] ∧ f.t 2 = .bool true ∧ f.t 10 = .lp 0 0 ∧ f.d = [] ∧ h = [.misc (.siter s i)] ∧ ∀ x ∈ s.take i, zbe x = true) s.length ⟨0, by simp, rfl, rfl, rfl, rfl, rfl, by simp⟩ ?_
 rintro m f h ⟨i, hm, h1, h2, h10, hd, rfl, hall⟩
 refine vm ?_
 simp only [wq.down, seval, h10]
 refine zcu.mk (fun hc => ?_) (fun hc => ?_)
 ·simp only [decide_eq_true_eq] at hc
  simp only [wq.down, seval, h1, zcu]
  refine zb.ev (zre _) rfl ?_
  rw [zn6 hc]
  simp only [wq.down, seval, h2]
  refine vcB.mk (fun hc' => ?_) (fun hc' => ?_)
  ·have hb : zbe s[i] = false := by simpa using hc'
   simp only [wq.down, seval, hd]
   rw [zmm hc hall hb]
   exact zo.dat rfl
  ·have hb : zbe s[i] = true := by simpa using hc'
   have h128 : s[i].toNat < 128 := by
    simp only [zbe, Bool.and_eq_true, decide_eq_true_eq] at hb
    omega
   simp only [wq.down, Int.reduceNeg]
   exact .inl ⟨m - 1, by omega, i + 1, by omega, h1, h2, h10, hd, by rw [zml hc h128], zbi hc hall hb⟩
 ·simp only [decide_eq_false_iff_not] at hc
  simp only [wq.down, seval, hd, zcu]
  rw [List.take_of_length_le (by omega)] at hall
  rw [zhR hall]
  exact zo.dat rfl
theorem zrg (s : S) : Ev TE 243 [.str s, .fn (.func 242) [] []] (.int .i64 (zo7 s)) := by
 refine zh Tryz.func243 rfl (by simp [nts]) (vm ?_)
 simp only [wq.down, seval, Tryz.results243]
 refine zb.ev (zrf s) rfl ?_
 simp only [wq.down, seval]
 exact zo.dat rfl
theorem zn7 (s : S) : decide (zo7 s < 0) = s.all zbe := by
 cases h : s.all zbe with
 | true =>
  rw [zhR (by simpa using h)]
  rfl
 | false =>
  have : ∃ x ∈ s, zbe x = false := by simpa using h
  cases hb : zkU s with
  | none =>
   obtain ⟨x, hx, hx2⟩ := this
   have := (List.findIdx?_eq_none_iff.1 hb) x hx
   simp [hx2] at this
  | some i => simp [zo7, hb]
theorem zn8 (s : S) : Ev TE 221 [.str s] (.bool (zaY s)) := by
 refine zh Tryz.func221 rfl (by simp [nts]) (vm ?_)
 simp only [wq.down, seval, Tryz.results221]
 refine ziL.ev (q := 243) (vs := [.str s, .fn (.func 242) [] []]) (by simp only [wq.down, seval]) (by simp only [wq.down, seval]) rfl (fun _ => zrg s) (fun _ => rfl) ?_
 simp only [wq.down, seval]
 refine zB rfl ?_
 rw [zn7]
 unfold zaY
 congr 1
 have h1 : (!s == []) = decide (1 ≤ s.length) := by cases s <;> simp
 have h2 : decide ((s.length : Int) ≤ 40) = decide (s.length ≤ 40) := decide_eq_decide.2 (by omega)
 rw [h1, h2, Bool.and_comm]
theorem zjL (s : S) : Ev TE 190 [.str s] (.bool (zaY s)) := by
 refine zh Tryz.func190 rfl (by simp [nts]) (vm ?_)
 simp only [wq.down, seval, Tryz.results190]
 refine zb.ev (zn8 s) rfl ?_
 simp only [wq.down, seval]
 exact zo.dat rfl
theorem zam {dst : Option Tmp} {Kn : Fr → H → Prop} {Q : XE → Fr → H → Prop} {f : Fr} {v : V} {h : H} {p : Nat → Bool} : zY dst Kn Q f (.ret v) h p = ((∀ i ∈ f.d, p i = false) ∧ Kn ((f.drop p).put dst v) h) := rfl
theorem zo8 : ∀ l : List Bool, V.dats (l.map V.bool) = true
 | [] => rfl
 | a :: l => by simp only [List.map_cons, V.dats, V.dat, zo8 l, Bool.and_self]
theorem zd2 : ∀ l : Cl, V.dats (l.map vi) = true
 | [] => rfl
 | a :: l => by simp only [List.map_cons, V.dats, V.dat, zd2 l, Bool.and_self]
theorem zmn : ∀ c : Cl, zap 1 (c.map vi) = true
 | [] => rfl
 | a :: l => by simp only [List.map_cons, zap, zmn l, V.fit, V.vc, List.length_singleton]; rfl
theorem ziZ : ∀ c : Cl, (c.map vi).flatMap V.vc = c.map vi
 | [] => rfl
 | a :: l => by simp only [List.map_cons, List.flatMap_cons, V.vc, ziZ l]; rfl
theorem zG {p : Nat → Bool} : ∀ c : Cl, V.drops p (c.map vi) = c.map vi
 | [] => rfl
 | a :: l => by simp only [List.map_cons, V.drops, V.drop, zG l]
theorem zhS : ∀ l : Cl, zX (l.map vi) = true
 | [] => rfl
 | a :: l => by simp only [List.map_cons, zX, zhS l, V.one, V.vc, List.length_singleton]; rfl
theorem zaH {e : E} {h : H} {id len cap : Nat} {l : Cl} (hc : h[id]? = some (.cells (l.map vi))) (hl : len = l.length) : zo e h (.ls id 1 0 len cap) (zr l) :=
 zo.ls hc (zl.dat (zd2 l)) (zmn l) (ziZ l) (by simpa using hl)
abbrev Pr := Int × Int
abbrev prV (p : Pr) : V := .agg [vi p.1, vi p.2]
abbrev prs (l : List Pr) : V := .is false 2 (l.map prV)
structure Gr where
 ins : Int
 next : Cl
 init : Cl
 ands : List Pr
 outs : Cl
abbrev Gr.v (g : Gr) : V := .agg [vi g.ins, zr g.next, zr g.init, prs g.ands, zr g.outs]
def Gr.first (g : Gr) : Int := 1 + g.ins + g.next.length
theorem zrh (c : Cl) (q : FuncId) (caps : List V) (p : Int → Bool) (he : zf P q = true) (hd : V.dats caps = true) (hq : ∀ x ∈ c, Ev TE q (vi x :: caps) (.bool (p x))) : Ev TE 203 [zr c, .fn (.func q) [] caps] (vi (idx c p)) := by
 refine Ev.bnd fun hb => ?_
 have hlen := zgS hb
 refine zh Tryz.func203 rfl (by simp [nts]) (vm ?_)
 simp only [wq.down, seval, Tryz.results203]
 refine zw (fun m f h => ∃ i, m + i = c.length ∧ f.t 0 = zr c ∧ f.t 1 = .fn (.func q) [] caps ∧ f.t 7 = .int .i64 (c.length : Int) ∧ f.t 8 = .int .i64 (i : Int) ∧ f.d = [] ∧ ∀ x ∈ c.take i, p x = false) c.length ⟨0, by simp, rfl, rfl, rfl, rfl, rfl, by simp⟩ ?_
 rintro m f h ⟨i, hm, h0, h1, h7, h8, hdd, hall⟩
 refine vm ?_
 simp only [wq.down, seval, h7, h8]
 refine vcB.mk (fun hc => ?_) (fun hc => ?_)
 ·simp only [decide_eq_true_eq, Int.ofNat_lt] at hc
  simp only [wq.down, seval, h0, h1, h8, ziY hc, he]
  refine ⟨⟨by omega, by omega⟩, zb.ev (hq _ (List.getElem_mem _)) (by simp [V.dats, V.dat, hd]) ?_⟩
  simp only [wq.down, seval]
  refine vcB.mk (fun hc' => ?_) (fun hc' => ?_)
  ·simp only [wq.down, seval, hdd]
   rw [zgU hc hall hc']
   exact zo.dat rfl
  ·simp only [wq.down, seval, h8, zm (show i < maxLen by omega)]
   exact .inl ⟨m - 1, by omega, i + 1, by omega, h0, h1, h7, rfl, hdd, zbi hc hall hc'⟩
 ·simp only [decide_eq_false_iff_not, Int.ofNat_lt] at hc
  simp only [wq.down, seval, hdd]
  rw [List.take_of_length_le (by omega)] at hall
  rw [zeH hall]
  exact zo.dat rfl
theorem zcf (g : Gr) (h0 : -1000000000 ≤ g.ins) (h1 : g.ins ≤ 1000000000) (h2 : g.next.length ≤ 1000000000) : Ev TE 92 [g.v] (vi g.first) := by
 unfold Gr.v Gr.first
 refine zh Tryz.func92 rfl (by simp [nts]) (vm ?_)
 simp only [wq.down, seval, Tryz.results92]
 rw [zJ (n := 1 + g.ins) (by omega) (by omega), zJ (by omega) (by omega)]
 exact zo.dat rfl
theorem zmo (c : Cl) (q : FuncId) (caps : List V) (p : Int → Bool) (he : zf P q = true) (hd : V.dats caps = true) (hq : ∀ x ∈ c, Ev TE q (vi x :: caps) (.bool (p x))) : Ev TE 164 [zr c, .fn (.func q) [] caps] (.bool (c.any p)) := by
 refine zh Tryz.func164 rfl (by simp [nts]) (vm ?_)
 simp only [wq.down, seval, Tryz.results164]
 refine zb.ev (zrh c q caps p he hd hq) (by simp [V.dats, V.dat, hd]) ?_
 simp only [wq.down, seval]
 exact zB rfl (by rw [zmk])
def zn9 (all a : Int) : Bool := decide (a < 0) || decide (all ≤ a)
theorem zmp (all a : Int) : Ev TE 162 [vi a, .ip (vi all)] (.bool (zn9 all a)) := by
 refine zh Tryz.func162 rfl (by simp [nts]) (vm ?_)
 simp only [wq.down, seval, Tryz.results162]
 exact zB rfl rfl
def zqL (a : Int) : Bool := decide (a < 0) || decide (2 < a)
theorem zpY (a : Int) : Ev TE 163 [vi a] (.bool (zqL a)) := by
 refine zh Tryz.func163 rfl (by simp [nts]) (vm ?_)
 simp only [wq.down, seval, Tryz.results163]
 exact zB rfl rfl
def Gr.all (g : Gr) : Int := 2 * (g.first + g.ands.length)
def zsa (own : Int) (p : Pr) : Bool := decide (p.1 < 0) || decide (p.2 < 0) || decide (own ≤ p.1) || decide (own ≤ p.2)
def Gr.lim (g : Gr) : Bool := decide (g.ins < 0) || decide (4000 < g.ins) || decide (4000 < g.ins + g.next.length + g.ands.length) || decide (4000 < (g.outs.length : Int))
def Gr.oddR (g : Gr) : Bool := (g.init.length != g.next.length) || g.init.any zqL || g.next.any (zn9 g.all) || g.outs.any (zn9 g.all)
def Gr.oddAs (g : Gr) (n : Nat) : Bool := (List.range n).any fun i => zsa (2 * (g.first + i)) (g.ands.getD i (0, 0))
def Gr.chk (g : Gr) : Int := if g.lim then 8 else if g.oddR then 1 else if g.oddAs g.ands.length then 1 else 0
structure Gr.Sm (g : Gr) : Prop where
 next : g.next.length ≤ 200000000000000
 ands : g.ands.length ≤ 200000000000000
def zri : Plan := .take 2 <| .alt 0 (.alt 1 (.alt 3 (.alt 4 (.alt 5 (.alt 6 (.one 7 <| .one 8 <| .fin) (.one 7 (.one 6 <| .one 8 <| .fin))) (.one 7 (.one 5 <| .one 6 <| .one 8 <| .fin))) (.one 7 (.one 4 <| .one 5 <| .one 6 <| .one 8 <| .fin))) (.one 7 (.one 3 <| .one 4 <| .one 5 <| .one 6 <| .one 8 <| .fin))) (.alt 3 (.alt 1 (.alt 4 (.alt 5 (.alt 6 (.one 7 <| .one 8 <| .fin) (.one 7 (.one 6 <| .one 8 <| .fin))) (.one 7 (.one 5 <| .one 6 <| .one 8 <| .fin))) (.one 7 (.one 4 <| .one 5 <| .one 6 <| .one 8 <| .fin))) (.alt 4 (.alt 1 (.alt 5 (.alt 6 (.one 7 <| .one 8 <| .fin) (.one 7 (.one 6 <| .one 8 <| .fin))) (.one 7 (.one 5 <| .one 6 <| .one 8 <| .fin))) (.one 7 (.one 1 <| .one 5 <| .one 6 <| .one 8 <| .fin))) (.one 7 (.alt 1 (.one 4 <| .one 5 <| .one 6 <| .one 8 <| .fin) (.one 4 (.one 1 <| .one 5 <| .one 6 <| .one 8 <| .fin)))))) (.one 7 (.alt 1 (.one 3 <| .one 4 <| .one 5 <| .one 6 <| .one 8 <| .fin) (.one 3 (.alt 1 (.one 4 <| .one 5 <| .one 6 <| .one 8 <| .fin) (.one 4 (.one 1 <| .one 5 <| .one 6 <| .one 8 <| .fin)))))))) (.alt 3 (.alt 0 (.alt 1 (.alt 4 (.alt 5 (.alt 6 (.one 7 <| .one 8 <| .fin) (.one 7 (.one 6 <| .one 8 <| .fin))) (.one 7 (.one 5 <| .one 6 <| .one 8 <| .fin))) (.one 7 (.one 4 <| .one 5 <| .one 6 <| .one 8 <| .fin))) (.alt 4 (.alt 1 (.alt 5 (.alt 6 (.one 7 <| .one 8 <| .fin) (.one 7 (.one 6 <| .one 8 <| .fin))) (.one 7 (.one 5 <| .one 6 <| .one 8 <| .fin))) (.one 7 (.one 1 <| .one 5 <| .one 6 <| .one 8 <| .fin))) (.one 7 (.alt 1 (.one 4 <| .one 5 <| .one 6 <| .one 8 <| .fin) (.one 4 (.one 1 <| .one 5 <| .one 6 <| .one 8 <| .fin)))))) (.alt 4 (.alt 0 (.alt 1 (.alt 5 (.alt 6 (.one 7 <| .one 8 <| .fin) (.one 7 (.one 6 <| .one 8 <| .fin))) (.one 7 (.one 5 <| .one 6 <| .one 8 <| .fin))) (.one 7 (.one 1 <| .one 5 <| .one 6 <| .one 8 <| .fin))) (.one 7 (.one 0 <| .one 1 <| .one 5 <| .one 6 <| .one 8 <| .fin))) (.one 7 (.alt 0 (.alt 1 (.one 4 <| .one 5 <| .one 6 <| .one 8 <| .fin) (.one 4 (.one 1 <| .one 5 <| .one 6 <| .one 8 <| .fin))) (.one 4 (.one 0 <| .one 1 <| .one 5 <| .one 6 <| .one 8 <| .fin)))))) (.one 7 (.alt 0 (.alt 1 (.one 3 <| .one 4 <| .one 5 <| .one 6 <| .one 8 <| .fin) (.one 3 (.alt 1 (.one 4 <| .one 5 <| .one 6 <| .one 8 <| .fin) (.one 4 (.one 1 <| .one 5 <| .one 6 <| .one 8 <| .fin))))) (.one 3 (.alt 0 (.alt 1 (.one 4 <| .one 5 <| .one 6 <| .one 8 <| .fin) (.one 4 (.one 1 <| .one 5 <| .one 6 <| .one 8 <| .fin))) (.one 4 (.one 0 <| .one 1 <| .one 5 <| .one 6 <| .one 8 <| .fin)))))))
set_option maxHeartbeats 8000000 in
theorem zd3 (g : Gr) (hs : g.Sm) : Ev TE 86 [g.v] (vi g.chk) := by
 obtain ⟨hs1, hs2⟩ := hs
 unfold Gr.v
 refine zh Tryz.func86 rfl (by simp [nts]) (vm ?_)
 simp only [wq.down, seval, Tryz.results86]
 have hins : g.lim = false → 0 ≤ g.ins ∧ g.ins ≤ 4000 ∧ g.ins + g.next.length + g.ands.length ≤ 4000 ∧ (g.outs.length : Int) ≤ 4000 := by
  intro h
  simp only [Gr.lim, Bool.or_eq_false_iff, decide_eq_false_iff_not] at h
  omega
 have hl : (decide (g.ins < 0) || decide (4000 < g.ins) || decide (4000 < IntKind.i64.wrap (IntKind.i64.wrap (g.ins + (g.next.length : Int)) + (g.ands.length : Int))) || decide (4000 < (g.outs.length : Int))) = g.lim := by
  unfold Gr.lim
  by_cases a1 : g.ins < 0
  ·simp [a1]
  by_cases a2 : 4000 < g.ins
  ·simp [a2]
  rw [zJ (n := g.ins + (g.next.length : Int)) (by omega) (by omega), zJ (by omega) (by omega)]
 rw [hl]
 refine vcB.mk (fun hc => ?_) (fun hc => ?_)
 ·simp only [wq.down, seval]
  exact zB rfl (by unfold Gr.chk; rw [if_pos hc])
 ·obtain ⟨i0, i1, i2, i3⟩ := hins hc
  simp only [wq.down]
  refine zO mixed zri (fun f' h' => f'.t 1 = .lp 0 0 ∧ f'.t 3 = .lp 1 0 ∧ f'.d = [] ∧ h' = [.cells [vi g.ins, zr g.next, zr g.init, prs g.ands, zr g.outs], .cells [vi g.all]]) (by decide +kernel) (by decide +kernel) ?_ ?_
  ·simp only [wq.down, seval, zri]
   have wf : g.first = 1 + g.ins + g.next.length := rfl
   have w1 : IntKind.i64.wrap (g.first + (g.ands.length : Int)) = g.first + g.ands.length := zJ (by omega) (by omega)
   have w2 : IntKind.i64.wrap (2 * (g.first + (g.ands.length : Int))) = g.all := zJ (by omega) (by omega)
   have hfi := zcf g (by omega) (by omega) (by omega)
   unfold Gr.v at hfi
   have dg : V.dats [.agg [vi g.ins, zr g.next, zr g.init, prs g.ands, zr g.outs]] = true := by simp only [V.dats, V.dat, Bool.and_self]
   repeat' apply And.intro
   all_goals (refine zb.ev hfi dg ?_)
   all_goals (simp only [wq.down, seval, w1, w2])
   all_goals (first | exact ⟨rfl, rfl, rfl, rfl⟩ | trace_state)
  ·rintro f h ⟨h1, h3, hd, rfl⟩
   have hlim : g.lim = false := hc
   have fin1 : g.oddR = true → zo TE [.cells [vi g.ins, zr g.next, zr g.init, prs g.ands, zr g.outs], .cells [vi g.all]] (vi 1) (vi g.chk) := fun h => zB rfl (by unfold Gr.chk; rw [hlim, h]; rfl)
   by_cases e : g.init.length = g.next.length
   ·have e1 : ((g.init.length : Int) != (g.next.length : Int)) = false := by simp [e]
    simp only [wq.down, seval, h1, h3, e1]
    refine zb.ev (zmo g.init 163 [] zqL rfl rfl fun x _ => zpY x) rfl ?_
    cases hA : g.init.any zqL with
    | true =>
     simp only [wq.down, seval, h1]
     refine ⟨.bool true, ?_⟩
     simp only [wq.down, seval]
     refine ⟨.bool true, ?_⟩
     simp only [wq.down, seval, hd]
     exact fin1 (by simp [Gr.oddR, hA])
    | false =>
     simp only [wq.down, seval, h1]
     have rf : zl TE [.cells [vi g.ins, zr g.next, zr g.init, prs g.ands, zr g.outs], .cells [vi g.all]] [.fn (.func 162) [] [.lp 1 0]] [.fn (.func 162) [] [.ip (vi g.all)]] :=
      zl.cons (zo.fn zl.nil (zl.cons (zo.lp rfl (zl.dat rfl) rfl rfl (by simp [V.vc]) rfl) zl.nil)) zl.nil
     refine zb.lend (zmo g.next 162 [.ip (vi g.all)] (zn9 g.all) rfl rfl fun x _ => zmp g.all x) (zl.cons (zo.dat rfl) rf) rfl ?_
     cases hB : g.next.any (zn9 g.all) with
     | true =>
      simp only [wq.down, seval, h1]
      refine ⟨.bool true, ?_⟩
      simp only [wq.down, seval, hd]
      exact fin1 (by simp [Gr.oddR, hB])
     | false =>
      simp only [wq.down, seval, h1]
      refine zb.lend (zmo g.outs 162 [.ip (vi g.all)] (zn9 g.all) rfl rfl fun x _ => zmp g.all x) (zl.cons (zo.dat rfl) rf) rfl ?_
      cases hC : g.outs.any (zn9 g.all) with
      | true =>
       simp only [wq.down, seval, hd]
       exact fin1 (by simp [Gr.oddR, hC])
      | false =>
       simp only [wq.down, seval, h1]
       refine zw (fun m f h => ∃ i G, m + i = g.ands.length ∧ f.t 1 = .lp 0 0 ∧ f.t 70 = prs g.ands ∧ f.t 71 = vi g.ands.length ∧ f.t 72 = vi i ∧ f.d = [] ∧ h = [.cells [vi g.ins, zr g.next, zr g.init, prs g.ands, zr g.outs], .cells [vi g.all]] ++ G ∧ g.oddAs i = false) g.ands.length ⟨0, [], by simp, by simp only [wq.down, seval, h1], by simp only [wq.down, seval], by simp only [wq.down, seval], rfl, by simp only [wq.down, hd], by simp, rfl⟩ ?_
       rintro m f h ⟨i, G, hm, h1, h70, h71, h72, hd, rfl, hno⟩
       refine vm ?_
       simp only [wq.down, seval, h71, h72]
       refine vcB.mk (fun hlt => ?_) (fun hlt => ?_)
       ·simp only [decide_eq_true_eq, Int.ofNat_lt] at hlt
        have hg : (g.ands.map prV).getD i .any = prV g.ands[i] := zcJ hlt _
        have hM : maxLen = 9223372036854775807 := rfl
        have hgE : ∀ x : O, (G ++ [x])[G.length]? = some x := fun x => by simp
        have hgS : ∀ x y : O, (G ++ [x]).set G.length y = G ++ [y] := fun x y => by simp
        have dg : V.dats [.agg [vi g.ins, zr g.next, zr g.init, prs g.ands, zr g.outs]] = true := by simp only [V.dats, V.dat, Bool.and_self]
        have wf : g.first = 1 + g.ins + g.next.length := rfl
        have w1 : IntKind.i64.wrap (g.first + (i : Int)) = g.first + i := zJ (by omega) (by omega)
        have w2 : IntKind.i64.wrap (2 * (g.first + (i : Int))) = 2 * (g.first + i) := zJ (by omega) (by omega)
        have hfi := zcf g (by omega) (by omega) (by omega)
        unfold Gr.v at hfi
        simp only [wq.down, ↓reduceIte, Nat.reduceEqDiff, Nat.reduceLT, Nat.reduceLeDiff, Nat.reduceAdd, Nat.reduceSub, Int.reduceToNat, Nat.reduceDiv, Int.reduceLT, Int.reduceLE, Int.reduceNeg, Int.reduceBEq, Int.reduceBNe, Int.reduceAdd, Int.reduceSub, Nat.reduceBEq, reduceCtorEq, Nat.reduceMul, zg, Tryz.results86, h1, h70, h71, h72, hd, hg, Int.toNat_natCast, hgE, hgS, List.drop_nil]
        refine ⟨⟨by omega, by omega⟩, zb.ev hfi dg ?_⟩
        simp only [wq.down, ↓reduceIte, Nat.reduceEqDiff, Nat.reduceLT, Nat.reduceLeDiff, Nat.reduceAdd, Nat.reduceSub, Int.reduceToNat, Nat.reduceDiv, Int.reduceLT, Int.reduceLE, Int.reduceNeg, Int.reduceBEq, Int.reduceBNe, Int.reduceAdd, Int.reduceSub, Nat.reduceBEq, reduceCtorEq, Nat.reduceMul, zg, Tryz.results86, zam, h1, h70, h71, h72, hd, w1, w2, hgE, hgS, zm (show i < maxLen by omega)]
        refine ⟨by decide, fun _ => by decide, fun _ => by decide, fun _ => by decide, vcB.mk (fun hb => ?_) (fun hb => ?_)⟩
        ·simp only [wq.down, ↓reduceIte, Nat.reduceLT, hd]
         refine zB rfl ?_
         unfold Gr.chk
         rw [hlim, if_neg (by simp), if_neg (by simp [Gr.oddR, e, hA, hB, hC]), if_pos]
         simp only [Gr.oddAs, List.any_eq_true, List.mem_range]
         refine ⟨i, hlt, ?_⟩
         rw [zt hlt]
         exact hb
        ·simp only [wq.down, seval, h72, zm (show i < maxLen by omega)]
         refine .inl ⟨m - 1, by omega, i + 1, G ++ [.cells [vi g.ands[i].1, vi g.ands[i].2]], by omega, h1, h70, h71, rfl, hd, rfl, ?_⟩
         simp only [Gr.oddAs, List.range_succ, List.any_append, List.any_cons, List.any_nil, Bool.or_false, Bool.or_eq_false_iff]
         refine ⟨hno, ?_⟩
         rw [zt hlt]
         exact hb
       ·simp only [decide_eq_false_iff_not, Int.ofNat_lt] at hlt
        simp only [wq.down, seval, hd]
        have hi : i = g.ands.length := by omega
        refine zB rfl ?_
        unfold Gr.chk
        rw [hlim, if_neg (by simp), if_neg (by simp [Gr.oddR, e, hA, hB, hC]), ← hi, hno]
        rfl
   ·have e1 : ((g.init.length : Int) != (g.next.length : Int)) = true := by simpa [Int.natCast_inj] using e
    simp only [wq.down, seval, h1, h3, e1]
    refine ⟨.bool true, ?_⟩
    simp only [wq.down, seval, h1]
    refine ⟨.bool true, ?_⟩
    simp only [wq.down, seval]
    refine ⟨.bool true, ?_⟩
    simp only [wq.down, seval, hd]
    exact fin1 (by simp [Gr.oddR, e])
theorem zkV (n : Nat) (hn : n ≤ 1000000000) (h : H) (R : AEnd → H → (Nat → Bool) → Prop) (hr0 : n = 0 → R (.ret .nils) h (fun _ => false))
 (hr : 0 < n → R (.ret (.ls h.length 1 0 0 n)) (h ++ [.cells (List.replicate n (.str []))]) (fun _ => false)) : zb TE 151 [.nils, vi n] h R := by
 refine zi Tryz.func151 rfl (by simp [nts]) ?_
 refine za (vm ?_)
 simp only [wq.down, Nat.reduceLT, Tryz.results151]
 refine za ?_
 refine vm ?_
 simp only [wq.down, seval]
 refine vcB.mk (fun hc => ?_) (fun hc => ?_)
 ·simp only [decide_eq_true_eq] at hc; omega
 simp only [wq.down]
 refine za (za (za6 ?_))
 refine zj rfl rfl ?_
 simp only [wq.down, seval]
 refine zj rfl rfl ?_
 simp only [wq.down, seval]
 refine zag rfl rfl ?_
 have hq : ti TE.P 26 = some ⟨.slice 9, 1, 24, .nils⟩ := by simp only [wq.down]
 have hqe : ti TE.P 9 = some ⟨.str, 1, 16, .str []⟩ := by simp only [wq.down]
 have hqi : ti TE.P 3 = some ⟨.int .i64, 1, 8, .int .i64 0⟩ := by simp only [wq.down]
 refine zbH (t := 26) rfl rfl hq rfl trivial rfl ?_
 refine zj rfl rfl ?_
 simp only [wq.down, seval]
 refine zj rfl rfl ?_
 simp only [wq.down, ↓reduceIte]
 refine zj rfl rfl ?_
 simp only [wq.down, seval]
 refine zj rfl rfl ?_
 simp only [wq.down, seval]
 refine zj rfl rfl ?_
 simp only [wq.down, ↓reduceIte]
 have w0 : IntKind.i64.wrap 0 = 0 := by decide
 have w1 : IntKind.i64.wrap ((n : Int) - 0) = n := by rw [Int.sub_zero]; exact zJ (by omega) (by omega)
 refine zac ?_
 simp only [wq.down, w0, w1]
 refine za ?_
 refine vm ?_
 simp only [wq.down, seval]
 refine zT (b := decide ((0 : Int) < n)) (by simp only [wq.down, ↓reduceIte]) (by simp only [wq.down, ↓reduceIte]) (fun hb => ?_) (fun hb => ?_)
 ·have hpos : 0 < n := by simp only [decide_eq_true_eq] at hb; omega
  refine za6 ?_
  refine zj rfl rfl ?_
  simp only [wq.down, seval]
  refine zj rfl rfl ?_
  simp only [wq.down, seval]
  refine zag rfl rfl ?_
  refine zbH (t := 26) rfl rfl hq rfl trivial rfl ?_
  refine zag rfl rfl ?_
  refine zcZ rfl hq rfl hqe (by simp only [wq.down, seval]) (by simp only [wq.down, seval]) (by simp only [wq.down, ↓reduceIte]) (k := .i64) (by simp only [wq.down, ↓reduceIte]) ?_
  refine zj rfl rfl ?_
  simp only [wq.down, seval]
  refine zag rfl rfl ?_
  refine zcy (x := .tmp 20) (y := .tmp 21) (t := 26) (xt := 3) (el := 9) ⟨⟨_, rfl, rfl, rfl⟩, hq, rfl, hqe, rfl, rfl, Nat.zero_lt_one⟩ (by simp only [wq.down, seval]) (by simp only [wq.down, ↓reduceIte]) (by simp only [wq.down, seval]) (by simp only [wq.down, ↓reduceIte]) hqi rfl hpos (by omega) ?_ rfl (zv := .str []) rfl ?_
  ·show n * 16 ≤ _
   omega
  refine zj rfl rfl ?_
  simp only [wq.down, seval]
  refine zj rfl rfl ?_
  simp only [wq.down, ↓reduceIte]
  refine zj rfl rfl ?_
  simp only [wq.down, seval]
  refine ⟨by omega, ?_⟩
  refine zj rfl rfl ?_
  simp only [wq.down, ↓reduceIte]
  refine zac ?_
  simp only [wq.down]
  refine vm ?_
  simp only [wq.down, seval]
  exact hr hpos
 ·have : n = 0 := by simp only [decide_eq_false_iff_not] at hb; omega
  refine vm ?_
  simp only [wq.down]
  refine vm ?_
  simp only [wq.down, seval]
  exact hr0 this
theorem zkW {α : Type} (ls : List (List α)) (i : Nat) : ls.flatten = (ls.take i).flatten ++ (ls.drop i).flatten := by rw [← List.flatten_append, List.take_append_drop]
theorem zaS {α : Type} {ls : List (List α)} {i : Nat} (h : i < ls.length) : (ls.take (i + 1)).flatten = (ls.take i).flatten ++ ls[i] := by
 rw [List.take_add_one, List.flatten_append]; simp [h]
theorem zeI {α : Type} {ls : List (List α)} {i : Nat} (h : i < ls.length) : (ls.take i).flatten.length + ls[i].length ≤ ls.flatten.length := by
 have h1 := congrArg List.length (zkW ls (i + 1))
 rw [zaS h] at h1
 simp only [List.length_append] at h1
 omega
def zsz (n : Nat) (c : List S) (v : V) (h : H) : Prop :=
 (c = [] ∧ v = .nils ∧ h = [] ∧ n = 0) ∨ (c.length ≤ n ∧ v = .ls 0 1 0 c.length n ∧ h = [.cells (c.map V.str ++ List.replicate (n - c.length) (.str []))])
theorem zoa (n : Nat) (hn : n ≤ 1000000000) (R : AEnd → H → (Nat → Bool) → Prop) (hr : ∀ v h, zsz n [] v h → R (.ret v) h (fun _ => false)) : zb TE 151 [.nils, vi n] [] R :=
 zkV n hn [] R (fun hz => hr _ _ (.inl ⟨rfl, rfl, rfl, hz⟩)) (fun hz => hr _ _ (.inr ⟨Nat.zero_le _, rfl, rfl⟩))
theorem zjM : ∀ l : List S, zX (l.map V.str) = true
 | [] => rfl
 | a :: l => by simp only [List.map_cons, zX, zjM l, V.one, V.vc, List.length_singleton]; rfl
theorem zi0 (c l : List S) (n : Nat) (h : c.length + l.length ≤ n) : zae (c.map V.str ++ List.replicate (n - c.length) (.str [])) c.length (l.map V.str) = (c ++ l).map V.str ++ List.replicate (n - (c ++ l).length) (.str []) := by
 unfold zae
 have e1 : (c.map V.str ++ List.replicate (n - c.length) (V.str [])).take c.length = c.map V.str := by
  simp
 have e2 : (c.map V.str ++ List.replicate (n - c.length) (V.str [])).drop (c.length + (l.map V.str).length) = List.replicate (n - (c ++ l).length) (V.str []) := by
  rw [List.drop_append]
  have : (c.map V.str).drop (c.length + (l.map V.str).length) = [] := List.drop_of_length_le (by simp)
  rw [this, List.nil_append, List.drop_replicate]
  congr 1
  simp only [List.length_map, List.length_append]
  omega
 rw [e1, e2, List.map_append]
theorem zi1 (ls : List (List S)) (hn : ls.flatten.length ≤ 1000000000) (hls : ls.length ≤ 1000000000) : EvF TE 75 [.is true 1 (ls.map zU)] 1 ls.flatten.length (ls.flatten.map V.str) := by
 have hM : maxLen = 9223372036854775807 := rfl
 have hget : ∀ {i : Nat} (h : i < ls.length) (d : V), (ls.map zU).getD i d = zU ls[i] := fun h d => zcJ h d
 unfold EvF
 refine zi Tryz.func75 rfl (by simp [nts]) (vm ?_)
 simp only [wq.down, seval, Tryz.results75]
 refine zw (fun m f h => ∃ i, m + i = ls.length ∧ f.t 0 = .is true 1 (ls.map zU) ∧ f.t 3 = vi (ls.take i).flatten.length ∧ f.t 9 = .is true 1 (ls.map zU) ∧ f.t 10 = vi ls.length ∧ f.t 11 = vi i ∧ f.d = [] ∧ h = []) ls.length ⟨0, by simp, rfl, rfl, rfl, by simp only [wq.down, seval], rfl, rfl, rfl⟩ ?_
 rintro m f h ⟨i, hm, h0, h3, h9, h10, h11, hd, rfl⟩
 refine vm ?_
 simp only [wq.down, seval, h10, h11]
 refine vcB.mk (fun hc => ?_) (fun hc => ?_)
 ·simp only [decide_eq_true_eq, Int.ofNat_lt] at hc
  have hfl := zeI hc
  have hw : IntKind.i64.wrap (((ls.take i).flatten.length : Int) + (ls[i].length : Int)) = ((ls.take (i + 1)).flatten.length : Int) := by
   rw [zaS hc, List.length_append, zba (by omega) (by omega)]; omega
  simp only [wq.down, seval, h3, h9, h11, hget hc, hw]
  refine ⟨⟨by omega, by omega⟩, vcB.mk (fun hc' => ?_) (fun hc' => ?_)⟩
  ·simp only [decide_eq_true_eq] at hc'; omega
  ·simp only [wq.down, seval, h11, zm (show i < maxLen by omega)]
   exact .inl ⟨m - 1, by omega, i + 1, by omega, h0, rfl, h9, h10, rfl, hd, rfl⟩
 ·simp only [decide_eq_false_iff_not, Int.ofNat_lt] at hc
  have hi : ls.take i = ls := List.take_of_length_le (by omega)
  rw [hi] at h3
  simp only [wq.down, seval, h3]
  refine zoa ls.flatten.length hn _ (fun v0 h0' hcat => ?_)
  simp only [wq.down, seval, h0]
  refine zw (fun m f h => ∃ i v, m + i = ls.length ∧ f.t 25 = .is true 1 (ls.map zU) ∧ f.t 26 = vi ls.length ∧ f.t 27 = vi i ∧ f.t 6 = v ∧ f.d = [] ∧ zsz ls.flatten.length (ls.take i).flatten v h) ls.length ⟨0, v0, by simp, by simp only [wq.down, seval], by simp only [wq.down, seval], rfl, rfl, by simp only [wq.down, hd], by simpa using hcat⟩ ?_
  rintro m f h ⟨i, v, hm, h25, h26, h27, h6, hd, hcat⟩
  refine vm ?_
  simp only [wq.down, seval, h26, h27]
  refine vcB.mk (fun hc => ?_) (fun hc => ?_)
  ·simp only [decide_eq_true_eq, Int.ofNat_lt] at hc
   have hfl := zeI hc
   have hnext : f.t 27 = vi i → IntKind.i64.wrap ((i : Int) + 1) = ((i + 1 : Nat) : Int) := fun _ => zm (by omega)
   rcases hcat with ⟨hc0, rfl, rfl, hn0⟩ | ⟨hcl, rfl, rfl⟩
   ·have hl0 : ls[i] = [] := List.eq_nil_of_length_eq_zero (by omega)
    simp only [wq.down, seval, h25, h27, h6, hget hc, hl0, zm (show i < maxLen by omega)]
    refine ⟨⟨by omega, by omega⟩, by omega, .inl ⟨m - 1, by omega, i + 1, _, by omega, h25, h26, rfl, rfl, hd, ?_⟩⟩
    right
    rw [zaS hc, hl0, hc0, hn0]
    exact ⟨Nat.le_refl _, rfl, rfl⟩
   ·by_cases hlt : (ls.take i).flatten.length < ls.flatten.length
    ·have hdt : decide ((ls.take i).flatten.length < ls.flatten.length) = true := by simpa using hlt
     simp only [wq.down, seval, h25, h27, h6, hget hc, zm (show i < maxLen by omega), zjM, hdt]
     refine ⟨⟨by omega, by omega⟩, ⟨by omega, by omega, by rw [List.length_replicate]; omega⟩, .inl ⟨m - 1, by omega, i + 1, _, by omega, h25, h26, rfl, rfl, hd, ?_⟩⟩
     right
     rw [zaS hc]
     refine ⟨by rw [List.length_append]; omega, by simp only [wq.down, seval], ?_⟩
     have hsp := zi0 (ls.take i).flatten ls[i] ls.flatten.length hfl
     unfold zae at hsp
     rw [List.length_map] at hsp
     rw [Nat.mul_one, hsp]
    ·have hdt : decide ((ls.take i).flatten.length < ls.flatten.length) = false := by simpa using hlt
     have hl0 : ls[i] = [] := List.eq_nil_of_length_eq_zero (by omega)
     have hne : (ls.take i).flatten.length = ls.flatten.length := by omega
     simp only [wq.down, seval, h25, h27, h6, hd, hget hc, zm (show i < maxLen by omega), hdt, hl0]
     refine ⟨⟨by omega, by omega⟩, ⟨by rw [List.length_replicate]; omega, by omega, by omega⟩, .inl ⟨m - 1, by omega, i + 1, _, by omega, by simp only [wq.down, seval, h25], by simp only [wq.down, seval, h26], rfl, rfl, hd, ?_⟩⟩
     right
     rw [zaS hc, hl0, List.append_nil, hne, Nat.sub_self]
     refine ⟨Nat.le_refl _, by simp only [wq.down, seval], ?_⟩
     simp only [List.replicate_zero, V.drops]
  ·simp only [decide_eq_false_iff_not, Int.ofNat_lt] at hc
   have hi : ls.take i = ls := List.take_of_length_le (by omega)
   rw [hi] at hcat
   simp only [wq.down, seval, h6, hd]
   rcases hcat with ⟨hc0, rfl, rfl, hn0⟩ | ⟨hcl, rfl, rfl⟩
   ·exact .inl ⟨rfl, hn0, by rw [hc0]; rfl⟩
   ·rw [Nat.sub_self, List.replicate_zero, List.append_nil]
    exact .inr ⟨0, _, rfl, Nat.le_refl _, rfl⟩
theorem zd4 (ls : List (List S)) (hn : ls.flatten.length ≤ 1000000000) (hls : ls.length ≤ 1000000000) : Ev TE 75 [.is true 1 (ls.map zU)] (zU ls.flatten) := by
 refine (zi1 ls hn hls).ev (fun _ hc => ?_) (fun h' id cap _ hid => zaw hid rfl) (fun _ hc h' => ?_)
 ·rw [List.map_eq_nil_iff.1 hc]
  exact zal
 ·rw [List.map_eq_nil_iff.1 hc]; exact zo.nils
theorem zi2 (n : Nat) (hn : n ≤ 1000000000) (h : H) (R : AEnd → H → (Nat → Bool) → Prop) (hr0 : n = 0 → R (.ret .nils) h (fun _ => false))
 (hr : 0 < n → R (.ret (.ls h.length 1 0 0 n)) (h ++ [.cells (List.replicate n (.int .i64 0))]) (fun _ => false)) : zb TE 198 [.nils, vi n] h R := by
 refine zi Tryz.func198 rfl (by simp [nts]) ?_
 refine za (vm ?_)
 simp only [wq.down, Nat.reduceLT, Tryz.results198]
 refine za ?_
 refine vm ?_
 simp only [wq.down, seval]
 refine vcB.mk (fun hc => ?_) (fun hc => ?_)
 ·simp only [decide_eq_true_eq] at hc; omega
 simp only [wq.down]
 refine za (za (za6 ?_))
 refine zj rfl rfl ?_
 simp only [wq.down, seval]
 refine zj rfl rfl ?_
 simp only [wq.down, seval]
 refine zag rfl rfl ?_
 have hq : ti TE.P 22 = some ⟨.slice 3, 1, 24, .nils⟩ := by simp only [wq.down]
 have hqe : ti TE.P 3 = some ⟨.int .i64, 1, 8, .int .i64 0⟩ := by simp only [wq.down]
 have hqi : ti TE.P 3 = some ⟨.int .i64, 1, 8, .int .i64 0⟩ := by simp only [wq.down]
 refine zbH (t := 22) rfl rfl hq rfl trivial rfl ?_
 refine zj rfl rfl ?_
 simp only [wq.down, seval]
 refine zj rfl rfl ?_
 simp only [wq.down, ↓reduceIte]
 refine zj rfl rfl ?_
 simp only [wq.down, seval]
 refine zj rfl rfl ?_
 simp only [wq.down, seval]
 refine zj rfl rfl ?_
 simp only [wq.down, ↓reduceIte]
 have w0 : IntKind.i64.wrap 0 = 0 := by decide
 have w1 : IntKind.i64.wrap ((n : Int) - 0) = n := by rw [Int.sub_zero]; exact zJ (by omega) (by omega)
 refine zac ?_
 simp only [wq.down, w0, w1]
 refine za ?_
 refine vm ?_
 simp only [wq.down, seval]
 refine zT (b := decide ((0 : Int) < n)) (by simp only [wq.down, ↓reduceIte]) (by simp only [wq.down, ↓reduceIte]) (fun hb => ?_) (fun hb => ?_)
 ·have hpos : 0 < n := by simp only [decide_eq_true_eq] at hb; omega
  refine za6 ?_
  refine zj rfl rfl ?_
  simp only [wq.down, seval]
  refine zj rfl rfl ?_
  simp only [wq.down, seval]
  refine zag rfl rfl ?_
  refine zbH (t := 22) rfl rfl hq rfl trivial rfl ?_
  refine zag rfl rfl ?_
  refine zcZ rfl hq rfl hqe (by simp only [wq.down, seval]) (by simp only [wq.down, seval]) (by simp only [wq.down, ↓reduceIte]) (k := .i64) (by simp only [wq.down, ↓reduceIte]) ?_
  refine zj rfl rfl ?_
  simp only [wq.down, seval]
  refine zag rfl rfl ?_
  refine zcy (x := .tmp 20) (y := .tmp 21) (t := 22) (xt := 3) (el := 3) ⟨⟨_, rfl, rfl, rfl⟩, hq, rfl, hqe, rfl, rfl, Nat.zero_lt_one⟩ (by simp only [wq.down, seval]) (by simp only [wq.down, ↓reduceIte]) (by simp only [wq.down, seval]) (by simp only [wq.down, ↓reduceIte]) hqi rfl hpos (by omega) ?_ rfl (zv := .int .i64 0) rfl ?_
  ·show n * 8 ≤ _
   omega
  refine zj rfl rfl ?_
  simp only [wq.down, seval]
  refine zj rfl rfl ?_
  simp only [wq.down, ↓reduceIte]
  refine zj rfl rfl ?_
  simp only [wq.down, seval]
  refine ⟨by omega, ?_⟩
  refine zj rfl rfl ?_
  simp only [wq.down, ↓reduceIte]
  refine zac ?_
  simp only [wq.down]
  refine vm ?_
  simp only [wq.down, seval]
  exact hr hpos
 ·have : n = 0 := by simp only [decide_eq_false_iff_not] at hb; omega
  refine vm ?_
  simp only [wq.down]
  refine vm ?_
  simp only [wq.down, seval]
  exact hr0 this
def zrj (n : Nat) (c : List Int) (v : V) (h : H) : Prop :=
 (c = [] ∧ v = .nils ∧ h = [] ∧ n = 0) ∨ (c.length ≤ n ∧ v = .ls 0 1 0 c.length n ∧ h = [.cells (c.map vi ++ List.replicate (n - c.length) (.int .i64 0))])
theorem zmq (n : Nat) (hn : n ≤ 1000000000) (R : AEnd → H → (Nat → Bool) → Prop) (hr : ∀ v h, zrj n [] v h → R (.ret v) h (fun _ => false)) : zb TE 198 [.nils, vi n] [] R :=
 zi2 n hn [] R (fun hz => hr _ _ (.inl ⟨rfl, rfl, rfl, hz⟩)) (fun hz => hr _ _ (.inr ⟨Nat.zero_le _, rfl, rfl⟩))
theorem zen {p : Nat → Bool} : ∀ l : List Int, V.drops p (l.map vi) = l.map vi
 | [] => rfl
 | a :: l => by simp only [List.map_cons, V.drops, V.drop, zen l]
theorem zhT : ∀ l : List Int, zX (l.map vi) = true
 | [] => rfl
 | a :: l => by simp only [List.map_cons, zX, zhT l, V.one, V.vc, List.length_singleton]; rfl
theorem zhU (c l : List Int) (n : Nat) (h : c.length + l.length ≤ n) : zae (c.map vi ++ List.replicate (n - c.length) (.int .i64 0)) c.length (l.map vi) = (c ++ l).map vi ++ List.replicate (n - (c ++ l).length) (.int .i64 0) := by
 unfold zae
 have e1 : (c.map vi ++ List.replicate (n - c.length) (V.int .i64 0)).take c.length = c.map vi := by
  simp
 have e2 : (c.map vi ++ List.replicate (n - c.length) (V.int .i64 0)).drop (c.length + (l.map vi).length) = List.replicate (n - (c ++ l).length) (V.int .i64 0) := by
  rw [List.drop_append]
  have : (c.map vi).drop (c.length + (l.map vi).length) = [] := List.drop_of_length_le (by simp)
  rw [this, List.nil_append, List.drop_replicate]
  congr 1
  simp only [List.length_map, List.length_append]
  omega
 rw [e1, e2, List.map_append]
theorem zhV (ls : List (List Int)) (hn : ls.flatten.length ≤ 1000000000) (hls : ls.length ≤ 1000000000) : EvF TE 147 [.is true 1 (ls.map zr)] 1 ls.flatten.length (ls.flatten.map vi) := by
 have hM : maxLen = 9223372036854775807 := rfl
 have hget : ∀ {i : Nat} (h : i < ls.length) (d : V), (ls.map zr).getD i d = zr ls[i] := fun h d => zcJ h d
 unfold EvF
 refine zi Tryz.func147 rfl (by simp [nts]) (vm ?_)
 simp only [wq.down, seval, Tryz.results147]
 refine zw (fun m f h => ∃ i, m + i = ls.length ∧ f.t 0 = .is true 1 (ls.map zr) ∧ f.t 3 = vi (ls.take i).flatten.length ∧ f.t 9 = .is true 1 (ls.map zr) ∧ f.t 10 = vi ls.length ∧ f.t 11 = vi i ∧ f.d = [] ∧ h = []) ls.length ⟨0, by simp, rfl, rfl, rfl, by simp only [wq.down, seval], rfl, rfl, rfl⟩ ?_
 rintro m f h ⟨i, hm, h0, h3, h9, h10, h11, hd, rfl⟩
 refine vm ?_
 simp only [wq.down, seval, h10, h11]
 refine vcB.mk (fun hc => ?_) (fun hc => ?_)
 ·simp only [decide_eq_true_eq, Int.ofNat_lt] at hc
  have hfl := zeI hc
  have hw : IntKind.i64.wrap (((ls.take i).flatten.length : Int) + (ls[i].length : Int)) = ((ls.take (i + 1)).flatten.length : Int) := by
   rw [zaS hc, List.length_append, zba (by omega) (by omega)]; omega
  simp only [wq.down, seval, h3, h9, h11, hget hc, hw]
  refine ⟨⟨by omega, by omega⟩, vcB.mk (fun hc' => ?_) (fun hc' => ?_)⟩
  ·simp only [decide_eq_true_eq] at hc'; omega
  ·simp only [wq.down, seval, h11, zm (show i < maxLen by omega)]
   exact .inl ⟨m - 1, by omega, i + 1, by omega, h0, rfl, h9, h10, rfl, hd, rfl⟩
 ·simp only [decide_eq_false_iff_not, Int.ofNat_lt] at hc
  have hi : ls.take i = ls := List.take_of_length_le (by omega)
  rw [hi] at h3
  simp only [wq.down, seval, h3]
  refine zmq ls.flatten.length hn _ (fun v0 h0' hcat => ?_)
  simp only [wq.down, seval, h0]
  refine zw (fun m f h => ∃ i v, m + i = ls.length ∧ f.t 25 = .is true 1 (ls.map zr) ∧ f.t 26 = vi ls.length ∧ f.t 27 = vi i ∧ f.t 6 = v ∧ f.d = [] ∧ zrj ls.flatten.length (ls.take i).flatten v h) ls.length ⟨0, v0, by simp, by simp only [wq.down, seval], by simp only [wq.down, seval], rfl, rfl, by simp only [wq.down, hd], by simpa using hcat⟩ ?_
  rintro m f h ⟨i, v, hm, h25, h26, h27, h6, hd, hcat⟩
  refine vm ?_
  simp only [wq.down, seval, h26, h27]
  refine vcB.mk (fun hc => ?_) (fun hc => ?_)
  ·simp only [decide_eq_true_eq, Int.ofNat_lt] at hc
   have hfl := zeI hc
   have hnext : f.t 27 = vi i → IntKind.i64.wrap ((i : Int) + 1) = ((i + 1 : Nat) : Int) := fun _ => zm (by omega)
   rcases hcat with ⟨hc0, rfl, rfl, hn0⟩ | ⟨hcl, rfl, rfl⟩
   ·have hl0 : ls[i] = [] := List.eq_nil_of_length_eq_zero (by omega)
    simp only [wq.down, seval, h25, h27, h6, hget hc, hl0, zm (show i < maxLen by omega)]
    refine ⟨⟨by omega, by omega⟩, by omega, .inl ⟨m - 1, by omega, i + 1, _, by omega, h25, h26, rfl, rfl, hd, ?_⟩⟩
    right
    rw [zaS hc, hl0, hc0, hn0]
    exact ⟨Nat.le_refl _, rfl, rfl⟩
   ·by_cases hlt : (ls.take i).flatten.length < ls.flatten.length
    ·have hdt : decide ((ls.take i).flatten.length < ls.flatten.length) = true := by simpa using hlt
     simp only [wq.down, seval, h25, h27, h6, hget hc, zm (show i < maxLen by omega), zhT, hdt]
     refine ⟨⟨by omega, by omega⟩, ⟨by omega, by omega, by rw [List.length_replicate]; omega⟩, .inl ⟨m - 1, by omega, i + 1, _, by omega, h25, h26, rfl, rfl, hd, ?_⟩⟩
     right
     rw [zaS hc]
     refine ⟨by rw [List.length_append]; omega, by simp only [wq.down, seval], ?_⟩
     have hsp := zhU (ls.take i).flatten ls[i] ls.flatten.length hfl
     unfold zae at hsp
     rw [List.length_map] at hsp
     rw [Nat.mul_one, hsp]
    ·have hdt : decide ((ls.take i).flatten.length < ls.flatten.length) = false := by simpa using hlt
     have hl0 : ls[i] = [] := List.eq_nil_of_length_eq_zero (by omega)
     have hne : (ls.take i).flatten.length = ls.flatten.length := by omega
     simp only [wq.down, seval, h25, h27, h6, hd, hget hc, zm (show i < maxLen by omega), hdt, hl0, zen]
     refine ⟨⟨by omega, by omega⟩, ⟨by rw [List.length_replicate]; omega, by omega, by omega⟩, .inl ⟨m - 1, by omega, i + 1, _, by omega, by simp only [wq.down, seval, h25], by simp only [wq.down, seval, h26], rfl, rfl, hd, ?_⟩⟩
     right
     rw [zaS hc, hl0, List.append_nil, hne, Nat.sub_self]
     refine ⟨Nat.le_refl _, by simp only [wq.down, seval], ?_⟩
     simp only [List.replicate_zero, V.drops]
  ·simp only [decide_eq_false_iff_not, Int.ofNat_lt] at hc
   have hi : ls.take i = ls := List.take_of_length_le (by omega)
   rw [hi] at hcat
   simp only [wq.down, seval, h6, hd]
   rcases hcat with ⟨hc0, rfl, rfl, hn0⟩ | ⟨hcl, rfl, rfl⟩
   ·exact .inl ⟨rfl, hn0, by rw [hc0]; rfl⟩
   ·rw [Nat.sub_self, List.replicate_zero, List.append_nil]
    exact .inr ⟨0, _, rfl, Nat.le_refl _, rfl⟩
end Go.Proofs.YtboolnpmlmgpkaaGreatDoor
