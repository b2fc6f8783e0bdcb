/- Lemmas for this claim, part F01: each holds under what it names. -/
import Derived.Test.YtfcpapokknfeeaaGreatDoorP0
import Derived.Test.YtfcpapokknfeeaaGreatDoorA9
import Derived.Test.YtfcpapokknfeeaaGreatDoorA8
set_option linter.unusedVariables false
set_option linter.unusedSimpArgs false
set_option linter.unnecessarySimpa false
set_option maxRecDepth 20000
set_option maxHeartbeats 8000000
namespace Go.Proofs.YtfcpapokknfeeaaGreatDoor
open Go Go.Proofs Go.Abs
abbrev Cl := List Int
abbrev vi (n : Int) : V := .int .i64 n
abbrev aH (c : Cl) : V := .is false 1 (c.map vi)
abbrev cls (l : List Cl) : V := .is false 1 (l.map fun c => aH c)
theorem Bf {l : Cl} {r : List V} (hb : V.bnds (aH l :: r)) : l.length ≤ maxLen := by simp only [V.bnds,V.bnd,List.length_map] at hb;exact hb.1.1
theorem xU {l : Cl} {i : Nat} (h : i < l.length) (d : V) : (List.map vi l).getD i d = vi l[i] := oh h _
def lit (vars a : Int) : Bool := decide (a ≠ 0) && (decide (-vars ≤ a) && decide (a ≤ vars))
theorem aZ {n : Int} (h1 : -9223372036854775808 ≤ n) (h2 : n ≤ 9223372036854775807) : IntKind.i64.wrap n = n := jY h1 (by omega)
theorem iD {α : Type} {l : List α} {i : Nat} (h : i < l.length) {P : α → Prop} (h1 : ∀ s ∈ l.take i,P s) (h2 : P l[i]) : ∀ s ∈ l.take (i + 1),P s := by
 intro s hs;rw [List.take_add_one] at hs;simp only [h,List.getElem?_eq_getElem,Option.toList_some,List.mem_append,List.mem_singleton] at hs;rcases hs with hs | rfl
 ·exact h1 s hs
 ·exact h2
def chk (l : List Cl) (vars : Int) : Int :=
 if (decide (vars < 0) || decide (20000 < vars) || decide (100000 < l.length)) = true then 8
 else if (l.all fun c => c.all (lit vars)) = true then 0 else 1
theorem Bg {α : Type} {a b : List α} {i : Nat} (h : a.take i = b.take i) (ha : i < a.length) (hb : i < b.length) (he : a[i] = b[i]) : a.take (i + 1) = b.take (i + 1) := by rw [List.take_add_one,List.take_add_one,h];simp [ha,hb,he]
theorem Yi (a b : Cl) : Ev TE 127 [aH a,aH b] (.bool (a == b)) := by
 refine Ev.bnd fun hb => ?_;have hlen := Bf hb;refine aA Tryz.func127 rfl (by simp [nts]) (vm ?_);simp only [wq.1,seval,Tryz.results127];refine vcB.mk (fun hc => ?_) (fun hc => ?_)
 ·simp only [wq.1,seval];refine aV rfl ?_;simp only [bne_iff_ne,ne_eq,Int.natCast_inj] at hc;have : ¬ a = b := fun h => hc (by rw [h]);simp [this]
 ·have hl : a.length = b.length := by simpa [Int.natCast_inj] using hc
  simp only [wq.1,Nat.reduceLT];refine aF (fun m f h => ∃ i,m + i = a.length ∧ f.t 0 = aH a ∧ f.t 1 = aH b ∧ f.t 5 = .int .i64 (i : Int) ∧ f.d = [] ∧ a.take i = b.take i) a.length ⟨0,by simp,rfl,rfl,rfl,rfl,by simp⟩ ?_;rintro m f h ⟨i,hm,h0,h1,h5,hd,hall⟩;refine vm ?_;simp only [wq.1,seval,h0,h5];refine vcB.mk (fun hc => ?_) (fun hc => ?_)
  ·simp only [decide_eq_true_eq,Int.ofNat_lt] at hc;have hc2 : i < b.length := by omega
   simp only [wq.1,seval,h0,h1,h5,xU hc,xU hc2];refine ⟨by decide +kernel,⟨by omega,by omega⟩,⟨by omega,by omega⟩,vcB.mk (fun hc => ?_) (fun hc => ?_)⟩
   ·simp only [wq.1,seval,hd];refine aV rfl ?_;have : ¬ a = b := fun h => by subst h;simp at hc
    simp [this]
   ·simp only [wq.1,seval,h5,ax (show i < maxLen by omega)];exact .inl ⟨m - 1,by omega,i + 1,by omega,h0,h1,rfl,hd,Bg hall (by omega) (by omega) (by simpa using hc)⟩
  ·simp only [decide_eq_false_iff_not,Int.ofNat_lt] at hc;simp only [wq.1,seval,hd];refine aV rfl ?_;rw [List.take_of_length_le (by omega),List.take_of_length_le (by omega)] at hall;simp [hall]
abbrev za6 (l : List Bool) : V := .is false 1 (l.map V.bool)
theorem aG {α : Type} {l : List α} {i : Nat} {d : α} (h : i < l.length) : l.getD i d = l[i] := by simp [List.getD_eq_getElem?_getD,h]
def hol (vs : List Bool) (a : Int) : Bool := if a < 0 then !(vs.getD (-a - 1).toNat false) else vs.getD (a - 1).toNat false
def hld (on : Cl) (a : Int) : Bool := if a < 0 then on.getD (-a).toNat 0 == -1 else on.getD a.toNat 0 == 1
def idx {α : Type} (l : List α) (p : α → Bool) : Int := match l.findIdx? p with | some i => i | none => -1
theorem uz {α : Type} {l : List α} {p : α → Bool} {i : Nat} (h : i < l.length) (hn : ∀ x ∈ l.take i,p x = false) (hb : p l[i] = true) : idx l p = i := by
 have : l.findIdx? p = some i := by
  rw [List.findIdx?_eq_some_iff_getElem];refine ⟨h,hb,fun j hj => ?_⟩;have : l[j] ∈ l.take i := by
   rw [List.mem_take_iff_getElem];exact ⟨j,by omega,rfl⟩
  simp [hn _ this]
 simp [idx,this]
theorem qK {α : Type} {l : List α} {p : α → Bool} (hn : ∀ x ∈ l,p x = false) : idx l p = -1 := by
 have : l.findIdx? p = none := by rw [List.findIdx?_eq_none_iff];simpa using hn
 simp [idx,this]
theorem Pm {α : Type} (l : List α) (p : α → Bool) : decide (0 ≤ idx l p) = l.any p := by
 cases h : l.any p with
 | false => rw [qK (by simpa using h)];rfl
 | true =>
  have : ∃ x ∈ l,p x = true := by simpa using h
  unfold idx;cases hb : l.findIdx? p with
  | none => obtain ⟨x,hx,hx2⟩ := this;have := (List.findIdx?_eq_none_iff.1 hb) x hx;simp [hx2] at this
  | some i => simp
abbrev S := List UInt8
abbrev aT (l : List S) : V := .is false 1 (l.map V.str)
theorem qL {l : List S} {r : List V} (hb : V.bnds (aT l :: r)) : l.length ≤ maxLen := by simp only [V.bnds,V.bnd,List.length_map] at hb;exact hb.1.1
theorem Xd {l : List S} {i : Nat} (h : i < l.length) (d : V) : (List.map V.str l).getD i d = .str l[i] := oh h _
def MO (n : Nat) (l : List S) : Bool := decide (l.length ≤ n) && l.all fun s => decide (s.length ≤ 60)
theorem vT (l : List S) (n : Nat) : Ev TE 24 [aT l,.int .i64 n] (.bool (MO n l)) := by
 refine Ev.bnd fun hb => ?_;have hlen := qL hb;refine aA Tryz.func24 rfl (by simp [nts]) (vm ?_);simp only [wq.1,Nat.reduceLT,Tryz.results24];refine aF (fun m f h => ∃ i,m + i = l.length ∧ f.t 0 = aT l ∧ f.t 1 = .int .i64 n ∧ f.t 5 = .int .i64 (i : Int) ∧ f.d = [] ∧ ∀ s ∈ l.take i,s.length ≤ 60) l.length ⟨0,by simp,rfl,rfl,rfl,rfl,by simp⟩ ?_;rintro m f h ⟨i,hm,h0,h1,h5,hd,hall⟩;refine vm ?_;simp only [wq.1,seval,h0,h1,h5];refine vcB.mk (fun hc => ?_) (fun hc => ?_)
 ·simp only [Bool.and_eq_true,decide_eq_true_eq,Int.ofNat_lt,Int.ofNat_le] at hc;obtain ⟨hc1,hc2⟩ := hc;simp only [wq.1,seval,h0,h5,Xd hc1];refine ⟨⟨by omega,by omega⟩,vcB.mk (fun hc => ?_) (fun hc => ?_)⟩
  ·simp only [wq.1,seval,hd];have : MO n l = false := by
    simp only [decide_eq_true_eq] at hc;have hx : ∃ x ∈ l,¬ x.length ≤ 60 := ⟨l[i],List.getElem_mem _,by omega⟩;simpa [MO] using fun _ => hx
   rw [this];exact aC.dat rfl
  ·simp only [wq.1,seval,h5,ax (show i < maxLen by omega)];refine .inl ⟨m - 1,by omega,i + 1,by omega,h0,h1,rfl,hd,?_⟩;simp only [decide_eq_false_iff_not] at hc;intro s hs;rw [List.take_add_one] at hs;simp only [hc1,List.getElem?_eq_getElem,Option.toList_some,List.mem_append,List.mem_singleton] at hs;rcases hs with hs | rfl
   ·exact hall s hs
   ·omega
 ·simp only [wq.1,seval,h0,h1,hd];have : (decide ((l.length : Int) ≤ n)) = MO n l := by
   simp only [Bool.and_eq_false_iff,decide_eq_false_iff_not,Int.ofNat_lt,Int.ofNat_le] at hc;by_cases hi : i < l.length
   ·have h2 : ¬ l.length ≤ n := by omega
    simp [MO,h2]
   ·rw [List.take_of_length_le (by omega)] at hall;have : (l.all fun s => decide (s.length ≤ 60)) = true := by simpa using hall
    simp [MO,this]
  rw [this];exact aC.dat rfl
def ji (c : UInt8) : Bool := decide (33 ≤ c.toNat) && decide (c.toNat ≤ 126)
def iP (s : S) : Bool := s.all ji && (decide (1 ≤ s.length) && decide (s.length ≤ 40))
def ZK (n : Int) : Bool := decide (n ≤ 32) || decide (126 < n)
theorem ZL (n : Int) : Ev TE 169 [.int .i32 n] (.bool (ZK n)) := by refine aA Tryz.func169 rfl (by simp [nts]) (vm ?_);simp only [wq.1,seval,Tryz.results169];exact aV rfl rfl
theorem Pn {s : S} {i : Nat} (h : i < s.length) (hb : s[i].toNat < 128) : Ik s i = (s[i].toNat,1) := by
 unfold Ik Utf8.decode;have : ((ByteArray.mk s.toArray).get! (i + 0)).toNat = s[i].toNat := by
  simp [ByteArray.get!,h]
 simp only [this];rw [if_pos hb]
theorem Vb {s : S} {i : Nat} (h : i < s.length) (hb : ¬ s[i].toNat < 128) : 128 ≤ (Ik s i).1 := by
 unfold Ik Utf8.decode;have : ((ByteArray.mk s.toArray).get! (i + 0)).toNat = s[i].toNat := by
  simp [ByteArray.get!,h]
 simp only [this];rw [if_neg hb]
 repeat' split
 all_goals first
  | (simp [Utf8.runeError];done)
  | (rename_i hc;simp only [Bool.and_eq_true,decide_eq_true_eq,ge_iff_le] at hc;dsimp only;omega)
  | (rename_i hc;simp only [ge_iff_le] at hc;dsimp only;omega)
theorem Vd {s : S} {i : Nat} (h : i < s.length) : ZK (Ik s i).1 = !ji s[i] := by
 by_cases hb : s[i].toNat < 128
 ·rw [Pn h hb];refine Bool.eq_iff_iff.2 ?_;simp only [ZK,ji,Bool.or_eq_true,decide_eq_true_eq,Bool.not_eq_true',Bool.and_eq_false_iff,decide_eq_false_iff_not];omega
 ·have := Vb h hb;have h1 : ZK (Ik s i).1 = true := by simp only [ZK,Bool.or_eq_true,decide_eq_true_eq];omega
  have h2 : ji s[i] = false := by simp only [ji,Bool.and_eq_false_iff,decide_eq_false_iff_not];omega
  rw [h1,h2];rfl
def MP (s : S) : Option Nat := s.findIdx? fun c => !ji c
def Xe (s : S) : Int := match MP s with | some i => i | none => -1
theorem Po {s : S} {i : Nat} (h : i < s.length) (hn : ∀ x ∈ s.take i,ji x = true) (hb : ji s[i] = false) : Xe s = i := by
 have : MP s = some i := by
  unfold MP;rw [List.findIdx?_eq_some_iff_getElem];refine ⟨h,by simp [hb],fun j hj => ?_⟩;have : s[j] ∈ s.take i := by
   rw [List.mem_take_iff_getElem];exact ⟨j,by omega,rfl⟩
  simp [hn _ this]
 simp [Xe,this]
theorem DI {s : S} (hn : ∀ x ∈ s,ji x = true) : Xe s = -1 := by
 have : MP s = none := by unfold MP;rw [List.findIdx?_eq_none_iff];simpa using hn
 simp [Xe,this]
theorem ZM (s : S) : Ev TE 192 [.str s,.fn (.func 169) [] [],.bool true] (.int .i64 (Xe s)) := by
 refine Ev.bnd fun hb => ?_;have hlen : s.length ≤ maxLen := hb.1;refine aA Tryz.func192 rfl (by simp [nts]) (vm ?_);simp only [wq.1,seval,Tryz.results192];refine aF (fun m f h => ∃ i,m + i = s.length ∧ f.t 1 = .fn (.func 169) [] [] ∧ f.t 2 = .bool true ∧ f.t 10 = .lp 0 0 ∧ f.d = [] ∧ h = [.misc (.siter s i)] ∧ ∀ x ∈ s.take i,ji x = true) s.length ⟨0,by simp,rfl,rfl,rfl,rfl,rfl,by simp⟩ ?_;rintro m f h ⟨i,hm,h1,h2,h10,hd,rfl,hall⟩;refine vm ?_;simp only [wq.1,seval,h10];refine nJ.mk (fun hc => ?_) (fun hc => ?_)
 ·simp only [decide_eq_true_eq] at hc;simp only [wq.1,seval,h1,nJ];refine ah.ev (ZL _) rfl ?_;rw [Vd hc];simp only [wq.1,seval,h2];refine vcB.mk (fun hc' => ?_) (fun hc' => ?_)
  ·have hb : ji s[i] = false := by simpa using hc'
   simp only [wq.1,seval,hd];rw [Po hc hall hb];exact aC.dat rfl
  ·have hb : ji s[i] = true := by simpa using hc'
   have h128 : s[i].toNat < 128 := by simp only [ji,Bool.and_eq_true,decide_eq_true_eq] at hb;omega
   simp only [wq.1,Int.reduceNeg];exact .inl ⟨m - 1,by omega,i + 1,by omega,h1,h2,h10,hd,by rw [Pn hc h128],iD hc hall hb⟩
 ·simp only [decide_eq_false_iff_not] at hc;simp only [wq.1,seval,hd,nJ];rw [List.take_of_length_le (by omega)] at hall;rw [DI hall];exact aC.dat rfl
theorem ZN (s : S) : Ev TE 170 [.str s,.fn (.func 169) [] []] (.int .i64 (Xe s)) := by refine aA Tryz.func170 rfl (by simp [nts]) (vm ?_);simp only [wq.1,seval,Tryz.results170];refine ah.ev (ZM s) rfl ?_;simp only [wq.1,seval];exact aC.dat rfl
theorem Ve (s : S) : decide (Xe s < 0) = s.all ji := by
 cases h : s.all ji with
 | true => rw [DI (by simpa using h)];rfl
 | false =>
  have : ∃ x ∈ s,ji x = false := by simpa using h
  cases hb : MP s with
  | none => obtain ⟨x,hx,hx2⟩ := this;have := (List.findIdx?_eq_none_iff.1 hb) x hx;simp [hx2] at this
  | some i => simp [Xe,hb]
theorem Vf (s : S) : Ev TE 147 [.str s] (.bool (iP s)) := by
 refine aA Tryz.func147 rfl (by simp [nts]) (vm ?_);simp only [wq.1,seval,Tryz.results147];refine Gg.ev (q := 170) (vs := [.str s,.fn (.func 169) [] []]) (by simp only [wq.1,seval]) (by simp only [wq.1,seval]) rfl (fun _ => ZN s) (fun _ => rfl) ?_;simp only [wq.1,seval];refine aV rfl ?_;rw [Ve];unfold iP
 congr 1
 have h1 : (!s == []) = decide (1 ≤ s.length) := by cases s <;> simp
 have h2 : decide ((s.length : Int) ≤ 40) = decide (s.length ≤ 40) := decide_eq_decide.2 (by omega);rw [h1,h2,Bool.and_comm]
theorem Iz (s : S) : Ev TE 114 [.str s] (.bool (iP s)) := by refine aA Tryz.func114 rfl (by simp [nts]) (vm ?_);simp only [wq.1,seval,Tryz.results114];refine ah.ev (Vf s) rfl ?_;simp only [wq.1,seval];exact aC.dat rfl
theorem bg {dst : Option Tmp} {Kn : Fr → H → Prop} {Q : XE → Fr → H → Prop} {f : Fr} {v : V} {h : H} {p : Nat → Bool} : aX dst Kn Q f (.ret v) h p = ((∀ i ∈ f.d,p i = false) ∧ Kn ((f.drop p).put dst v) h) := rfl
theorem Pq : ∀ l : List Bool,V.dats (l.map V.bool) = true
 | [] => rfl
 | a :: l => by simp only [List.map_cons,V.dats,V.dat,Pq l,Bool.and_self]
theorem su : ∀ l : Cl,V.dats (l.map vi) = true
 | [] => rfl
 | a :: l => by simp only [List.map_cons,V.dats,V.dat,su l,Bool.and_self]
theorem Pv : ∀ c : Cl,fG 1 (c.map vi) = true
 | [] => rfl
 | a :: l => by simp only [List.map_cons,fG,Pv l,V.fit,V.vc,List.length_singleton];rfl
theorem Gw : ∀ c : Cl,(c.map vi).flatMap V.vc = c.map vi
 | [] => rfl
 | a :: l => by simp only [List.map_cons,List.flatMap_cons,V.vc,Gw l];rfl
theorem aP {p : Nat → Bool} : ∀ c : Cl,V.drops p (c.map vi) = c.map vi
 | [] => rfl
 | a :: l => by simp only [List.map_cons,V.drops,V.drop,aP l]
theorem DJ : ∀ l : Cl,dH (l.map vi) = true
 | [] => rfl
 | a :: l => by simp only [List.map_cons,dH,DJ l,V.one,V.vc,List.length_singleton];rfl
theorem dh {e : E} {h : H} {id len cap : Nat} {l : Cl} (hc : h[id]? = some (.cells (l.map vi))) (hl : len = l.length) : aC e h (.ls id 1 0 len cap) (aH l) :=
 aC.ls hc (aB.dat (su l)) (Pv l) (Gw l) (by simpa using hl)
abbrev Pr := Int × Int
abbrev prV (p : Pr) : V := .agg [vi p.1,vi p.2]
abbrev prs (l : List Pr) : V := .is false 2 (l.map prV)
structure Gr where
 ins : Int
 next : Cl
 init : Cl
 ands : List Pr
 outs : Cl
abbrev Gr.v (g : Gr) : V := .agg [vi g.ins,aH g.next,aH g.init,prs g.ands,aH g.outs]
def Gr.first (g : Gr) : Int := 1 + g.ins + g.next.length
theorem ZO (c : Cl) (q : FuncId) (caps : List V) (p : Int → Bool) (he : aj P q = true) (hd : V.dats caps = true) (hq : ∀ x ∈ c,Ev TE q (vi x :: caps) (.bool (p x))) : Ev TE 148 [aH c,.fn (.func q) [] caps] (vi (idx c p)) := by
 refine Ev.bnd fun hb => ?_;have hlen := Bf hb;refine aA Tryz.func148 rfl (by simp [nts]) (vm ?_);simp only [wq.1,seval,Tryz.results148];refine aF (fun m f h => ∃ i,m + i = c.length ∧ f.t 0 = aH c ∧ f.t 1 = .fn (.func q) [] caps ∧ f.t 7 = .int .i64 (c.length : Int) ∧ f.t 8 = .int .i64 (i : Int) ∧ f.d = [] ∧ ∀ x ∈ c.take i,p x = false) c.length ⟨0,by simp,rfl,rfl,rfl,rfl,rfl,by simp⟩ ?_;rintro m f h ⟨i,hm,h0,h1,h7,h8,hdd,hall⟩;refine vm ?_;simp only [wq.1,seval,h7,h8];refine vcB.mk (fun hc => ?_) (fun hc => ?_)
 ·simp only [decide_eq_true_eq,Int.ofNat_lt] at hc;simp only [wq.1,seval,h0,h1,h8,xU hc,he];refine ⟨⟨by omega,by omega⟩,ah.ev (hq _ (List.getElem_mem _)) (by simp [V.dats,V.dat,hd]) ?_⟩;simp only [wq.1,seval];refine vcB.mk (fun hc' => ?_) (fun hc' => ?_)
  ·simp only [wq.1,seval,hdd];rw [uz hc hall hc'];exact aC.dat rfl
  ·simp only [wq.1,seval,h8,ax (show i < maxLen by omega)];exact .inl ⟨m - 1,by omega,i + 1,by omega,h0,h1,h7,rfl,hdd,iD hc hall hc'⟩
 ·simp only [decide_eq_false_iff_not,Int.ofNat_lt] at hc;simp only [wq.1,seval,hdd];rw [List.take_of_length_le (by omega)] at hall;rw [qK hall];exact aC.dat rfl
theorem kw (g : Gr) (h0 : -1000000000 ≤ g.ins) (h1 : g.ins ≤ 1000000000) (h2 : g.next.length ≤ 1000000000) : Ev TE 68 [g.v] (vi g.first) := by
 unfold Gr.v Gr.first
 refine aA Tryz.func68 rfl (by simp [nts]) (vm ?_);simp only [wq.1,seval,Tryz.results68];rw [aZ (n := 1 + g.ins) (by omega) (by omega),aZ (by omega) (by omega)];exact aC.dat rfl
theorem Px (c : Cl) (q : FuncId) (caps : List V) (p : Int → Bool) (he : aj P q = true) (hd : V.dats caps = true) (hq : ∀ x ∈ c,Ev TE q (vi x :: caps) (.bool (p x))) : Ev TE 117 [aH c,.fn (.func q) [] caps] (.bool (c.any p)) := by refine aA Tryz.func117 rfl (by simp [nts]) (vm ?_);simp only [wq.1,seval,Tryz.results117];refine ah.ev (ZO c q caps p he hd hq) (by simp [V.dats,V.dat,hd]) ?_;simp only [wq.1,seval];exact aV rfl (by rw [Pm])
def Vg (all a : Int) : Bool := decide (a < 0) || decide (all ≤ a)
theorem Py (all a : Int) : Ev TE 115 [vi a,.ip (vi all)] (.bool (Vg all a)) := by refine aA Tryz.func115 rfl (by simp [nts]) (vm ?_);simp only [wq.1,seval,Tryz.results115];exact aV rfl rfl
def Za (a : Int) : Bool := decide (a < 0) || decide (2 < a)
theorem Yj (a : Int) : Ev TE 116 [vi a] (.bool (Za a)) := by refine aA Tryz.func116 rfl (by simp [nts]) (vm ?_);simp only [wq.1,seval,Tryz.results116];exact aV rfl rfl
def Gr.all (g : Gr) : Int := 2 * (g.first + g.ands.length)
def za2 (own : Int) (p : Pr) : Bool := decide (p.1 < 0) || decide (p.2 < 0) || decide (own ≤ p.1) || decide (own ≤ p.2)
def Gr.lim (g : Gr) : Bool := decide (g.ins < 0) || decide (4000 < g.ins) || decide (4000 < g.ins + g.next.length + g.ands.length) || decide (4000 < (g.outs.length : Int))
def Gr.oddR (g : Gr) : Bool := (g.init.length != g.next.length) || g.init.any Za || g.next.any (Vg g.all) || g.outs.any (Vg g.all)
def Gr.oddAs (g : Gr) (n : Nat) : Bool := (List.range n).any fun i => za2 (2 * (g.first + i)) (g.ands.getD i (0,0))
def Gr.chk (g : Gr) : Int := if g.lim then 8 else if g.oddR then 1 else if g.oddAs g.ands.length then 1 else 0
structure Gr.Sm (g : Gr) : Prop where
 next : g.next.length ≤ 200000000000000
 ands : g.ands.length ≤ 200000000000000
def ZP : Plan := .take 2 <| .alt 0 (.alt 1 (.alt 3 (.alt 4 (.alt 5 (.alt 6 (.one 7 <| .one 8 <| .fin) (.one 7 (.one 6 <| .one 8 <| .fin))) (.one 7 (.one 5 <| .one 6 <| .one 8 <| .fin))) (.one 7 (.one 4 <| .one 5 <| .one 6 <| .one 8 <| .fin))) (.one 7 (.one 3 <| .one 4 <| .one 5 <| .one 6 <| .one 8 <| .fin))) (.alt 3 (.alt 1 (.alt 4 (.alt 5 (.alt 6 (.one 7 <| .one 8 <| .fin) (.one 7 (.one 6 <| .one 8 <| .fin))) (.one 7 (.one 5 <| .one 6 <| .one 8 <| .fin))) (.one 7 (.one 4 <| .one 5 <| .one 6 <| .one 8 <| .fin))) (.alt 4 (.alt 1 (.alt 5 (.alt 6 (.one 7 <| .one 8 <| .fin) (.one 7 (.one 6 <| .one 8 <| .fin))) (.one 7 (.one 5 <| .one 6 <| .one 8 <| .fin))) (.one 7 (.one 1 <| .one 5 <| .one 6 <| .one 8 <| .fin))) (.one 7 (.alt 1 (.one 4 <| .one 5 <| .one 6 <| .one 8 <| .fin) (.one 4 (.one 1 <| .one 5 <| .one 6 <| .one 8 <| .fin)))))) (.one 7 (.alt 1 (.one 3 <| .one 4 <| .one 5 <| .one 6 <| .one 8 <| .fin) (.one 3 (.alt 1 (.one 4 <| .one 5 <| .one 6 <| .one 8 <| .fin) (.one 4 (.one 1 <| .one 5 <| .one 6 <| .one 8 <| .fin)))))))) (.alt 3 (.alt 0 (.alt 1 (.alt 4 (.alt 5 (.alt 6 (.one 7 <| .one 8 <| .fin) (.one 7 (.one 6 <| .one 8 <| .fin))) (.one 7 (.one 5 <| .one 6 <| .one 8 <| .fin))) (.one 7 (.one 4 <| .one 5 <| .one 6 <| .one 8 <| .fin))) (.alt 4 (.alt 1 (.alt 5 (.alt 6 (.one 7 <| .one 8 <| .fin) (.one 7 (.one 6 <| .one 8 <| .fin))) (.one 7 (.one 5 <| .one 6 <| .one 8 <| .fin))) (.one 7 (.one 1 <| .one 5 <| .one 6 <| .one 8 <| .fin))) (.one 7 (.alt 1 (.one 4 <| .one 5 <| .one 6 <| .one 8 <| .fin) (.one 4 (.one 1 <| .one 5 <| .one 6 <| .one 8 <| .fin)))))) (.alt 4 (.alt 0 (.alt 1 (.alt 5 (.alt 6 (.one 7 <| .one 8 <| .fin) (.one 7 (.one 6 <| .one 8 <| .fin))) (.one 7 (.one 5 <| .one 6 <| .one 8 <| .fin))) (.one 7 (.one 1 <| .one 5 <| .one 6 <| .one 8 <| .fin))) (.one 7 (.one 0 <| .one 1 <| .one 5 <| .one 6 <| .one 8 <| .fin))) (.one 7 (.alt 0 (.alt 1 (.one 4 <| .one 5 <| .one 6 <| .one 8 <| .fin) (.one 4 (.one 1 <| .one 5 <| .one 6 <| .one 8 <| .fin))) (.one 4 (.one 0 <| .one 1 <| .one 5 <| .one 6 <| .one 8 <| .fin)))))) (.one 7 (.alt 0 (.alt 1 (.one 3 <| .one 4 <| .one 5 <| .one 6 <| .one 8 <| .fin) (.one 3 (.alt 1 (.one 4 <| .one 5 <| .one 6 <| .one 8 <| .fin) (.one 4 (.one 1 <| .one 5 <| .one 6 <| .one 8 <| .fin))))) (.one 3 (.alt 0 (.alt 1 (.one 4 <| .one 5 <| .one 6 <| .one 8 <| .fin) (.one 4 (.one 1 <| .one 5 <| .one 6 <| .one 8 <| .fin))) (.one 4 (.one 0 <| .one 1 <| .one 5 <| .one 6 <| .one 8 <| .fin)))))))
theorem oG (g : Gr) (hs : g.Sm) : Ev TE 66 [g.v] (vi g.chk) := by
 obtain ⟨hs1,hs2⟩ := hs;unfold Gr.v;refine aA Tryz.func66 rfl (by simp [nts]) (vm ?_);simp only [wq.1,seval,Tryz.results66];have hins : g.lim = false → 0 ≤ g.ins ∧ g.ins ≤ 4000 ∧ g.ins + g.next.length + g.ands.length ≤ 4000 ∧ (g.outs.length : Int) ≤ 4000 := by intro h;simp only [Gr.lim,Bool.or_eq_false_iff,decide_eq_false_iff_not] at h;omega
 have hl : (decide (g.ins < 0) || decide (4000 < g.ins) || decide (4000 < IntKind.i64.wrap (IntKind.i64.wrap (g.ins + (g.next.length : Int)) + (g.ands.length : Int))) || decide (4000 < (g.outs.length : Int))) = g.lim := by
  unfold Gr.lim;by_cases a1 : g.ins < 0
  ·simp [a1]
  by_cases a2 : 4000 < g.ins
  ·simp [a2]
  rw [aZ (n := g.ins + (g.next.length : Int)) (by omega) (by omega),aZ (by omega) (by omega)]
 rw [hl];refine vcB.mk (fun hc => ?_) (fun hc => ?_)
 ·simp only [wq.1,seval];exact aV rfl (by unfold Gr.chk;rw [if_pos hc])
 ·obtain ⟨i0,i1,i2,i3⟩ := hins hc;simp only [wq.1];refine bu mixed ZP (fun f' h' => f'.t 1 = .lp 0 0 ∧ f'.t 3 = .lp 1 0 ∧ f'.d = [] ∧ h' = [.cells [vi g.ins,aH g.next,aH g.init,prs g.ands,aH g.outs],.cells [vi g.all]]) (by decide +kernel) (by decide +kernel) ?_ ?_
  ·simp only [wq.1,seval,ZP];have wf : g.first = 1 + g.ins + g.next.length := rfl
   have w1 : IntKind.i64.wrap (g.first + (g.ands.length : Int)) = g.first + g.ands.length := aZ (by omega) (by omega)
   have w2 : IntKind.i64.wrap (2 * (g.first + (g.ands.length : Int))) = g.all := aZ (by omega) (by omega);have hfi := kw g (by omega) (by omega) (by omega);unfold Gr.v at hfi;have dg : V.dats [.agg [vi g.ins,aH g.next,aH g.init,prs g.ands,aH g.outs]] = true := by simp only [V.dats,V.dat,Bool.and_self]
   repeat' apply And.intro
   all_goals (refine ah.ev hfi dg ?_)
   all_goals (simp only [wq.1,seval,w1,w2])
   all_goals (first | exact ⟨rfl,rfl,rfl,rfl⟩ | trace_state)
  ·rintro f h ⟨h1,h3,hd,rfl⟩;have hlim : g.lim = false := hc;have fin1 : g.oddR = true → aC TE [.cells [vi g.ins,aH g.next,aH g.init,prs g.ands,aH g.outs],.cells [vi g.all]] (vi 1) (vi g.chk) := fun h => aV rfl (by unfold Gr.chk;rw [hlim,h];rfl);by_cases e : g.init.length = g.next.length
   ·have e1 : ((g.init.length : Int) != (g.next.length : Int)) = false := by simp [e]
    simp only [wq.1,seval,h1,h3,e1];refine ah.ev (Px g.init 116 [] Za rfl rfl fun x _ => Yj x) rfl ?_;cases hA : g.init.any Za with
    | true => simp only [wq.1,seval,h1];refine ⟨.bool true,?_⟩;simp only [wq.1,seval];refine ⟨.bool true,?_⟩;simp only [wq.1,seval,hd];exact fin1 (by simp [Gr.oddR,hA])
    | false =>
     simp only [wq.1,seval,h1];have rf : aB TE [.cells [vi g.ins,aH g.next,aH g.init,prs g.ands,aH g.outs],.cells [vi g.all]] [.fn (.func 115) [] [.lp 1 0]] [.fn (.func 115) [] [.ip (vi g.all)]] :=
      aB.cons (aC.fn aB.nil (aB.cons (aC.lp rfl (aB.dat rfl) rfl rfl (by simp [V.vc]) rfl) aB.nil)) aB.nil
     refine ah.lend (Px g.next 115 [.ip (vi g.all)] (Vg g.all) rfl rfl fun x _ => Py g.all x) (aB.cons (aC.dat rfl) rf) rfl ?_;cases hB : g.next.any (Vg g.all) with
     | true => simp only [wq.1,seval,h1];refine ⟨.bool true,?_⟩;simp only [wq.1,seval,hd];exact fin1 (by simp [Gr.oddR,hB])
     | false =>
      simp only [wq.1,seval,h1];refine ah.lend (Px g.outs 115 [.ip (vi g.all)] (Vg g.all) rfl rfl fun x _ => Py g.all x) (aB.cons (aC.dat rfl) rf) rfl ?_;cases hC : g.outs.any (Vg g.all) with
      | true => simp only [wq.1,seval,hd];exact fin1 (by simp [Gr.oddR,hC])
      | false =>
       simp only [wq.1,seval,h1];refine aF (fun m f h => ∃ i G,m + i = g.ands.length ∧ f.t 1 = .lp 0 0 ∧ f.t 70 = prs g.ands ∧ f.t 71 = vi g.ands.length ∧ f.t 72 = vi i ∧ f.d = [] ∧ h = [.cells [vi g.ins,aH g.next,aH g.init,prs g.ands,aH g.outs],.cells [vi g.all]] ++ G ∧ g.oddAs i = false) g.ands.length ⟨0,[],by simp,by simp only [wq.1,seval,h1],by simp only [wq.1,seval],by simp only [wq.1,seval],rfl,by simp only [wq.1,hd],by simp,rfl⟩ ?_;rintro m f h ⟨i,G,hm,h1,h70,h71,h72,hd,rfl,hno⟩;refine vm ?_;simp only [wq.1,seval,h71,h72];refine vcB.mk (fun hlt => ?_) (fun hlt => ?_)
       ·simp only [decide_eq_true_eq,Int.ofNat_lt] at hlt;have hg : (g.ands.map prV).getD i .any = prV g.ands[i] := oh hlt _;have hM : maxLen = 9223372036854775807 := rfl;have hgE : ∀ x : O,(G ++ [x])[G.length]? = some x := fun x => by simp
        have hgS : ∀ x y : O,(G ++ [x]).set G.length y = G ++ [y] := fun x y => by simp
        have dg : V.dats [.agg [vi g.ins,aH g.next,aH g.init,prs g.ands,aH g.outs]] = true := by simp only [V.dats,V.dat,Bool.and_self]
        have wf : g.first = 1 + g.ins + g.next.length := rfl
        have w1 : IntKind.i64.wrap (g.first + (i : Int)) = g.first + i := aZ (by omega) (by omega)
        have w2 : IntKind.i64.wrap (2 * (g.first + (i : Int))) = 2 * (g.first + i) := aZ (by omega) (by omega);have hfi := kw g (by omega) (by omega) (by omega);unfold Gr.v at hfi;simp only [wq.1,seval,-Int.reduceNatCast,-Int.reduceNatCast',ak,Tryz.results66,h1,h70,h71,h72,hd,hg,Int.toNat_natCast,hgE,hgS,List.drop_nil];refine ⟨⟨by omega,by omega⟩,ah.ev hfi dg ?_⟩;simp only [wq.1,seval,-Int.reduceNatCast,-Int.reduceNatCast',ak,Tryz.results66,bg,h1,h70,h71,h72,hd,w1,w2,hgE,hgS,ax (show i < maxLen by omega)];refine ⟨by decide,fun _ => by decide,fun _ => by decide,fun _ => by decide,vcB.mk (fun hb => ?_) (fun hb => ?_)⟩
        ·simp only [wq.1,↓reduceIte,Nat.reduceLT,hd];refine aV rfl ?_;unfold Gr.chk;rw [hlim,if_neg (by simp),if_neg (by simp [Gr.oddR,e,hA,hB,hC]),if_pos];simp only [Gr.oddAs,List.any_eq_true,List.mem_range];refine ⟨i,hlt,?_⟩;rw [aG hlt];exact hb
        ·simp only [wq.1,seval,h72,ax (show i < maxLen by omega)];refine .inl ⟨m - 1,by omega,i + 1,G ++ [.cells [vi g.ands[i].1,vi g.ands[i].2]],by omega,h1,h70,h71,rfl,hd,rfl,?_⟩;simp only [Gr.oddAs,List.range_succ,List.any_append,List.any_cons,List.any_nil,Bool.or_false,Bool.or_eq_false_iff];refine ⟨hno,?_⟩;rw [aG hlt];exact hb
       ·simp only [decide_eq_false_iff_not,Int.ofNat_lt] at hlt;simp only [wq.1,seval,hd];have hi : i = g.ands.length := by omega
        refine aV rfl ?_;unfold Gr.chk;rw [hlim,if_neg (by simp),if_neg (by simp [Gr.oddR,e,hA,hB,hC]),← hi,hno];rfl
   ·have e1 : ((g.init.length : Int) != (g.next.length : Int)) = true := by simpa [Int.natCast_inj] using e
    simp only [wq.1,seval,h1,h3,e1];refine ⟨.bool true,?_⟩;simp only [wq.1,seval,h1];refine ⟨.bool true,?_⟩;simp only [wq.1,seval];refine ⟨.bool true,?_⟩;simp only [wq.1,seval,hd];exact fin1 (by simp [Gr.oddR,e])
theorem MQ (n : Nat) (hn : n ≤ 1000000000) (h : H) (R : AEnd → H → (Nat → Bool) → Prop) (hr0 : n = 0 → R (.ret .nils) h (fun _ => false))
 (hr : 0 < n → R (.ret (.ls h.length 1 0 0 n)) (h ++ [.cells (List.replicate n (.str []))]) (fun _ => false)) : ah TE 95 [.nils,vi n] h R := by
 refine au Tryz.func95 rfl (by simp [nts]) ?_;refine ag (vm ?_);simp only [wq.1,Nat.reduceLT,Tryz.results95];refine ag ?_;refine vm ?_;simp only [wq.1,seval];refine vcB.mk (fun hc => ?_) (fun hc => ?_)
 ·simp only [decide_eq_true_eq] at hc;omega
 simp only [wq.1];refine ag (ag (fB ?_));refine ay rfl rfl ?_;simp only [wq.1,seval];refine ay rfl rfl ?_;simp only [wq.1,seval];refine bW rfl rfl ?_;have hq : ti TE.P 26 = some ⟨.slice 9,1,24,.nils⟩ := by simp only [wq.1]
 have hqe : ti TE.P 9 = some ⟨.str,1,16,.str []⟩ := by simp only [wq.1]
 have hqi : ti TE.P 3 = some ⟨.int .i64,1,8,.int .i64 0⟩ := by simp only [wq.1]
 refine jZ (t := 26) rfl rfl hq rfl trivial rfl ?_;refine ay rfl rfl ?_;simp only [wq.1,seval];refine ay rfl rfl ?_;simp only [wq.1,↓reduceIte];refine ay rfl rfl ?_;simp only [wq.1,seval];refine ay rfl rfl ?_;simp only [wq.1,seval];refine ay rfl rfl ?_;simp only [wq.1,↓reduceIte];have w0 : IntKind.i64.wrap 0 = 0 := by decide
 have w1 : IntKind.i64.wrap ((n : Int) - 0) = n := by rw [Int.sub_zero];exact aZ (by omega) (by omega)
 refine bT ?_;simp only [wq.1,w0,w1];refine ag ?_;refine vm ?_;simp only [wq.1,seval];refine bQ (b := decide ((0 : Int) < n)) (by simp only [wq.1,↓reduceIte]) (by simp only [wq.1,↓reduceIte]) (fun hb => ?_) (fun hb => ?_)
 ·have hpos : 0 < n := by simp only [decide_eq_true_eq] at hb;omega
  refine fB ?_;refine ay rfl rfl ?_;simp only [wq.1,seval];refine ay rfl rfl ?_;simp only [wq.1,seval];refine bW rfl rfl ?_;refine jZ (t := 26) rfl rfl hq rfl trivial rfl ?_;refine bW rfl rfl ?_;refine o6 rfl hq rfl hqe (by simp only [wq.1,seval]) (by simp only [wq.1,seval]) (by simp only [wq.1,↓reduceIte]) (k := .i64) (by simp only [wq.1,↓reduceIte]) ?_;refine ay rfl rfl ?_;simp only [wq.1,seval];refine bW rfl rfl ?_;refine nO (x := .tmp 20) (y := .tmp 21) (t := 26) (xt := 3) (el := 9) ⟨⟨_,rfl,rfl,rfl⟩,hq,rfl,hqe,rfl,rfl,Nat.zero_lt_one⟩ (by simp only [wq.1,seval]) (by simp only [wq.1,↓reduceIte]) (by simp only [wq.1,seval]) (by simp only [wq.1,↓reduceIte]) hqi rfl hpos (by omega) ?_ rfl (zv := .str []) rfl ?_
  ·show n * 16 ≤ _;omega
  refine ay rfl rfl ?_;simp only [wq.1,seval];refine ay rfl rfl ?_;simp only [wq.1,↓reduceIte];refine ay rfl rfl ?_;simp only [wq.1,seval];refine ⟨by omega,?_⟩;refine ay rfl rfl ?_;simp only [wq.1,↓reduceIte];refine bT ?_;simp only [wq.1];refine vm ?_;simp only [wq.1,seval];exact hr hpos
 ·have : n = 0 := by simp only [decide_eq_false_iff_not] at hb;omega
  refine vm ?_;simp only [wq.1];refine vm ?_;simp only [wq.1,seval];exact hr0 this
theorem MR {α : Type} (ls : List (List α)) (i : Nat) : ls.flatten = (ls.take i).flatten ++ (ls.drop i).flatten := by rw [← List.flatten_append,List.take_append_drop]
theorem iE {α : Type} {ls : List (List α)} {i : Nat} (h : i < ls.length) : (ls.take (i + 1)).flatten = (ls.take i).flatten ++ ls[i] := by rw [List.take_add_one,List.flatten_append];simp [h]
theorem uA {α : Type} {ls : List (List α)} {i : Nat} (h : i < ls.length) : (ls.take i).flatten.length + ls[i].length ≤ ls.flatten.length := by have h1 := congrArg List.length (MR ls (i + 1));rw [iE h] at h1;simp only [List.length_append] at h1;omega
def zbq (n : Nat) (c : List S) (v : V) (h : H) : Prop :=
 (c = [] ∧ v = .nils ∧ h = [] ∧ n = 0) ∨ (c.length ≤ n ∧ v = .ls 0 1 0 c.length n ∧ h = [.cells (c.map V.str ++ List.replicate (n - c.length) (.str []))])
theorem Vh (n : Nat) (hn : n ≤ 1000000000) (R : AEnd → H → (Nat → Bool) → Prop) (hr : ∀ v h,zbq n [] v h → R (.ret v) h (fun _ => false)) : ah TE 95 [.nils,vi n] [] R :=
 MQ n hn [] R (fun hz => hr _ _ (.inl ⟨rfl,rfl,rfl,hz⟩)) (fun hz => hr _ _ (.inr ⟨Nat.zero_le _,rfl,rfl⟩))
theorem IA : ∀ l : List S,dH (l.map V.str) = true
 | [] => rfl
 | a :: l => by simp only [List.map_cons,dH,IA l,V.one,V.vc,List.length_singleton];rfl
theorem Gx (c l : List S) (n : Nat) (h : c.length + l.length ≤ n) : eP (c.map V.str ++ List.replicate (n - c.length) (.str [])) c.length (l.map V.str) = (c ++ l).map V.str ++ List.replicate (n - (c ++ l).length) (.str []) := by
 unfold eP;have e1 : (c.map V.str ++ List.replicate (n - c.length) (V.str [])).take c.length = c.map V.str := by
  simp
 have e2 : (c.map V.str ++ List.replicate (n - c.length) (V.str [])).drop (c.length + (l.map V.str).length) = List.replicate (n - (c ++ l).length) (V.str []) := by
  rw [List.drop_append];have : (c.map V.str).drop (c.length + (l.map V.str).length) = [] := List.drop_of_length_le (by simp);rw [this,List.nil_append,List.drop_replicate]
  congr 1
  simp only [List.length_map,List.length_append];omega
 rw [e1,e2,List.map_append]
theorem Gy (ls : List (List S)) (hn : ls.flatten.length ≤ 1000000000) (hls : ls.length ≤ 1000000000) : EvF TE 50 [.is true 1 (ls.map aT)] 1 ls.flatten.length (ls.flatten.map V.str) := by
 have hM : maxLen = 9223372036854775807 := rfl;have hget : ∀ {i : Nat} (h : i < ls.length) (d : V),(ls.map aT).getD i d = aT ls[i] := fun h d => oh h d;unfold EvF;refine au Tryz.func50 rfl (by simp [nts]) (vm ?_);simp only [wq.1,seval,Tryz.results50];refine aF (fun m f h => ∃ i,m + i = ls.length ∧ f.t 0 = .is true 1 (ls.map aT) ∧ f.t 3 = vi (ls.take i).flatten.length ∧ f.t 9 = .is true 1 (ls.map aT) ∧ f.t 10 = vi ls.length ∧ f.t 11 = vi i ∧ f.d = [] ∧ h = []) ls.length ⟨0,by simp,rfl,rfl,rfl,by simp only [wq.1,seval],rfl,rfl,rfl⟩ ?_;rintro m f h ⟨i,hm,h0,h3,h9,h10,h11,hd,rfl⟩;refine vm ?_;simp only [wq.1,seval,h10,h11];refine vcB.mk (fun hc => ?_) (fun hc => ?_)
 ·simp only [decide_eq_true_eq,Int.ofNat_lt] at hc;have hfl := uA hc;have hw : IntKind.i64.wrap (((ls.take i).flatten.length : Int) + (ls[i].length : Int)) = ((ls.take (i + 1)).flatten.length : Int) := by
   rw [iE hc,List.length_append,jY (by omega) (by omega)];omega
  simp only [wq.1,seval,h3,h9,h11,hget hc,hw];refine ⟨⟨by omega,by omega⟩,vcB.mk (fun hc' => ?_) (fun hc' => ?_)⟩
  ·simp only [decide_eq_true_eq] at hc';omega
  ·simp only [wq.1,seval,h11,ax (show i < maxLen by omega)];exact .inl ⟨m - 1,by omega,i + 1,by omega,h0,rfl,h9,h10,rfl,hd,rfl⟩
 ·simp only [decide_eq_false_iff_not,Int.ofNat_lt] at hc;have hi : ls.take i = ls := List.take_of_length_le (by omega);rw [hi] at h3;simp only [wq.1,seval,h3];refine Vh ls.flatten.length hn _ (fun v0 h0' hcat => ?_);simp only [wq.1,seval,h0];refine aF (fun m f h => ∃ i v,m + i = ls.length ∧ f.t 25 = .is true 1 (ls.map aT) ∧ f.t 26 = vi ls.length ∧ f.t 27 = vi i ∧ f.t 6 = v ∧ f.d = [] ∧ zbq ls.flatten.length (ls.take i).flatten v h) ls.length ⟨0,v0,by simp,by simp only [wq.1,seval],by simp only [wq.1,seval],rfl,rfl,by simp only [wq.1,hd],by simpa using hcat⟩ ?_;rintro m f h ⟨i,v,hm,h25,h26,h27,h6,hd,hcat⟩;refine vm ?_;simp only [wq.1,seval,h26,h27];refine vcB.mk (fun hc => ?_) (fun hc => ?_)
  ·simp only [decide_eq_true_eq,Int.ofNat_lt] at hc;have hfl := uA hc;have hnext : f.t 27 = vi i → IntKind.i64.wrap ((i : Int) + 1) = ((i + 1 : Nat) : Int) := fun _ => ax (by omega);rcases hcat with ⟨hc0,rfl,rfl,hn0⟩ | ⟨hcl,rfl,rfl⟩
   ·have hl0 : ls[i] = [] := List.eq_nil_of_length_eq_zero (by omega);simp only [wq.1,seval,h25,h27,h6,hget hc,hl0,ax (show i < maxLen by omega)];refine ⟨⟨by omega,by omega⟩,by omega,.inl ⟨m - 1,by omega,i + 1,_,by omega,h25,h26,rfl,rfl,hd,?_⟩⟩;right;rw [iE hc,hl0,hc0,hn0];exact ⟨Nat.le_refl _,rfl,rfl⟩
   ·by_cases hlt : (ls.take i).flatten.length < ls.flatten.length
    ·have hdt : decide ((ls.take i).flatten.length < ls.flatten.length) = true := by simpa using hlt
     simp only [wq.1,seval,h25,h27,h6,hget hc,ax (show i < maxLen by omega),IA,hdt];refine ⟨⟨by omega,by omega⟩,⟨by omega,by omega,by rw [List.length_replicate];omega⟩,.inl ⟨m - 1,by omega,i + 1,_,by omega,h25,h26,rfl,rfl,hd,?_⟩⟩;right;rw [iE hc];refine ⟨by rw [List.length_append];omega,by simp only [wq.1,seval],?_⟩;have hsp := Gx (ls.take i).flatten ls[i] ls.flatten.length hfl;unfold eP at hsp;rw [List.length_map] at hsp;rw [Nat.mul_one,hsp]
    ·have hdt : decide ((ls.take i).flatten.length < ls.flatten.length) = false := by simpa using hlt
     have hl0 : ls[i] = [] := List.eq_nil_of_length_eq_zero (by omega);have hne : (ls.take i).flatten.length = ls.flatten.length := by omega
     simp only [wq.1,seval,h25,h27,h6,hd,hget hc,ax (show i < maxLen by omega),hdt,hl0];refine ⟨⟨by omega,by omega⟩,⟨by rw [List.length_replicate];omega,by omega,by omega⟩,.inl ⟨m - 1,by omega,i + 1,_,by omega,by simp only [wq.1,seval,h25],by simp only [wq.1,seval,h26],rfl,rfl,hd,?_⟩⟩;right;rw [iE hc,hl0,List.append_nil,hne,Nat.sub_self];refine ⟨Nat.le_refl _,by simp only [wq.1,seval],?_⟩;simp only [List.replicate_zero,V.drops]
  ·simp only [decide_eq_false_iff_not,Int.ofNat_lt] at hc;have hi : ls.take i = ls := List.take_of_length_le (by omega);rw [hi] at hcat;simp only [wq.1,seval,h6,hd];rcases hcat with ⟨hc0,rfl,rfl,hn0⟩ | ⟨hcl,rfl,rfl⟩
   ·exact .inl ⟨rfl,hn0,by rw [hc0];rfl⟩
   ·rw [Nat.sub_self,List.replicate_zero,List.append_nil];exact .inr ⟨0,_,rfl,Nat.le_refl _,rfl⟩
theorem oH (ls : List (List S)) (hn : ls.flatten.length ≤ 1000000000) (hls : ls.length ≤ 1000000000) : Ev TE 50 [.is true 1 (ls.map aT)] (aT ls.flatten) := by
 refine (Gy ls hn hls).ev (fun _ hc => ?_) (fun h' id cap _ hid => fP hid rfl) (fun _ hc h' => ?_)
 ·rw [List.map_eq_nil_iff.1 hc];exact cO
 ·rw [List.map_eq_nil_iff.1 hc];exact aC.nils
theorem Gz (n : Nat) (hn : n ≤ 1000000000) (h : H) (R : AEnd → H → (Nat → Bool) → Prop) (hr0 : n = 0 → R (.ret .nils) h (fun _ => false))
 (hr : 0 < n → R (.ret (.ls h.length 1 0 0 n)) (h ++ [.cells (List.replicate n (.int .i64 0))]) (fun _ => false)) : ah TE 144 [.nils,vi n] h R := by
 refine au Tryz.func144 rfl (by simp [nts]) ?_;refine ag (vm ?_);simp only [wq.1,Nat.reduceLT,Tryz.results144];refine ag ?_;refine vm ?_;simp only [wq.1,seval];refine vcB.mk (fun hc => ?_) (fun hc => ?_)
 ·simp only [decide_eq_true_eq] at hc;omega
 simp only [wq.1];refine ag (ag (fB ?_));refine ay rfl rfl ?_;simp only [wq.1,seval];refine ay rfl rfl ?_;simp only [wq.1,seval];refine bW rfl rfl ?_;have hq : ti TE.P 22 = some ⟨.slice 3,1,24,.nils⟩ := by simp only [wq.1]
 have hqe : ti TE.P 3 = some ⟨.int .i64,1,8,.int .i64 0⟩ := by simp only [wq.1]
 have hqi : ti TE.P 3 = some ⟨.int .i64,1,8,.int .i64 0⟩ := by simp only [wq.1]
 refine jZ (t := 22) rfl rfl hq rfl trivial rfl ?_;refine ay rfl rfl ?_;simp only [wq.1,seval];refine ay rfl rfl ?_;simp only [wq.1,↓reduceIte];refine ay rfl rfl ?_;simp only [wq.1,seval];refine ay rfl rfl ?_;simp only [wq.1,seval];refine ay rfl rfl ?_;simp only [wq.1,↓reduceIte];have w0 : IntKind.i64.wrap 0 = 0 := by decide
 have w1 : IntKind.i64.wrap ((n : Int) - 0) = n := by rw [Int.sub_zero];exact aZ (by omega) (by omega)
 refine bT ?_;simp only [wq.1,w0,w1];refine ag ?_;refine vm ?_;simp only [wq.1,seval];refine bQ (b := decide ((0 : Int) < n)) (by simp only [wq.1,↓reduceIte]) (by simp only [wq.1,↓reduceIte]) (fun hb => ?_) (fun hb => ?_)
 ·have hpos : 0 < n := by simp only [decide_eq_true_eq] at hb;omega
  refine fB ?_;refine ay rfl rfl ?_;simp only [wq.1,seval];refine ay rfl rfl ?_;simp only [wq.1,seval];refine bW rfl rfl ?_;refine jZ (t := 22) rfl rfl hq rfl trivial rfl ?_;refine bW rfl rfl ?_;refine o6 rfl hq rfl hqe (by simp only [wq.1,seval]) (by simp only [wq.1,seval]) (by simp only [wq.1,↓reduceIte]) (k := .i64) (by simp only [wq.1,↓reduceIte]) ?_;refine ay rfl rfl ?_;simp only [wq.1,seval];refine bW rfl rfl ?_;refine nO (x := .tmp 20) (y := .tmp 21) (t := 22) (xt := 3) (el := 3) ⟨⟨_,rfl,rfl,rfl⟩,hq,rfl,hqe,rfl,rfl,Nat.zero_lt_one⟩ (by simp only [wq.1,seval]) (by simp only [wq.1,↓reduceIte]) (by simp only [wq.1,seval]) (by simp only [wq.1,↓reduceIte]) hqi rfl hpos (by omega) ?_ rfl (zv := .int .i64 0) rfl ?_
  ·show n * 8 ≤ _;omega
  refine ay rfl rfl ?_;simp only [wq.1,seval];refine ay rfl rfl ?_;simp only [wq.1,↓reduceIte];refine ay rfl rfl ?_;simp only [wq.1,seval];refine ⟨by omega,?_⟩;refine ay rfl rfl ?_;simp only [wq.1,↓reduceIte];refine bT ?_;simp only [wq.1];refine vm ?_;simp only [wq.1,seval];exact hr hpos
 ·have : n = 0 := by simp only [decide_eq_false_iff_not] at hb;omega
  refine vm ?_;simp only [wq.1];refine vm ?_;simp only [wq.1,seval];exact hr0 this
def ZQ (n : Nat) (c : List Int) (v : V) (h : H) : Prop :=
 (c = [] ∧ v = .nils ∧ h = [] ∧ n = 0) ∨ (c.length ≤ n ∧ v = .ls 0 1 0 c.length n ∧ h = [.cells (c.map vi ++ List.replicate (n - c.length) (.int .i64 0))])
theorem Pz (n : Nat) (hn : n ≤ 1000000000) (R : AEnd → H → (Nat → Bool) → Prop) (hr : ∀ v h,ZQ n [] v h → R (.ret v) h (fun _ => false)) : ah TE 144 [.nils,vi n] [] R :=
 Gz n hn [] R (fun hz => hr _ _ (.inl ⟨rfl,rfl,rfl,hz⟩)) (fun hz => hr _ _ (.inr ⟨Nat.zero_le _,rfl,rfl⟩))
theorem tX {p : Nat → Bool} : ∀ l : List Int,V.drops p (l.map vi) = l.map vi
 | [] => rfl
 | a :: l => by simp only [List.map_cons,V.drops,V.drop,tX l]
theorem DK : ∀ l : List Int,dH (l.map vi) = true
 | [] => rfl
 | a :: l => by simp only [List.map_cons,dH,DK l,V.one,V.vc,List.length_singleton];rfl
theorem DL (c l : List Int) (n : Nat) (h : c.length + l.length ≤ n) : eP (c.map vi ++ List.replicate (n - c.length) (.int .i64 0)) c.length (l.map vi) = (c ++ l).map vi ++ List.replicate (n - (c ++ l).length) (.int .i64 0) := by
 unfold eP;have e1 : (c.map vi ++ List.replicate (n - c.length) (V.int .i64 0)).take c.length = c.map vi := by
  simp
 have e2 : (c.map vi ++ List.replicate (n - c.length) (V.int .i64 0)).drop (c.length + (l.map vi).length) = List.replicate (n - (c ++ l).length) (V.int .i64 0) := by
  rw [List.drop_append];have : (c.map vi).drop (c.length + (l.map vi).length) = [] := List.drop_of_length_le (by simp);rw [this,List.nil_append,List.drop_replicate]
  congr 1
  simp only [List.length_map,List.length_append];omega
 rw [e1,e2,List.map_append]
theorem tY (ls : List (List Int)) (hn : ls.flatten.length ≤ 1000000000) (hls : ls.length ≤ 1000000000) : EvF TE 106 [.is true 1 (ls.map aH)] 1 ls.flatten.length (ls.flatten.map vi) := by
 have hM : maxLen = 9223372036854775807 := rfl;have hget : ∀ {i : Nat} (h : i < ls.length) (d : V),(ls.map aH).getD i d = aH ls[i] := fun h d => oh h d;unfold EvF;refine au Tryz.func106 rfl (by simp [nts]) (vm ?_);simp only [wq.1,seval,Tryz.results106];refine aF (fun m f h => ∃ i,m + i = ls.length ∧ f.t 0 = .is true 1 (ls.map aH) ∧ f.t 3 = vi (ls.take i).flatten.length ∧ f.t 9 = .is true 1 (ls.map aH) ∧ f.t 10 = vi ls.length ∧ f.t 11 = vi i ∧ f.d = [] ∧ h = []) ls.length ⟨0,by simp,rfl,rfl,rfl,by simp only [wq.1,seval],rfl,rfl,rfl⟩ ?_;rintro m f h ⟨i,hm,h0,h3,h9,h10,h11,hd,rfl⟩;refine vm ?_;simp only [wq.1,seval,h10,h11];refine vcB.mk (fun hc => ?_) (fun hc => ?_)
 ·simp only [decide_eq_true_eq,Int.ofNat_lt] at hc;have hfl := uA hc;have hw : IntKind.i64.wrap (((ls.take i).flatten.length : Int) + (ls[i].length : Int)) = ((ls.take (i + 1)).flatten.length : Int) := by
   rw [iE hc,List.length_append,jY (by omega) (by omega)];omega
  simp only [wq.1,seval,h3,h9,h11,hget hc,hw];refine ⟨⟨by omega,by omega⟩,vcB.mk (fun hc' => ?_) (fun hc' => ?_)⟩
  ·simp only [decide_eq_true_eq] at hc';omega
  ·simp only [wq.1,seval,h11,ax (show i < maxLen by omega)];exact .inl ⟨m - 1,by omega,i + 1,by omega,h0,rfl,h9,h10,rfl,hd,rfl⟩
 ·simp only [decide_eq_false_iff_not,Int.ofNat_lt] at hc;have hi : ls.take i = ls := List.take_of_length_le (by omega);rw [hi] at h3;simp only [wq.1,seval,h3];refine Pz ls.flatten.length hn _ (fun v0 h0' hcat => ?_);simp only [wq.1,seval,h0];refine aF (fun m f h => ∃ i v,m + i = ls.length ∧ f.t 25 = .is true 1 (ls.map aH) ∧ f.t 26 = vi ls.length ∧ f.t 27 = vi i ∧ f.t 6 = v ∧ f.d = [] ∧ ZQ ls.flatten.length (ls.take i).flatten v h) ls.length ⟨0,v0,by simp,by simp only [wq.1,seval],by simp only [wq.1,seval],rfl,rfl,by simp only [wq.1,hd],by simpa using hcat⟩ ?_;rintro m f h ⟨i,v,hm,h25,h26,h27,h6,hd,hcat⟩;refine vm ?_;simp only [wq.1,seval,h26,h27];refine vcB.mk (fun hc => ?_) (fun hc => ?_)
  ·simp only [decide_eq_true_eq,Int.ofNat_lt] at hc;have hfl := uA hc;have hnext : f.t 27 = vi i → IntKind.i64.wrap ((i : Int) + 1) = ((i + 1 : Nat) : Int) := fun _ => ax (by omega);rcases hcat with ⟨hc0,rfl,rfl,hn0⟩ | ⟨hcl,rfl,rfl⟩
   ·have hl0 : ls[i] = [] := List.eq_nil_of_length_eq_zero (by omega);simp only [wq.1,seval,h25,h27,h6,hget hc,hl0,ax (show i < maxLen by omega)];refine ⟨⟨by omega,by omega⟩,by omega,.inl ⟨m - 1,by omega,i + 1,_,by omega,h25,h26,rfl,rfl,hd,?_⟩⟩;right;rw [iE hc,hl0,hc0,hn0];exact ⟨Nat.le_refl _,rfl,rfl⟩
   ·by_cases hlt : (ls.take i).flatten.length < ls.flatten.length
    ·have hdt : decide ((ls.take i).flatten.length < ls.flatten.length) = true := by simpa using hlt
     simp only [wq.1,seval,h25,h27,h6,hget hc,ax (show i < maxLen by omega),DK,hdt];refine ⟨⟨by omega,by omega⟩,⟨by omega,by omega,by rw [List.length_replicate];omega⟩,.inl ⟨m - 1,by omega,i + 1,_,by omega,h25,h26,rfl,rfl,hd,?_⟩⟩;right;rw [iE hc];refine ⟨by rw [List.length_append];omega,by simp only [wq.1,seval],?_⟩;have hsp := DL (ls.take i).flatten ls[i] ls.flatten.length hfl;unfold eP at hsp;rw [List.length_map] at hsp;rw [Nat.mul_one,hsp]
    ·have hdt : decide ((ls.take i).flatten.length < ls.flatten.length) = false := by simpa using hlt
     have hl0 : ls[i] = [] := List.eq_nil_of_length_eq_zero (by omega);have hne : (ls.take i).flatten.length = ls.flatten.length := by omega
     simp only [wq.1,seval,h25,h27,h6,hd,hget hc,ax (show i < maxLen by omega),hdt,hl0,tX];refine ⟨⟨by omega,by omega⟩,⟨by rw [List.length_replicate];omega,by omega,by omega⟩,.inl ⟨m - 1,by omega,i + 1,_,by omega,by simp only [wq.1,seval,h25],by simp only [wq.1,seval,h26],rfl,rfl,hd,?_⟩⟩;right;rw [iE hc,hl0,List.append_nil,hne,Nat.sub_self];refine ⟨Nat.le_refl _,by simp only [wq.1,seval],?_⟩;simp only [List.replicate_zero,V.drops]
  ·simp only [decide_eq_false_iff_not,Int.ofNat_lt] at hc;have hi : ls.take i = ls := List.take_of_length_le (by omega);rw [hi] at hcat;simp only [wq.1,seval,h6,hd];rcases hcat with ⟨hc0,rfl,rfl,hn0⟩ | ⟨hcl,rfl,rfl⟩
   ·exact .inl ⟨rfl,hn0,by rw [hc0];rfl⟩
   ·rw [Nat.sub_self,List.replicate_zero,List.append_nil];exact .inr ⟨0,_,rfl,Nat.le_refl _,rfl⟩
theorem GH (ls : List (List Int)) (hn : ls.flatten.length ≤ 1000000000) (hls : ls.length ≤ 1000000000) : Ev TE 106 [.is true 1 (ls.map aH)] (aH ls.flatten) := by
 refine (tY ls hn hls).ev (fun _ hc => ?_) (fun h' id cap _ hid => dh hid (by simp)) (fun _ hc h' => ?_)
 ·rw [List.map_eq_nil_iff.1 hc];exact cO
 ·rw [List.map_eq_nil_iff.1 hc];exact aC.nils
theorem ZR (c : List S) (q : FuncId) (caps : List V) (p : S → Bool) (he : aj P q = true) (hd : V.dats caps = true) (hq : ∀ x ∈ c,Ev TE q (.str x :: caps) (.bool (p x))) : Ev TE 166 [aT c,.fn (.func q) [] caps] (vi (idx c p)) := by
 refine Ev.bnd fun hb => ?_;have hlen := qL hb;refine aA Tryz.func166 rfl (by simp [nts]) (vm ?_);simp only [wq.1,seval,Tryz.results166];refine aF (fun m f h => ∃ i,m + i = c.length ∧ f.t 0 = aT c ∧ f.t 1 = .fn (.func q) [] caps ∧ f.t 7 = .int .i64 (c.length : Int) ∧ f.t 8 = .int .i64 (i : Int) ∧ f.d = [] ∧ ∀ x ∈ c.take i,p x = false) c.length ⟨0,by simp,rfl,rfl,rfl,rfl,rfl,by simp⟩ ?_;rintro m f h ⟨i,hm,h0,h1,h7,h8,hdd,hall⟩;refine vm ?_;simp only [wq.1,seval,h7,h8];refine vcB.mk (fun hc => ?_) (fun hc => ?_)
 ·simp only [decide_eq_true_eq,Int.ofNat_lt] at hc;simp only [wq.1,seval,h0,h1,h8,Xd hc,he];refine ⟨⟨by omega,by omega⟩,ah.ev (hq _ (List.getElem_mem _)) (by simp [V.dats,V.dat,hd]) ?_⟩;simp only [wq.1,seval];refine vcB.mk (fun hc' => ?_) (fun hc' => ?_)
  ·simp only [wq.1,seval,hdd];rw [uz hc hall hc'];exact aC.dat rfl
  ·simp only [wq.1,seval,h8,ax (show i < maxLen by omega)];exact .inl ⟨m - 1,by omega,i + 1,by omega,h0,h1,h7,rfl,hdd,iD hc hall hc'⟩
 ·simp only [decide_eq_false_iff_not,Int.ofNat_lt] at hc;simp only [wq.1,seval,hdd];rw [List.take_of_length_le (by omega)] at hall;rw [qK hall];exact aC.dat rfl
theorem ZT (c : List S) (q : FuncId) (caps : List V) (p : S → Bool) (he : aj P q = true) (hd : V.dats caps = true) (hq : ∀ x ∈ c,Ev TE q (.str x :: caps) (.bool (p x))) : Ev TE 139 [aT c,.fn (.func q) [] caps] (.bool (c.any p)) := by refine aA Tryz.func139 rfl (by simp [nts]) (vm ?_);simp only [wq.1,seval,Tryz.results139];refine ah.ev (ZR c q caps p he hd hq) (by simp [V.dats,V.dat,hd]) ?_;simp only [wq.1,seval];exact aV rfl (by rw [Pm])
def o8 (s : S) : Bool := !iP s
theorem Vj (s : S) : Ev TE 140 [.str s] (.bool (o8 s)) := by refine aA Tryz.func140 rfl (by simp [nts]) (vm ?_);simp only [wq.1,seval,Tryz.results140];refine ah.ev (Iz s) rfl ?_;simp only [wq.1,seval];exact aC.dat rfl
theorem GI (l : List S) : Ev TE 96 [aT l] (.bool (l.any o8)) := by refine aA Tryz.func96 rfl (by simp [nts]) (vm ?_);simp only [wq.1,seval,Tryz.results96];refine ah.ev (ZT l 140 [] o8 rfl rfl fun x _ => Vj x) rfl ?_;simp only [wq.1,seval];exact aC.dat rfl
def at? : List S → S → Option Nat
 | [],_ => none
 | x :: l,s => if x = s then some 0 else (at? l s).map (· + 1)
theorem sF (s : S) : ∀ (ks : List S),iQ .str (.str s) (ks.map V.str) = some (at? ks s)
 | [] => rfl
 | k :: ks => by
  simp only [List.map_cons,iQ,keq,at?];by_cases h : k = s
  ·subst h;simp
  ·have : (s == k) = false := by simpa using fun h' => h h'.symm
   rw [this,sF s ks,if_neg h];cases at? ks s <;> rfl
theorem Xf : ∀ {l : List S} {s : S} {n : Nat},at? l s = some n → ∃ h : n < l.length,l[n] = s
 | [],s,n,h => by cases h
 | x :: l,s,n,h => by
  simp only [at?] at h;split at h
  ·rename_i he;cases h;exact ⟨by simp,he⟩
  ·cases hl : at? l s with
   | none => rw [hl] at h;cases h
   | some k => rw [hl] at h;cases h;obtain ⟨h1,h2⟩ := Xf hl;exact ⟨by simpa using h1,by simpa using h2⟩
theorem PD : ∀ {l : List S} {s : S},s ∈ l → ∃ n,at? l s = some n
 | x :: l,s,h => by
  by_cases hx : x = s
  ·exact ⟨0,by simp [at?,hx]⟩
  ·have : s ∈ l := by
    rcases List.mem_cons.1 h with h | h
    ·exact absurd h.symm hx
    ·exact h
   obtain ⟨n,hn⟩ := PD this;exact ⟨n + 1,by simp [at?,hx,hn]⟩
def GK (l : List S) : Bool := !decide l.Nodup
theorem DN (l : List S) : Ev TE 97 [aT l] (.bool (GK l)) := by
 refine Ev.bnd fun hb => ?_;have hlen := qL hb;refine aA Tryz.func97 rfl (by simp [nts]) (vm ?_);simp only [wq.1,seval,Tryz.results97];refine aF (fun m f h => ∃ i,m + i = l.length ∧ f.t 3 = .lm 0 ∧ f.t 7 = aT l ∧ f.t 8 = .int .i64 (l.length : Int) ∧ f.t 9 = .int .i64 (i : Int) ∧ f.d = [] ∧ h = [.map ((l.take i).map V.str) (List.replicate i (.bool true))] ∧ (l.take i).Nodup) l.length ⟨0,by simp,rfl,rfl,rfl,rfl,rfl,rfl,by simp⟩ ?_;rintro m f h ⟨i,hm,h3,h7,h8,h9,hd,rfl,hnd⟩;refine vm ?_;simp only [wq.1,seval,h8,h9];refine vcB.mk (fun hc => ?_) (fun hc => ?_)
 ·simp only [decide_eq_true_eq,Int.ofNat_lt] at hc;have hsucc : l.take (i + 1) = l.take i ++ [l[i]] := by rw [List.take_add_one];simp [hc]
  cases hat : at? (l.take i) l[i] with
  | some n =>
   obtain ⟨g1,g2⟩ := Xf hat;have hn : n < i := by simpa using (Nat.lt_of_lt_of_le g1 (by simp;omega))
   have hg : (List.replicate i (V.bool true)).getD n .any = .bool true := by simp [List.getD_eq_getElem?_getD,hn]
   simp only [wq.1,seval,h3,h7,h9,hd,Xd hc,xJ,sF,K.keyOk,hat,hg];refine ⟨⟨by omega,by omega⟩,?_⟩;have : ¬ l.Nodup := by
    intro h;rw [← List.take_append_drop (i + 1) l,hsucc] at h;have h2 := (List.nodup_append.1 (List.nodup_append.1 h).1).2.2;exact h2 l[i] (g2 ▸ List.getElem_mem g1) l[i] (by simp) rfl
   exact aV rfl (by simp [GK,this])
  | none =>
   have hnm : l[i] ∉ l.take i := fun h => by obtain ⟨n,hn⟩ := PD h;rw [hn] at hat;cases hat
   simp only [wq.1,seval,h3,h7,h9,Xd hc,xJ,NW,sF,K.keyOk,hat];refine ⟨⟨by omega,by omega⟩,.inl ⟨m - 1,by omega,i + 1,by omega,h3,h7,h8,by rw [ax (by omega)];rfl,hd,?_,?_⟩⟩
   ·rw [hsucc,List.map_append,List.replicate_succ'];rfl
   ·rw [hsucc];refine List.nodup_append.2 ⟨hnd,by simp,fun a ha b hb h => ?_⟩;simp only [List.mem_singleton] at hb;exact hnm (by rw [← hb,← h];exact ha)
 ·simp only [decide_eq_false_iff_not,Int.ofNat_lt] at hc;simp only [wq.1,seval,hd];rw [List.take_of_length_le (by omega)] at hnd;exact aV rfl (by simp [GK,hnd])
theorem PE (c : List S) (s : S) : Ev TE 141 [aT c,.str s] (vi (idx c (· == s))) := by
 refine Ev.bnd fun hb => ?_;have hlen := qL hb;refine aA Tryz.func141 rfl (by simp [nts]) (vm ?_);simp only [wq.1,seval,Tryz.results141];refine aF (fun m f h => ∃ i,m + i = c.length ∧ f.t 0 = aT c ∧ f.t 1 = .str s ∧ f.t 7 = .int .i64 (c.length : Int) ∧ f.t 8 = .int .i64 (i : Int) ∧ f.d = [] ∧ ∀ x ∈ c.take i,(x == s) = false) c.length ⟨0,by simp,rfl,rfl,rfl,rfl,rfl,by simp⟩ ?_;rintro m f h ⟨i,hm,h0,h1,h7,h8,hdd,hall⟩;refine vm ?_;simp only [wq.1,seval,h7,h8];refine vcB.mk (fun hc => ?_) (fun hc => ?_)
 ·simp only [decide_eq_true_eq,Int.ofNat_lt] at hc;simp only [wq.1,seval,h0,h1,h8,Xd hc];refine ⟨⟨by omega,by omega⟩,vcB.mk (fun hc' => ?_) (fun hc' => ?_)⟩
  ·simp only [wq.1,seval,hdd];rw [uz hc hall (by rw [beq_iff_eq] at hc' ⊢;exact hc'.symm)];exact aC.dat rfl
  ·simp only [wq.1,seval,h8,ax (show i < maxLen by omega)];exact .inl ⟨m - 1,by omega,i + 1,by omega,h0,h1,h7,rfl,hdd,iD hc hall (by rw [beq_eq_false_iff_ne] at hc' ⊢;exact hc'.symm)⟩
 ·simp only [decide_eq_false_iff_not,Int.ofNat_lt] at hc;simp only [wq.1,↓reduceIte,Nat.reduceLT,Int.reduceNeg,hdd];rw [List.take_of_length_le (by omega)] at hall;rw [qK hall];exact aC.dat rfl
structure Mo where
 g : Gr
 ins : List S
 lat : List S
 out : List S
abbrev Mo.v (m : Mo) : V := .agg [vi m.g.ins,aH m.g.next,aH m.g.init,prs m.g.ands,aH m.g.outs,aT m.ins,aT m.lat,aT m.out]
def Mo.place (m : Mo) (s : S) : Int := if idx (m.ins ++ m.lat) (· == s) < 0 then -1 else idx (m.ins ++ m.lat) (· == s) + 1
theorem PG {α : Type} (l : List α) (p : α → Bool) : -1 ≤ idx l p ∧ idx l p < l.length := by
 unfold idx;cases h : l.findIdx? p with
 | none => exact ⟨Int.le_refl _,by show (-1 : Int) < _;omega⟩
 | some i => have := (List.findIdx?_eq_some_iff_getElem.1 h).1;exact ⟨by show (-1 : Int) ≤ (i : Int);omega,by show (i : Int) < _;omega⟩
theorem PH (m : Mo) (s : S) (h1 : m.ins.length + m.lat.length ≤ 1000000) : Ev TE 98 [m.v,.str s] (vi (m.place s)) := by
 have hcat := oH [m.ins,m.lat] (by simp;omega) (by simp);have hfl : [m.ins,m.lat].flatten = m.ins ++ m.lat := by simp
 rw [hfl] at hcat;have hi := PG (m.ins ++ m.lat) (· == s);rw [List.length_append] at hi;unfold Mo.v;refine aA Tryz.func98 rfl (by simp [nts]) (vm ?_);simp only [wq.1,↓reduceIte,Nat.reduceEqDiff,Nat.reduceLT,Nat.reduceLeDiff,Nat.reduceAdd,Int.reduceNeg,reduceCtorEq,Nat.reduceMul,Tryz.results98];refine ⟨⟨rfl,by decide⟩,ah.ev hcat rfl ?_⟩;simp only [wq.1,seval];refine ah.ev (PE _ _) rfl ?_;unfold Mo.place;simp only [wq.1,seval];refine vcB.mk (fun hc => ?_) (fun hc => ?_)
 ·simp only [wq.1,seval];simp only [decide_eq_true_eq] at hc;exact aV rfl (by rw [if_pos hc])
 ·simp only [wq.1,seval];simp only [decide_eq_false_iff_not] at hc;rw [aZ (n := idx (m.ins ++ m.lat) (fun x => x == s) + 1) (by omega) (by omega)];exact aV rfl (by rw [if_neg hc])
end Go.Proofs.YtfcpapokknfeeaaGreatDoor
