/- Lemmas for this claim, part F03: each holds under what it names. -/
import Derived.Test.YtfcpapokknfeeaaGreatDoorF02
import Derived.Test.YtfcpapokknfeeaaGreatDoorA8
import Derived.Lib.AtoiAll
import Derived.Shelf.Sort.Plain
import Derived.Shelf.Strings.Count
import Derived.Shelf.Strings.LastIndex
import Derived.Shelf.Small.Strs
import Derived.Shelf.Strings.OnBuilder
import Derived.Test.YtfcpapokknfeeaaGreatDoorA9
set_option linter.unusedVariables false
set_option linter.unusedSimpArgs false
set_option linter.unnecessarySimpa false
set_option maxRecDepth 20000
set_option maxHeartbeats 8000000
namespace Go.Proofs.YtfcpapokknfeeaaGreatDoor
open Go Go.Proofs Go.Abs Go.RowKit
def IC (k : Int) : V := .iface 182 (.ip (.iface 31 (.int .i64 k)))
theorem Yr (t : V) (h : H) (R : AEnd → H → (Nat → Bool) → Prop) (hr : R (.ret (.bool false)) h (fun _ => false)) : ah TE 163 [.nili,t] h R := by intro ok pl w vs hs hl;simp only [VList,VRel] at hl;obtain ⟨y,ys,rfl,rfl,y2,ys2,rfl,hv2,rfl⟩ := hl;refine Calls.mono (ZY y2 w) ?_;rintro en w' ⟨rfl,rfl⟩;exact ⟨_,pl,h,.ret (.bool false),hs,Keeps.refl pl w',by simp only [yj,VRel],hr⟩
theorem GM (t : Addr) (k : Int) (w : World) : WExt w (GL t k w) :=
 (((WExt.alloc w _).trans (WExt.alloc _ _)).trans (WExt.alloc _ _)).trans (WExt.alloc _ _)
theorem Yt (k : Int) (j : Nat) (old : V) (h : H) (hh : h[j]? = some (.cells [old])) (R : AEnd → H → (Nat → Bool) → Prop)
 (hr : R (.ret (.bool true)) (h.set j (.cells [.int .i64 k])) (fun _ => false)) : ah TE 163 [IC k,.iface 208 (.lp j 0)] h R := by
 intro ok pl w vs hs hl;simp only [IC,VList,VRel] at hl;obtain ⟨y,ys,rfl,⟨ev1,rfl,p,po,ev2,rfl,hrd,hpos,ev3,rfl,rfl⟩,y2,ys2,rfl,⟨ev4,rfl,b,hb,rfl⟩,rfl⟩ := hl;have hp : w.cell? ⟨p,po,none⟩ = some (.iface 31 (.int .i64 k)) := by
  have h1 : w.cell? ⟨p,po + 0,none⟩ = (Value.iface 31 (.int .i64 k)).cells[0]? := (hrd 0 hpos).2;simpa [Value.cells] using h1
 obtain ⟨_,cs,ty,fz,hg0,hg1⟩ := hs.exa 2 _ rfl;have hg : w.cell? ⟨2,0,none⟩ = some (.iface 237 (.agg #[.pointer (some ⟨8,61,none⟩)])) := by have hg0 : w.heap[2]? = some (.cells cs ty fz) := hg0;simp only [World.cell?,hg0];have hg1 : cs = _ := hg1;subst hg1;rfl
 obtain ⟨o,ho,hat⟩ := hs.obj j b hb;rw [hh] at ho;cases ho;obtain ⟨arr,el,fz2,a1,a2,a3,a4⟩ := hat;have a1 : w.heap[b]? = some (.cells arr el fz2) := a1;have a3 : 1 ≤ arr.size := a3;have ht : w.cell? ⟨b,0,none⟩ = some arr[0] := by simp only [World.cell?,a1];simp [show 0 < arr.size by omega]
 have hf : w.frozen? ⟨b,0,none⟩ = false := by simp only [World.frozen?,a1];have := a2 0 (by omega);simpa using this
 refine Calls.mono (ZZ p po ⟨b,0,none⟩ k arr[0] w hp hg ht hf) ?_;rintro en w' ⟨rfl,rfl⟩;have x := GM ⟨b,0,none⟩ k w;have hs1 := hs.wext x;obtain ⟨w2,hrun,hs2,k2⟩ := pR (xs := [.int .i64 k]) hs1 hb (off := 0) (vs := [.int .i64 k]) (by simp [VList,VRel]) rfl hh (by simp);obtain ⟨o3,ho3,hat3⟩ := hs1.obj j b hb;rw [hh] at ho3;cases ho3;obtain ⟨arr3,el3,fz3,c1,c2,c3,c4⟩ := hat3;have hrun2 := eQ (P := TE.P) (w := GL ⟨b,0,none⟩ k w) (o := 0) (vs := [.int .i64 k]) c1 c2 (by simpa using c3) (by intro v hv;simp at hv;subst hv;rfl);rw [hrun2] at hrun;cases hrun;exact ⟨_,pl,_,.ret (.bool true),hs2,(x.keeps hs).trans k2,by simp only [yj,VRel],hr⟩
theorem yF (n e a : Int) : Ev TE 137 [vi n,vi e,vi a,.nili] (.tup [vi n,vi e,vi 0]) := by refine aA Tryz.func137 rfl (by simp [nts]) (vm ?_);simp only [wq.1,seval,Tryz.results137];refine ⟨nofun,Yr _ _ _ ?_⟩;simp only [wq.1,seval];exact aC.dat rfl
theorem jL (n e a k : Int) : Ev TE 137 [vi n,vi e,vi a,IC k] (.tup [vi 0,vi a,vi k]) := by refine aA Tryz.func137 rfl (by simp [nts]) (vm ?_);simp only [wq.1,seval,Tryz.results137,IC];refine ⟨nofun,Yt k 0 _ _ rfl _ ?_⟩;simp only [wq.1,seval];exact ⟨by decide +kernel,aC.dat rfl⟩
def oV (n : Int) : Bool := decide (0 ≤ n) && decide (n ≤ 2147483647)
theorem PP (n : Int) : Ev TE 85 [vi n] (.bool (oV n)) := by refine aA Tryz.func85 rfl (by simp [nts]) (vm ?_);simp only [wq.1,seval,Tryz.results85];exact aV rfl rfl
def bU (c : UInt8) : Bool := decide (48 ≤ c.toNat) && decide (c.toNat ≤ 57)
theorem Vq (c : UInt8) : Ev TE 162 [.int .u8 c.toNat] (.bool (bU c)) := by refine aA Tryz.func162 rfl (by simp [nts]) (vm ?_);simp only [wq.1,seval,Tryz.results162];refine aV rfl (congrArg V.bool ?_);have := c.toNat_lt;unfold bU;rw [IntKind.wrap_u8,Bool.eq_iff_iff];simp only [decide_eq_true_eq,Bool.and_eq_true];omega
theorem Vr (w : World) (k : Nat) (os : Array Obj) : WExt w (Sort.grow (w.drewN k) os) := by
 refine ⟨rfl,rfl,rfl,?_,fun b hb => ?_⟩
 ·show w.heap.size ≤ (w.heap ++ os).size;simp
 ·show (w.heap ++ os)[b]? = w.heap[b]?;rw [Array.getElem?_append_left hb]
theorem Z5 {w : World} {name : String} {g : Nat} {cs : Array Value} {ty : TypeId} {fz : Nat × Nat} (hn : Tryz.prog.globalNamed name = some g) (hg : w.heap[g]? = some (.cells cs ty fz)) : w.var? Tryz.prog name = some cs := by unfold World.var?;rw [hn];simp [hg]
theorem vW : ∀ (k u : Nat),u < 10 ^ (k + 1) → Lib.nDigits u ≤ k + 1
 | 0,u,h => by rw [Lib.nDigits_small (by simpa using h)];exact Nat.le_refl _
 | k + 1,u,h => by
  by_cases hu : u < 10
  ·rw [Lib.nDigits_small hu];omega
  ·rw [Lib.nDigits_big hu];have := vW k (u / 10) (by rw [Nat.pow_succ] at h;omega);omega
theorem oJ (n : Int) (h0 : 0 ≤ n) (h1 : n ≤ 2147483647) : (Lib.itoa n).length ≤ 10 := by obtain ⟨m,rfl⟩ : ∃ m : Nat,n = m := ⟨n.toNat,by omega⟩;unfold Lib.itoa;rw [if_neg (by omega),Int.toNat_natCast,Lib.decDigits_length];exact vW 9 m (by omega)
theorem vX (n : Int) (h0 : 0 ≤ n) (h1 : n ≤ 2147483647) : Ev TE 34 [vi n] (.str (Lib.itoa n)) := by intro ok w vs hs hl;simp only [VList,VRel] at hl;obtain ⟨y,ys,rfl,rfl,rfl⟩ := hl;obtain ⟨_,cs,ty,fz,hg0,hg1⟩ := hs.exa 1 _ rfl;have hg1 : cs = _ := hg1;subst hg1;refine Calls.mono (Yp n (by omega) (by omega) w (Z5 (by kernel_rfl) hg0)) ?_;rintro en w' ⟨rfl,k,os,rfl⟩;refine ⟨_,rfl,Vr w k os,?_⟩;simp only [VRel];exact ⟨_,rfl,by simp,by have := oJ n h0 h1;simp only [maxLen];omega⟩
def Yu (n : Int) : List UInt8 × Int := if oV n = true then (Lib.itoa n,0) else ([],3)
theorem Xg (n : Int) : Ev TE 165 [vi n] (.tup [.str (Yu n).1,vi (Yu n).2]) := by
 refine aA Tryz.func165 rfl (by simp [nts]) (vm ?_);simp only [wq.1,seval,Tryz.results165];refine ah.ev (PP n) rfl ?_;unfold Yu;cases hf : oV n with
 | false => simp only [wq.1,seval];exact aC.dat rfl
 | true =>
  have hf : 0 ≤ n ∧ n ≤ 2147483647 := by simpa [oV] using hf
  simp only [wq.1,seval];refine ah.ev (vX n hf.1 hf.2) rfl ?_;simp only [wq.1,seval];exact aC.dat rfl
abbrev By := List UInt8
def ng (a : Nat) (ds : By) : Nat := ds.foldl (fun a c => 10 * a + (c.toNat - 48)) a
theorem Vs (a : Nat) (x y : By) : ng a (x ++ y) = ng (ng a x) y := by unfold ng;rw [List.foldl_append]
theorem Yv (ds : By) : ∀ a,a ≤ ng a ds := by
 induction ds with
 | nil => intro a;exact Nat.le_refl _
 | cons c ds ih => intro a;have := ih (10 * a + (c.toNat - 48));show a ≤ ng (10 * a + (c.toNat - 48)) ds;omega
theorem PQ {c : UInt8} (h : bU c = true) : 48 ≤ c.toNat ∧ c.toNat ≤ 57 := by simpa [bU] using h
theorem DX (ds : By) : ∀ (a : Nat),(∀ c ∈ ds,bU c = true) → a < 18446744073709551616 → Lib.parseUint10 a ds = if ng a ds < 18446744073709551616 then .ok (ng a ds) else .range := by
 induction ds with
 | nil =>
  intro a _ h;show Lib.NumEnd.ok a = if a < _ then _ else _
  rw [if_pos h];rfl
 | cons c ds ih =>
  intro a hd h;obtain ⟨h1,h2⟩ := PQ (hd c List.mem_cons_self);have hv : ng a (c :: ds) = ng (10 * a + (c.toNat - 48)) ds := rfl;have hge := Yv ds (10 * a + (c.toNat - 48));unfold Lib.parseUint10;rw [if_pos ⟨h1,h2⟩];split
  ·rw [if_neg (by omega)]
  ·split
   ·rw [if_neg (by omega)]
   ·rw [ih _ (fun c hc => hd c (List.mem_cons_of_mem _ hc)) (by omega),hv,Nat.mul_comm a 10]
theorem GN {ds : By} (hd : ∀ c ∈ ds,bU c = true) (hne : ds ≠ []) : Lib.atoiAll ds = if (ng 0) ds < 9223372036854775808 then .ok ((ng 0) ds : Int) else .range := by
 cases ds with
 | nil => exact absurd rfl hne
 | cons c r =>
  obtain ⟨h1,h2⟩ := PQ (hd c List.mem_cons_self);unfold Lib.atoiAll;have e1 : ¬ (c.toNat = 43 ∨ c.toNat = 45) := by omega
  have e2 : ¬ c.toNat = 45 := by omega
  simp only [if_neg e1];unfold Lib.parseMag;rw [if_neg hne,DX _ 0 hd (by omega)];by_cases h3 : ng 0 (c :: r) < 18446744073709551616
  ·rw [if_pos h3];simp only [e2,not_false_eq_true,true_and,false_and,if_false];by_cases h4 : ng 0 (c :: r) < 9223372036854775808
   ·rw [if_neg (by omega),if_pos h4]
   ·rw [if_pos (by omega),if_neg h4]
  ·rw [if_neg h3,if_neg (by omega)]
theorem GR {u : Nat} (h : ¬ u < 10) : Lib.decDigits u = Lib.decDigits (u / 10) ++ [UInt8.ofNat (48 + u % 10)] := by rw [Lib.decDigits,dif_neg h]
theorem Xh (u : Nat) : Lib.decDigits u ≠ [] := by
 by_cases h : u < 10
 ·rw [Lib.decDigits_one h];simp
 ·rw [GR h];simp
theorem qc {d : Nat} (h : d < 10) : (UInt8.ofNat (48 + d)).toNat = 48 + d := by rw [UInt8.toNat_ofNat'];omega
theorem IE {d : Nat} (h : d < 10) : bU (UInt8.ofNat (48 + d)) = true := by unfold bU;rw [qc h];simp;omega
theorem Yw (u : Nat) : ∀ c ∈ Lib.decDigits u,bU c = true := by
 induction u using Nat.strongRecOn with
 | _ u ih =>
  by_cases h : u < 10
  ·rw [Lib.decDigits_one h];intro c hc;have : c = UInt8.ofNat (48 + u) := by simpa using hc
   rw [this];exact IE h
  ·rw [GR h];intro c hc;rcases List.mem_append.1 hc with hc | hc
   ·exact ih (u / 10) (by omega) c hc
   ·have : c = UInt8.ofNat (48 + u % 10) := by simpa using hc
    rw [this];exact IE (by omega)
theorem PR (u : Nat) : (ng 0) (Lib.decDigits u) = u := by
 induction u using Nat.strongRecOn with
 | _ u ih =>
  by_cases h : u < 10
  ·rw [Lib.decDigits_one h];show 10 * 0 + ((UInt8.ofNat (48 + u)).toNat - 48) = u;rw [qc h];omega
  ·rw [GR h];show ng 0 _ = u;rw [Vs,ih (u / 10) (by omega)];show 10 * (u / 10) + ((UInt8.ofNat (48 + u % 10)).toNat - 48) = u;rw [qc (by omega)];omega
def Xi (ds : By) : Prop := (ng 0) ds ≤ 2147483647 ∧ Lib.decDigits ((ng 0) ds) = ds
instance (ds : By) : Decidable (Xi ds) := by unfold Xi;infer_instance
theorem Bj (n : Nat) : Lib.itoa n = Lib.decDigits n := by unfold Lib.itoa;rw [if_neg (by omega),Int.toNat_natCast]
theorem vY {w w' : World} (x : Below w.heap.size w w') : WExt w w' := ⟨x.os,x.tape,x.output,x.size,x.block⟩
theorem Yx (ds : By) (hd : ∀ c ∈ ds,bU c = true) (hne : ds ≠ []) (hl : ds.length ≤ 100000) :
 EvR TE 164 [.str ds] fun v => (v = .tup [vi (ng 0 ds : Nat),.nili] ∧ ng 0 ds < 9223372036854775808) ∨ (∃ n,v = .tup [vi n,.iface 253 .any] ∧ ¬ ng 0 ds < 9223372036854775808) := by
 intro ok w vs hs hl2;simp only [VList,VRel] at hl2;obtain ⟨y,ys,rfl,⟨s,rfl,hsd,_⟩,rfl⟩ := hl2;have hsz : s.size = ds.length := by rw [fK,hsd]
 have ha := GN hd hne;rw [← hsd] at ha;by_cases hv : ng 0 ds < 9223372036854775808
 ·rw [hsd,if_pos hv,← hsd] at ha;rw [hsd] at ha;refine Calls.mono (Yq s (by omega) _ (by rw [hsd];exact ha) w) ?_;rintro en w' ⟨rfl,hw⟩;refine ⟨_,_,.inl ⟨rfl,hv⟩,rfl,?_,?_⟩
  ·rcases hw with rfl | ⟨t,rfl⟩
   ·exact WExt.refl _
   ·exact vY (Lib.bytesWorld_below _ _ _)
  ·simp only [VRel,VList];exact ⟨_,rfl,_,_,rfl,rfl,_,_,rfl,rfl,rfl⟩
 ·rw [hsd,if_neg hv] at ha;obtain ⟨_,cs,ty,fz,hg0,hg1⟩ := hs.exa 7 _ rfl;obtain ⟨te,pe,rfl⟩ := hg1;refine Calls.mono (MZ s (by omega) (by rw [hsd];exact ha) (.iface te pe) w (by
   have hg0 : w.heap[7]? = some (.cells #[.iface te pe] ty fz) := hg0;simp [World.cell?,hg0]) (.inr ⟨te,pe,rfl⟩)) ?_
  rintro en w' ⟨N,rfl,_,_,hb⟩;refine ⟨_,_,.inr ⟨Lib.atoiSat s.data.toList,rfl,hv⟩,rfl,vY hb,?_⟩;simp only [VRel,VList];exact ⟨_,rfl,_,_,rfl,rfl,_,_,rfl,⟨_,rfl,trivial⟩,rfl⟩
def PS (ds : By) : Int × V := if Xi ds then ((ng 0 ds : Nat),.nili) else (0,IC 3)
theorem gJ (k : Int) : aC TE [.cells [.iface 31 (.int .i64 k)]] (.iface 182 (.lp 0 0)) (IC k) :=
 aC.iface (aC.lp rfl (aB.dat rfl) rfl rfl Nat.zero_lt_one rfl)
theorem Z7 (ds : By) (hd : ∀ c ∈ ds,bU c = true) (hne : ds ≠ []) (hl : ds.length ≤ 100000) : Ev TE 138 [.str ds] (.tup [vi (PS ds).1,(PS ds).2]) := by
 refine aA Tryz.func138 rfl (by simp [nts]) (vm ?_);simp only [wq.1,seval,Tryz.results138];refine MI (Yx ds hd hne hl) rfl ?_;rintro r (⟨rfl,hv⟩ | ⟨n,rfl,hv⟩)
 ·simp only [wq.1,seval];refine ah.ev (Xg _) rfl ?_;by_cases hm : ng 0 ds ≤ 2147483647
  ·have hp : Yu (ng 0 ds : Nat) = (Lib.decDigits (ng 0 ds),0) := by unfold Yu;rw [if_pos (by simp [oV];omega),Bj]
   rw [hp];by_cases hc : Lib.decDigits (ng 0 ds) = ds
   ·have hg : PS ds = (((ng 0 ds : Nat) : Int),V.nili) := by unfold PS;rw [if_pos ⟨hm,hc⟩]
    have hb : (Lib.decDigits (ng 0 ds) == ds) = true := by simp [hc]
    rw [hg];simp only [wq.1,seval,ak,hb];exact aC.dat rfl
   ·have hg : PS ds = (0,IC 3) := by unfold PS;rw [if_neg (fun h => hc h.2)]
    have hb : (Lib.decDigits (ng 0 ds) == ds) = false := by simp [hc]
    rw [hg];simp only [wq.1,seval,ak,hb];exact ⟨nofun,nofun,aC.tup (aB.cons (aC.dat rfl) (aB.cons (gJ 3) aB.nil))⟩
  ·have hp : Yu (ng 0 ds : Nat) = ([],3) := by unfold Yu;rw [if_neg (by simp [oV];omega)]
   have hg : PS ds = (0,IC 3) := by unfold PS;rw [if_neg (fun h => hm h.1)]
   rw [hp,hg];simp only [wq.1,seval,ak];exact ⟨nofun,nofun,aC.tup (aB.cons (aC.dat rfl) (aB.cons (gJ 3) aB.nil))⟩
 ·have hg : PS ds = (0,IC 3) := by unfold PS;rw [if_neg];rintro ⟨h,_⟩;omega
  rw [hg];simp only [wq.1,seval];refine ah.ev (Xg _) rfl ?_;simp only [wq.1,seval,ak];exact ⟨nofun,nofun,aC.tup (aB.cons (aC.dat rfl) (aB.cons (gJ 3) aB.nil))⟩
def endR (s : By) (at_ : Int) : Int := if at_ < 0 ∨ (s.length : Int) < at_ then at_ else at_ + ((s.drop at_.toNat).takeWhile bU).length
theorem Xj {l : By} {i : Nat} (hi : i ≤ l.length) (h1 : (l.take i).all bU = true) (h2 : i < l.length → bU (l.getD i 0) = false) : (l.takeWhile bU).length = i := by
 have h3 : l.takeWhile bU = l.take i ++ (l.drop i).takeWhile bU := by
  conv => lhs;rw [← List.take_append_drop i l]
  exact List.takeWhile_append_of_pos (List.all_eq_true.1 h1)
 have h4 : (l.drop i).takeWhile bU = [] := by
  by_cases hl : i < l.length
  ·rw [List.drop_eq_getElem_cons hl];have := h2 hl;rw [aG hl] at this;rw [List.takeWhile_cons,this];rfl
  ·rw [List.drop_eq_nil_of_le (by omega)];rfl
 rw [h3,h4,List.append_nil,List.length_take];omega
theorem DY {l : By} {p i : Nat} : (l.drop p).getD i 0 = l.getD (p + i) 0 := by rw [List.getD_eq_getElem?_getD,List.getD_eq_getElem?_getD,List.getElem?_drop]
theorem Z8 (s : By) (a : Int) (hl : s.length ≤ 100000) : Ev TE 136 [.str s,vi a] (vi (endR s a)) := by
 have hM : maxLen = 9223372036854775807 := rfl;refine aA Tryz.func136 rfl (by simp [nts]) (vm ?_);simp only [wq.1,seval,Tryz.results136];refine vcB.mk (fun hc => ?_) (fun hc => ?_)
 ·have h0 : endR s a = a := by unfold endR;rw [if_pos (by simpa using hc)]
  rw [h0];simp only [wq.1,seval];exact aC.dat rfl
 ·simp only [Bool.or_eq_false_iff,decide_eq_false_iff_not] at hc;obtain ⟨p,rfl⟩ : ∃ p : Nat,a = p := ⟨a.toNat,by omega⟩;have hp : p ≤ s.length := by omega
  have h0 : endR s p = p + ((s.drop p).takeWhile bU).length := by unfold endR;rw [if_neg (by omega),Int.toNat_natCast]
  have hsub : IntKind.i64.wrap ((s.length : Int) - p) = ((s.length - p : Nat) : Int) := by rw [aZ (by omega) (by omega)];omega
  rw [h0];simp only [wq.1,seval,hsub];have hdl : (s.drop p).length = s.length - p := List.length_drop;refine aF (fun m f h => ∃ i,m + i = s.length - p ∧ f.t 0 = .str s ∧ f.t 1 = vi p ∧ f.t 18 = vi ((s.length - p : Nat) : Int) ∧ f.t 19 = vi i ∧ f.d = [] ∧ h = [] ∧ ((s.drop p).take i).all bU = true) (s.length - p) ⟨0,by omega,rfl,rfl,rfl,rfl,rfl,rfl,by simp⟩ ?_;rintro m f h ⟨i,hm,h0,h1,h18,h19,hd,rfl,hall⟩;have hadd : IntKind.i64.wrap ((p : Int) + i) = ((p + i : Nat) : Int) := by rw [aZ (by omega) (by omega)];omega
  refine vm ?_;simp only [wq.1,seval,h18,h19];refine vcB.mk (fun hlt => ?_) (fun hlt => ?_)
  ·simp only [decide_eq_true_eq,Int.ofNat_lt] at hlt;simp only [wq.1,seval,h0,h1,h19,hadd];refine ⟨⟨by omega,by omega⟩,ah.ev (Vq (s.getD (p + i) 0)) rfl ?_⟩;cases hD : bU (s.getD (p + i) 0) with
   | false => have hlen := Xj (l := s.drop p) (i := i) (by omega) hall (fun _ => by rw [DY];exact hD);simp only [wq.1,seval,h1,hd,hadd];exact aV rfl (by rw [hlen];rfl)
   | true =>
    simp only [wq.1,seval,h19,ax (show i < maxLen by omega)];refine .inl ⟨m - 1,by omega,i + 1,by omega,h0,h1,h18,rfl,hd,rfl,?_⟩;have hli : i < (s.drop p).length := by omega
    have hD2 : bU ((s.drop p)[i]) = true := by rw [← aG (d := 0) hli,DY];exact hD
    rw [List.take_add_one,List.all_append,hall,List.getElem?_eq_getElem hli,Option.toList_some,List.all_cons,hD2];rfl
  ·simp only [decide_eq_false_iff_not,Int.ofNat_lt] at hlt;have hlen := Xj (l := s.drop p) (i := i) (by omega) hall (fun h => by omega);simp only [wq.1,seval,h0,hd];exact aV rfl (by rw [hlen];congr 1;omega)
def xX (s : By) (a : Int) : Int × Int × Int :=
 if a < 0 ∨ (s.length : Int) < a then (0,a,3)
 else if (s.drop a.toNat).takeWhile bU ≠ [] ∧ Xi ((s.drop a.toNat).takeWhile bU) then ((ng 0 ((s.drop a.toNat).takeWhile bU) : Nat),a + ((s.drop a.toNat).takeWhile bU).length,0)
 else (0,a,3)
theorem Xk (s : By) (a : Int) (hl : s.length ≤ 100000) : Ev TE 93 [.str s,vi a] (.tup [vi (xX s a).1,vi (xX s a).2.1,vi (xX s a).2.2]) := by
 have hM : maxLen = 9223372036854775807 := rfl;refine aA Tryz.func93 rfl (by simp [nts]) (vm ?_);simp only [wq.1,seval,Tryz.results93];refine ah.ev (Z8 s a hl) rfl ?_;by_cases hc : a < 0 ∨ (s.length : Int) < a
 ·have h0 : endR s a = a := by unfold endR;rw [if_pos hc]
  have h1 : xX s a = (0,a,3) := by unfold xX;rw [if_pos hc]
  rw [h0,h1];simp only [wq.1,seval];refine ⟨nofun,nofun,ah.lend (jL 0 a a 3) (aB.cons (aC.dat rfl) (aB.cons (aC.dat rfl) (aB.cons (aC.dat rfl) (aB.cons (gJ 3) aB.nil)))) rfl ?_⟩;simp only [wq.1,seval,-Int.reduceNatCast,-Int.reduceNatCast',ak,Tryz.results93];exact aC.dat rfl
 ·obtain ⟨p,rfl⟩ : ∃ p : Nat,a = p := ⟨a.toNat,by omega⟩;have hp : p ≤ s.length := by omega
  have h0 : endR s p = p + ((s.drop p).takeWhile bU).length := by unfold endR;rw [if_neg hc,Int.toNat_natCast]
  have h1 : xX s p = if (s.drop p).takeWhile bU ≠ [] ∧ Xi ((s.drop p).takeWhile bU) then (((ng 0 ((s.drop p).takeWhile bU) : Nat) : Int),(p : Int) + ((s.drop p).takeWhile bU).length,(0 : Int)) else (0,(p : Int),3) := by unfold xX;rw [if_neg hc,Int.toNat_natCast]
  have hpre : (s.drop p).take ((s.drop p).takeWhile bU).length = (s.drop p).takeWhile bU := (List.prefix_iff_eq_take.1 (List.takeWhile_prefix bU)).symm;have hdg : ∀ c ∈ (s.drop p).takeWhile bU,bU c = true := fun c hc => List.all_eq_true.1 List.all_takeWhile c hc;have hlen : ((s.drop p).takeWhile bU).length ≤ s.length - p := by
   have := (List.takeWhile_prefix (l := s.drop p) bU).length_le
   rwa [List.length_drop] at this
  rw [h0,h1];generalize (s.drop p).takeWhile bU = ds at hpre hdg hlen;by_cases hne : ds = []
  ·subst hne;rw [if_neg (fun h => h.1 rfl)];have hb : ((p : Int) + ((0 : Nat) : Int) == (p : Int)) = true := by simp
   simp only [wq.1,seval,-Int.reduceNatCast,-Int.reduceNatCast',ak,Tryz.results93,hb];refine ⟨nofun,nofun,ah.lend (jL 0 p p 3) (aB.cons (aC.dat rfl) (aB.cons (aC.dat rfl) (aB.cons (aC.dat rfl) (aB.cons (gJ 3) aB.nil)))) rfl ?_⟩;simp only [wq.1,↓reduceIte,Nat.reduceEqDiff,Nat.reduceLT,Nat.reduceAdd];exact aC.dat rfl
  ·have hpos : 0 < ds.length := List.length_pos_iff.2 hne;have hb : ((p : Int) + (ds.length : Nat) == (p : Int)) = false := by rw [beq_eq_false_iff_ne];omega
   have hsl : List.take (((p : Int) + (ds.length : Nat)).toNat - p) (List.drop p s) = ds := by rw [show ((p : Int) + (ds.length : Nat)).toNat - p = ds.length by omega,hpre]
   simp only [wq.1,seval,hb,hsl];refine ⟨⟨by omega,by omega,by omega⟩,ah.ev (Z7 ds hdg hne (by omega)) rfl ?_⟩;unfold PS;by_cases hg : Xi ds
   ·rw [if_pos hg,if_pos ⟨hne,hg⟩];simp only [wq.1,seval];refine ah.ev (yF _ _ _) rfl ?_;simp only [wq.1,seval];exact aC.dat rfl
   ·rw [if_neg hg,if_neg (fun h => hg h.2)];simp only [wq.1,seval];refine ⟨trivial,ah.ev (jL _ _ _ 3) rfl ?_⟩;simp only [wq.1,seval];exact aC.dat rfl
abbrev rd (s : S) (a : Nat) : O := .cells [.str s,vi a]
def o9 (s : S) (a : Nat) (c : UInt8) : Bool := s[a]? == some c
theorem Z9 (x c : UInt8) : ((x.toNat : Int) == (c.toNat : Int)) = (x == c) := by rw [Bool.eq_iff_iff];simp only [beq_iff_eq,Int.natCast_inj,UInt8.toNat_inj]
open Go.Shelf
open Go.Lib
open Go.Sort
def DZ : Go.Shelf.Ren := ⟨fun | 137 => 112 | 217 => 145 | 266 => 167 | n => n,fun | 9 => 9 | 5 => 5 | 3 => 3 | n => n,fun | n => n⟩
theorem yG : Go.Proofs.Lays.n137 Tryz.prog DZ where
 mixed := by kernel_rfl
 f137 := Tryz.func112.trans (congrArg some (by kernel_rfl))
 f217 := Tryz.func145.trans (congrArg some (by kernel_rfl))
 f266 := Tryz.func167.trans (congrArg some (by kernel_rfl))
 t3 := Tryz.underlying3
 a3 := Tryz.isAgg3
 z3 := Tryz.sizeOf3
 v3 := Tryz.zeroValue3
 t5 := Tryz.underlying5
 a5 := Tryz.isAgg5
 z5 := Tryz.sizeOf5
 v5 := Tryz.zeroValue5
 t9 := Tryz.underlying9
 a9 := Tryz.isAgg9
 z9 := Tryz.sizeOf9
 v9 := Tryz.zeroValue9
def Vt : Go.Shelf.Ren := ⟨fun | 138 => 160 | 195 => 178 | 218 => 179 | 143 => 180 | 219 => 168 | 217 => 145 | 225 => 189 | 224 => 190 | 267 => 191 | 266 => 167 | 314 => 204 | n => n,fun | 9 => 9 | 3 => 3 | 4 => 4 | 5 => 5 | 0 => 0 | 46 => 123 | 146 => 234 | 51 => 215 | n => n,fun | 1 => 3 | n => n⟩
theorem zaa : Go.Proofs.Lays.n138 Tryz.prog Vt where
 mixed := by kernel_rfl
 f138 := Tryz.func160.trans (congrArg some (by kernel_rfl))
 f143 := Tryz.func180.trans (congrArg some (by kernel_rfl))
 f195 := Tryz.func178.trans (congrArg some (by kernel_rfl))
 f217 := Tryz.func145.trans (congrArg some (by kernel_rfl))
 f218 := Tryz.func179.trans (congrArg some (by kernel_rfl))
 f219 := Tryz.func168.trans (congrArg some (by kernel_rfl))
 f224 := Tryz.func190.trans (congrArg some (by kernel_rfl))
 f225 := Tryz.func189.trans (congrArg some (by kernel_rfl))
 f266 := Tryz.func167.trans (congrArg some (by kernel_rfl))
 f267 := Tryz.func191.trans (congrArg some (by kernel_rfl))
 f314 := Tryz.func204.trans (congrArg some (by kernel_rfl))
 t0 := Tryz.underlying0
 a0 := Tryz.isAgg0
 z0 := Tryz.sizeOf0
 v0 := Tryz.zeroValue0
 t3 := Tryz.underlying3
 a3 := Tryz.isAgg3
 z3 := Tryz.sizeOf3
 v3 := Tryz.zeroValue3
 t4 := Tryz.underlying4
 a4 := Tryz.isAgg4
 z4 := Tryz.sizeOf4
 v4 := Tryz.zeroValue4
 t5 := Tryz.underlying5
 a5 := Tryz.isAgg5
 z5 := Tryz.sizeOf5
 v5 := Tryz.zeroValue5
 t9 := Tryz.underlying9
 a9 := Tryz.isAgg9
 z9 := Tryz.sizeOf9
 v9 := Tryz.zeroValue9
 t46 := Tryz.underlying123
 a46 := Tryz.isAgg123
 z46 := Tryz.sizeOf123
 v46 := Tryz.zeroValue123
 t51 := Tryz.underlying215
 a51 := Tryz.isAgg215
 z51 := Tryz.sizeOf215
 v51 := Tryz.zeroValue215
 t146 := Tryz.underlying234
 a146 := Tryz.isAgg234
 z146 := Tryz.sizeOf234
 v146 := Tryz.zeroValue234
 g1 := by kernel_rfl
def D5 : Go.Shelf.Ren := ⟨fun | 148 => 161 | 222 => 181 | 223 => 182 | 269 => 195 | n => n,fun | 9 => 9 | 3 => 3 | 4 => 4 | 5 => 5 | 146 => 234 | 51 => 215 | 46 => 123 | n => n,fun | n => n⟩
theorem Na : Go.Proofs.Lays.n148 Tryz.prog D5 where
 mixed := by kernel_rfl
 f148 := Tryz.func161.trans (congrArg some (by kernel_rfl))
 f222 := Tryz.func181.trans (congrArg some (by kernel_rfl))
 f223 := Tryz.func182.trans (congrArg some (by kernel_rfl))
 f269 := Tryz.func195.trans (congrArg some (by kernel_rfl))
 t3 := Tryz.underlying3
 a3 := Tryz.isAgg3
 z3 := Tryz.sizeOf3
 v3 := Tryz.zeroValue3
 t4 := Tryz.underlying4
 a4 := Tryz.isAgg4
 z4 := Tryz.sizeOf4
 v4 := Tryz.zeroValue4
 t5 := Tryz.underlying5
 a5 := Tryz.isAgg5
 z5 := Tryz.sizeOf5
 v5 := Tryz.zeroValue5
 t9 := Tryz.underlying9
 a9 := Tryz.isAgg9
 z9 := Tryz.sizeOf9
 v9 := Tryz.zeroValue9
 t46 := Tryz.underlying123
 a46 := Tryz.isAgg123
 z46 := Tryz.sizeOf123
 v46 := Tryz.zeroValue123
 t51 := Tryz.underlying215
 a51 := Tryz.isAgg215
 z51 := Tryz.sizeOf215
 v51 := Tryz.zeroValue215
 t146 := Tryz.underlying234
 a146 := Tryz.isAgg234
 z146 := Tryz.sizeOf234
 v146 := Tryz.zeroValue234
def PT : Go.Shelf.Ren := ⟨fun | 156 => 78 | 165 => 128 | 166 => 27 | 169 => 29 | 240 => 70 | 241 => 158 | 276 => 120 | 277 => 177 | n => n,fun | 31 => 26 | 9 => 9 | 3 => 3 | 4 => 4 | 0 => 0 | 20 => 20 | 72 => 57 | 76 => 62 | 70 => 54 | 37 => 55 | 75 => 61 | 127 => 126 | 164 => 172 | 5 => 5 | 80 => 67 | n => n,fun | n => n⟩
theorem zab : Go.Proofs.Lays.n156 Tryz.prog PT where
 mixed := by kernel_rfl
 f156 := Tryz.func78.trans (congrArg some (by kernel_rfl))
 f165 := Tryz.func128.trans (congrArg some (by kernel_rfl))
 f166 := Tryz.func27.trans (congrArg some (by kernel_rfl))
 f169 := Tryz.func29.trans (congrArg some (by kernel_rfl))
 f240 := Tryz.func70.trans (congrArg some (by kernel_rfl))
 f241 := Tryz.func158.trans (congrArg some (by kernel_rfl))
 f276 := Tryz.func120.trans (congrArg some (by kernel_rfl))
 f277 := Tryz.func177.trans (congrArg some (by kernel_rfl))
 t0 := Tryz.underlying0
 a0 := Tryz.isAgg0
 z0 := Tryz.sizeOf0
 v0 := Tryz.zeroValue0
 t3 := Tryz.underlying3
 a3 := Tryz.isAgg3
 z3 := Tryz.sizeOf3
 v3 := Tryz.zeroValue3
 t4 := Tryz.underlying4
 a4 := Tryz.isAgg4
 z4 := Tryz.sizeOf4
 v4 := Tryz.zeroValue4
 t9 := Tryz.underlying9
 a9 := Tryz.isAgg9
 z9 := Tryz.sizeOf9
 v9 := Tryz.zeroValue9
 t20 := Tryz.underlying20
 a20 := Tryz.isAgg20
 z20 := Tryz.sizeOf20
 v20 := Tryz.zeroValue20
 t31 := Tryz.underlying26
 a31 := Tryz.isAgg26
 z31 := Tryz.sizeOf26
 v31 := Tryz.zeroValue26
 t37 := Tryz.underlying55
 a37 := Tryz.isAgg55
 z37 := Tryz.sizeOf55
 v37 := Tryz.zeroValue55
 t70 := Tryz.underlying54
 a70 := Tryz.isAgg54
 z70 := Tryz.sizeOf54
 v70 := Tryz.zeroValue54
 t72 := Tryz.underlying57
 a72 := Tryz.isAgg57
 z72 := Tryz.sizeOf57
 v72 := Tryz.zeroValue57
 t75 := Tryz.underlying61
 a75 := Tryz.isAgg61
 z75 := Tryz.sizeOf61
 v75 := Tryz.zeroValue61
 t76 := Tryz.underlying62
 a76 := Tryz.isAgg62
 z76 := Tryz.sizeOf62
 v76 := Tryz.zeroValue62
 t127 := Tryz.underlying126
 a127 := Tryz.isAgg126
 z127 := Tryz.sizeOf126
 v127 := Tryz.zeroValue126
 t164 := Tryz.underlying172
 a164 := Tryz.isAgg172
 z164 := Tryz.sizeOf172
 v164 := Tryz.zeroValue172
theorem yH {c : C} {l : S} {x : Value} (h : VRel c (.str l) x) : x = .string ⟨l.toArray⟩ := by
 simp only [VRel] at h;obtain ⟨s,rfl,h,_⟩ := h
 congr 1
 rw [← h]
theorem zac (s : S) (n : Nat) (hn : n < 256) : Ev TE 112 [.str s,.int .u8 n] (vi (Lib.indexByte s (UInt8.ofNat n))) := by intro ok w vs hs hl;simp only [VList,VRel] at hl;obtain ⟨y,ys,rfl,⟨b,rfl,hb,_⟩,y2,ys2,rfl,rfl,rfl⟩ := hl;refine Calls.mono (Any.strings_IndexByte yG b n w) ?_;rintro en w' ⟨rfl,rfl⟩;refine ⟨_,rfl,WExt.refl _,?_⟩;simp only [VRel];rw [hb];rfl
theorem PU (s : S) (c : UInt8) : Ev TE 160 [.str s,.str [c]] (vi (s.count c : Nat)) := by intro ok w vs hs hl;simp only [VList] at hl;obtain ⟨y,ys,rfl,h1,y2,ys2,rfl,h2,rfl⟩ := hl;have := yH h1;subst this;have := yH h2;subst this;refine Calls.mono (Any.strings_Count_one zaa ⟨s.toArray⟩ c w) ?_;rintro en w' ⟨rfl,rfl⟩;exact ⟨_,rfl,WExt.refl _,by simp only [VRel];rfl⟩
theorem Vu (s : S) (c : UInt8) (hs0 : s.length ≤ 1000000000) : Ev TE 161 [.str s,.str [c]] (vi (Lib.lastIndexByte ⟨s.toArray⟩ c.toNat)) := by intro ok w vs hs hl;simp only [VList] at hl;obtain ⟨y,ys,rfl,h1,y2,ys2,rfl,h2,rfl⟩ := hl;have := yH h1;subst this;have := yH h2;subst this;refine Calls.mono (Any.strings_LastIndex_one Na ⟨s.toArray⟩ ⟨#[c]⟩ rfl (by show s.toArray.size < _;simp;omega) w) ?_;rintro en w' ⟨rfl,rfl⟩;exact ⟨_,rfl,WExt.refl _,by simp only [VRel];rfl⟩
theorem IG {c : C} : ∀ {l : List S} {xs : List Value},VList c (l.map V.str) xs → xs = l.map encStr
 | [],xs,h => by simpa only [List.map_nil,VList] using h
 | a :: l,xs,h => by simp only [List.map_cons,VList] at h;obtain ⟨y,ys,rfl,h1,h2⟩ := h;rw [IG h2,yH h1];rfl
theorem GU (p s : S) : p.isPrefixOf s = (decide (p.length ≤ s.length) && (s.take p.length == p)) := by
 rw [Bool.eq_iff_iff,List.isPrefixOf_iff_prefix,List.prefix_iff_eq_take,Bool.and_eq_true,decide_eq_true_eq,beq_iff_eq];constructor
 ·intro h;have := congrArg List.length h;rw [List.length_take] at this;exact ⟨by omega,h.symm⟩
 ·exact fun h => h.2.symm
theorem PW (s p : S) : Ev TE 142 [.str s,.str p] (.bool (p.isPrefixOf s)) := by
 rw [GU];refine aA Tryz.func142 rfl (by simp [nts]) (vm ?_);by_cases hle : p.length ≤ s.length
 ·have e1 : decide ((p.length : Int) ≤ (s.length : Int)) = true := by simpa using hle
  have e2 : decide (p.length ≤ s.length) = true := by simpa using hle
  simp only [wq.1,seval,Tryz.results142,e1,e2];exact ⟨⟨by omega,by omega⟩,aC.dat rfl⟩
 ·have e1 : decide ((p.length : Int) ≤ (s.length : Int)) = false := by simpa using hle
  have e2 : decide (p.length ≤ s.length) = false := by simpa using hle
  simp only [wq.1,seval,Tryz.results142,e1,e2];exact aC.dat rfl
theorem PX (s p : S) : Ev TE 99 [.str s,.str p] (.bool (p.isPrefixOf s)) := by refine aA Tryz.func99 rfl (by simp [nts]) (vm ?_);simp only [wq.1,seval,Tryz.results99];refine ah.ev (PW s p) rfl ?_;simp only [wq.1,seval];exact aC.dat rfl
theorem Yy (s : S) (c : UInt8) : Ev TE 145 [.str s,vb c] (vi (Lib.indexByte s c)) := by intro ok w vs hs hl;simp only [VList,VRel] at hl;obtain ⟨y,ys,rfl,⟨b,rfl,hb,_⟩,y2,ys2,rfl,rfl,rfl⟩ := hl;refine Calls.mono (Any.stringslite_IndexByte { yG with } b c.toNat w) ?_;rintro en w' ⟨rfl,rfl⟩;refine ⟨_,rfl,WExt.refl _,?_⟩;simp only [VRel];rw [hb];simp
theorem vZ (c : UInt8) : ∀ s : S,(c ∉ s ∧ Lib.indexByte s c = -1 ∧ s.takeWhile (· != c) = s) ∨ (Lib.indexByte s c = ((s.takeWhile (· != c)).length : Int) ∧ (s.takeWhile (· != c)).length < s.length)
 | [] => .inl ⟨by simp,rfl,rfl⟩
 | b :: s => by
  unfold Lib.indexByte;by_cases hb : b = c
  ·subst hb;refine .inr ?_;simp
  ·have h1 : (b == c) = false := by simpa using hb
   have h2 : (b != c) = true := by simpa using hb
   have h3 : Lib.indexByte s c ≥ -1 := Lib.indexByte_ge s c;rw [h1,if_neg (by decide),List.takeWhile_cons,if_pos h2];rcases vZ c s with ⟨a1,a2,a3⟩ | ⟨a1,a2⟩
   ·refine .inl ⟨by simp [a1,Ne.symm hb],?_,by rw [a3]⟩;rw [a2];rfl
   ·refine .inr ⟨?_,by simpa using a2⟩;rw [a1,if_neg (by simp)];simp
theorem Nb (s : S) (c : UInt8) (hs : s.length ≤ 1000000000) : Ev TE 168 [.str s,.str [c]] (vi (Lib.indexByte s c)) := by
 have hb := Yy s c;refine aA Tryz.func168 rfl (by simp [nts]) (vm ?_);by_cases he : ([c] == s) = true
 ·have : s = [c] := (eq_of_beq he).symm;subst this;have e0 : Lib.indexByte [c] c = 0 := by simp [Lib.indexByte]
  simp only [wq.1,seval,-Int.reduceNatCast,-Int.reduceNatCast',Tryz.results168,e0];exact aC.dat rfl
 ·have he : ([c] == s) = false := by simpa using he
  have e1 : (((1 : Nat) : Int) == 0) = false := by decide
  have e2 : (((1 : Nat) : Int) == 1) = true := by decide
  simp only [wq.1,seval,-Int.reduceNatCast,-Int.reduceNatCast',ak,Tryz.results168,he,e1,e2];refine ⟨by decide,ah.ev hb rfl ?_⟩;simp only [wq.1,↓reduceIte,Nat.reduceLT,Int.reduceNeg];exact aC.dat rfl
def Xl (s : S) (c : UInt8) : V := if Lib.indexByte s c < 0 then .tup [.str s,.str [],.bool false] else .tup [.str (s.takeWhile (· != c)),.str (s.drop ((s.takeWhile (· != c)).length + 1)),.bool true]
theorem Vw (s : S) (c : UInt8) (hs : s.length ≤ 1000000000) : Ev TE 146 [.str s,.str [c]] (Xl s c) := by
 have hi := Nb s c hs;unfold Xl;refine aA Tryz.func146 rfl (by simp [nts]) (vm ?_);simp only [wq.1,seval,Tryz.results146];refine ah.ev hi rfl ?_;simp only [wq.1,seval];rcases vZ c s with ⟨a1,a2,a3⟩ | ⟨a1,a2⟩
 ·have e1 : decide ((0 : Int) ≤ Lib.indexByte s c) = false := by rw [a2];decide
  rw [if_pos (by omega)];simp only [wq.1,seval,-Int.reduceNatCast,-Int.reduceNatCast',ak,Tryz.results146,e1];exact aC.dat rfl
 ·have e1 : decide ((0 : Int) ≤ Lib.indexByte s c) = true := by rw [a1];simp
  rw [a1] at e1;rw [if_neg (by omega)];have w1 : IntKind.i64.wrap (((s.takeWhile (· != c)).length : Int) + ((1 : Nat) : Int)) = ((s.takeWhile (· != c)).length + 1 : Nat) := by rw [aZ (by omega) (by omega)];omega
  simp only [wq.1,seval,-Int.reduceNatCast,-Int.reduceNatCast',ak,Tryz.results146,e1,a1,w1];have e3 : s.take (s.takeWhile (· != c)).length = s.takeWhile (· != c) := (List.prefix_iff_eq_take.1 (List.takeWhile_prefix _)).symm;refine ⟨by decide +kernel,⟨by omega,by omega⟩,⟨by omega,by omega⟩,?_⟩;rw [e3];exact aC.dat rfl
theorem zad (s : S) (c : UInt8) (hs : s.length ≤ 1000000000) : Ev TE 113 [.str s,.str [c]] (Xl s c) := by
 have hc := Vw s c hs;unfold Xl at hc ⊢;by_cases hn : Lib.indexByte s c < 0
 ·rw [if_pos hn] at hc ⊢;refine aA Tryz.func113 rfl (by simp [nts]) (vm ?_);simp only [wq.1,seval,Tryz.results113];refine ah.ev hc rfl ?_;simp only [wq.1,seval];exact aC.dat rfl
 ·rw [if_neg hn] at hc ⊢;refine aA Tryz.func113 rfl (by simp [nts]) (vm ?_);simp only [wq.1,seval,Tryz.results113];refine ah.ev hc rfl ?_;simp only [wq.1,seval];exact aC.dat rfl
def zbB (c : UInt8) : Bool := c == 48 || c == 49 || c == 120
def sgv (c : UInt8) : Int := Lib.indexByte [48,49,120] c
inductive VQ (k : Nat) (h : H) (L : S) : Fr → H → Prop
 | mk (f : Fr) (X : O) (i : Nat) (h0 : f.t 0 = .lp k 0) (h3 : f.t 3 = .ls (h.length + 1) 1 0 i i) (hd : f.d = []) (hfk : ∀ j,j < h.length → f.k j = false) (hil : i ≤ L.length) (htw : L.takeWhile zbB = L.take i) : VQ k h L f (h ++ [X,.cells (((L.take i).map sgv).map vi)])
theorem wo (s : ByteArray) (c : Int) : ∀ k : Nat,-1 ≤ Lib.lastIdx s c k ∧ Lib.lastIdx s c k < k
 | 0 => by simp [Lib.lastIdx]
 | k + 1 => by have := wo s c k;unfold Lib.lastIdx;split <;> omega
def D6 (a b : Int) (s : S) : Int × Int := if s.count 10 = 0 then (a,b + s.length) else (a + (s.count 10 : Nat),s.length - Lib.lastIndexByte ⟨s.toArray⟩ 10)
def Xm : Plan := .take 0 <| .take 2 <| .take 4 <| .take 6 <| .alt 1 (.alt 3 (.alt 5 (.one 7 <| .one 8 <| .one 9 <| .one 10 <| .fin) (.one 7 (.one 5 <| .one 8 <| .one 9 <| .one 10 <| .fin))) (.alt 5 (.alt 3 (.one 7 <| .one 8 <| .one 9 <| .one 10 <| .fin) (.one 7 (.alt 3 (.one 8 <| .one 9 <| .one 10 <| .fin) (.one 8 (.one 3 <| .one 9 <| .one 10 <| .fin))))) (.one 7 (.alt 3 (.one 5 <| .one 8 <| .one 9 <| .one 10 <| .fin) (.one 5 (.alt 3 (.one 8 <| .one 9 <| .one 10 <| .fin) (.one 8 (.one 3 <| .one 9 <| .one 10 <| .fin)))))))) (.alt 5 (.alt 1 (.alt 3 (.one 7 <| .one 8 <| .one 9 <| .one 10 <| .fin) (.one 7 (.alt 3 (.one 8 <| .one 9 <| .one 10 <| .fin) (.one 8 (.one 3 <| .one 9 <| .one 10 <| .fin))))) (.one 7 (.alt 1 (.alt 3 (.one 8 <| .one 9 <| .one 10 <| .fin) (.one 8 (.one 3 <| .one 9 <| .one 10 <| .fin))) (.one 8 (.one 1 <| .one 3 <| .one 9 <| .one 10 <| .fin))))) (.one 7 (.alt 1 (.alt 3 (.one 5 <| .one 8 <| .one 9 <| .one 10 <| .fin) (.one 5 (.alt 3 (.one 8 <| .one 9 <| .one 10 <| .fin) (.one 8 (.one 3 <| .one 9 <| .one 10 <| .fin))))) (.one 5 (.alt 1 (.alt 3 (.one 8 <| .one 9 <| .one 10 <| .fin) (.one 8 (.one 3 <| .one 9 <| .one 10 <| .fin))) (.one 8 (.one 1 <| .one 3 <| .one 9 <| .one 10 <| .fin)))))))
theorem Vx (a b : Int) (s : S) (ha : 0 ≤ a ∧ a ≤ 1000000000) (hb : 0 ≤ b ∧ b ≤ 1000000000) (hs : s.length ≤ 1000000000) : Ev TE 135 [.agg [vi a,vi b],.str s] (.agg [vi (D6 a b s).1,vi (D6 a b s).2]) := by
 have hc : s.count 10 ≤ s.length := List.count_le_length;have hl := wo ⟨s.toArray⟩ 10 s.length;have hl' : Lib.lastIndexByte ⟨s.toArray⟩ 10 = Lib.lastIdx ⟨s.toArray⟩ 10 s.length := rfl;refine aA Tryz.func135 rfl (by simp [nts]) ?_;refine ag (vm ?_);simp only [wq.1,Nat.reduceLT,Tryz.results135];refine ag (vm ?_);simp only [wq.1,seval];refine ah.ev (PU s 10) rfl ?_;simp only [wq.1,seval];refine ag (vm ?_);simp only [wq.1,↓reduceIte,Nat.reduceLT];refine vcB.mk (fun h0 => ?_) (fun h0 => ?_)
 ·have h0 : s.count 10 = 0 := by simpa using h0
  have w1 : IntKind.i64.wrap (b + (s.length : Int)) = b + s.length := aZ (by omega) (by omega);simp only [wq.1,seval,-Int.reduceNatCast,-Int.reduceNatCast',w1];unfold D6;rw [if_pos h0];exact ⟨by decide,by decide,aC.dat rfl⟩
 ·have h0 : s.count 10 ≠ 0 := by simpa using h0
  have w1 : IntKind.i64.wrap (a + ((s.count 10 : Nat) : Int)) = a + (s.count 10 : Nat) := aZ (by omega) (by omega);have w2 : IntKind.i64.wrap ((s.length : Int) - Lib.lastIndexByte ⟨s.toArray⟩ 10) = s.length - Lib.lastIndexByte ⟨s.toArray⟩ 10 := aZ (by omega) (by omega);simp only [wq.1];refine ag ?_;refine bu mixed Xm (fun f' h' => f'.t 4 = .lp 1 0 ∧ f'.d = [] ∧ h' = [.cells [vi a,vi b],.cells [vi (a + (s.count 10 : Nat)),vi (s.length - Lib.lastIndexByte ⟨s.toArray⟩ 10)]]) (by decide +kernel) (by decide +kernel) ?_ ?_
  ·have hten : ((10 : UInt8).toNat : Int) = 10 := rfl;simp only [wq.1,seval,Xm]
   repeat' apply And.intro
   all_goals try (first | decide | rfl)
   all_goals (refine ah.ev (Vu s 10 hs) rfl ?_)
   all_goals (simp only [wq.1,seval,w1,w2,hten])
   all_goals trace_state
  ·rintro f h ⟨h4,hd,rfl⟩;simp only [wq.1];refine vm ?_;simp only [wq.1,seval,h4,hd];unfold D6;rw [if_neg h0];exact aC.dat rfl
theorem mx (a b : Int) : Oe [vi a,vi b] = (True,vi (max a b)) := by simp only [Oe,Int.max_def];split <;> split <;> first | rfl | (congr 2;omega)
theorem mn (a b : Int) : Oc [vi a,vi b] = (True,vi (min a b)) := by simp only [Oc,Int.min_def];split <;> split <;> first | rfl | (congr 2;omega)
def bZ (s : S) (a : Int) : Int × Int := D6 1 1 (s.take (min (max a 0) (s.length : Int)).toNat)
def PY : Plan := .take 0 <| .take 2 <| .alt 1 (.take 4 <| .one 3 <| .take 5 <| .fin) (.one 3 (.one 1 <| .take 4 <| .take 5 <| .fin))
def Xn : Plan := .take 1 <| .take 2 <| .take 4 <| .alt 0 (.alt 3 (.alt 5 (.alt 6 (.take 7 <| .alt 8 (.one 9 <| .one 10 <| .fin) (.one 9 (.one 8 <| .one 10 <| .fin))) (.one 9 (.one 6 <| .take 7 <| .one 8 <| .one 10 <| .fin))) (.one 9 (.one 5 <| .one 6 <| .take 7 <| .one 8 <| .one 10 <| .fin))) (.alt 5 (.alt 3 (.alt 6 (.take 7 <| .alt 8 (.one 9 <| .one 10 <| .fin) (.one 9 (.one 8 <| .one 10 <| .fin))) (.one 9 (.one 6 <| .take 7 <| .one 8 <| .one 10 <| .fin))) (.one 9 (.one 3 <| .one 6 <| .take 7 <| .one 8 <| .one 10 <| .fin))) (.one 9 (.alt 3 (.one 5 <| .one 6 <| .take 7 <| .one 8 <| .one 10 <| .fin) (.one 5 (.one 3 <| .one 6 <| .take 7 <| .one 8 <| .one 10 <| .fin)))))) (.alt 3 (.alt 0 (.alt 5 (.alt 6 (.take 7 <| .alt 8 (.one 9 <| .one 10 <| .fin) (.one 9 (.one 8 <| .one 10 <| .fin))) (.one 9 (.one 6 <| .take 7 <| .one 8 <| .one 10 <| .fin))) (.one 9 (.one 5 <| .one 6 <| .take 7 <| .one 8 <| .one 10 <| .fin))) (.alt 5 (.alt 0 (.alt 6 (.take 7 <| .alt 8 (.one 9 <| .one 10 <| .fin) (.one 9 (.one 8 <| .one 10 <| .fin))) (.one 9 (.one 6 <| .take 7 <| .one 8 <| .one 10 <| .fin))) (.alt 6 (.take 7 <| .alt 0 (.alt 8 (.one 9 <| .one 10 <| .fin) (.one 9 (.one 8 <| .one 10 <| .fin))) (.one 9 (.one 0 <| .one 8 <| .one 10 <| .fin))) (.one 9 (.alt 0 (.one 6 <| .take 7 <| .one 8 <| .one 10 <| .fin) (.one 6 (.take 7 <| .one 0 <| .one 8 <| .one 10 <| .fin)))))) (.one 9 (.alt 0 (.one 5 <| .one 6 <| .take 7 <| .one 8 <| .one 10 <| .fin) (.one 5 (.alt 0 (.one 6 <| .take 7 <| .one 8 <| .one 10 <| .fin) (.one 6 (.take 7 <| .one 0 <| .one 8 <| .one 10 <| .fin)))))))) (.alt 5 (.alt 0 (.alt 3 (.alt 6 (.take 7 <| .alt 8 (.one 9 <| .one 10 <| .fin) (.one 9 (.one 8 <| .one 10 <| .fin))) (.one 9 (.one 6 <| .take 7 <| .one 8 <| .one 10 <| .fin))) (.one 9 (.one 3 <| .one 6 <| .take 7 <| .one 8 <| .one 10 <| .fin))) (.alt 3 (.alt 0 (.alt 6 (.take 7 <| .alt 8 (.one 9 <| .one 10 <| .fin) (.one 9 (.one 8 <| .one 10 <| .fin))) (.one 9 (.one 6 <| .take 7 <| .one 8 <| .one 10 <| .fin))) (.alt 6 (.take 7 <| .alt 0 (.alt 8 (.one 9 <| .one 10 <| .fin) (.one 9 (.one 8 <| .one 10 <| .fin))) (.one 9 (.one 0 <| .one 8 <| .one 10 <| .fin))) (.one 9 (.alt 0 (.one 6 <| .take 7 <| .one 8 <| .one 10 <| .fin) (.one 6 (.take 7 <| .one 0 <| .one 8 <| .one 10 <| .fin)))))) (.one 9 (.alt 0 (.one 3 <| .one 6 <| .take 7 <| .one 8 <| .one 10 <| .fin) (.one 3 (.alt 0 (.one 6 <| .take 7 <| .one 8 <| .one 10 <| .fin) (.one 6 (.take 7 <| .one 0 <| .one 8 <| .one 10 <| .fin)))))))) (.one 9 (.alt 0 (.alt 3 (.one 5 <| .one 6 <| .take 7 <| .one 8 <| .one 10 <| .fin) (.one 5 (.one 3 <| .one 6 <| .take 7 <| .one 8 <| .one 10 <| .fin))) (.alt 3 (.alt 0 (.one 5 <| .one 6 <| .take 7 <| .one 8 <| .one 10 <| .fin) (.one 5 (.alt 0 (.one 6 <| .take 7 <| .one 8 <| .one 10 <| .fin) (.one 6 (.take 7 <| .one 0 <| .one 8 <| .one 10 <| .fin))))) (.one 5 (.alt 0 (.one 3 <| .one 6 <| .take 7 <| .one 8 <| .one 10 <| .fin) (.one 3 (.alt 0 (.one 6 <| .take 7 <| .one 8 <| .one 10 <| .fin) (.one 6 (.take 7 <| .one 0 <| .one 8 <| .one 10 <| .fin)))))))))))
theorem PZ (s : S) (a : Int) (hs : s.length ≤ 1000000000) : Ev TE 92 [.str s,vi a] (.tup [vi (bZ s a).1,vi (bZ s a).2]) := by
 refine aA Tryz.func92 rfl (by simp [nts]) ?_;refine ag (vm ?_);simp only [wq.1,Nat.reduceLT,Tryz.results92];refine ag (vm ?_);refine bu mixed Xn (fun f' h' => f'.t 6 = .lp 0 0 ∧ f'.d = [] ∧ h' = [.cells [vi (bZ s a).1,vi (bZ s a).2]]) (by decide +kernel) (by decide +kernel) ?_ ?_
 ·have hm : 0 ≤ min (max a 0) (s.length : Int) ∧ min (max a 0) (s.length : Int) ≤ s.length := by omega
  have hov := Vx 1 1 (s.take (min (max a 0) (s.length : Int)).toNat) (by decide) (by decide) (by rw [List.length_take];omega);simp only [wq.1,seval,Xn,gl0,OZ,mx,mn]
  repeat' apply And.intro
  all_goals try omega
  all_goals (refine ah.ev hov rfl ?_)
  all_goals (simp only [wq.1,↓reduceIte,Nat.reduceEqDiff,Nat.reduceLT,Nat.reduceAdd])
  all_goals rfl
 ·rintro f h ⟨h6,hd,rfl⟩;refine ag ?_;refine bu mixed PY (fun f' h' => f'.t 4 = vi (bZ s a).1 ∧ f'.t 5 = vi (bZ s a).2 ∧ f'.d = []) (by decide +kernel) (by decide +kernel) ?_ ?_
  ·simp only [wq.1,seval,-Int.reduceNatCast,-Int.reduceNatCast',PY,h6,hd];exact ⟨by decide,by decide⟩
  ·rintro f h ⟨h4,h5,hd⟩;simp only [wq.1];refine vm ?_;simp only [wq.1,h4,h5,hd];exact aC.dat rfl
def bD (s : S) (a e : Int) : V := if e = 0 then .agg [vi 0,vi 0,vi 0] else .agg [vi e,vi (bZ s a).1,vi (bZ s a).2]
theorem II (s : S) (a e : Int) (hs : s.length ≤ 1000000000) : Ev TE 45 [.str s,vi a,vi e] (bD s a e) := by
 unfold bD;refine aA Tryz.func45 rfl (by simp [nts]) (vm ?_);simp only [wq.1,seval,Tryz.results45];refine vcB.mk (fun hc => ?_) (fun hc => ?_)
 ·have hc : e = 0 := by simpa using hc
  simp only [wq.1,seval];rw [if_pos hc];exact aC.dat rfl
 ·have hc : e ≠ 0 := by simpa using hc
  simp only [wq.1,seval];refine ah.ev (PZ s a hs) rfl ?_;simp only [wq.1,seval];rw [if_neg hc];exact aC.dat rfl
theorem Bl : Ih P 37 [.i64,.i64,.i64] := by
 refine ⟨by kernel_rfl,fun w xs ys hx hy => ?_⟩
 match xs,hx with
 | [a,b,c],_ =>
 match ys,hy with
 | [a',b',c'],_ =>
 have p0 : ∀ (x y z : Value),(part 31 #[x,y,z] 0).run P w = .ok x w := fun x y z => jl Tryz.underlying31 (by simp);have p1 : ∀ (x y z : Value),(part 3 #[x,y,z] 1).run P w = .ok y w := fun x y z => jl Tryz.underlying3 (by simp);have p2 : ∀ (x y z : Value),(part 3 #[x,y,z] 2).run P w = .ok z w := fun x y z => jl Tryz.underlying3 (by simp);have hso : P.stoodInHeld 37 = false := by kernel_rfl
 show (Op.equalIn 10000 37 (.agg #[.int .i64 a,.int .i64 b,.int .i64 c]) (.agg #[.int .i64 a',.int .i64 b',.int .i64 c'])).run P w = .ok ([a,b,c] == [a',b',c']) w;rw [Op.equalIn];have e31 := nz (P := P) (w := w) Tryz.underlying31 9998;have e3 := nz (P := P) (w := w) Tryz.underlying3 9998;simp only [Sem.run_bind,run_underlying Tryz.underlying37,Result.andThen];by_cases ha : a = a'
 ·subst ha;by_cases hb : b = b'
  ·subst hb;by_cases hc : c = c'
   ·subst hc;simp [hso,p0,p1,p2,e31,e3,Sem.run_bind,Result.andThen]
   ·have hc' : (c == c') = false := by simpa using hc
    simp [hso,p0,p1,p2,e31,e3,Sem.run_bind,Result.andThen,hc',hc]
  ·have hb' : (b == b') = false := by simpa using hb
   simp [hso,p0,p1,p2,e31,e3,Sem.run_bind,Result.andThen,hb',hb]
 ·have ha' : (a == a') = false := by simpa using ha
  simp [hso,p0,p1,p2,e31,e3,Sem.run_bind,Result.andThen,ha',ha]
theorem sG {s : S} {a : Nat} {c : UInt8} (h : o9 s a c = true) : a < s.length := by unfold o9 at h;simp only [beq_iff_eq] at h;exact (List.getElem?_eq_some_iff.1 h).1
theorem zbC {c : Cl} : (aH c).dat = true := by simp only [V.dat,su]
theorem P5 (a b : List Int) : Ev TE 110 [aH a,aH b] (.bool (a == b)) := by
 refine Ev.bnd fun hb => ?_;have hlen := Bf hb;refine aA Tryz.func110 rfl (by simp [nts]) (vm ?_);simp only [wq.1,seval,Tryz.results110];refine vcB.mk (fun hc => ?_) (fun hc => ?_)
 ·simp only [wq.1,seval];refine aV rfl ?_;simp only [bne_iff_ne,ne_eq,Int.natCast_inj] at hc;have : ¬ a = b := fun h => hc (by rw [h]);simp [this]
 ·have hl : a.length = b.length := by simpa [Int.natCast_inj] using hc
  simp only [wq.1,seval];refine aF (fun m f h => ∃ i,m + i = a.length ∧ f.t 0 = aH a ∧ f.t 1 = aH b ∧ f.t 12 = .int .i64 (a.length : Int) ∧ f.t 13 = .int .i64 (i : Int) ∧ f.d = [] ∧ a.take i = b.take i) a.length ⟨0,by simp,rfl,rfl,rfl,rfl,rfl,by simp⟩ ?_;rintro m f h ⟨i,hm,h0,h1,h12,h13,hd,hall⟩;refine vm ?_;simp only [wq.1,seval,h12,h13];refine vcB.mk (fun hc => ?_) (fun hc => ?_)
  ·simp only [decide_eq_true_eq,Int.ofNat_lt] at hc;have hc2 : i < b.length := by omega
   simp only [wq.1,seval,h0,h1,h13,xU hc,xU hc2];refine ⟨by decide +kernel,⟨by omega,by omega⟩,⟨by omega,by omega⟩,vcB.mk (fun hc => ?_) (fun hc => ?_)⟩
   ·simp only [wq.1,seval,hd];refine aV rfl ?_;have : ¬ a = b := fun h => by subst h;simp at hc
    simp [this]
   ·simp only [wq.1,seval,h13,ax (show i < maxLen by omega)];exact .inl ⟨m - 1,by omega,i + 1,by omega,h0,h1,h12,rfl,hd,Bg hall (by omega) (by omega) (by simpa using hc)⟩
  ·simp only [decide_eq_false_iff_not,Int.ofNat_lt] at hc;simp only [wq.1,seval,hd];refine aV rfl ?_;rw [List.take_of_length_le (by omega),List.take_of_length_le (by omega)] at hall;simp [hall]
structure Ans where
 res : Int
 vals : List Bool
 conf : Int
 ln : List Cl
def Ans.v (a : Ans) : V := .agg [vi a.res,za6 a.vals,vi a.conf,cls a.ln]
def Wi.same (w u : Wi) : Bool := (w.bad == u.bad) && ((w.st == u.st) && (w.steps == u.steps))
def Gr.few (g : Gr) : Bool := (decide (g.ins ≤ 100) || decide (4000 < g.ins)) && (decide ((g.next.length : Int) ≤ 40) && (decide ((g.init.length : Int) ≤ 40) && (decide ((g.ands.length : Int) ≤ 60) && decide ((g.outs.length : Int) ≤ 60))))
theorem Vy (g : Gr) : Ev TE 23 [g.v] (.bool g.few) := by
 unfold Gr.few Gr.v;refine aA Tryz.func23 rfl (by simp [nts]) (vm ?_);cases h1 : decide (g.ins ≤ 100) with
 | true =>
  cases h3 : decide ((g.next.length : Int) ≤ 40) with
  | false =>
   simp only [wq.1,seval,Tryz.results23,h1,h3]
   repeat (refine ⟨.bool true,?_⟩;simp only [wq.1,seval,ak,Tryz.results23,h1,h3])
   exact aC.dat rfl
  | true =>
   cases h4 : decide ((g.init.length : Int) ≤ 40) with
   | false =>
    simp only [wq.1,seval,Tryz.results23,h1,h3,h4]
    repeat (refine ⟨.bool true,?_⟩;simp only [wq.1,seval,ak,Tryz.results23,h1,h3,h4])
    exact aC.dat rfl
   | true =>
    cases h5 : decide ((g.ands.length : Int) ≤ 60) with
    | false =>
     simp only [wq.1,seval,Tryz.results23,h1,h3,h4,h5]
     repeat (refine ⟨.bool true,?_⟩;simp only [wq.1,seval,ak,Tryz.results23,h1,h3,h4,h5])
     exact aC.dat rfl
    | true =>
     cases h6 : decide ((g.outs.length : Int) ≤ 60) with
     | false =>
      simp only [wq.1,seval,Tryz.results23,h1,h3,h4,h5,h6]
      repeat (refine ⟨.bool true,?_⟩;simp only [wq.1,seval,ak,Tryz.results23,h1,h3,h4,h5,h6])
      exact aC.dat rfl
     | true =>
      simp only [wq.1,seval,Tryz.results23,h1,h3,h4,h5,h6]
      repeat (refine ⟨.bool true,?_⟩;simp only [wq.1,seval,ak,Tryz.results23,h1,h3,h4,h5,h6])
      exact aC.dat rfl
 | false =>
  cases h2 : decide (4000 < g.ins) with
  | false =>
   simp only [wq.1,seval,Tryz.results23,h1,h2]
   repeat (refine ⟨.bool true,?_⟩;simp only [wq.1,seval,ak,Tryz.results23,h1,h2])
   exact aC.dat rfl
  | true =>
   cases h3 : decide ((g.next.length : Int) ≤ 40) with
   | false =>
    simp only [wq.1,seval,Tryz.results23,h1,h2,h3]
    repeat (refine ⟨.bool true,?_⟩;simp only [wq.1,seval,ak,Tryz.results23,h1,h2,h3])
    exact aC.dat rfl
   | true =>
    cases h4 : decide ((g.init.length : Int) ≤ 40) with
    | false =>
     simp only [wq.1,seval,Tryz.results23,h1,h2,h3,h4]
     repeat (refine ⟨.bool true,?_⟩;simp only [wq.1,seval,ak,Tryz.results23,h1,h2,h3,h4])
     exact aC.dat rfl
    | true =>
     cases h5 : decide ((g.ands.length : Int) ≤ 60) with
     | false =>
      simp only [wq.1,seval,Tryz.results23,h1,h2,h3,h4,h5]
      repeat (refine ⟨.bool true,?_⟩;simp only [wq.1,seval,ak,Tryz.results23,h1,h2,h3,h4,h5])
      exact aC.dat rfl
     | true =>
      cases h6 : decide ((g.outs.length : Int) ≤ 60) with
      | false =>
       simp only [wq.1,seval,Tryz.results23,h1,h2,h3,h4,h5,h6]
       repeat (refine ⟨.bool true,?_⟩;simp only [wq.1,seval,ak,Tryz.results23,h1,h2,h3,h4,h5,h6])
       exact aC.dat rfl
      | true =>
       simp only [wq.1,seval,Tryz.results23,h1,h2,h3,h4,h5,h6]
       repeat (refine ⟨.bool true,?_⟩;simp only [wq.1,seval,ak,Tryz.results23,h1,h2,h3,h4,h5,h6])
       exact aC.dat rfl
def Mo.few (m : Mo) : Bool := m.g.few && (MO 40 m.ins && (MO 40 m.lat && MO 60 m.out))
theorem Vz (m : Mo) : Ev TE 7 [m.v] (.bool m.few) := by
 have h09 := Vy m.g;unfold Mo.few Mo.v;unfold Gr.v at h09;refine aA Tryz.func7 rfl (by simp [nts]) (vm ?_);simp only [wq.1,seval,Tryz.results7];refine ah.ev h09 rfl ?_;simp only [wq.1,seval];refine ah.ev (vT m.ins 40) rfl ?_;simp only [wq.1,seval];refine ah.ev (vT m.lat 40) rfl ?_;simp only [wq.1,seval];refine ah.ev (vT m.out 60) rfl ?_;cases m.g.few <;> cases MO 40 m.ins <;> cases MO 40 m.lat <;> cases MO 60 m.out
 all_goals
  simp only [wq.1,seval]
  repeat (refine ⟨.bool true,?_⟩;simp only [wq.1,seval,ak,Tryz.results7])
  exact aC.dat rfl
def Wi.few (w : Wi) : Bool := decide ((w.steps.length : Int) ≤ 42) && (decide ((w.st.length : Int) ≤ 60) && w.steps.all fun l => decide (l.length ≤ 60))
abbrev k22 : Mo := ⟨⟨1,[],[],[],[2]⟩,[[97]],[],[[121]]⟩
theorem GX {vs vs' : List V} (h : dW vs vs') : VLe (.agg vs) (.agg vs') := fun c x hx => by simp only [VRel] at hx ⊢;obtain ⟨cs,h1,h2⟩ := hx;exact ⟨cs,h1,h _ _ h2⟩
end Go.Proofs.YtfcpapokknfeeaaGreatDoor
