/- Lemmas for this claim, part F02: each holds under what it names. -/
import Derived.Test.YtmlacppmbfbjgaaGreatDoorF01
set_option linter.unusedVariables false
set_option linter.unusedSimpArgs false
set_option linter.unnecessarySimpa false
set_option maxRecDepth 20000
namespace Go.Proofs.YtmlacppmbfbjgaaGreatDoor
open Go Go.Proofs Go.Abs
structure Inv (n : Nat) (l d L : List Cl) (S : St) : Prop where
 t:Tr n S
 c:Cls n S
 r:Rea S
 x:Nxt n S
 g:Log n l S
 lc:Lcv L S
 cv:Cov d S
 lt:Lvt S
 w:∀j,j<S.nc→Wat S.hd S j
section
variable {n:Nat} {l d L:List Cl} {S:St}
theorem Inv.letS (i : Inv n l d L S) {a : Int} {r : Option Nat} (h0 : a ≠ 0) (hn : a.natAbs ≤ n) (h1 : ¬ a ∈ S.tr) (h2 : ¬ -a ∈ S.tr)
 (hr:∀j,r=some j→j<S.nc∧a∈S.cl j∧∀b∈S.cl j,b≠a→-b∈S.tr) (hd:r=none→S.lv=[]) (hder:r=none→Der (l++S.ln) [] a):Inv n l d L (jF S a r) where
 t:=i.t.letS h0 hn h1 h2
 c:=i.c.letS
 r:=i.r.letS i.t h1 h2 hr fun h=> .inl (by rw[hd h];rfl)
 x:=i.x.letS
 g:=i.g.letS i.t h1 h2 fun hl=>by
  cases r with
  | none=>exact hder rfl
  | some j=>obtain⟨h3,h4,h5⟩:=hr j rfl;obtain⟨c,hc,he⟩:=i.g.src j h3;refine Der.unit c a hc ((he a).1 h4) fun b hb hne=> ?_;obtain⟨p,hp,hb2⟩:=List.getElem_of_mem (h5 b ((he b).2 hb) hne);rw[←hb2];exact i.g.d0 p hp (by rw[hl];rfl)
 lc:=i.lc.letS i.t h1 h2
 cv:=i.cv.letS i.t h1 h2
 lt:=i.lt.letS
 w j hj:=(i.w j hj).letS i.t i.t.hdl h1 h2
def clS (S:St) (cl':Nat→Cl) (wt':Int→List Nat):St:={S with cl:=cl',wt:=wt'}
theorem Rea.clS (k : Rea S) {cl' : Nat → Cl} {wt' : Int → List Nat} (hp : ∀ j a,a ∈ cl' j ↔ a ∈ S.cl j) : Rea (clS S cl' wt') where
 rea p h j hj:=by
  obtain⟨h1,h2,h3⟩:=k.rea p h j hj;exact⟨h1,(hp _ _).2 h2,fun b hb=>h3 b ((hp _ _).1 hb)⟩
 dec:=k.dec
theorem Log.clS (k : Log n l S) {cl' : Nat → Cl} {wt' : Int → List Nat} (hp : ∀ j a,a ∈ cl' j ↔ a ∈ S.cl j) : Log n l (clS S cl' wt') where
 d0:=k.d0
 src j hj:=by
  obtain⟨c,h1,h2⟩:=k.src j hj;exact⟨c,h1,fun a=>(hp j a).trans (h2 a)⟩
 rup:=k.rup
 lrg:=k.lrg
 lnew:=k.lnew
theorem Lcv.clS (k:Lcv L S) {cl':Nat→Cl} {wt':Int→List Nat} (hp:∀j a,a∈cl' j↔a∈S.cl j):Lcv L (clS S cl' wt'):=by
 intro c hc;rcases k c hc with h | ⟨j,h1,h2⟩
 ·exact .inl h
 ·exact .inr ⟨j,h1,fun a=>(hp j a).trans (h2 a)⟩
theorem Cov.clS (k:Cov d S) {cl':Nat→Cl} {wt':Int→List Nat} (hp:∀j a,a∈cl' j↔a∈S.cl j):Cov d (clS S cl' wt'):=by
 intro c hc;rcases k c hc with h | h | ⟨j,h1,h2⟩
 ·exact .inl h
 ·exact .inr (.inl h)
 ·exact .inr (.inr ⟨j,h1,fun a=>(hp j a).trans (h2 a)⟩)
def swS (S:St) (j:Nat) (c:Cl):St:=clS S (upd S.cl j c) S.wt
theorem vJ {j:Nat} {x y:Int} {r:Cl} (hc:S.cl j=x::y::r):∀i a,a∈upd S.cl j (y::x::r) i↔a∈S.cl i:=by
 intro i a;unfold upd;split
 ·rename_i h;subst h;rw[hc];simp only[List.mem_cons];constructor<;>rintro(h | h | h)<;>simp[h]
 ·exact Iff.rfl
theorem zu {j:Nat} {x y:Int} {r:Cl} (hc:S.cl j=x::y::r):∀i a,a∈(upd S.cl j (y::x::r) i).take 2↔a∈(S.cl i).take 2:=by
 intro i a;unfold upd;split
 ·rename_i h;subst h;rw[hc];simp only[List.take_succ_cons,List.take_zero,List.mem_cons,List.not_mem_nil,or_false];constructor<;>rintro(h | h)<;>simp[h]
 ·exact Iff.rfl
theorem Wat.two {q j:Nat} {cl':Nat→Cl} {wt':Int→List Nat} (w:Wat q S j) (h2:∀a,a∈(cl' j).take 2↔a∈(S.cl j).take 2):Wat q (clS S cl' wt') j:=by intro x hx hm;obtain⟨y,h3,h4⟩:=w x ((h2 x).1 hx) hm;exact⟨y,(h2 y).2 h3,h4⟩
theorem Inv.swS (i : Inv n l d L S) {j : Nat} {x y : Int} {r : Cl} (hc : S.cl j = x :: y :: r) : Inv n l d L (swS S j (y :: x :: r)) where
 t:=⟨i.t.nd,i.t.rng,i.t.val,i.t.lvl,i.t.lvs,i.t.lvh,i.t.hdl⟩
 c := {
  c2:=fun k hk=>by
   show 2≤(upd S.cl j (y::x::r) k).length;unfold upd;split
   ·simp
   ·exact i.c.c2 k hk
  cnd:=fun k hk=>by
   show((upd S.cl j (y::x::r) k).map Int.natAbs).Nodup;unfold upd;split
   ·rename_i h;subst h;have:=i.c.cnd k hk;rw[hc]at this;exact(List.Perm.swap _ _ _).nodup this
   ·exact i.c.cnd k hk
  crg:=fun k hk a ha=>i.c.crg k hk a ((vJ hc k a).1 ha)
  wts:=fun a k hk=>⟨(i.c.wts a k hk).1,(zu hc k a).2 (i.c.wts a k hk).2⟩
  wtc:=fun k hk a ha=>i.c.wtc k hk a ((zu hc k a).1 ha)
  wnd:=i.c.wnd}
 r:=i.r.clS (vJ hc)
 x:=i.x.1 |> fun h=>⟨h,i.x.2⟩
 g:=i.g.clS (vJ hc)
 lc:=i.lc.clS (vJ hc)
 cv:=i.cv.clS (vJ hc)
 lt:=i.lt
 w k hk:=(i.w k hk).two (zu hc k)
def mvW (S:St) (j:Nat) (nt a:Int):Int→List Nat:=fun b=>if b=nt then(S.wt nt).erase j else if b=a then S.wt a++[j]else S.wt b
def mvS (S:St) (j:Nat) (nt a:Int) (c:Cl):St:=clS S (upd S.cl j c) (mvW S j nt a)
theorem KW {x nt a:Int} {r1 r2:Cl}:(x::a::(r1++nt::r2)).Perm (x::nt::(r1++a::r2)):=by refine List.Perm.cons _ ?_;refine(List.Perm.cons _ (List.perm_middle)).trans ?_;refine(List.Perm.swap _ _ _).trans ?_;exact List.Perm.cons _ (List.perm_middle.symm)
theorem UN {x nt a:Int} {r1 r2:Cl} (h:((x::nt::(r1++a::r2)).map Int.natAbs).Nodup):x≠nt∧x≠a∧a≠nt:=by simp only[List.map_cons,List.map_append,List.nodup_cons,List.mem_cons,List.mem_append,not_or]at h;refine⟨fun e=>h.1.1 (by rw[e]),fun e=>h.1.2.2.1 (by rw[e]),fun e=>h.2.1.2.1 (by rw[e])⟩
theorem Inv.mvS (i : Inv n l d L S) {j : Nat} (hj : j < S.nc) {x nt a : Int} {r1 r2 : Cl} (hc : S.cl j = x :: nt :: (r1 ++ a :: r2))
 (hw:Wat S.hd (mvS S j nt a (x::a::(r1++nt::r2))) j):Inv n l d L (mvS S j nt a (x::a::(r1++nt::r2))):=by
 have hnd:=i.c.cnd j hj;rw[hc]at hnd;obtain⟨e1,e2,e3⟩:=UN hnd;have hm:∀k b,b∈upd S.cl j (x::a::(r1++nt::r2)) k↔b∈S.cl k:=by
  intro k b;unfold upd;split
  ·rename_i h;subst h;rw[hc];exact KW.mem_iff
  ·exact Iff.rfl
 have hja:¬j∈S.wt a:=fun h=>by
  have:=(i.c.wts a j h).2;rw[hc]at this;simp only[List.take_succ_cons,List.take_zero,List.mem_cons,List.not_mem_nil,or_false]at this;rcases this with h | h
  ·exact e2 h.symm
  ·exact e3 h
 refine⟨⟨i.t.nd,i.t.rng,i.t.val,i.t.lvl,i.t.lvs,i.t.lvh,i.t.hdl⟩,⟨?_,?_,fun k hk b hb=>i.c.crg k hk b ((hm k b).1 hb),?_,?_,?_⟩,i.r.clS hm,⟨i.x.1,i.x.2⟩,i.g.clS hm,i.lc.clS hm,i.cv.clS hm,i.lt,?_⟩
 ·intro k hk;show 2 ≤ (upd S.cl j (x :: a :: (r1 ++ nt :: r2)) k).length;unfold upd;split
  ·simp
  ·exact i.c.c2 k hk
 ·intro k hk;show ((upd S.cl j (x :: a :: (r1 ++ nt :: r2)) k).map Int.natAbs).Nodup;unfold upd;split
  ·exact(KW.map _).symm.nodup hnd
  ·exact i.c.cnd k hk
 ·intro b k hk;have hk : k ∈ mvW S j nt a b := hk;show k < S.nc ∧ b ∈ (upd S.cl j (x :: a :: (r1 ++ nt :: r2)) k).take 2;unfold mvW at hk;split at hk
  ·rename_i h;subst h;have h1:=(List.Nodup.mem_erase_iff (i.c.wnd b)).1 hk;rw[aU h1.1];exact i.c.wts b k h1.2
  ·split at hk
   ·rename_i h;subst h;rcases List.mem_append.1 hk with h1 | h1
    ·have:k≠j:=fun e=>hja (e▸h1);rw[aU this];exact i.c.wts b k h1
    ·rw[List.mem_singleton.1 h1,aO];exact⟨hj,by simp⟩
   ·rename_i h1 h2;obtain ⟨h3,h4⟩ := i.c.wts b k hk;refine ⟨h3,?_⟩;unfold upd;split
    ·rename_i h;subst h;rw [hc] at h4;simp only [List.take_succ_cons,List.take_zero,List.mem_cons,List.not_mem_nil,or_false] at h4 ⊢;rcases h4 with h4 | h4
     ·exact .inl h4
     ·exact absurd h4 h1
    ·exact h4
 ·intro k hk b hb;have hb : b ∈ (upd S.cl j (x :: a :: (r1 ++ nt :: r2)) k).take 2 := hb;show k ∈ mvW S j nt a b;unfold mvW;by_cases h : k = j
  ·subst h;rw [aO] at hb;simp only [List.take_succ_cons,List.take_zero,List.mem_cons,List.not_mem_nil,or_false] at hb;rcases hb with rfl | rfl
   ·rw[if_neg e1,if_neg e2];exact i.c.wtc k hk b (by rw[hc];simp)
   ·rw[if_neg e3,if_pos rfl];simp
  ·rw [aU h] at hb;have h1 := i.c.wtc k hk b hb;split
   ·rename_i h2;subst h2;exact(List.Nodup.mem_erase_iff (i.c.wnd b)).2 ⟨h,h1⟩
   ·split
    ·rename_i h2;subst h2;exact List.mem_append_left _ h1
    ·exact h1
 ·intro b;show (mvW S j nt a b).Nodup;unfold mvW;split
  ·exact(i.c.wnd nt).erase j
  ·split
   ·rw[List.nodup_append];refine⟨i.c.wnd a,by simp,fun y hy z hz=> ?_⟩;rw[List.mem_singleton.1 hz];exact fun e=>hja (e▸hy)
   ·exact i.c.wnd b
 ·intro k hk;by_cases h : k = j
  ·subst h;exact hw
  ·exact(i.w k hk).two fun b=>by rw[aU h]
theorem Wat.weak {q q' j:Nat} (w:Wat q S j) (h:q'≤q):Wat q' S j:=fun x hx hm=>w x hx (List.take_subset_take_left S.tr h hm)
theorem qC {tr:Cl} {q:Nat} (h:q<tr.length) {b:Int} (hb:b∈tr.take (q+1)):b∈tr.take q∨b=tr[q]:=by
 rw[List.take_add_one,List.getElem?_eq_getElem h,Option.toList_some]at hb;rcases List.mem_append.1 hb with hb | hb
 ·exact .inl hb
 ·exact .inr (List.mem_singleton.1 hb)
theorem Tr.top (t:Tr n S) (h:S.hd<S.tr.length):eH S S.tr[S.hd]=S.lv.length:=by rw[t.lvl _ h,Ed t.lvh]
theorem Bl (t:Tr n S) (h:S.hd<S.tr.length) {j:Nat} {x nt:Int} {r:Cl} (hc:S.cl j=x::nt::r) (hnt:S.tr[S.hd]=-nt) (hx:x∈S.tr):Wat (S.hd+1) S j:=by
 intro z hz hm;rw[hc]at hz ⊢;simp only[List.take_succ_cons,List.take_zero,List.mem_cons,List.not_mem_nil,or_false]at hz;rcases hz with rfl | rfl
 ·exact absurd (List.mem_of_mem_take hm) (t.con hx)
 ·refine⟨x,by simp,hx,?_⟩;have h1:=t.top h;rw[hnt,eP]at h1;have:=(t.lev_rng hx).2;omega
theorem OW (t : Tr n S) (h : S.hd < S.tr.length) {j : Nat} {x nt a : Int} {r1 r2 : Cl} (hc : S.cl j = x :: nt :: (r1 ++ a :: r2)) (hne : x ≠ nt) (hnt : S.tr[S.hd] = -nt)
 (hw:Wat S.hd S j) (hx:¬x∈S.tr) (ha:¬ -a∈S.tr):Wat (S.hd+1) (mvS S j nt a (x::a::(r1++nt::r2))) j:=by
 intro z hz hm;have hz:z∈(upd S.cl j (x::a::(r1++nt::r2)) j).take 2:=hz;have hm:-z∈S.tr.take (S.hd+1):=hm;exfalso;rw[aO]at hz;simp only[List.take_succ_cons,List.take_zero,List.mem_cons,List.not_mem_nil,or_false]at hz;rcases hz with rfl | rfl
 ·rcases qC h hm with h1 | h1
  ·obtain ⟨y,hy,hy2,_⟩ := hw z (by rw [hc];simp) h1;rw [hc] at hy;simp only [List.take_succ_cons,List.take_zero,List.mem_cons,List.not_mem_nil,or_false] at hy;rcases hy with rfl | rfl
   ·exact hx hy2
   ·exact t.con hy2 (hnt▸List.getElem_mem h)
  ·rw[hnt]at h1;exact hne (by omega)
 ·exact ha (List.mem_of_mem_take hm)
theorem KX (h:S.hd<S.tr.length) {j:Nat} {nt:Int} (hnt:S.tr[S.hd]=-nt) (hw:Wat S.hd S j) (hn:¬nt∈(S.cl j).take 2):Wat (S.hd+1) S j:=by
 intro z hz hm;rcases qC h hm with h1 | h1
 ·exact hw z hz h1
 ·exfalso;rw[hnt]at h1;exact hn (by rw[show nt=z by omega];exact hz)
def Ef (S:St):St:={S with hd:=S.hd+1}
theorem Inv.nextS (i:Inv n l d L S) (h:S.hd<S.tr.length) (hw:∀j,j<S.nc→Wat (S.hd+1) S j):Inv n l d L (Ef S) :=
 ⟨⟨i.t.nd,i.t.rng,i.t.val,i.t.lvl,i.t.lvs,fun x hx=>Nat.le_succ_of_le (i.t.lvh x hx),h⟩,⟨i.c.c2,i.c.cnd,i.c.crg,i.c.wts,i.c.wtc,i.c.wnd⟩,⟨i.r.rea,i.r.dec⟩,⟨i.x.1,i.x.2⟩,⟨i.g.d0,i.g.src,i.g.rup,i.g.lrg,i.g.lnew⟩,i.lc,i.cv,i.lt,hw⟩
def Jf (S:St) (a:Int):St:=jF {S with lv:=S.lv++[S.tr.length]} a none
theorem Inv.decS (i:Inv n l d L S) (hh:S.hd=S.tr.length) {a:Int} (h0:a≠0) (hn:a.natAbs≤n) (h1:¬a∈S.tr) (h2:¬ -a∈S.tr):Inv n l d L (Jf S a):=by
 have t1:Tr n {S with lv:=S.lv++[S.tr.length]}:=by
  refine⟨i.t.nd,i.t.rng,i.t.val,fun p h=> ?_,?_,?_,i.t.hdl⟩
  ·show eH S S.tr[p]=((lev (S.lv++[S.tr.length]) p:Nat):Int);rw[Ee h];exact i.t.lvl p h
  ·show(S.lv++[S.tr.length]).Pairwise (·<·);rw[List.pairwise_append];exact⟨i.t.lvs,by simp,fun x hx y hy=>by rw[List.mem_singleton.1 hy];exact i.lt x hx⟩
  ·intro x hx;rcases List.mem_append.1 hx with hx | hx
   ·exact i.t.lvh x hx
   ·rw[List.mem_singleton.1 hx];show S.tr.length≤S.hd;omega
 have r1:Rea {S with lv:=S.lv++[S.tr.length]}:=by
  refine⟨i.r.rea,fun p h hj=> ?_⟩;show lev (S.lv++[S.tr.length]) p=0∨p∈S.lv++[S.tr.length];rw[Ee h];rcases i.r.dec p h hj with h3 | h3
  ·exact .inl h3
  ·exact .inr (List.mem_append_left _ h3)
 have g1:Log n l {S with lv:=S.lv++[S.tr.length]}:=by
  refine⟨fun p h hl=>i.g.d0 p h ?_,i.g.src,i.g.rup,i.g.lrg,i.g.lnew⟩;have hl:lev (S.lv++[S.tr.length]) p=0:=hl
  rwa [Ee h]at hl
 have c1:Cls n {S with lv:=S.lv++[S.tr.length]}:=⟨i.c.c2,i.c.cnd,i.c.crg,i.c.wts,i.c.wtc,i.c.wnd⟩;have x1:Nxt n {S with lv:=S.lv++[S.tr.length]}:=⟨i.x.1,i.x.2⟩;refine⟨t1.letS h0 hn h1 h2,c1.letS,r1.letS t1 h1 h2 (fun j hj=>by cases hj) (fun _=> .inr (by simp)),x1.letS,g1.letS t1 h1 h2 (fun h=>by simp at h),Lcv.letS (S:={S with lv:=S.lv++[S.tr.length]}) i.lc t1 h1 h2,Cov.letS (S:={S with lv:=S.lv++[S.tr.length]}) i.cv t1 h1 h2,?_,fun j hj=>Wat.letS (S:={S with lv:=S.lv++[S.tr.length]}) (i.w j hj) t1 i.t.hdl h1 h2⟩;intro x hx;have hx:x∈S.lv++[S.tr.length]:=hx;show x<(S.tr++[a]).length;rw[List.length_append,List.length_singleton];rcases List.mem_append.1 hx with hx | hx
 ·have:=i.lt x hx;omega
 ·rw[List.mem_singleton.1 hx];omega
def lg (n:Nat) (S:St):List Bool:=(List.range n).map fun i=>decide (0<(S.v (i+1)).value)
theorem qE (t:Tr n S) {a:Int} (h0:a≠0) (hn:a.natAbs≤n) (ha:a∈S.tr∨-a∈S.tr):hol (lg n S) a=true↔a∈S.tr:=by
 have hv:∀i:Nat,1≤i→i≤n→(lg n S).getD (i-1) false=decide ((i:Int)∈S.tr):=by
  intro i h1 h2;unfold lg;rw[List.getD_eq_getElem?_getD,List.getElem?_map,List.getElem?_range (by omega),Option.map_some,Option.getD_some,show i-1+1=i by omega,t.val i h1 h2];unfold Du;by_cases h3:(i:Int)∈S.tr
  ·simp[h3]
  ·rw[if_neg h3];split<;>simp[h3]
 unfold hol;by_cases hneg:a<0
 ·rw [if_pos hneg,show (-a - 1).toNat = a.natAbs - 1 by omega,hv _ (by omega) hn,show ((a.natAbs : Nat) : Int) = -a by omega];rcases ha with ha | ha
  ·have:=t.con ha;simp[ha,this]
  ·have:=t.con' ha;simp[ha,this]
 ·rw[if_neg hneg,show(a-1).toNat=a.natAbs-1 by omega,hv _ (by omega) hn,show((a.natAbs:Nat):Int)=a by omega];simp
theorem Inv.some (i:Inv n l l L S) (hh:S.hd=S.tr.length) (hx:S.nx=[]) (hl:∀c∈l,∀a∈c,a≠0∧a.natAbs≤n):sat l (lg n S)=true:=by
 have hall:∀a:Int,a≠0→a.natAbs≤n→a∈S.tr∨-a∈S.tr:=by
  intro a h0 hn;refine Classical.byContradiction fun hno=> ?_;rw[not_or]at hno;have hz:(S.v a.natAbs).value=0:=by
   rw[i.t.val _ (by omega) hn];rcases show((a.natAbs:Nat):Int)=a∨((a.natAbs:Nat):Int)=-a by omega with e | e
   ·exact vH (by rw[e];exact hno.1) (by rw[e];exact hno.2)
   ·exact vH (by rw[e];exact hno.2) (by rw[e,Int.neg_neg];exact hno.1)
  have:=i.x.all a.natAbs (by omega) hn hz;rw[hx]at this;cases this
 unfold sat;rw[List.all_eq_true];intro c hc;rw[List.any_eq_true];rcases i.cv c hc with⟨a,h1,h2⟩ | ⟨a,h1,h2,_⟩ | ⟨j,hj,he⟩
 ·obtain ⟨h3,h4⟩ := hl c hc a h1;rcases hall a h3 h4 with h5 | h5
  ·exact⟨a,h1,(qE i.t h3 h4 (.inl h5)).2 h5⟩
  ·exact⟨-a,h2,(qE i.t (by omega) (by rw[Int.natAbs_neg];exact h4) (.inl h5)).2 h5⟩
 ·obtain⟨h3,h4⟩:=hl c hc a h1;exact⟨a,h1,(qE i.t h3 h4 (.inl h2)).2 h2⟩
 ·have h2 := i.c.c2 j hj;have hw := i.w j hj;have he2 := i.c.crg j hj;rcases hcl : S.cl j with _ | ⟨x,_ | ⟨y,r⟩⟩
  ·rw[hcl]at h2;simp at h2
  ·rw[hcl]at h2;simp at h2
  ·obtain ⟨h3,h4⟩ := he2 x (by rw [hcl];simp);rcases hall x h3 h4 with h5 | h5
   ·exact⟨x,(he x).1 (by rw[hcl];simp),(qE i.t h3 h4 (.inl h5)).2 h5⟩
   ·obtain⟨z,hz,hz2,_⟩:=hw x (by rw[hcl];simp) (by rw[hh,List.take_length];exact h5);have hz3:=List.mem_of_mem_take hz;obtain⟨h6,h7⟩:=he2 z hz3;exact⟨z,(he z).1 hz3,(qE i.t h6 h7 (.inl hz2)).2 hz2⟩
theorem Inv.none (i:Inv n l d L S) (hl:S.lv=[]) {j:Nat} (hj:j<S.nc) (hf:∀a∈S.cl j,-a∈S.tr):Bad (l++S.ln) []:=by obtain⟨c,hc,he⟩:=i.g.src j hj;refine .inl ⟨c,hc,fun b hb=> ?_⟩;obtain⟨p,hp,e⟩:=List.getElem_of_mem (hf b ((he b).2 hb));rw[←e];exact i.g.d0 p hp (by rw[hl];rfl)
end
structure LI (S : St) (seen : List Nat) (rest : Cl) : Prop where
 s1:∀v∈seen,∃a∈S.tr,a.natAbs=v∧0<eH S a
 s2:∀a∈rest,-a∈S.tr∧0<eH S a∧eH S a<S.lv.length∧a.natAbs∈seen
 s3:∀a∈S.tr,a.natAbs∈seen→eH S a<S.lv.length→-a∈rest
 rn:(rest.map Int.natAbs).Nodup
def cO (S:St) (seen:List Nat) (q:Nat):Nat:=(S.tr.take q).countP fun a=>decide (a.natAbs∈seen)&&decide (eH S a=S.lv.length)
def Acc (S:St) (seen:List Nat) (b:Int):Prop:=eH S b=0∨b.natAbs∈seen
def sK (S:St) (seen:List Nat) (i:Nat):Prop:=∀(h:i<S.tr.length),(S.tr[i]).natAbs∈seen→eH S S.tr[i]=S.lv.length →
 ∃k,k<S.nc∧S.tr[i]∈S.cl k∧∀b∈S.cl k,b≠S.tr[i]→-b∈S.tr.take i∧Acc S seen b
section
variable {n:Nat} {l d L:List Cl} {S:St}
theorem Acc.mono {seen seen':List Nat} {b:Int} (h:Acc S seen b) (hs:∀v∈seen,v∈seen'):Acc S seen' b:=h.imp id (hs _)
theorem xQ {α : Type} [BEq α] [LawfulBEq α] : ∀ {l : List α} {p q : α → Bool} {x : α},l.Nodup → x ∈ l → p x = false → q x = true → (∀ y ∈ l,y ≠ x → q y = p y) → l.countP q = l.countP p + 1
 | [],_,_,_,_,h,_,_,_=>by simp at h
 | z::l,p,q,x,hn,hx,hp,hq,hy=>by
  rw[List.nodup_cons]at hn;rw[List.countP_cons,List.countP_cons];rcases List.mem_cons.1 hx with rfl | hx
  ·have : l.countP q = l.countP p := List.countP_congr fun y hyl => by rw [hy y (List.mem_cons_of_mem _ hyl) (fun e => hn.1 (e ▸ hyl))]
   simp[hp,hq,this]
  ·have h1:=xQ hn.2 hx hp hq fun y hyl hne=>hy y (List.mem_cons_of_mem _ hyl) hne;have h2:z≠x:=fun e=>hn.1 (e▸hx);rw[hy z List.mem_cons_self h2,h1];omega
theorem Tr.nodup (t:Tr n S):S.tr.Nodup:=by have:=t.nd;rw[List.Nodup,List.pairwise_map]at this;exact this.imp fun h e=>h (by rw[e])
theorem LI.start:LI S [] []:=⟨by simp,by simp,by simp,by simp⟩
theorem LI.mark {seen:List Nat} {rest:Cl} (k:LI S seen rest) (t:Tr n S) {a:Int} {q:Nat} (ha:-a∈S.tr.take q) (h0:eH S a≠0) (hs:¬a.natAbs∈seen) :
 (eH S a=S.lv.length→LI S (seen++[a.natAbs]) rest∧cO S (seen++[a.natAbs]) q=cO S seen q+1) ∧
 (eH S a≠S.lv.length→LI S (seen++[a.natAbs]) (rest++[a])∧cO S (seen++[a.natAbs]) q=cO S seen q):=by
 have hat:=List.mem_of_mem_take ha;have hlr:=t.lev_rng hat;rw[eP]at hlr;have hu:∀b∈S.tr,b.natAbs=a.natAbs→b=-a:=fun b hb he=>qB t.nd b hb (-a) hat (by rw[he,Int.natAbs_neg]);have s1:∀v∈seen++[a.natAbs],∃a∈S.tr,a.natAbs=v∧0<eH S a:=by
  intro v hv;rcases List.mem_append.1 hv with hv | hv
  ·exact k.s1 v hv
  ·rw[List.mem_singleton.1 hv];exact⟨-a,hat,Int.natAbs_neg a,by rw[eP];omega⟩
 refine⟨fun hD=>⟨⟨s1,fun b hb=> ?_,fun b hb hb2 hb3=> ?_,k.rn⟩,?_⟩,fun hD=>⟨⟨s1,fun b hb=> ?_,fun b hb hb2 hb3=> ?_,?_⟩,?_⟩⟩
 ·obtain⟨h1,h2,h3,h4⟩:=k.s2 b hb;exact⟨h1,h2,h3,List.mem_append_left _ h4⟩
 ·rcases List.mem_append.1 hb2 with h1 | h1
  ·exact k.s3 b hb h1 hb3
  ·have:=hu b hb (List.mem_singleton.1 h1);rw[this,eP]at hb3;omega
 ·unfold cO;refine xQ (x:=-a) (t.nodup.sublist (List.take_sublist _ _)) ha (by simp[hs]) (by simp[eP,hD]) fun y hy hne=> ?_;have:y.natAbs≠a.natAbs:=fun e=>hne (hu y (List.mem_of_mem_take hy) e);simp[this]
 ·rcases List.mem_append.1 hb with hb | hb
  ·obtain⟨h1,h2,h3,h4⟩:=k.s2 b hb;exact⟨h1,h2,h3,List.mem_append_left _ h4⟩
  ·rw[List.mem_singleton.1 hb];exact⟨hat,by omega,by omega,by simp⟩
 ·rcases List.mem_append.1 hb2 with h1 | h1
  ·exact List.mem_append_left _ (k.s3 b hb h1 hb3)
  ·have:=hu b hb (List.mem_singleton.1 h1);rw[this,Int.neg_neg];simp
 ·rw[List.map_append,List.map_singleton,List.nodup_append];refine⟨k.rn,by simp,fun x hx y hy=> ?_⟩;obtain⟨b,hb,rfl⟩:=List.mem_map.1 hx;rw[List.mem_singleton.1 hy];exact fun e=>hs (e▸(k.s2 b hb).2.2.2)
 ·unfold cO;refine List.countP_congr fun y hy => ?_;by_cases hya : y.natAbs = a.natAbs
  ·have:=hu y (List.mem_of_mem_take hy) hya;rw[this,eP];simp[hD]
  ·simp[hya]
def Gap (S:St) (seen:List Nat) (q' q:Nat):Prop:=∀i (h:i<S.tr.length),q'≤i→i<q→¬(S.tr[i]).natAbs∈seen
theorem Bq {seen:List Nat} {q' q:Nat} (h1:q'≤q) (hg:Gap S seen q' q):cO S seen q=cO S seen q':=by
 unfold cO;have e:S.tr.take q=S.tr.take q'++(S.tr.drop q').take (q-q'):=by
  rw[←List.take_append_drop q' (S.tr.take q),List.take_take,Nat.min_eq_left h1,List.drop_take]
 rw[e,List.countP_append];have:((S.tr.drop q').take (q-q')).countP (fun a=>decide (a.natAbs∈seen)&&decide (eH S a=S.lv.length))=0:=by
  rw[List.countP_eq_zero];intro a ha;obtain⟨i,hi,rfl⟩:=List.getElem_of_mem ha;rw[List.length_take,List.length_drop]at hi;have:=hg (q'+i) (by omega) (by omega) (by omega);simp only[List.getElem_take,List.getElem_drop,Bool.and_eq_true,decide_eq_true_eq];exact fun h=>this h.1
 omega
theorem Ii {seen:List Nat} {q:Nat} (h:q<S.tr.length):cO S seen (q+1)=cO S seen q+(if(S.tr[q]).natAbs∈seen∧eH S S.tr[q]=S.lv.length then 1 else 0):=by unfold cO;rw[List.take_add_one,List.getElem?_eq_getElem h,Option.toList_some,List.countP_append,List.countP_singleton];by_cases h1:(S.tr[q]).natAbs∈seen<;>by_cases h2:eH S S.tr[q]=S.lv.length<;>simp[h1,h2]
theorem OX {seen:List Nat} {q' q:Nat} (h1:q'≤q) (hg:Gap S seen q' q) (ho:cO S seen q≠0):0<q':=by
 rw[Bq h1 hg]at ho;cases q' with
 | zero=>simp[cO]at ho
 | succ q'=>omega
theorem Ij {seen:List Nat} {q' q:Nat} (t:Tr n S) (h1:q'+1≤q) (h2:q'<S.tr.length) (hg:Gap S seen (q'+1) q) (ho:cO S seen q≠0) (hs:(S.tr[q']).natAbs∈seen) :
 eH S S.tr[q']=S.lv.length∧cO S seen q=cO S seen q'+1:=by
 rw[Bq h1 hg]at ho ⊢;have hD:eH S S.tr[q']=S.lv.length:=by
  have h3:0<cO S seen (q'+1):=Nat.pos_of_ne_zero ho;unfold cO at h3;rw[List.countP_pos_iff]at h3;obtain⟨a,ha,ha2⟩:=h3;obtain⟨i,hi,hi2,rfl⟩:=iY ha;simp only[Bool.and_eq_true,decide_eq_true_eq]at ha2;have h4:=ha2.2;rw[t.lvl i hi]at h4;rw[t.lvl q' h2];have h5:=OU S.lv (show i≤q' by omega);have h6:=Fj S.lv q';omega
 exact⟨hD,by rw[Ii h2,if_pos ⟨hs,hD⟩]⟩
theorem Ik {seen:List Nat} {q':Nat} (t:Tr n S) (h2:q'<S.tr.length) (hm:q'∈S.lv):cO S seen q'=0:=by
 unfold cO;rw[List.countP_eq_zero];intro a ha;obtain⟨i,hi,hi2,rfl⟩:=iY ha;simp only[Bool.and_eq_true,decide_eq_true_eq];rintro⟨_,h⟩;rw[t.lvl i hi]at h;have h3:lev S.lv i<S.lv.length:=by
  have h4:=Fj S.lv i;refine Nat.lt_of_le_of_ne h4 fun e=> ?_;unfold lev at e;rw[List.countP_eq_length]at e;have:=e q' hm;simp at this;omega
 omega
theorem KY {seen:List Nat} {q':Nat} (r:Rea S) (t:Tr n S) (h2:q'<S.tr.length) (hl:0<S.lv.length) (hD:eH S S.tr[q']=S.lv.length) (ho:cO S seen q'≠0) :
 ∃k,(S.v (S.tr[q']).natAbs).reason=some k∧k<S.nc∧S.tr[q']∈S.cl k∧∀b∈S.cl k,b≠S.tr[q']→-b∈S.tr.take q':=by
 cases hr:(S.v (S.tr[q']).natAbs).reason with
 | none =>
  rcases r.dec q' h2 hr with h | h
  ·rw[t.lvl q' h2]at hD;omega
  ·exact absurd (Ik t h2 h) ho
 | some k=>exact⟨k,rfl,r.rea q' h2 k hr⟩
theorem Der.mono {l l':List Cl} {g g':Cl} (hl:∀c∈l,c∈l') (hg:∀a∈g,a∈g') {a:Int} (h:Der l g a):Der l' g' a:=by
 induction h with
 | start a h=>exact .start a (hg a h)
 | unit c a hc ha _ ih=>exact .unit c a (hl c hc) ha ih
theorem Bad.mono {l l':List Cl} {g g':Cl} (hl:∀c∈l,c∈l') (hg:∀a∈g,a∈g') (h:Bad l g):Bad l' g':=by
 rcases h with⟨c,hc,h⟩ | ⟨a,h1,h2⟩
 ·exact .inl ⟨c,hl c hc,fun b hb=>(h b hb).mono hl hg⟩
 ·exact .inr ⟨a,h1.mono hl hg,h2.mono hl hg⟩
theorem KZ (i : Inv n l d L S) {seen : List Nat} {rest : Cl} (k : LI S seen rest) {q : Nat} (hq : q < S.tr.length) (hs : (S.tr[q]).natAbs ∈ seen) (hD : eH S S.tr[q] = S.lv.length)
 (ho:cO S seen q=0) (hd:∀j,q<j→sK S seen j) {j:Nat} (hj:j<S.nc) (hf:∀b∈S.cl j,-b∈S.tr∧Acc S seen b):Bad (l++S.ln) (zo (-S.tr[q]::rest)):=by
 have h0:∀b:Int,b∈S.tr→eH S b=0→Der (l++S.ln) (zo (-S.tr[q]::rest)) b:=by intro b hb hl;obtain⟨p,hp,rfl⟩:=List.getElem_of_mem hb;rw[i.t.lvl p hp]at hl;exact(i.g.d0 p hp (by omega)).mono (fun _ h=>h) (by simp)
 have key:∀m p,p<m→∀(hp:p<S.tr.length),(S.tr[p]).natAbs∈seen→Der (l++S.ln) (zo (-S.tr[q]::rest)) S.tr[p]:=by
  intro m
  induction m with
  | zero=>intro p h;omega
  | succ m ih =>
   intro p hpm hp hps;by_cases hlt:eH S S.tr[p]<S.lv.length
   ·refine .start _ ?_;have:=k.s3 _ (List.getElem_mem hp) hps hlt;unfold zo;rw[List.mem_map];exact⟨-S.tr[p],List.mem_cons_of_mem _ this,Int.neg_neg _⟩
   ·have hle : eH S S.tr[p] = S.lv.length := by have := (i.t.lev_rng (List.getElem_mem hp)).2;omega
    rcases Nat.lt_trichotomy p q with h | h | h
    ·exfalso;unfold cO at ho;rw[List.countP_eq_zero]at ho;have:=ho S.tr[p] (jU hp h);simp[hps,hle]at this
    ·subst h;refine .start _ ?_;unfold zo;rw[List.mem_map];exact⟨-S.tr[p],List.mem_cons_self,Int.neg_neg _⟩
    ·obtain ⟨c,hc,hc2,hc3⟩ := hd p h hp hps hle;obtain ⟨c',hc',he⟩ := i.g.src c hc;refine .unit c' _ hc' ((he _).1 hc2) fun b hb hne => ?_;obtain ⟨h1,h2⟩ := hc3 b ((he b).2 hb) hne;rcases h2 with h2 | h2
     ·exact h0 _ (List.mem_of_mem_take h1) (by rw[eP];exact h2)
     ·obtain⟨x,hx,hx2,hx3⟩:=iY h1;rw[←hx3];exact ih x (by omega) hx (by rw[hx3,Int.natAbs_neg];exact h2)
 obtain⟨c',hc',he⟩:=i.g.src j hj;refine .inl ⟨c',hc',fun b hb=> ?_⟩;obtain⟨h1,h2⟩:=hf b ((he b).2 hb);rcases h2 with h2 | h2
 ·exact h0 _ h1 (by rw[eP];exact h2)
 ·obtain⟨p,hp,hp2⟩:=List.getElem_of_mem h1;rw[←hp2];exact key (p+1) p (by omega) hp (by rw[hp2,Int.natAbs_neg];exact h2)
structure Lrnt (n : Nat) (l : List Cl) (S : St) (out : Cl) (k : Nat) : Prop where
 bad:Bad (l++S.ln) (zo out)
 nd:(out.map Int.natAbs).Nodup
 rng:∀a∈out,a≠0∧a.natAbs≤n
 fst:∃p rest,out=-p::rest∧p∈S.tr∧eH S p=S.lv.length∧(∀a∈rest,-a∈S.tr∧eH S a≤k)∧((rest=[]∧k=0)∨∃a r,rest=a::r∧eH S a=k)
 klt:k<S.lv.length
theorem Lrnt.new {out:Cl} {k:Nat} (h:Lrnt n l S out k) (i:Inv n l d S.ln S):∀c∈S.ln,¬ ∀a,a∈c↔a∈out:=by
 obtain⟨p,rest,rfl,h1,h2,h3,h4⟩:=h.fst;have hk:=h.klt;have hp:=i.t.rng p h1;intro c hc he;rcases i.lc c hc with⟨a,rfl,ha,hl⟩ | ⟨j,hj,hj2⟩
 ·have:-p∈[a]:=(he _).2 (by simp);have:=List.mem_singleton.1 this;subst this;exact i.t.con h1 ha
 ·have hc2:=i.c.c2 j hj;have hcn:=i.c.cnd j hj;have hw:=i.w j hj;have hm:∀a,a∈S.cl j↔a∈-p::rest:=fun a=>(hj2 a).trans (he a);have hno:∀z∈S.cl j,¬z∈S.tr:=by
   intro z hz hzt;rcases List.mem_cons.1 ((hm z).1 hz)with rfl | hz2
   ·exact i.t.con h1 hzt
   ·exact i.t.con hzt (h3 z hz2).1
  have hlow:∀z∈(S.cl j).take 2,z≠-p→False:=by
   intro z hz hne;have hz2:=(List.mem_cons.1 ((hm z).1 (List.mem_of_mem_take hz))).resolve_left hne;obtain⟨h5,h6⟩:=h3 z hz2;have h7:-z∈S.tr.take S.hd:=by
    have h8:=(i.t.low h5 hk).2 (by rw[eP];exact h6);exact List.take_subset_take_left S.tr (i.t.lvh _ (List.getElem_mem hk)) h8
   obtain⟨y,hy,hy2,_⟩:=hw z hz h7;exact hno y (List.mem_of_mem_take hy) hy2
  rcases hcl:S.cl j with _ | ⟨x,_ | ⟨y,r⟩⟩
  ·rw[hcl]at hc2;simp at hc2
  ·rw[hcl]at hc2;simp at hc2
  ·rw [hcl] at hlow hcn;simp only [List.map_cons,List.nodup_cons,List.mem_cons,not_or] at hcn;by_cases hx : x = -p
   ·exact hlow y (by simp) (fun e=>hcn.1.1 (by rw[hx,e]))
   ·exact hlow x (by simp) hx
def dR (S:St) (c:Cl):St:={S with cl:=upd S.cl S.nc c,nc:=S.nc+1,wt:=fun b=>if b∈c.take 2 then S.wt b++[S.nc]else S.wt b}
theorem gW {c:Cl} {j:Nat} (h:j<S.nc):(dR S c).cl j=S.cl j:=aU (by omega)
theorem iZ {c:Cl}:(dR S c).cl S.nc=c:=aO _ _ _
theorem vK (i:Inv n l d L S) {c:Cl} (h2:2≤c.length) (hn:(c.map Int.natAbs).Nodup) (hr:∀a∈c,a≠0∧a.natAbs≤n) (hs:∃c'∈l++S.ln,∀a,a∈c↔a∈c') :
 Tr n (dR S c)∧Cls n (dR S c)∧Rea (dR S c)∧Nxt n (dR S c)∧Log n l (dR S c)∧Lcv L (dR S c)∧Cov d (dR S c)∧Lvt (dR S c)∧∀j,j<S.nc→Wat S.hd (dR S c) j:=by
 have hnot:∀a,¬S.nc∈S.wt a:=fun a h=>by have:=(i.c.wts a _ h).1;omega
 have old:∀ {j},j<S.nc+1→j≠S.nc→j<S.nc:=fun h h2=>by omega
 refine⟨⟨i.t.nd,i.t.rng,i.t.val,i.t.lvl,i.t.lvs,i.t.lvh,i.t.hdl⟩,⟨?_,?_,?_,?_,?_,?_⟩,⟨?_,i.r.dec⟩,⟨i.x.1,i.x.2⟩,⟨i.g.d0,?_,i.g.rup,i.g.lrg,i.g.lnew⟩,?_,?_,i.lt,?_⟩
 ·intro j hj;by_cases he : j = S.nc
  ·subst he;rw[iZ];exact h2
  ·rw[gW (old hj he)];exact i.c.c2 j (old hj he)
 ·intro j hj;by_cases he : j = S.nc
  ·subst he;rw[iZ];exact hn
  ·rw[gW (old hj he)];exact i.c.cnd j (old hj he)
 ·intro j hj;by_cases he : j = S.nc
  ·subst he;rw[iZ];exact hr
  ·rw[gW (old hj he)];exact i.c.crg j (old hj he)
 ·intro a j hj;have hj:j∈(if a∈c.take 2 then S.wt a++[S.nc]else S.wt a):=hj;show j<S.nc+1∧_;have k:j∈S.wt a→j<S.nc+1∧a∈((dR S c).cl j).take 2:=fun h=>by
   obtain⟨h3,h4⟩:=i.c.wts a j h;exact⟨by omega,by rw[gW h3];exact h4⟩
  split at hj
  ·rename_i h;rcases List.mem_append.1 hj with h3 | h3
   ·exact k h3
   ·rw[List.mem_singleton.1 h3,iZ];exact⟨by omega,h⟩
  ·exact k hj
 ·intro j hj a ha;show j ∈ (if a ∈ c.take 2 then S.wt a ++ [S.nc] else S.wt a);by_cases he : j = S.nc
  ·subst he;rw[iZ]at ha;rw[if_pos ha];simp
  ·rw [gW (old hj he)] at ha;have := i.c.wtc j (old hj he) a ha;split
   ·exact List.mem_append_left _ this
   ·exact this
 ·intro a;show (if a ∈ c.take 2 then S.wt a ++ [S.nc] else S.wt a).Nodup;split
  ·rw[List.nodup_append];refine⟨i.c.wnd a,by simp,fun y hy z hz=> ?_⟩;rw[List.mem_singleton.1 hz];exact fun e=>hnot a (e▸hy)
  ·exact i.c.wnd a
 ·intro p h j hj;obtain⟨h3,h4,h5⟩:=i.r.rea p h j hj;show j<S.nc+1∧_;rw[gW h3];exact⟨by omega,h4,h5⟩
 ·intro j hj;by_cases he : j = S.nc
  ·subst he;rw[iZ];exact hs
  ·rw[gW (old hj he)];exact i.g.src j (old hj he)
 ·intro x hx;rcases i.lc x hx with h | ⟨j,h3,h4⟩
  ·exact .inl h
  ·exact .inr ⟨j,show j<S.nc+1 by omega,by rw[gW h3];exact h4⟩
 ·intro x hx;rcases i.cv x hx with h | h | ⟨j,h3,h4⟩
  ·exact .inl h
  ·exact .inr (.inl h)
  ·exact .inr (.inr ⟨j,show j<S.nc+1 by omega,by rw[gW h3];exact h4⟩)
 ·intro j hj x hx hm;rw[gW hj]at hx ⊢;exact i.w j hj x hx hm
theorem Inv.watch (i : Inv n l d L S) {c : Cl} (h2 : 2 ≤ c.length) (hn : (c.map Int.natAbs).Nodup) (hr : ∀ a ∈ c,a ≠ 0 ∧ a.natAbs ≤ n) (hs : ∃ c' ∈ l ++ S.ln,∀ a,a ∈ c ↔ a ∈ c')
 (hw:Wat S.hd (dR S c) S.nc):Inv n l d L (dR S c):=by
 obtain⟨p1,p2,p3,p4,p5,p6,p7,p8,p9⟩:=vK i h2 hn hr hs;refine⟨p1,p2,p3,p4,p5,p6,p7,p8,fun j hj=> ?_⟩;have hj:j<S.nc+1:=hj;by_cases he:j=S.nc
 ·subst he;exact hw
 ·exact p9 j (by omega)
def lnS (S:St) (out:Cl):St:={S with ln:=S.ln++[out]}
theorem La (i:Inv n l d S.ln S) {out:Cl} {k:Nat} (h:Lrnt n l S out k):Inv n l d S.ln (lnS S out):=by
 have hm:∀c∈l++S.ln,c∈l++(S.ln++[out]):=by intro c hc;rw[←List.append_assoc];exact List.mem_append_left _ hc
 refine⟨⟨i.t.nd,i.t.rng,i.t.val,i.t.lvl,i.t.lvs,i.t.lvh,i.t.hdl⟩,⟨i.c.c2,i.c.cnd,i.c.crg,i.c.wts,i.c.wtc,i.c.wnd⟩,⟨i.r.rea,i.r.dec⟩,⟨i.x.1,i.x.2⟩,⟨?_,?_,?_,?_,?_⟩,i.lc,i.cv,i.lt,i.w⟩
 ·intro p hp hl;exact(i.g.d0 p hp hl).mono hm (by simp)
 ·intro j hj;obtain⟨c,h1,h2⟩:=i.g.src j hj;exact⟨c,hm c h1,h2⟩
 ·intro m hmm;have hmm : m < (S.ln ++ [out]).length := hmm;show Bad (l ++ (S.ln ++ [out]).take m) (zo (S.ln ++ [out])[m]);by_cases he : m < S.ln.length
  ·rw[List.take_append_of_le_length (by omega),List.getElem_append_left he];exact i.g.rup m he
  ·have : m = S.ln.length := by rw [List.length_append,List.length_singleton] at hmm;omega
   subst this;rw[List.take_left,List.getElem_concat_length rfl];exact h.bad
 ·intro c hc;rcases List.mem_append.1 (show c ∈ S.ln ++ [out] from hc) with hc | hc
  ·exact i.g.lrg c hc
  ·rw[List.mem_singleton.1 hc];obtain⟨p,rest,h1,_⟩:=h.fst;exact⟨by rw[h1];simp,h.nd,h.rng⟩
 ·show (S.ln ++ [out]).Pairwise fun c d => ¬ ∀ a,a ∈ c ↔ a ∈ d
  rw[List.pairwise_append];refine⟨i.g.lnew,by simp,fun c hc x hx=> ?_⟩;rw[List.mem_singleton.1 hx];exact h.new i c hc
theorem Bv (i : Inv n l d L S) {k : Nat} (hk : k < S.lv.length) {nx : List (Int × Int)} (hnx : ∀ x ∈ S.nx,x ∈ nx) (hun : ∀ a ∈ S.tr.drop (S.lv.getD k 0),((a.natAbs : Int),(S.v a.natAbs).score) ∈ nx)
 (hr:∀x∈nx,x∈S.nx∨∃a∈S.tr.drop (S.lv.getD k 0),x.1=a.natAbs):Inv n l d L (dV S k nx) :=
 ⟨i.t.backS hk i.lt,i.c.backS,i.r.backS i.t hk,i.x.backS i.t hnx hun hr,i.g.backS i.t hk,i.lc.backS i.t hk,i.cv.backS i.t hk,i.lt.backS i.t hk,fun j hj=>(i.w j hj).backS i.t hk (by rw[iP hk];exact i.t.lvh _ (List.getElem_mem hk))⟩
theorem Fq (i:Inv n l d L S) {c:Cl} (h:(∃a,c=[a]∧a∈S.tr∧eH S a=0)∨∃j,j<S.nc∧∀a,a∈S.cl j↔a∈c):Inv n l d (L++[c]) S :=
 ⟨i.t,i.c,i.r,i.x,i.g,fun x hx=>by
  rcases List.mem_append.1 hx with hx | hx
  ·exact i.lc x hx
  ·rw[List.mem_singleton.1 hx];exact h,i.cv,i.lt,i.w⟩
theorem Bz (i : Inv n l d S.ln S) {out : Cl} {k : Nat} (h : Lrnt n l S out k) {nx : List (Int × Int)} (hnx : ∀ x ∈ S.nx,x ∈ nx) (hun : ∀ a ∈ S.tr.drop (S.lv.getD k 0),((a.natAbs : Int),(S.v a.natAbs).score) ∈ nx)
 (hr:∀x∈nx,x∈S.nx∨∃a∈S.tr.drop (S.lv.getD k 0),x.1=a.natAbs) :
 (∀a,out=[a]→Inv n l d (S.ln++[out]) (jF (dV (lnS S out) k nx) a none)) ∧
 (∀a b r,out=a::b::r→Inv n l d (S.ln++[out]) (jF (dR (dV (lnS S out) k nx) out) a (some S.nc))):=by
 have i1:=La i h;have i2:Inv n l d S.ln (dV (lnS S out) k nx):=Bv i1 h.klt hnx hun hr;have hk:=h.klt;have hbad:=h.bad;have hnd:=h.nd;have hrg:=h.rng;obtain⟨p,rest,he,h1,h2,h3,h4⟩:=h.fst;have hp:=i.t.rng p h1;have hpn:¬p∈S.tr.take (S.lv.getD k 0):=by rw[iP hk];intro hm;have:=(i.t.low h1 hk).1 hm;omega
 have f1:¬ -p∈S.tr.take (S.lv.getD k 0):=fun hm=>i.t.con h1 (List.mem_of_mem_take hm);have f2:¬- -p∈S.tr.take (S.lv.getD k 0):=by rw[Int.neg_neg];exact hpn
 have hout:out∈l++(S.ln++[out]):=by simp
 have hfalse:∀a∈rest,-a∈S.tr.take (S.lv.getD k 0):=by intro a ha;obtain⟨h5,h6⟩:=h3 a ha;rw[iP hk];exact(i.t.low h5 hk).2 (by rw[eP];exact h6)
 refine⟨?_,?_⟩
 ·intro a ha;have hrest : rest = [] := by rw [he] at ha;exact (List.cons.inj ha).2
  have hap:a=-p:=by rw[he]at ha;exact(List.cons.inj ha).1.symm
  have hk0:k=0:=by
   rcases h4 with h4 | ⟨x,r,h4,_⟩
   ·exact h4.2
   ·rw[hrest]at h4;cases h4
  subst hap;have hlv:(dV (lnS S out) k nx).lv=[]:=by
   show S.lv.take k=[];rw[hk0];rfl
  have hder:Der (l++(S.ln++[out])) [] (-p):=by refine .unit out (-p) hout (by rw[ha];simp) fun b hb hne=> ?_;rw[ha]at hb;exact absurd (List.mem_singleton.1 hb) hne
  have i3:=i2.letS (a:=-p) (r:=Option.none) (by omega) (by rw[Int.natAbs_neg];exact hp.2) f1 f2 (fun j hj=>by cases hj) (fun _=>hlv) (fun _=>hder);refine Fq i3 (.inl ⟨-p,ha,?_,?_⟩)
  ·show -p∈(dV (lnS S out) k nx).tr++[-p];simp
  ·rw[tY,hlv];rfl
 ·intro a b r ha;have hap : a = -p := by rw [he] at ha;exact (List.cons.inj ha).1.symm
  have hrest:rest=b::r:=by rw[he]at ha;exact(List.cons.inj ha).2
  subst hap;have hb:eH S b=k:=by
   rcases h4 with h4 | ⟨x,r',h4,h5⟩
   ·rw[hrest]at h4;cases h4.1
   ·rw[hrest]at h4;cases h4;exact h5
  have tt:=i2.t;have hw:Wat (dV (lnS S out) k nx).hd (jF (dR (dV (lnS S out) k nx) out) (-p) (some S.nc)) S.nc:=by
   intro x hx hm;have hx:x∈(upd S.cl S.nc out S.nc).take 2:=hx;have hm:-x∈(S.tr.take (S.lv.getD k 0)++[-p]).take (S.lv.getD k 0):=hm;rw[aO,ha]at hx;simp only[List.take_succ_cons,List.take_zero,List.mem_cons,List.not_mem_nil,or_false]at hx;rw[List.take_append_of_le_length (by rw[List.length_take];have:=i.lt _ (List.getElem_mem hk);rw[iP hk];omega),List.take_take,Nat.min_self]at hm;rcases hx with rfl | rfl
   ·exact absurd hm f2
   ·refine ⟨-p,?_,?_,?_⟩
    ·show -p∈(upd S.cl S.nc out S.nc).take 2;rw[aO,ha];simp
    ·show -p∈S.tr.take (S.lv.getD k 0)++[-p];simp
    ·rw[tY];show((S.lv.take k).length:Int)≤_;have hxp:x.natAbs≠(-p).natAbs:=by
      rw[ha]at hnd;simp only[List.map_cons,List.nodup_cons,List.mem_cons,not_or]at hnd;exact fun e=>hnd.1.1 e.symm
     have e:eH (jF (dR (dV (lnS S out) k nx) out) (-p) (some S.nc)) x=eH S x:=by show((upd _ _ _ x.natAbs:VS)).level=_;rw[aU hxp];exact lI (S:=lnS S out) (k:=k) (nx:=nx)
     rw[e,hb,List.length_take];omega
  obtain⟨p1,p2,p3,p4,p5,p6,p7,p8,p9⟩:=vK i2 (c:=out) (by rw[ha];simp) hnd hrg ⟨out,hout,fun _=>Iff.rfl⟩;have g0:-p≠0:=by omega
  have gn:(-p).natAbs≤n:=by rw[Int.natAbs_neg];exact hp.2
  have hreas:∀j,Option.some S.nc=Option.some j→j<S.nc+1∧-p∈upd S.cl S.nc out j∧∀b∈upd S.cl S.nc out j,b≠-p→-b∈S.tr.take (S.lv.getD k 0):=by intro j hj;cases hj;rw[aO];refine⟨Nat.lt_succ_self _,by rw[ha];simp,?_⟩;intro c hc hne;rw[he]at hc;exact hfalse c ((List.mem_cons.1 hc).resolve_left hne)
  have i4:Inv n l d S.ln (jF (dR (dV (lnS S out) k nx) out) (-p) (some S.nc)):=by
   refine⟨p1.letS g0 gn f1 f2,p2.letS,p3.letS p1 f1 f2 hreas (fun h=>by cases h),p4.letS,p5.letS p1 f1 f2 (fun hl=> ?_),p6.letS p1 f1 f2,p7.letS p1 f1 f2,p8.letS,fun j hj=> ?_⟩
   ·refine .unit out (-p) hout (by rw[ha];simp) fun c hc hne=> ?_;rw[he]at hc;have hc2:=hfalse c ((List.mem_cons.1 hc).resolve_left hne);obtain⟨m,hm,e⟩:=List.getElem_of_mem hc2;have:=p5.d0 m hm (by rw[hl];rfl);rw[←e];exact this
   ·have hj : j < S.nc + 1 := hj;by_cases hje : j = S.nc
    ·subst hje;exact hw
    ·exact(p9 j (by show j<S.nc;omega)).letS p1 p1.hdl f1 f2
  refine Fq i4 (.inr ⟨S.nc,Nat.lt_succ_self _,fun x=> ?_⟩);show x∈upd S.cl S.nc out S.nc↔_;rw[aO]
end
def Il (c:Cl) (v:Nat):Nat:=if(v:Int)∈c then 1 else if -(v:Int)∈c then 2 else 0
def rF (c : Cl) : Nat → Nat
 | 0=>0
 | v+1=>rF c v+3^v*Il c (v+1)
theorem RH (c:Cl) (v:Nat):Il c v<3:=by
 unfold Il;split
 ·omega
 ·split<;>omega
theorem qF (c : Cl) : ∀ n,rF c n < 3 ^ n
 | 0=>by simp[rF]
 | n+1=>by have h1:=qF c n;have h2:=RH c (n+1);unfold rF;rw[Nat.pow_succ];have:3^n*Il c (n+1)≤3^n*2:=Nat.mul_le_mul_left _ (by omega);omega
theorem BA {c d : Cl} : ∀ {n},rF c n = rF d n → ∀ v,1 ≤ v → v ≤ n → Il c v = Il d v
 | 0,_,v,h1,h2=>by omega
 | n+1,h,v,h1,h2=>by
  have l1:=qF c n;have l2:=qF d n;unfold rF at h;have hd:Il c (n+1)=Il d (n+1):=by
   have e1:(rF c n+3^n*Il c (n+1))/3^n=Il c (n+1):=by rw[Nat.add_mul_div_left _ _ (Nat.pow_pos (by omega)),Nat.div_eq_of_lt l1,Nat.zero_add]
   have e2:(rF d n+3^n*Il d (n+1))/3^n=Il d (n+1):=by rw[Nat.add_mul_div_left _ _ (Nat.pow_pos (by omega)),Nat.div_eq_of_lt l2,Nat.zero_add]
   rw[←e1,←e2,h]
  by_cases hv:v=n+1
  ·rw[hv];exact hd
  ·rw[hd]at h;exact BA (n:=n) (by omega) v h1 (by omega)
theorem nX {c d:Cl} {n:Nat} (hc:(c.map Int.natAbs).Nodup) (hr:∀a∈c,a≠0∧a.natAbs≤n) (hd:(d.map Int.natAbs).Nodup) (hr2:∀a∈d,a≠0∧a.natAbs≤n) (h:rF c n=rF d n):∀a,a∈c→a∈d:=by
 intro a ha;obtain⟨h0,hn⟩:=hr a ha;have e:=BA h a.natAbs (by omega) hn;have hno:=vG hc a ha h0;unfold Il at e;rcases show((a.natAbs:Nat):Int)=a∨((a.natAbs:Nat):Int)=-a by omega with h1 | h1
 ·rw [h1,if_pos ha] at e;by_cases h2 : a ∈ d
  ·exact h2
  ·rw[if_neg h2]at e;split at e<;>omega
 ·rw [h1,if_neg hno,Int.neg_neg,if_pos ha] at e;by_cases h2 : -a ∈ d
  ·rw[if_pos h2]at e;omega
  ·rw [if_neg h2] at e;by_cases h3 : a ∈ d
   ·exact h3
   ·rw[if_neg h3]at e;omega
section
variable {n:Nat} {l d L:List Cl} {S:St}
theorem Log.few (g:Log n l S):S.ln.length≤3^n:=by
 have h:=fD (m:=3^n) (l:=S.ln.map fun c=>rF c n) (by
  rw[List.Nodup,List.pairwise_map];refine g.lnew.imp_of_mem fun {a b} ha hb hab e=>hab fun x=> ?_;obtain⟨_,h1,h2⟩:=g.lrg a ha;obtain⟨_,h3,h4⟩:=g.lrg b hb;exact⟨nX h1 h2 h3 h4 e x,nX h3 h4 h1 h2 e.symm x⟩) (by
  intro x hx;obtain⟨c,_,rfl⟩:=List.mem_map.1 hx;exact qF c n)
 simpa using h
theorem Lrnt.few {out:Cl} {k:Nat} (h:Lrnt n l S out k) (i:Inv n l d S.ln S):S.ln.length+1≤3^n:=by
 have:=(La i h).g.few;have e:(lnS S out).ln.length=S.ln.length+1:=by show(S.ln++[out]).length=_;simp
 omega
def jV (n:Nat) (nx:List (Int×Int)):St:={v:=fun _=>⟨0,0,none,0,0⟩,cl:=fun _=>[],nc:=0,wt:=fun _=>[],tr:=[],hd:=0,lv:=[],ln:=[],nx:=nx}
theorem OY (n : Nat) (l : List Cl) {nx : List (Int × Int)} (h1 : ∀ i : Nat,1 ≤ i → i ≤ n → ((i : Int),0) ∈ nx) (h2 : ∀ t ∈ nx,1 ≤ t.1 ∧ t.1 ≤ n) : Inv n l [] [] (jV n nx) where
 t:=⟨by simp[jV],fun a ha=>(by cases ha),fun i hi hn=>(by simp[jV,Du]),fun p hp=>(by simp[jV]at hp),List.Pairwise.nil,fun x hx=>(by cases hx),Nat.le_refl _⟩
 c:=⟨fun j hj=>(by simp[jV]at hj),fun j hj=>(by simp[jV]at hj),fun j hj=>(by simp[jV]at hj),fun a j hj=>(by cases hj),fun j hj=>(by simp[jV]at hj),fun a=>List.nodup_nil⟩
 r:=⟨fun p hp=>(by simp[jV]at hp),fun p hp=>(by simp[jV]at hp)⟩
 x:=⟨fun i hi hn _=>h1 i hi hn,h2⟩
 g:=⟨fun p hp=>(by simp[jV]at hp),fun j hj=>(by simp[jV]at hj),fun k hk=>(by simp[jV]at hk),fun c hc=>(by cases hc),List.Pairwise.nil⟩
 lc:=fun c hc=>by cases hc
 cv:=fun c hc=>by cases hc
 lt:=fun x hx=>by cases hx
 w:=fun j hj=>by simp[jV]at hj
theorem zy (i:Inv n l d L S) {c:Cl} (h:(∃a∈c,-a∈c)∨(∃a∈c,a∈S.tr∧eH S a=0)∨∃j,j<S.nc∧∀a,a∈S.cl j↔a∈c):Inv n l (d++[c]) L S :=
 ⟨i.t,i.c,i.r,i.x,i.g,i.lc,fun x hx=>by
  rcases List.mem_append.1 hx with hx | hx
  ·exact i.cv x hx
  ·rw[List.mem_singleton.1 hx];exact h,i.lt,i.w⟩
def ddp : Cl → Cl → Option Cl
 | e,[]=>some e
 | e,a::c=>if -a∈e then none else if a∈e then ddp e c else ddp (e++[a]) c
theorem zA : ∀ {c e c0 : Cl},(∀ a ∈ e,a ∈ c0) → (∀ a ∈ c,a ∈ c0) → ddp e c = none → ∃ a ∈ c0,-a ∈ c0
 | [],e,c0,_,_,h=>by cases h
 | a::c,e,c0,h1,h2,h=>by
  unfold ddp at h;split at h
  ·rename_i h3;exact⟨a,h2 a (by simp),h1 _ h3⟩
  ·split at h
   ·exact zA h1 (fun x hx=>h2 x (by simp[hx])) h
   ·refine zA (fun x hx => ?_) (fun x hx => h2 x (by simp [hx])) h;rcases List.mem_append.1 hx with hx | hx
    ·exact h1 x hx
    ·rw[List.mem_singleton.1 hx];exact h2 a (by simp)
theorem oG : ∀ {c e e' : Cl},(e.map Int.natAbs).Nodup → (∀ a ∈ c,a ≠ 0) → ddp e c = some e' → (e'.map Int.natAbs).Nodup ∧ ∀ a,a ∈ e' ↔ a ∈ e ∨ a ∈ c
 | [],e,e',hn,_,h=>by cases h;exact⟨hn,by simp⟩
 | a::c,e,e',hn,h0,h=>by
  have h0':∀b∈c,b≠0:=fun b hb=>h0 b (by simp[hb]);unfold ddp at h;split at h
  ·cases h
  ·rename_i h3;split at h
   ·rename_i h4;obtain ⟨h5,h6⟩ := oG hn h0' h;refine ⟨h5,fun x => ?_⟩;rw [h6,List.mem_cons];constructor
    ·rintro (h | h)
     ·exact .inl h
     ·exact .inr (.inr h)
    ·rintro (h | h | h)
     ·exact .inl h
     ·exact .inl (h▸h4)
     ·exact .inr h
   ·rename_i h4;obtain⟨h5,h6⟩:=oG (e:=e++[a]) (by
     rw[List.map_append,List.map_singleton,List.nodup_append];refine⟨hn,by simp,fun x hx y hy=> ?_⟩;obtain⟨b,hb,rfl⟩:=List.mem_map.1 hx;rw[List.mem_singleton.1 hy];intro he;rcases show b=a∨b=-a by omega with rfl | rfl
     ·exact h4 hb
     ·exact h3 hb) h0' h
    refine⟨h5,fun x=> ?_⟩;rw[h6,List.mem_cons,List.mem_append,List.mem_singleton];constructor
    ·rintro ((h | h) | h)
     ·exact .inl h
     ·exact .inr (.inl h)
     ·exact .inr (.inr h)
    ·rintro (h | h | h)
     ·exact .inl (.inl h)
     ·exact .inl (.inr h)
     ·exact .inr h
theorem OZ (i:Inv n l d L S) {c:Cl} (h:ddp [] c=none):Inv n l (d++[c]) L S:=zy i (.inl (zA (by simp) (fun _ h=>h) h))
theorem RI (i:Inv n l d L S) {c e:Cl} (hc:c∈l) (hr:∀a∈c,a≠0∧a.natAbs≤n) (h:ddp [] c=some e) (h2:2≤e.length) (hh:S.hd=0):Inv n l (d++[c]) L (dR S e):=by
 obtain⟨h3,h4⟩:=oG (by simp) (fun a ha=>(hr a ha).1) h;have hm:∀a,a∈e↔a∈c:=fun a=>by rw[h4];simp
 refine zy (i.watch h2 h3 (fun a ha=>hr a ((hm a).1 ha)) ⟨c,List.mem_append_left _ hc,hm⟩ ?_) (.inr (.inr ⟨S.nc,Nat.lt_succ_self _,fun a=>by rw[iZ];exact hm a⟩));intro x hx hx2;rw[hh]at hx2;simp at hx2
theorem Eg {c:Cl} {a:Int} (hr:∀a∈c,a≠0∧a.natAbs≤n) (h:ddp [] c=some [a]):∀b,b∈c↔b=a:=by obtain⟨h3,h4⟩:=oG (by simp) (fun a ha=>(hr a ha).1) h;intro b;have:=h4 b;simp at this;exact this.symm
theorem RJ (i:Inv n l d L S) {c:Cl} {a:Int} (hc:c∈l) (hr:∀a∈c,a≠0∧a.natAbs≤n) (h:ddp [] c=some [a]) (hl:S.lv=[]) (h1:¬a∈S.tr) (h2:¬ -a∈S.tr):Inv n l (d++[c]) L (jF S a none):=by
 have hm:=Eg hr h;obtain⟨h3,h4⟩:=hr a ((hm a).2 rfl);refine zy (i.letS h3 h4 h1 h2 (fun j hj=>by cases hj) (fun _=>hl) fun _=> .unit c a (List.mem_append_left _ hc) ((hm a).2 rfl) fun b hb hne=>absurd ((hm b).1 hb) hne) (.inr (.inl ⟨a,(hm a).2 rfl,?_,?_⟩))
 ·show a∈S.tr++[a];simp
 ·rw[tY,hl];rfl
theorem RN (i:Inv n l d L S) {c:Cl} {a:Int} (hr:∀a∈c,a≠0∧a.natAbs≤n) (h:ddp [] c=some [a]) (hl:S.lv=[]) (h1:a∈S.tr):Inv n l (d++[c]) L S:=by have hm:=Eg hr h;refine zy i (.inr (.inl ⟨a,(hm a).2 rfl,h1,?_⟩));have:=i.t.lev_rng h1;rw[hl]at this;simp at this;omega
theorem BB {c:Cl} (hr:∀a∈c,a≠0∧a.natAbs≤n) (hc:c∈l) (h:ddp [] c=some []):Bad (l++S.ln) []:=by obtain⟨_,h4⟩:=oG (by simp) (fun a ha=>(hr a ha).1) h;refine .inl ⟨c,List.mem_append_left _ hc,fun b hb=> ?_⟩;have:=(h4 b).2 (.inr hb);cases this
theorem RP (i:Inv n l d L S) {c:Cl} {a:Int} (hc:c∈l) (hr:∀a∈c,a≠0∧a.natAbs≤n) (h:ddp [] c=some [a]) (hl:S.lv=[]) (h1:-a∈S.tr):Bad (l++S.ln) []:=by have hm:=Eg hr h;refine .inl ⟨c,List.mem_append_left _ hc,fun b hb=> ?_⟩;rw[(hm b).1 hb];obtain⟨p,hp,e⟩:=List.getElem_of_mem h1;rw[←e];exact i.g.d0 p hp (by rw[hl];rfl)
def nxS (S:St) (nx:List (Int×Int)):St:={S with nx:=nx}
theorem Qx (i:Inv n l d L S) {nx:List (Int×Int)} (h1:∀k,1≤k→k≤n→(S.v k).value=0→((k:Int),(S.v k).score)∈nx) (h2:∀t∈nx,1≤t.1∧t.1≤n):Inv n l d L (nxS S nx) :=
 ⟨⟨i.t.nd,i.t.rng,i.t.val,i.t.lvl,i.t.lvs,i.t.lvh,i.t.hdl⟩,⟨i.c.c2,i.c.cnd,i.c.crg,i.c.wts,i.c.wtc,i.c.wnd⟩,⟨i.r.rea,i.r.dec⟩,⟨h1,h2⟩,⟨i.g.d0,i.g.src,i.g.rup,i.g.lrg,i.g.lnew⟩,i.lc,i.cv,i.lt,i.w⟩
def rG (S:St) (k:Nat) (s:Int):St:={S with v:=upd S.v k {S.v k with score:=s}}
theorem mP {k:Nat} {s:Int} (i:Nat):((rG S k s).v i).value=(S.v i).value∧((rG S k s).v i).level=(S.v i).level∧((rG S k s).v i).reason=(S.v i).reason∧((rG S k s).v i).last=(S.v i).last:=by
 unfold rG upd;dsimp only;split
 ·rename_i h;subst h;exact⟨rfl,rfl,rfl,rfl⟩
 ·exact⟨rfl,rfl,rfl,rfl⟩
theorem lJ {k:Nat} {s a:Int}:eH (rG S k s) a=eH S a:=(mP _).2.1
theorem O0 (i:Inv n l d L S) {k:Nat} {s:Int} (hk:1≤k∧k≤n) (hv:(S.v k).value≠0):Inv n l d L (rG S k s):=by
 refine⟨⟨i.t.nd,i.t.rng,fun j h1 h2=>((mP j).1).trans (i.t.val j h1 h2),fun p hp=>lJ.trans (i.t.lvl p hp),i.t.lvs,i.t.lvh,i.t.hdl⟩,⟨i.c.c2,i.c.cnd,i.c.crg,i.c.wts,i.c.wtc,i.c.wnd⟩,
  ⟨fun p hp j hj=>i.r.rea p hp j (((mP _).2.2.1).symm.trans hj),fun p hp hj=>i.r.dec p hp (((mP _).2.2.1).symm.trans hj)⟩,⟨fun j h1 h2 hz=> ?_,i.x.2⟩,⟨i.g.d0,i.g.src,i.g.rup,i.g.lrg,i.g.lnew⟩,?_,?_,i.lt,?_⟩
 ·have hz':(S.v j).value=0:=((mP j).1).symm.trans hz;have hne:j≠k:=fun e=>hv (e▸hz');show((j:Int),(upd S.v k _ j).score)∈S.nx;rw[aU hne];exact i.x.all j h1 h2 hz'
 ·intro c hc;rcases i.lc c hc with ⟨a,h1,h2,h3⟩ | h
  ·exact .inl ⟨a,h1,h2,lJ.trans h3⟩
  ·exact .inr h
 ·intro c hc;rcases i.cv c hc with h | ⟨a,h1,h2,h3⟩ | h
  ·exact .inl h
  ·exact .inr (.inl ⟨a,h1,h2,lJ.trans h3⟩)
  ·exact .inr (.inr h)
 ·intro j hj x hx hm;obtain⟨y,h1,h2,h3⟩:=i.w j hj x hx hm;exact⟨y,h1,h2,by rw[lJ,lJ];exact h3⟩
end
def TW (nt : Int) : Cl → Cl
 | x::y::r=>if x=nt then y::x::r else x::y::r
 | c=>c
theorem Fv (S:St) (j:Nat):swS S j (S.cl j)=S:=by
 have:upd S.cl j (S.cl j)=S.cl:=funext fun q=>by
  by_cases he:q=j
  ·subst he;rw[aO]
  ·rw[aU he]
 show {S with cl:=upd S.cl j (S.cl j),wt:=S.wt}=S;rw[this]
structure PI (n : Nat) (l d L : List Cl) (S : St) (nt : Int) (K R : List Nat) : Prop where
 i:Inv n l d L S
 h:S.hd<S.tr.length
 e:S.tr[S.hd]=-nt
 wt:S.wt nt=K++R
 dn:∀j,j<S.nc→¬j∈R→Wat (S.hd+1) S j
structure Pr (S S' : St) : Prop where
 lv:S'.lv=S.lv
 nx:S'.nx=S.nx
 ln:S'.ln=S.ln
 nc:S'.nc=S.nc
theorem Pr.refl (S:St):Pr S S:=⟨rfl,rfl,rfl,rfl⟩
theorem Pr.trans {A B C:St} (p:Pr A B) (q:Pr B C):Pr A C:=⟨q.lv.trans p.lv,q.nx.trans p.nx,q.ln.trans p.ln,q.nc.trans p.nc⟩
section
variable {n:Nat} {l d L:List Cl} {S:St} {nt u:Int} {K R:List Nat} {j:Nat} {r:Cl}
theorem PI.start (i:Inv n l d L S) (h:S.hd<S.tr.length):PI n l d L S (-S.tr[S.hd]) [] (S.wt (-S.tr[S.hd])) :=
 ⟨i,h,by omega,rfl,fun j hj hn=>KX h (by omega) (i.w j hj) fun hm=>hn (i.c.wtc j hj _ hm)⟩
theorem PI.mem (p:PI n l d L S nt K (j::R)):j<S.nc∧nt∈(S.cl j).take 2∧¬j∈K∧¬j∈R:=by
 have hm:j∈S.wt nt:=by rw[p.wt];simp
 have hn:=p.i.c.wnd nt;rw[p.wt,List.nodup_append]at hn;refine⟨(p.i.c.wts nt j hm).1,(p.i.c.wts nt j hm).2,fun hk=>hn.2.2 j hk j (by simp) rfl,fun hr=> ?_⟩;exact(List.nodup_cons.1 hn.2.1).1 hr
theorem PI.shape (p:PI n l d L S nt K (j::R)):∃u r,TW nt (S.cl j)=u::nt::r∧PI n l d L (swS S j (u::nt::r)) nt K (j::R):=by
 obtain⟨hj,hm,_⟩:=p.mem;obtain⟨x,y,r0,ec⟩:∃x y r0,S.cl j=x::y::r0:=by
  have:=p.i.c.c2 j hj
  match h:S.cl j,this with
  | x::y::r0,_=>exact⟨x,y,r0,rfl⟩
 by_cases hx:x=nt
 ·subst hx;refine⟨y,r0,by rw[ec];exact if_pos rfl,p.i.swS ec,p.h,p.e,p.wt,fun q hq hn=>(p.dn q hq hn).two fun a=>zu ec q a⟩
 ·have hy:y=nt:=by
   rw[ec]at hm;simp only[List.take_succ_cons,List.take_zero,List.mem_cons,List.not_mem_nil,or_false]at hm;rcases hm with hm | hm
   ·exact absurd hm.symm hx
   ·exact hm.symm
  subst hy;refine⟨x,r0,by rw[ec];exact if_neg hx,?_⟩;rw[←ec,Fv];exact p
theorem PI.stay (p:PI n l d L S nt K (j::R)) (hc:S.cl j=u::nt::r) (hu:u∈S.tr):PI n l d L S nt (K++[j]) R :=
 ⟨p.i,p.h,p.e,by rw[p.wt];simp,fun q hq hn=>by
  by_cases he:q=j
  ·subst he;exact Bl p.i.t p.h hc p.e hu
  ·exact p.dn q hq (by simp[he,hn])⟩
theorem PI.move (p:PI n l d L S nt K (j::R)) (hc:S.cl j=u::nt::r) {k:Nat} (hk:k<r.length) (hx:¬u∈S.tr) (ha:¬ -r[k]∈S.tr):PI n l d L (mvS S j nt r[k] (u::r[k]::r.set k nt)) nt K R:=by
 obtain⟨hj,hm,hK,hR⟩:=p.mem;obtain⟨a,ea⟩:∃a,a=r[k]:=⟨_,rfl⟩;rw[←ea]at ha ⊢;have e1:r=r.take k++a::r.drop (k+1):=by rw[ea,List.getElem_cons_drop,List.take_append_drop]
 have e2:r.set k nt=r.take k++nt::r.drop (k+1):=by rw[List.set_eq_take_append_cons_drop,if_pos hk]
 rw[e2];have hc':S.cl j=u::nt::(r.take k++a::r.drop (k+1)):=by rw[←e1];exact hc
 have hnd:=p.i.c.cnd j hj;rw[hc']at hnd;obtain⟨n1,n2,n3⟩:=UN hnd;have hw:=OW p.i.t p.h hc' n1 p.e (p.i.w j hj) hx ha;refine⟨p.i.mvS hj hc' (hw.weak (Nat.le_succ _)),p.h,p.e,?_,fun q hq hn=> ?_⟩
 ·show(if nt=nt then(S.wt nt).erase j else _)=_;rw[if_pos rfl,p.wt,List.erase_append_right _ hK,List.erase_cons_head]
 ·by_cases he : q = j
  ·subst he;exact hw
  ·exact(p.dn q hq (by simp[he,hn])).two fun b=>by rw[aU he]
theorem PI.lets (p:PI n l d L S nt K (j::R)) (hc:S.cl j=u::nt::r) (h1:¬u∈S.tr) (h2:¬ -u∈S.tr) (ha:∀b∈r,-b∈S.tr):PI n l d L (jF S u (some j)) nt (K++[j]) R:=by
 obtain⟨hj,hm,hK,hR⟩:=p.mem;obtain⟨u0,un⟩:=p.i.c.crg j hj u (by rw[hc];simp);have hnt:-nt∈S.tr:=by rw[←p.e];exact List.getElem_mem p.h
 have i2:Inv n l d L (jF S u (some j)):=p.i.letS u0 un h1 h2 (fun q hq=>by
  cases hq;refine⟨hj,by rw[hc];simp,fun b hb hne=> ?_⟩;rw[hc]at hb;simp only[List.mem_cons]at hb;rcases hb with hb | hb | hb
  ·exact absurd hb hne
  ·rw[hb];exact hnt
  ·exact ha b hb) (fun h=>by cases h) (fun h=>by cases h)
 have hh:(jF S u (some j)).hd<(jF S u (some j)).tr.length:=by show S.hd<(S.tr++[u]).length;rw[List.length_append];have:=p.h;omega
 have he:(jF S u (some j)).tr[(jF S u (some j)).hd]=-nt:=by exact(List.getElem_append_left p.h).trans p.e
 refine⟨i2,hh,he,by show S.wt nt=_;rw[p.wt];simp,fun q hq hn=> ?_⟩;by_cases hqj:q=j
 ·subst hqj;exact Bl i2.t hh hc he (by show u∈S.tr++[u];simp)
 ·exact(p.dn q hq (by simp[hqj,hn])).letS p.i.t p.h h1 h2
theorem PI.done (p:PI n l d L S nt K []):Inv n l d L (Ef S):=p.i.nextS p.h fun j hj=>p.dn j hj (by simp)
end
structure Sco (S S' : St) : Prop where
 cl:S'.cl=S.cl
 nc:S'.nc=S.nc
 wt:S'.wt=S.wt
 tr:S'.tr=S.tr
 hd:S'.hd=S.hd
 lv:S'.lv=S.lv
 ln:S'.ln=S.ln
 nx:S'.nx=S.nx
 value:∀i,(S'.v i).value=(S.v i).value
 level:∀i,(S'.v i).level=(S.v i).level
 reason:∀i,(S'.v i).reason=(S.v i).reason
theorem Sco.refl (S:St):Sco S S:=⟨rfl,rfl,rfl,rfl,rfl,rfl,rfl,rfl,fun _=>rfl,fun _=>rfl,fun _=>rfl⟩
section
variable {n:Nat} {l d L:List Cl} {S S':St}
theorem Sco.bump (h:Sco S S') (k:Nat) (s:Int):Sco S (rG S' k s) :=
 ⟨h.cl,h.nc,h.wt,h.tr,h.hd,h.lv,h.ln,h.nx,fun i=>(mP i).1.trans (h.value i),fun i=>(mP i).2.1.trans (h.level i),fun i=>(mP i).2.2.1.trans (h.reason i)⟩
theorem Sco.llev (h:Sco S S') (a:Int):eH S' a=eH S a:=h.level _
theorem Lrnt.sco {out:Cl} {k:Nat} (h:Lrnt n l S out k) (q:Sco S S'):Lrnt n l S' out k:=by
 refine⟨by rw[q.ln];exact h.bad,h.nd,h.rng,?_,by rw[q.lv];exact h.klt⟩;obtain⟨p,rest,h1,h2,h3,h4,h5⟩:=h.fst;refine⟨p,rest,h1,by rw[q.tr];exact h2,by rw[q.llev,q.lv];exact h3,fun a ha=>⟨by rw[q.tr];exact(h4 a ha).1,by rw[q.llev];exact(h4 a ha).2⟩,?_⟩;rcases h5 with h5 | ⟨a,r,h5,h6⟩
 ·exact .inl h5
 ·exact .inr ⟨a,r,h5,by rw[q.llev];exact h6⟩
theorem Ld (i : Inv n l d L S) {seen : List Nat} {rest rest' : Cl} (k : LI S seen rest) {q : Nat} (hq : q < S.tr.length) (hs : (S.tr[q]).natAbs ∈ seen) (hD : Go.Proofs.YtmlacppmbfbjgaaGreatDoor.eH S S.tr[q] = S.lv.length)
 (hb:Bad (l++S.ln) (zo (-S.tr[q]::rest))) (hp:rest'.Perm rest) {m:Nat} (hm:(rest'=[]∧m=0)∨∃a r,rest'=a::r∧Go.Proofs.YtmlacppmbfbjgaaGreatDoor.eH S a=m) (hmax:∀a∈rest',Go.Proofs.YtmlacppmbfbjgaaGreatDoor.eH S a≤m) (hlv:0<S.lv.length)
 (hbad:Bad (l++S.ln) (zo (-S.tr[q]::rest'))):Lrnt n l S (-S.tr[q]::rest') m where
 bad:=hbad
 nd:=by
  rw[List.map_cons,List.nodup_cons];refine⟨fun hx=> ?_,(hp.map _).nodup_iff.2 k.rn⟩;obtain⟨b,hb1,hb2⟩:=List.mem_map.1 hx;obtain⟨h1,h2,h3,h4⟩:=k.s2 b (hp.mem_iff.1 hb1);have h5:-b=S.tr[q]:=qB i.t.nd (-b) h1 _ (List.getElem_mem hq) (by rw[Int.natAbs_neg,hb2,Int.natAbs_neg]);rw[←h5,eP]at hD;omega
 rng a ha:=by
  rcases List.mem_cons.1 ha with rfl | ha
  ·have:=i.t.rng _ (List.getElem_mem hq);omega
  ·have:=i.t.rng _ (k.s2 a (hp.mem_iff.1 ha)).1;omega
 fst:=⟨S.tr[q],rest',rfl,List.getElem_mem hq,hD,fun a ha=>⟨(k.s2 a (hp.mem_iff.1 ha)).1,hmax a ha⟩,hm⟩
 klt:=by
  rcases hm with⟨_,rfl⟩ | ⟨a,r,h1,h2⟩
  ·exact hlv
  ·have:=(k.s2 a (hp.mem_iff.1 (by rw[h1];simp))).2.2.1;omega
end
end Go.Proofs.YtmlacppmbfbjgaaGreatDoor
