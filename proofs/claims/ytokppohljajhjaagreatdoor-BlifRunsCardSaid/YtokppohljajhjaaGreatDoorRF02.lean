/- Lemmas for this claim, part F02: each holds under what it names. -/
import Derived.Test.YtokppohljajhjaaGreatDoorRF01
import Derived.Shelf.Strings.Count
import Derived.Shelf.Strings.LastIndex
import Derived.Shelf.Small.Strs
import Derived.Shelf.Strings.Repeat
import Derived.Shelf.Strings.SlTrimAscii
import Derived.Shelf.Strings.IndexAnyAll
import Derived.Shelf.Strings.Search3
set_option linter.all false
set_option maxRecDepth 20000
namespace Go.Proofs.YtokppohljajhjaaGreatDoor
open Go Go.Proofs Go.Abs
def di(c:Ci):List S:=c.ins++c.lat.map (·.name)++c.gates.map (·.name)
def gz(c:Ci):List S:=c.outs++c.lat.map (·.next)++c.gates.flatMap (·.ins)
def iD(c:Ci):List S:=c.ins++c.outs++c.lat.flatMap (fun q=>[q.name,q.next])++c.gates.flatMap (fun g=>g.name::g.ins)
def VB(c:UInt8):Bool:=c==48||c==49||c==45
def iW(n:Nat)(s:S):Bool:=s.length==n&&s.all VB
def fB(g:Ga):Bool:=(g.op==10||(g.rows.isEmpty&& !g.off))&&(uX g.op g.ins.length&&(decide (g.rows.length<=128)&&g.rows.all (iW g.ins.length)))
def yE(g:Ga):Bool:=decide (8<g.ins.length)||decide (128<g.rows.length)
def Pm(c:Ci):Bool:=decide (c.ins.length+c.lat.length+c.gates.length<=200)&&(decide (c.outs.length<=200)&& !c.gates.any yE)
def yF:List S->List S->Option S
 |_,[]=>none
 |seen,s::l=>if seen.contains s=true then some s else yF (seen++[s]) l
def nT(q:La):Bool:=decide (0<=q.init)&&decide (q.init<=2)
def lQ(c:Ci):Int×S :=
 if Pm c=false then(8,[])else
 match (iD c).find? (fun s=> !aT s)with
 |some s=>(4,s)
 |none=>match yF [] (di c)with
  |some s=>(5,s)
  |none=>match yF [] c.outs with
   |some s=>(5,s)
   |none=>match c.lat.find? (fun q=> !nT q)with
    |some q=>(1,q.name)
    |none=>match c.gates.find? (fun g=> !fB g)with
     |some g=>(1,g.name)
     |none=>match (gz c).find? (fun s=> !(di c).contains s)with
      |some s=>(6,s)
      |none=>(0,[])
structure NetOk(c:Ci):Prop where
 lim:Pm c=true
 told:∀s∈iD c,aT s=true
 nets:yF [] (di c)=none
 outs:yF [] c.outs=none
 lat:∀q∈c.lat,nT q=true
 gates:∀g∈c.gates,fB g=true
 used:∀s∈gz c,(di c).contains s=true
theorem sO(c:Ci):(lQ c).1=0↔NetOk c:=by
 unfold lQ;constructor
 ·intro h;split at h
  ·cases h
  ·rename_i h1;split at h
   ·cases h
   ·rename_i h2;split at h
    ·cases h
    ·rename_i h3;split at h
     ·cases h
     ·rename_i h4;split at h
      ·cases h
      ·rename_i h5;split at h
       ·cases h
       ·rename_i h6;split at h
        ·cases h
        ·rename_i h7;rw[List.find?_eq_none]at h2 h5 h6 h7;exact⟨by simpa using h1,fun s hs=>by simpa using h2 s hs,h3,h4,fun q hq=>by simpa using h5 q hq,fun g hg=>by simpa using h6 g hg,fun s hs=>by simpa using h7 s hs⟩
 ·intro h;have e2:(iD c).find? (fun s=> !aT s)=none:=by rw[List.find?_eq_none];intro s hs;simp[h.told s hs]
  have e5:c.lat.find? (fun q=> !nT q)=none:=by rw[List.find?_eq_none];intro q hq;simp[h.lat q hq]
  have e6:c.gates.find? (fun g=> !fB g)=none:=by rw[List.find?_eq_none];intro g hg;simp[h.gates g hg]
  have e7:(gz c).find? (fun s=> !(di c).contains s)=none:=by rw[List.find?_eq_none];intro s hs;have h7:=h.used s hs;simp at h7;simp[h7]
  rw[if_neg (by rw[h.lim];decide),e2,h.nets,h.outs,e5,e6,e7]
theorem dV{g:Ga}(h:fB g=true):GOk g/\g.rows.length<=128/\∀r∈g.rows,iW g.ins.length r=true:=by unfold fB at h;simp only[zqf,Bool.or_eq_true,beq_iff_eq,List.isEmpty_iff,Bool.not_eq_true',zqb,zrs]at h;obtain⟨h1,h2,h3,h4⟩:=h;exact⟨⟨h2,fun hn=>h1.resolve_left hn⟩,h3,h4⟩
theorem Pn{g:Ga}(h:GOk g)(h2:g.rows.length<=128)(h3:∀r∈g.rows,iW g.ins.length r=true):fB g=true:=by unfold fB;simp only[zqf,Bool.or_eq_true,beq_iff_eq,List.isEmpty_iff,Bool.not_eq_true',zqb,zrs];exact⟨Decidable.or_iff_not_imp_left.2 h.r,h.h,h2,h3⟩
theorem IV(g:Ga):(aU g).rows=[]\/(aU g).rows=g.rows:=by
 have h1:(gY g).rows=g.rows:=by
  unfold gY
  repeat' split
  all_goals rfl
 unfold aU;split
 ·exact .inr h1
 ·split
  ·exact .inl rfl
  ·exact .inr h1
theorem iY{g:Ga}(h:fB g=true):fB (aK g)=true:=by
 obtain⟨g1,g2,g3⟩:=dV h;obtain⟨c1,c2,c3⟩:=nS g1;obtain⟨p1,p2,p3,_⟩:=gy g1;have hr:(aK g).rows.length<=128/\∀r∈(aK g).rows,iW g.ins.length r=true:=by
  have key:∀g':Ga,g'.rows.length<=128->(∀r∈g'.rows,iW g.ins.length r=true)->(aU g').rows.length<=128/\∀r∈(aU g').rows,iW g.ins.length r=true:=by
   intro g' a1 a2;rcases IV g' with e|e<;>rw[e]
   ·exact⟨by simp,by simp⟩
   ·exact⟨a1,a2⟩
  unfold aK;refine key _ ?_ ?_
  ·split
   ·show [_].length<=128;simp
   ·exact(key g g2 g3).1
  ·split
   ·intro r hr;have hr:r∈[List.replicate (aU g).ins.length 45]:=hr;rw[zrc.1 hr,c2];unfold iW;rw[zsc,zqf,beq_iff_eq,zrs];refine⟨rfl,fun x hx=> ?_⟩;rw[(List.mem_replicate.1 hx).2];rfl
   ·exact(key g g2 g3).2
 exact Pn ⟨p1.h,p1.r⟩ hr.1 (by rw[p2];exact hr.2)
def gG(c:Ci):Ci:={c with gates:=c.gates.map aK}
theorem wL{l:List Ga}(h:∀g∈l,fB g=true):(l.map aK).map (·.name)=l.map (·.name)/\(l.map aK).flatMap (·.ins)=l.flatMap (·.ins)/\(l.map aK).flatMap (fun g=>g.name::g.ins)=l.flatMap (fun g=>g.name::g.ins)/\(l.map aK).map (·.ins)=l.map (·.ins):=by
 induction l with
 |nil=>exact⟨rfl,rfl,rfl,rfl⟩
 |cons g l ih=>obtain⟨i1,i2,i3,i4⟩:=ih fun x hx=>h x (by simp[hx]);obtain⟨_,p2,p3,_⟩:=gy (dV (h g (by simp))).1;simp only[zrd,List.flatMap_cons,i1,i2,i3,i4,p2,p3,and_self]
theorem Cj{c:Ci}(h:NetOk c):NetOk (gG c):=by
 obtain⟨m1,m2,m3,m4⟩:=wL h.gates;have n1:di (gG c)=di c:=by unfold di gG;rw[m1]
 have n2:gz (gG c)=gz c:=by unfold gz gG;rw[m2]
 have n3:iD (gG c)=iD c:=by unfold iD gG;rw[m3]
 refine⟨?_,by rw[n3];exact h.told,by rw[n1];exact h.nets,h.outs,h.lat,?_,by rw[n2,n1];exact h.used⟩
 ·have hl:=h.lim;unfold Pm at hl ⊢;simp only[zqf,zqb,Bool.not_eq_true',List.any_eq_false]at hl ⊢;obtain⟨l1,l2,l3⟩:=hl;refine⟨by show c.ins.length+c.lat.length+(c.gates.map aK).length<=200;rw[zra];exact l1,l2,fun g hg=> ?_⟩;obtain⟨g0,hg0,rfl⟩:=zrh.1 hg;obtain⟨_,p2,p3,_⟩:=gy (dV (h.gates g0 hg0)).1;have hp:=dV (iY (h.gates g0 hg0));have:=l3 g0 hg0;unfold yE at this ⊢;simp only[Bool.or_eq_true,zqb,not_or,Nat.not_lt]at this ⊢;rw[p2];exact⟨this.1,hp.2.1⟩
 ·intro g hg;obtain⟨g0,hg0,rfl⟩:=zrh.1 hg;exact iY (h.gates g0 hg0)
def oW(l:List Nat)(i j:Nat):List Nat:=(l.set i (l.getD j 0)).set j (l.getD i 0)
def upP:Nat->List Nat->Nat->List Nat
 |0,l,_=>l
 |f+1,l,j=>if j=0\/¬(l.getD j 0<l.getD ((j-1)/2) 0)then l else upP f (oW l ((j-1)/2) j) ((j-1)/2)
def Gq(l:List Nat)(i n:Nat):Nat:=if 2*i+2<n/\l.getD (2*i+2) 0<l.getD (2*i+1) 0 then 2*i+2 else 2*i+1
def zW:Nat->List Nat->Nat->Nat->List Nat
 |0,l,_,_=>l
 |f+1,l,i,n=>if n<=2*i+1\/¬(l.getD (Gq l i n) 0<l.getD i 0)then l else zW f (oW l i (Gq l i n)) (Gq l i n) n
def Cm(l:List Nat)(x:Nat):List Nat:=upP (l.length+1) (l++[x]) l.length
def mZ(l:List Nat):List Nat:=zW l.length (oW l 0 (l.length-1)) 0 (l.length-1)
theorem gV(l:List Nat)(i j:Nat):(oW l i j).length=l.length:=by simp[oW]
theorem wM{l:List Nat}{i j:Nat}(hi:i<l.length)(hj:j<l.length):(oW l i j).Perm l:=by unfold oW;rw[zqg,zqg,zqk hi,zqk hj];exact List.set_set_perm hi hj
theorem LQ:∀(f:Nat) {l:List Nat} {j:Nat},j<l.length->(upP f l j).Perm l
 |0,_,_,_=>List.Perm.refl _
 |f+1,l,j,h=>by
  unfold upP;split
  ·exact List.Perm.refl _
  ·exact(LQ f (by rw[gV];omega)).trans (wM (by omega) h)
theorem UY{l:List Nat}{i n:Nat}(h:2*i+1<n):Gq l i n<n/\i<Gq l i n/\2*i+1<=Gq l i n/\Gq l i n<=2*i+2:=by unfold Gq;split<;>omega
theorem CB:∀(f:Nat) {l:List Nat} {i n:Nat},n<=l.length->(zW f l i n).Perm l
 |0,_,_,_,_=>List.Perm.refl _
 |f+1,l,i,n,h=>by
  unfold zW;split
  ·exact List.Perm.refl _
  ·rename_i hc;have:=UY (l:=l) (i:=i) (n:=n) (by omega);exact(CB f (by rw[gV];exact h)).trans (wM (by omega) (by omega))
theorem nU(l:List Nat)(x:Nat):(Cm l x).Perm (l++[x]):=LQ _ (by simp)
theorem Gs{l:List Nat}(h:l≠[]):(mZ l).Perm l:=by have:0<l.length:=List.length_pos_iff.2 h;exact(CB _ (by rw[gV];omega)).trans (wM this (by omega))
theorem Gt(l:List Nat)(x:Nat):(Cm l x).length=l.length+1:=by rw[(nU l x).length_eq];simp
theorem LU{l:List Nat}(h:l≠[]):(mZ l).length=l.length:=(Gs h).length_eq
def wO(names:List S)(s:S):Option Nat:=names.findIdx? (·==s)
def jO(names:List S)(i:Nat):List S->List (List Nat)×List (List Nat)->List (List Nat)×List (List Nat)
 |[],x=>x
 |s::l,(N,B)=>match wO names s with
  |some k=>if(N.getD i []).contains k=true then jO names i l (N,B)else jO names i l (N.set i (N.getD i []++[k]),B.set k (B.getD k []++[i]))
  |none=>jO names i l (N,B)
def kN(names:List S):Nat->List (List S)->List (List Nat)×List (List Nat)->List (List Nat)×List (List Nat)
 |_,[],x=>x
 |i,l::r,x=>kN names (i+1) r (jO names i l x)
def uH(names:List S)(ins:List (List S)):List (List Nat)×List (List Nat):=kN names 0 ins (List.replicate ins.length [],List.replicate ins.length [])
def uI(N:List (List Nat)):List Nat->List Nat->List Nat
 |[],Q=>Q
 |i::r,Q=>uI N r (if(N.getD i []).isEmpty=true then Cm Q i else Q)
def uJ(at':Nat):List Nat->List (List Nat)×List Nat->List (List Nat)×List Nat
 |[],x=>x
 |i::r,(N,Q)=>uJ at' r (N.set i ((N.getD i []).filter (· != at')),if((N.getD i []).filter (· != at')).isEmpty=true then Cm Q i else Q)
def qP(B:List (List Nat)):Nat->List (List Nat)->List Nat->List Nat
 |0,_,_=>[]
 | f + 1,N,Q => if Q.isEmpty = true then [] else
  (mZ Q).getLastD 0::qP B f (uJ ((mZ Q).getLastD 0) (B.getD ((mZ Q).getLastD 0) []) (N,(mZ Q).dropLast)).1 (uJ ((mZ Q).getLastD 0) (B.getD ((mZ Q).getLastD 0) []) (N,(mZ Q).dropLast)).2
def zX(names:List S)(ins:List (List S)):List Nat:=qP (uH names ins).2 ins.length (uH names ins).1 (uI (uH names ins).1 (List.range ins.length) [])
def CE(names:List S)(ins:List (List S)):List S:=((List.range names.length).filter fun i=> !(zX names ins).contains i).map fun i=>names.getD i []
def mi(c:Ci):List Nat×List S:=if(lQ c).1=0 then(zX (c.gates.map (·.name)) (c.gates.map (·.ins)),CE (c.gates.map (·.name)) (c.gates.map (·.ins)))else([],[])
def mO(c:Ci):Int×S:=if(lQ c).1≠0 then lQ c else match (mi c).2 with
 |s::_=>(7,s)
 |[]=>(0,[])
theorem yG{c:Ci}(h:NetOk c):mi (gG c)=mi c:=by have h1:(lQ c).1=0:=(sO c).2 h;have h2:(lQ (gG c)).1=0:=(sO _).2 (Cj h);obtain⟨m1,_,_,m4⟩:=wL h.gates;unfold mi;rw[if_pos h1,if_pos h2];show(zX ((c.gates.map aK).map (·.name)) ((c.gates.map aK).map (·.ins)),_)=_;rw[m1,m4];show(_,CE ((c.gates.map aK).map (·.name)) ((c.gates.map aK).map (·.ins)))=_;rw[m1,m4]
theorem qf{c:Ci}(h:(mO c).1=0):NetOk c:=by
 unfold mO at h;split at h
 ·rename_i h1;exact absurd h h1
 ·rename_i h1;exact(sO c).1 (Decidable.not_not.1 h1)
theorem CG{c:Ci}(h:(mO c).1=0):mO (gG c)=(0,[])/\mO c=(0,[]):=by
 have hn:=qf h;have h1:(lQ c).1=0:=(sO c).2 hn;have h2:(lQ (gG c)).1=0:=(sO _).2 (Cj hn);unfold mO at h ⊢;rw[if_neg (by rw[h2];decide),if_neg (by rw[h1];decide),yG hn];rw[if_neg (by rw[h1];decide)]at h;cases hs:(mi c).2 with
 |nil=>exact⟨rfl,rfl⟩
 |cons s r=>rw[hs]at h;cases h
abbrev RB(α:Type):=Except (Nat×Int) α
def mP:Bool->List Tk->List Tk
 |_,[]=>[]
 |b,t::r=>if t.k=3 then(if b=true then mP true r else t::mP true r)else t::mP false r
def bM:List Tk->List Tk->List (List Tk)
 |_,[]=>[]
 |acc,t::r=>if t.k=3 then acc::bM [] r else bM (acc++[t]) r
def iQ(s:S):List Tk:=mP true (tkB s.length 0 s++[⟨3,[],s.length⟩])
theorem nV:∀(l acc:List Tk),bM acc (mP acc.isEmpty l)=(bM acc l).filter fun x=> !x.isEmpty
 |[],acc=>by rw[mP,bM];rfl
 |t::r,acc=>by
  by_cases h:t.k=3
  ·cases acc with
   |nil=>show bM [] (mP true (t::r))=_;rw[mP,if_pos h,if_pos rfl,bM,if_pos h];exact nV r []
   |cons a acc=>show bM (a::acc) (mP false (t::r))=_;rw[mP,if_pos h,if_neg (by decide),bM,if_pos h,bM,if_pos h];exact congrArg _ (nV r [])
  ·have e:(acc++[t]).isEmpty=false:=by simp
   rw[mP,if_neg h,bM,if_neg h,bM,if_neg h,<-nV r (acc++[t]),e]
theorem Po{s:S}:∀l∈bM [] (iQ s),l≠[]:=fun l hl=>by have h:iQ s=mP ([]:List Tk).isEmpty (tkB s.length 0 s++[⟨3,[],s.length⟩]):=rfl;rw[h,nV]at hl;have:=(List.mem_filter.1 hl).2;intro e;rw[e]at this;exact absurd this (by decide)
structure Ps where
 c:Ci
 begun:Bool
 ended:Bool
 on:Bool
def iG(t:Tk):RB S:=if t.k=0 then(if(x9 aT t.t).2=0 then .ok (x9 aT t.t).1 else .error (t.at',(x9 aT t.t).2))else .error (t.at',4)
def bQ:List Tk->RB (List S)
 |[]=> .ok []
 |t::r=>match iG t with
  | .error e=> .error e
  | .ok s=>match bQ r with
   | .error e=> .error e
   | .ok l=> .ok (s::l)
def AP(s:S):Option Int:=if s=[48]then some 0 else if s=[49]then some 1 else if s=[50]then some 2 else if s=[51]then some 2 else none
def qg(p:Ps)(y x:S)(k:Int):Ps:={p with c:={p.c with lat:=p.c.lat++[⟨y,x,k⟩]}}
def mQ(p:Ps)(t:Tk)(r:List Tk):RB Ps:=match r with
 |a::b::r'=>if r'.length<=1 then(match iG a with
  | .error e=> .error e
  | .ok x=>match iG b with
   | .error e=> .error e
   | .ok y=>match r' with
    |[]=> .ok (qg p y x 2)
    |i::_=>match AP i.t with
     |some k=> .ok (qg p y x k)
     |none=> .error (i.at',1))else .error (t.at',2)
 |_=> .error (t.at',2)
def N7(p:Ps)(r:List Tk):RB Ps:=match bQ r with
 | .error e=> .error e
 | .ok l=> .ok {p with c:={p.c with ins:=p.c.ins++l}}
def yc(p:Ps)(r:List Tk):RB Ps:=match bQ r with
 | .error e=> .error e
 | .ok l=> .ok {p with c:={p.c with outs:=p.c.outs++l}}
def pI(p:Ps)(t:Tk)(r:List Tk):RB Ps:=match r with
 |[]=> .error (t.at',2)
 |_=>match bQ r with
  | .error e=> .error e
  | .ok l=> .ok {p with c:={p.c with gates:=p.c.gates++[⟨l.getLastD [],10,l.dropLast,[],false⟩]},on:=true}
def uK(t:Tk)(r:List Tk):S:=(r.getLastD t).t
def CJ(g:Ga)(t:Tk):S:=if g.ins.length=0 then []else t.t
def Uc(g:Ga)(t:Tk)(r:List Tk):Bool:=iW g.ins.length (CJ g t)&&((uK t r==[48]||uK t r==[49])&&(g.rows.isEmpty||g.off==(uK t r==[48])))
def IW(p:Ps)(t:Tk)(r:List Tk):RB Ps:=match p.on,p.c.gates.getLast? with
 |true,some g =>
  if r.length = min g.ins.length 1 then
   if Uc g t r=true then .ok {p with c:={p.c with gates:=p.c.gates.dropLast++[{g with rows:=g.rows++[CJ g t],off:=uK t r==[48]}]}} else .error (t.at',2)
  else .error (t.at',2)
 |_,_=> .error (t.at',2)
def fC:S:=[46,109,111,100,101,108]
def zY:S:=[46,101,110,100]
def fJ:S:=[46,105,110,112,117,116,115]
def dM:S:=[46,111,117,116,112,117,116,115]
def gW:S:=[46,108,97,116,99,104]
def gI:S:=[46,110,97,109,101,115]
def jh(p:Ps)(t:Tk)(r:List Tk):RB Ps :=
 if t.t=zY then(if r=[]then .ok {p with ended:=true} else .error (t.at',2))
 else if t.t=fJ then N7 p r
 else if t.t=gW then mQ p t r
 else if t.t=fC then(if r.length<=1 then .ok {p with begun:=true} else .error (t.at',2))
 else if t.t=gI then pI p t r
 else if t.t=dM then yc p r
 else .error (t.at',9)
def jA(p:Ps):List Tk->RB Ps
 |[]=> .ok p
 |t::r =>
  if(!p.ended&&p.begun != (t.t==fC))=false then .error (t.at',2)
  else if t.t.headD 0≠46 then IW p t r
  else jh {p with on:=false} t r
def bF:Ps->List (List Tk)->RB Ps
 |p,[]=> .ok p
 |p,l::r=>match jA p l with
  | .error e=> .error e
  | .ok p=>bF p r
def yf(t:Tk):S×Int:=if t.k=0 then x9 aT t.t else([],4)
def isT(s:S)(t:Tk):Bool:=(yf t).2==0&&(yf t).1==s
def LV(l:List Tk)(s:S):Nat:=match l.findIdx? (isT s)with
 |some i=>(l.getD i ⟨0,[],0⟩).at'
 |none=>0
def ps0:Ps:=⟨⟨[],[],[],[]⟩,false,false,false⟩
def ji(c:Ci):Ci:={c with gates:=c.gates.map aU}
def Ud(s:S)(p:Ps):RB Ci :=
 if p.ended=false then .error (s.length,2)
 else if(mO (ji p.c)).1=0 then .ok (ji p.c)
 else .error (if(mO (ji p.c)).2=[]then 0 else LV (iQ s) (mO (ji p.c)).2,(mO (ji p.c)).1)
def mV(s:S):RB Ci:=match bF ps0 (bM [] (iQ s))with
 | .error e=> .error e
 | .ok p=>Ud s p
def spV(s:S):S:=if aT s=true then bf s else []
def dY(w:S)(l:List S):S:=w++l.flatMap (fun x=>32::spV x)++[10]
def lu(i:Int):S:=if i=0 then [48]else if i=1 then [49]else [51]
def ET(off:Bool)(row:S):S:=(if row=[]then []else row++[32])++[if off=true then 48 else 49,10]
def mY(g:Ga):S:=dY gI ((aK g).ins++[(aK g).name])++(aQ (aK g)).1.flatMap (ET (aQ (aK g)).2)
def Pq:S:=[116,111,112]
def kw(c:Ci):S:=dY fC [Pq]++dY fJ c.ins++dY dM c.outs++c.lat.flatMap (fun q=>dY gW [q.next,q.name,lu q.init])++c.gates.flatMap mY++dY zY []
def qQ(c:Ci):S×Int:=if(mO c).1=0 then(kw c,0)else([],1)
def okW(w:S):Prop:=w≠[]/\∀c∈w,gU c=true
theorem EU{c:UInt8}(h:iF c=true)(h1:c≠35)(h2:c≠92):gU c=true:=by
 unfold iF at h;simp only[zqf,zqb]at h;unfold gU pG;have a1:c≠32:=fun e=>by subst e;exact absurd h.1 (by decide)
 have a2:c≠9:=fun e=>by subst e;exact absurd h.1 (by decide)
 have a3:c≠13:=fun e=>by subst e;exact absurd h.1 (by decide)
 have a4:c≠10:=fun e=>by subst e;exact absurd h.1 (by decide)
 simp[a1,a2,a3,a4,h1,h2]
theorem yH{s:S}(h:aT s=true):s≠[]/\∀c∈s,iF c=true:=by
 unfold aT at h;simp only[zqf,zqb,zrs]at h;refine⟨fun e=> ?_,?_⟩
 ·rw[e]at h;simp at h
 ·exact fun c hc=>by first|exact h.1 c hc|exact h.2 c hc
theorem sQ{s:S}(h:aT s=true):okW (bf s)/\(bf s).headD 0≠46:=by
 obtain⟨h1,h2⟩:=yH h;unfold bf;split
 ·refine⟨⟨by simp[aY,mX],fun c hc=> ?_⟩,by simp[aY,mX]⟩;unfold aY mX at hc;have hexW:∀n,n<16->gU (Ph n)=true:=by decide
  rcases zrf.1 hc with hc|hc
  ·have hm:∀c∈([120,95,95]:S),gU c=true:=by decide
   exact hm c hc
  ·obtain⟨d,_,hd⟩:=List.mem_flatMap.1 hc;have:=d.toNat_lt;unfold LJ at hd;simp only[zrj,zrp,or_false]at hd;rcases hd with rfl|rfl
   ·exact hexW _ (by omega)
   ·exact hexW _ (by omega)
 ·rename_i hc;simp only[Bool.or_eq_true,Bool.not_eq_true',not_or,Bool.not_eq_true,Bool.not_eq_false]at hc;have hl:=hc.2;unfold jf at hl;simp only[zqf,bne_iff_ne,ne_eq,Bool.not_eq_true',zsf]at hl;obtain⟨l1,l2,l3⟩:=hl;refine⟨⟨h1,fun c hc=>EU (h2 c hc) (fun e=> ?_) (fun e=> ?_)⟩,l1⟩
  ·subst e;have:s.contains 35=true:=List.contains_iff_mem.2 hc;rw[l2]at this;cases this
  ·subst e;have:s.contains 92=true:=List.contains_iff_mem.2 hc;rw[l3]at this;cases this
def Wd(l:List S):List (Nat×S):=l.map fun w=>(0,w)
theorem LX{t:Tk}{n:S}(hn:aT n=true)(h:t.s=(0,bf n)):iG t= .ok n:=by
 have h1:t.k=0:=congrArg Prod.fst h;have h2:t.t=bf n:=congrArg Prod.snd h;have h0:aT []=false:=by decide
 unfold iG;rw[if_pos h1,h2,IQ h0 hn,if_pos rfl]
theorem uY:∀ {l:List Tk} {ns:List S},(∀n∈ns,aT n=true)->l.map Tk.s=Wd (ns.map bf)->bQ l= .ok ns
 |[],[],_,_=>rfl
 |[],_::_,_,h=>by cases h
 |_::_,[],_,h=>by cases h
 |t::l,n::ns,hn,h=>by have h:t.s::l.map Tk.s=(0,bf n)::Wd (ns.map bf):=h;injection h with h1 h2;rw[bQ,LX (hn n (by simp)) h1,uY (fun x hx=>hn x (by simp[hx])) h2]
abbrev LW:=List (S×List S)
def kP(L:LW):S:=L.flatMap fun x=>nR x.1 x.2
def OkL(L:LW):Prop:=∀x∈L,okW x.1/\∀w∈x.2,okW w
theorem Pv{l:List S}(h:∀w∈l,okW w):2*l.length+1<=(oV l).length:=by
 induction l with
 |nil=>simp[oV]
 |cons w l ih =>
  have h1:0<w.length:=List.length_pos_iff.2 (h w (by simp)).1;have h2:=ih fun x hx=>h x (by simp[hx]);have e:oV (w::l)=32::(w++oV l):=by simp[oV]
  rw[e];simp only[zrt,zqa];omega
theorem Gu:∀ {L:LW},OkL L->∀ {n p:Nat},(kP L).length<=n->(tkB n p (kP L)).map Tk.s=L.flatMap fun x=>Wd (x.1::x.2)++[(3,[])]
 |[],_,n,p,_=>by cases n<;>rfl
 |x::L,h,n,p,hn=>by
  obtain⟨h1,h2⟩:=h x (by simp);have e:kP (x::L)=nR x.1 x.2++kP L:=rfl;have ht:=Pv h2;have hw:0<x.1.length:=List.length_pos_iff.2 h1.1;rw[e,zqa]at hn;have hl:(nR x.1 x.2).length=x.1.length+(oV x.2).length:=by simp[nR]
  obtain⟨m,rfl⟩:∃m,n=m+(2*x.2.length+2):=⟨n-(2*x.2.length+2),by omega⟩;obtain⟨q,hq⟩:=SG h1 h2 (n:=m) (p:=p) (r:=kP L);rw[e,hq,Gu (fun y hy=>h y (by simp[hy])) (by omega)];show(0,x.1)::(Wd x.2++(3,[])::_)=(((0,x.1)::Wd x.2)++[(3,[])])++_;simp only[List.cons_append,zqc,List.nil_append];rfl
def kC:List (Nat×S)->List (Nat×S)->List (List (Nat×S))
 |_,[]=>[]
 |acc,t::r=>if t.1=3 then acc::kC [] r else kC (acc++[t]) r
theorem wP:∀(l acc:List Tk),(bM acc l).map (·.map Tk.s)=kC (acc.map Tk.s) (l.map Tk.s)
 |[],acc=>rfl
 |t::r,acc=>by
  show(bM acc (t::r)).map _=kC _ (t.s::r.map Tk.s);rw[bM,kC];by_cases h:t.k=3
  ·rw[if_pos h,if_pos (show t.s.1=3 from h),zrd,wP r []];rfl
  ·rw[if_neg h,if_neg (show ¬t.s.1=3 from h),wP r (acc++[t]),zql];rfl
theorem wQ:∀(ws:List S)(acc:List (Nat×S))(r:List (Nat×S)),kC acc (Wd ws++(3,[])::r)=(acc++Wd ws)::kC [] r
 |[],acc,r=>by show kC acc ((3,[])::r)=_;rw[kC,if_pos rfl];simp[Wd]
 |w::ws,acc,r=>by show kC acc ((0,w)::(Wd ws++(3,[])::r))=_;rw[kC,if_neg (show ¬(0:Nat)=3 by decide),wQ ws];simp[Wd]
theorem wR:∀(L:LW),kC [] (L.flatMap (fun x=>Wd (x.1::x.2)++[(3,[])])++[(3,[])])=L.map (fun x=>Wd (x.1::x.2))++[[]]
 |[]=>rfl
 |x::L=>by rw[List.flatMap_cons,zqc,zqc];show kC [] (Wd (x.1::x.2)++(3,[])::(L.flatMap (fun x=>Wd (x.1::x.2)++[(3,[])])++[(3,[])]))=_;rw[wQ,wR L];rfl
theorem IX{L:LW}(h:OkL L):(bM [] (iQ (kP L))).map (·.map Tk.s)=L.map fun x=>Wd (x.1::x.2):=by
 have e:iQ (kP L)=mP ([]:List Tk).isEmpty (tkB (kP L).length 0 (kP L)++[⟨3,[],(kP L).length⟩]):=rfl;rw[e,nV];have hf:∀l:List (List Tk),(l.filter fun x=> !x.isEmpty).map (·.map Tk.s)=(l.map (·.map Tk.s)).filter fun x=> !x.isEmpty:=fun l=>by
  rw[List.filter_map]
  congr 1
  refine List.filter_congr fun x _=> ?_;cases x<;>rfl
 rw[hf,wP,zql,Gu h (zrb _)];show(kC [] (L.flatMap (fun x=>Wd (x.1::x.2)++[(3,[])])++[(3,[])])).filter _=_;rw[wR,List.filter_append];show _++[]=_;rw[zqp,List.filter_eq_self];intro a ha;obtain⟨x,_,rfl⟩:=zrh.1 ha;rfl
abbrev Ls(ls:List (List Tk))(L:LW):Prop:=ls.map (·.map Tk.s)=L.map fun x=>Wd (x.1::x.2)
theorem Ls.app{ls:List (List Tk)}{A B:LW}(h:Ls ls (A++B)):∃a b,ls=a++b/\Ls a A/\Ls b B:=by unfold Ls at h;rw[zql]at h;obtain⟨a,b,rfl,ha,hb⟩:=List.map_eq_append_iff.1 h;exact⟨a,b,rfl,ha,hb⟩
theorem Ls.cons{ls:List (List Tk)}{w:S}{ws:List S}{B:LW}(h:Ls ls ((w,ws)::B)):∃t r b,ls=(t::r)::b/\t.k=0/\t.t=w/\r.map Tk.s=Wd ws/\Ls b B:=by
 cases ls with
 |nil=>cases h
 |cons l b =>
  have h:(l.map Tk.s)::b.map (·.map Tk.s)=Wd (w::ws)::B.map (fun x=>Wd (x.1::x.2)):=h;injection h with h1 h2;cases l with
  |nil=>cases h1
  |cons t r=>have h1:t.s::r.map Tk.s=(0,w)::Wd ws:=h1;injection h1 with h3 h4;exact⟨t,r,b,rfl,congrArg Prod.fst h3,congrArg Prod.snd h3,h4,h2⟩
theorem Ls.nil{ls:List (List Tk)}(h:Ls ls []):ls=[]:=List.map_eq_nil_iff.1 h
theorem lw:∀(a b:List (List Tk))(p p':Ps),bF p a= .ok p'->bF p (a++b)=bF p' b
 |[],b,p,p',h=>by cases h;rfl
 |l::a,b,p,p',h=>by
  rw[bF]at h;rw[List.cons_append,bF];cases hl:jA p l with
  |error e=>rw[hl]at h;cases h
  |ok q=>rw[hl]at h;exact lw a b q p' h
theorem nX{p:Ps}{t:Tk}{r:List Tk}(he:p.ended=false)(hb:p.begun=true)(hm:t.t≠fC)(hd:t.t.headD 0=46):jA p (t::r)=jh {p with on:=false} t r:=by rw[jA,he,hb,if_neg (by simp[hm]),if_neg (by simp only[ne_eq,hd,not_true,not_false_eq_true])]
theorem Px{p:Ps}{t:Tk}{r:List Tk}(he:p.ended=false)(hb:p.begun=true)(hd:t.t.headD 0≠46):jA p (t::r)=IW p t r:=by
 have hm:t.t≠fC:=fun e=>by rw[e]at hd;exact hd rfl
 rw[jA,he,hb,if_neg (by simp[hm]),if_pos hd]
def VK(q:La):S×List S:=(gW,[bf q.next,bf q.name,lu q.init])
def Gv(off:Bool)(row:S):S×List S:=if row=[]then([if off=true then 48 else 49],[])else(row,[[if off=true then 48 else 49]])
def Py(g:Ga):LW:=(gI,((aK g).ins++[(aK g).name]).map bf)::(aQ (aK g)).1.map (Gv (aQ (aK g)).2)
theorem Wn{α β:Type}{f:α->β}{l:List α}{x:β}(h:l.map f=[x]):∃a,l=[a]/\f a=x:=by
 match l with
 |[]=>cases h
 |[a]=>injection h with h1 _;exact⟨a,rfl,h1⟩
 |_::_::_=>injection h with _ h;cases h
theorem Wp{α β:Type}{f:α->β}{l:List α}{x y z:β}(h:l.map f=[x,y,z]):∃a b c,l=[a,b,c]/\f a=x/\f b=y/\f c=z:=by
 match l with
 |[]=>cases h
 |[_]=>injection h with _ h;cases h
 |[_,_]=>injection h with _ h;injection h with _ h;cases h
 |[a,b,c]=>injection h with h1 h;injection h with h2 h;injection h with h3 h;exact⟨a,b,c,rfl,h1,h2,h3⟩
 |_::_::_::_::_=>injection h with _ h;injection h with _ h;injection h with _ h;cases h
theorem CO:∀(lat:List La)(p:Ps)(ls:List (List Tk)),(∀q∈lat,aT q.name=true/\aT q.next=true/\nT q=true)->p.ended=false->p.begun=true->p.on=false->Ls ls (lat.map VK) ->
 bF p ls= .ok {p with c:={p.c with lat:=p.c.lat++lat}}
 |[],p,ls,_,_,_,_,h=>by rw[h.nil,zqp];rfl
 |q::lat,p,ls,hq,he,hb,ho,h=>by
  obtain⟨q1,q2,q3⟩:=hq q (by simp);obtain⟨t,r,b,rfl,hk,ht,hr,hl⟩:=Ls.cons h;have hw:∀ {t:Tk} {n:S},aT n=true->t.s=(0,bf n)->iG t= .ok n:=LX;rw[bF,nX he hb (by rw[ht];decide) (by rw[ht];rfl)];have e1:jh {p with on:=false} t r= .ok (qg p q.name q.next q.init):=by
   unfold jh;rw[ht,if_neg (by decide),if_neg (by decide),if_pos rfl];obtain⟨a,b,i,rfl,r1,r2,r3⟩:=Wp (show r.map Tk.s=[(0,bf q.next),(0,bf q.name),(0,lu q.init)]from hr);have hi:i.t=lu q.init:=congrArg Prod.snd r3;have hd:AP i.t=some q.init:=by
    rw[hi];unfold nT at q3;simp only[zqf,zqb]at q3;have:q.init=0\/q.init=1\/q.init=2:=by omega
    rcases this with e|e|e<;>rw[e]<;>rfl
   unfold mQ;dsimp only;rw[if_pos (show [i].length<=1 from zrb 1),hw q2 r1];dsimp only;rw[hw q1 r2];dsimp only;rw[hd,<-ho]
  rw[e1];dsimp only;rw[CO lat (qg p q.name q.next q.init) b (fun x hx=>hq x (by simp[hx])) he hb ho hl];simp[qg]
theorem yI{g:Ga}{off:Bool}{L:List Ga}:∀(rows:List S)(R0:List S)(off0:Bool)(p:Ps)(ls:List (List Tk)),(∀r∈rows,iW g.ins.length r=true)->p.ended=false->p.begun=true->p.on=true ->
 p.c.gates=L++[{g with rows:=R0,off:=off0}]->(R0=[]\/off0=off)->Ls ls (rows.map (Gv off)) ->
 bF p ls= .ok {p with c:={p.c with gates:=L++[{g with rows:=R0++rows,off:=if rows=[]then off0 else off}]}}
 |[],R0,off0,p,ls,_,_,_,_,hg,_,h=>by rw[h.nil,zqp,if_pos rfl,<-hg];rfl
 |row::rows,R0,off0,p,ls,hr,he,hb,ho,hg,h0,h=>by
  have hro:=hr row (by simp);have hlen:row.length=g.ins.length:=by unfold iW at hro;rw[zqf,beq_iff_eq]at hro;exact hro.1
  have hbit:∀c∈row,VB c=true:=by unfold iW at hro;rw[zqf,zrs]at hro;exact hro.2
  obtain⟨sg,hsg⟩:∃sg:S,sg=[if off=true then 48 else 49]:=⟨_,rfl⟩;have hs1:(sg==[48]||sg==[49])=true/\(sg==[48])=off/\sg.headD 0≠46:=by rw[hsg];cases off<;>decide
  have hst:∀ {t:Tk} {r:List Tk},r.length=min g.ins.length 1->uK t r=sg->CJ g t=row->IW p t r= .ok {p with c:={p.c with gates:=L++[{g with rows:=R0++[row],off:=off}]}}:=by
   intro t r h1 h2 h3;unfold IW;rw[ho,hg,List.getLast?_concat];show(if r.length=min g.ins.length 1 then if Uc ({g with rows:=R0,off:=off0}:Ga) t r=true then(_:RB Ps)else _ else _)=_;rw[if_pos h1,if_pos ?_,List.dropLast_concat,h2,hs1.2.1]
   ·have h3':CJ {g with rows:=R0,off:=off0} t=row:=h3;rw[h3']
   ·unfold Uc;show(iW g.ins.length (CJ g t)&&((uK t r==[48]||uK t r==[49])&&(R0.isEmpty||off0==(uK t r==[48]))))=true;rw[h3,h2,hro,hs1.1,hs1.2.1];rcases h0 with rfl|rfl
    ·rfl
    ·simp
  have key:∀ {t:Tk} {r:List Tk} {b:List (List Tk)},t.t.headD 0≠46->r.length=min g.ins.length 1->uK t r=sg->CJ g t=row->Ls b (rows.map (Gv off)) ->
   bF p ((t::r)::b)= .ok {p with c:={p.c with gates:=L++[{g with rows:=R0++(row::rows),off:=off}]}}:=by
   intro t r b h1 h2 h3 h4 hl;rw[bF,Px he hb h1,hst h2 h3 h4];dsimp only;rw[yI rows (R0++[row]) off {p with c:={p.c with gates:=L++[{g with rows:=R0++[row],off:=off}]}} b (fun x hx=>hr x (by simp[hx])) he hb ho rfl (.inr rfl) hl,zqc];have:(if rows=[]then off else off)=off:=by split<;>rfl
   rw[this];rfl
  rw[if_neg (List.cons_ne_nil _ _)];by_cases hn:g.ins.length=0
  ·have hrow:row=[]:=List.eq_nil_of_length_eq_zero (by omega);have h:Ls ls ((sg,[])::rows.map (Gv off)):=by
    have e:Gv off row=(sg,[]):=by unfold Gv;rw[if_pos hrow,<-hsg]
    rw[zrd,e]at h;exact h
   obtain⟨t,r,b,rfl,hk,ht,hrr,hl⟩:=Ls.cons h;have hr0:r=[]:=List.map_eq_nil_iff.1 hrr;subst hr0;exact key (by rw[ht];exact hs1.2.2) (by rw[hn];rfl) ht (by unfold CJ;rw[if_pos hn,hrow]) hl
  ·have hrow:row≠[]:=fun e=>hn (by rw[<-hlen,e];rfl);have h:Ls ls ((row,[sg])::rows.map (Gv off)):=by
    have e:Gv off row=(row,[sg]):=by unfold Gv;rw[if_neg hrow,<-hsg]
    rw[zrd,e]at h;exact h
   obtain⟨t,r,b,rfl,hk,ht,hrr,hl⟩:=Ls.cons h;obtain⟨a,rfl,ha⟩:=Wn (show r.map Tk.s=[(0,sg)]from hrr);refine key ?_ ?_ (congrArg Prod.snd ha) (by unfold CJ;rw[if_neg hn,ht]) hl
   ·rw[ht];cases row with
    |nil=>exact absurd rfl hrow
    |cons c row=>intro e;have e:c=46:=e;have:=hbit c (by simp);rw[e]at this;exact absurd this (by decide)
   ·show 1=_;omega
theorem Pz:∀n,n<9->∀op,op<10->∀r∈(jy op n).1,iW n r=true:=by decide +kernel
theorem Gw{g:Ga}(h:fB g=true):(∀r∈(aQ (aK g)).1,iW (aK g).ins.length r=true)/\((aQ (aK g)).1=[]->(aQ (aK g)).2=false):=by
 obtain⟨g1,g2,g3⟩:=dV (iY h);obtain⟨_,_,_,p4⟩:=gy (dV h).1;unfold aQ;by_cases h10:(aK g).op=10
 ·rw[if_pos h10];refine⟨g3,fun e=> ?_⟩;cases ho:(aK g).off with
  |false=>rfl
  |true=>exact absurd ⟨e,ho⟩ (p4 h10)
 ·rw[if_neg h10];have hh:=g1.h;unfold uX at hh;simp only[zqf,zqb]at hh;obtain⟨h0,h1,h2⟩:=hh;refine⟨Pz _ (zV h2) _ (by omega),fun e=> ?_⟩;generalize (aK g).op.toNat=k at *;unfold jy at e ⊢;split
  all_goals first|rfl|cases e
theorem wS:∀(gs:List Ga)(p:Ps)(ls:List (List Tk)),(∀g∈gs,fB g=true/\aT g.name=true/\∀s∈g.ins,aT s=true)->p.ended=false->p.begun=true->Ls ls (gs.flatMap Py) ->
 ∃on,bF p ls= .ok {p with c:={p.c with gates:=p.c.gates++gs.map fun g=>⟨(aK g).name,10,(aK g).ins,(aQ (aK g)).1,(aQ (aK g)).2⟩},on:=on}
 |[],p,ls,_,_,_,h=>by rw[h.nil];exact⟨p.on,by rw[List.map_nil,zqp];rfl⟩
 |g::gs,p,ls,hg,he,hb,h=>by
  obtain⟨g1,g2,g3⟩:=hg g (by simp);obtain⟨_,p2,p3,_⟩:=gy (dV g1).1;obtain⟨c1,c2⟩:=Gw g1;rw[List.flatMap_cons]at h;obtain⟨a,b,rfl,ha,hbb⟩:=Ls.app h;obtain⟨t,r,a',rfl,hk,ht,hr,hl⟩:=Ls.cons ha;have hw:bQ r= .ok ((aK g).ins++[(aK g).name]):=uY (fun n hn=>by
   rw[p2,p3]at hn;rcases zrf.1 hn with hn|hn
   ·exact g3 n hn
   ·rw[zrc.1 hn];exact g2) hr
  have hrn:r≠[]:=fun e=>by rw[e,zql]at hr;simp[Wd]at hr
  obtain⟨q,hq⟩:∃q:Ps,q={p with c:={p.c with gates:=p.c.gates++[⟨(aK g).name,10,(aK g).ins,[],false⟩]},on:=true}:=⟨_,rfl⟩;have e1:jA p (t::r)= .ok q:=by
   rw[nX he hb (by rw[ht];decide) (by rw[ht];rfl)];unfold jh;rw[ht,if_neg (by decide),if_neg (by decide),if_neg (by decide),if_neg (by decide),if_pos rfl];unfold pI;split
   ·exact absurd rfl hrn
   ·rw[hw];dsimp only;rw[List.getLastD_concat,List.dropLast_concat,hq]
  have e2:=yI (g:=⟨(aK g).name,10,(aK g).ins,[],false⟩) (off:=(aQ (aK g)).2) (L:=p.c.gates) (aQ (aK g)).1 [] false q a' c1 (by rw[hq];exact he) (by rw[hq];exact hb) (by rw[hq]) (by rw[hq]) (.inl rfl) hl;have e3:bF p ((t::r)::a')= .ok {q with c:={q.c with gates:=p.c.gates++[⟨(aK g).name,10,(aK g).ins,(aQ (aK g)).1,(aQ (aK g)).2⟩]}}:=by
   rw[bF,e1];dsimp only;rw[e2,List.nil_append];have:(if(aQ (aK g)).1=[]then false else(aQ (aK g)).2)=(aQ (aK g)).2:=by
    split
    ·rename_i hc;rw[c2 hc]
    ·rfl
   rw[this]
  rw[lw _ b _ _ e3];obtain⟨on,e4⟩:=wS gs {q with c:={q.c with gates:=p.c.gates++[⟨(aK g).name,10,(aK g).ins,(aQ (aK g)).1,(aQ (aK g)).2⟩]}} b (fun x hx=>hg x (by simp[hx])) (by rw[hq];exact he) (by rw[hq];exact hb) hbb;refine⟨on,?_⟩;rw[e4,hq];simp
def wU(c:Ci):LW:=[(fC,[Pq]),(fJ,c.ins.map bf),(dM,c.outs.map bf)]++(c.lat.map VK++(c.gates.flatMap Py++[(zY,[])]))
theorem uZ{w:S}{l:List S}(h:∀s∈l,aT s=true):dY w l=nR w (l.map bf):=by
 have e:∀l:List S,(∀s∈l,aT s=true)->l.flatMap (fun x=>32::spV x)=(l.map bf).flatMap fun w=>32::w:=by
  intro l
  induction l with
  |nil=>intro _;rfl
  |cons s l ih=>intro h;rw[List.flatMap_cons,ih fun x hx=>h x (by simp[hx]),zrd,List.flatMap_cons];unfold spV;rw[if_pos (h s (by simp))]
 unfold dY nR oV;rw[e l h,zqc]
structure NamesOk(c:Ci):Prop where
 ins:∀s∈c.ins,aT s=true
 outs:∀s∈c.outs,aT s=true
 lat:∀q∈c.lat,aT q.name=true/\aT q.next=true/\nT q=true
 gates:∀g∈c.gates,fB g=true/\aT g.name=true/\∀s∈g.ins,aT s=true
theorem PE{c:Ci}(h:NetOk c):NamesOk c where
 ins s hs:=h.told s (by unfold iD;simp[hs])
 outs s hs:=h.told s (by unfold iD;simp[hs])
 lat q hq:=by
  have m:∀s,s∈[q.name,q.next]->aT s=true:=fun s hs=>h.told s (by
   unfold iD;rw[zrf,zrf];exact .inl (.inr (List.mem_flatMap.2 ⟨q,hq,hs⟩)))
  exact⟨m _ (by simp),m _ (by simp),h.lat q hq⟩
 gates g hg:=by
  have m:∀s,s∈g.name::g.ins->aT s=true:=fun s hs=>h.told s (by
   unfold iD;rw[zrf];exact .inr (List.mem_flatMap.2 ⟨g,hg,hs⟩))
  exact⟨h.gates g hg,m _ (by simp),fun s hs=>m s (by simp[hs])⟩
theorem CP(i:Int):okW (lu i)/\bf (lu i)=lu i/\aT (lu i)=true:=by
 have h:∀s∈([[48],[49],[51]]:List S),s≠[]/\(∀c∈s,gU c=true)/\bf s=s/\aT s=true:=by decide
 unfold lu
 repeat' split
 all_goals (refine⟨⟨?_,?_⟩,?_,?_⟩<;>decide)
theorem SI{c:Ci}(h:NamesOk c):kw c=kP (wU c):=by
 have e0:dY fC [Pq]=nR fC [Pq]:=by decide +kernel
 have e1:=uZ (w:=fJ) h.ins;have e2:=uZ (w:=dM) h.outs;have e3:∀l:List La,(∀q∈l,aT q.name=true/\aT q.next=true/\nT q=true)->l.flatMap (fun q=>dY gW [q.next,q.name,lu q.init])=kP (l.map VK):=by
  intro l
  induction l with
  |nil=>intro _;rfl
  |cons q l ih =>
   intro hl;obtain⟨q1,q2,q3⟩:=hl q (by simp);obtain⟨_,i2,i3⟩:=CP q.init;rw[List.flatMap_cons,ih fun x hx=>hl x (by simp[hx]),uZ (l:=[q.next,q.name,lu q.init]) (fun s hs=>by
    simp only[zrj,zrp,or_false]at hs;rcases hs with rfl|rfl|rfl
    ·exact q2
    ·exact q1
    ·exact i3)]
   show nR gW [bf q.next,bf q.name,bf (lu q.init)]++_=nR gW [bf q.next,bf q.name,lu q.init]++_;rw[i2];rfl
 have e4:∀(off:Bool)(l:List S),l.flatMap (ET off)=kP (l.map (Gv off)):=by
  intro off l
  induction l with
  |nil=>rfl
  |cons r l ih =>
   rw[List.flatMap_cons,ih];show ET off r++_=nR (Gv off r).1 (Gv off r).2++_
   congr 1
   unfold ET Gv;split
   ·simp[nR,oV]
   ·simp[nR,oV]
 have ta:∀a b:LW,kP (a++b)=kP a++kP b:=fun a b=>by simp[kP]
 have e5:∀l:List Ga,(∀g∈l,fB g=true/\aT g.name=true/\∀s∈g.ins,aT s=true)->l.flatMap mY=kP (l.flatMap Py):=by
  intro l
  induction l with
  |nil=>intro _;rfl
  |cons g l ih =>
   intro hl;obtain⟨g1,g2,g3⟩:=hl g (by simp);obtain⟨_,p2,p3,_⟩:=gy (dV g1).1;rw[List.flatMap_cons,ih fun x hx=>hl x (by simp[hx]),List.flatMap_cons,ta]
   congr 1
   show mY g=nR gI _++kP _;rw[<-e4];unfold mY;rw[uZ (fun s hs=>by
    rw[p2,p3]at hs;rcases zrf.1 hs with hs|hs
    ·exact g3 s hs
    ·rw[zrc.1 hs];exact g2)]
 have e6:dY zY []=nR zY []:=by decide +kernel
 unfold kw wU;rw[ta,ta,ta,e0,e1,e2,e3 _ h.lat,e5 _ h.gates,e6];simp only[kP,List.flatMap_cons,List.flatMap_nil,zqp,zqc]
theorem okL{c:Ci}(h:NamesOk c):OkL (wU c):=by
 have sp:∀l:List S,(∀s∈l,aT s=true)->∀w∈l.map bf,okW w:=fun l hl w hw=>by obtain⟨s,hs,rfl⟩:=zrh.1 hw;exact(sQ (hl s hs)).1
 have fx:∀w∈([fC,Pq,fJ,dM,gW,gI,zY]:List S),w≠[]/\∀c∈w,gU c=true:=by decide
 intro x hx;unfold wU at hx;simp only[zrf,zrj,zrp,or_false]at hx;rcases hx with(rfl|rfl|rfl)|hx|hx|rfl
 ·exact⟨fx _ (by simp),fun w hw=>by rw[zrc.1 hw];exact fx _ (by simp)⟩
 ·exact⟨fx _ (by simp),sp _ h.ins⟩
 ·exact⟨fx _ (by simp),sp _ h.outs⟩
 ·obtain⟨q,hq,rfl⟩:=zrh.1 hx;obtain⟨q1,q2,_⟩:=h.lat q hq;refine⟨fx gW (by simp),fun w hw=> ?_⟩;have hw:w∈[bf q.next,bf q.name,lu q.init]:=hw;simp only[zrj,zrp,or_false]at hw;rcases hw with rfl|rfl|rfl
  ·exact(sQ q2).1
  ·exact(sQ q1).1
  ·exact(CP _).1
 ·obtain⟨g,hg,hx⟩:=List.mem_flatMap.1 hx;obtain⟨g1,g2,g3⟩:=h.gates g hg;obtain⟨_,p2,p3,_⟩:=gy (dV g1).1;obtain⟨c1,_⟩:=Gw g1;unfold Py at hx;rcases zrj.1 hx with rfl|hx
  ·refine⟨fx _ (by simp),sp _ fun s hs=> ?_⟩;rw[p2,p3]at hs;rcases zrf.1 hs with hs|hs
   ·exact g3 s hs
   ·rw[zrc.1 hs];exact g2
  ·obtain⟨r,hr,rfl⟩:=zrh.1 hx;have hro:=c1 r hr;unfold iW at hro;rw[zqf,zrs]at hro;have hb:∀off:Bool,okW [if off=true then 48 else 49]:=fun off=>by cases off<;>exact⟨by decide,by decide⟩
   unfold Gv;split
   ·exact⟨hb _,fun w hw=>by cases hw⟩
   ·rename_i hne;refine⟨⟨hne,fun c hc=> ?_⟩,fun w hw=>by rw[zrc.1 hw];exact hb _⟩;have:=hro.2 c hc;unfold VB at this;simp only[Bool.or_eq_true,beq_iff_eq]at this;rcases this with(rfl|rfl)|rfl<;>decide
 ·exact⟨fx _ (by simp),fun w hw=>by cases hw⟩
theorem EW{c:Ci}(h:(mO c).1=0):mV (kw c)= .ok (gG c):=by
 have hn:=qf h;have hk:=PE hn;rw[SI hk];unfold mV;obtain⟨ls,hls⟩:∃ls,ls=bM [] (iQ (kP (wU c))):=⟨_,rfl⟩;rw[<-hls];have hL:Ls ls (wU c):=by rw[hls];exact IX (okL hk)
 clear hls;unfold wU at hL;obtain⟨a,b,hd0,ha,hL1⟩:=Ls.app hL;subst hd0;obtain⟨t1,r1,a,rfl,_,ht1,hr1,ha⟩:=Ls.cons ha;obtain⟨t2,r2,a,rfl,_,ht2,hr2,ha⟩:=Ls.cons ha;obtain⟨t3,r3,a,rfl,_,ht3,hr3,ha⟩:=Ls.cons ha;have:=ha.nil;subst this;obtain⟨l,d,hd1,hl,hL2⟩:=Ls.app hL1;obtain⟨gl,e,hd2,hg,hL3⟩:=Ls.app hL2;subst hd2;subst hd1;obtain⟨t4,r4,e,rfl,_,ht4,hr4,he⟩:=Ls.cons hL3;have:=he.nil;subst this;have hlen1:r1.length=1:=by have:=congrArg List.length hr1;simpa [Wd]using this
 have s1:jA ps0 (t1::r1)= .ok {ps0 with begun:=true}:=by rw[jA,ht1,if_neg (by decide),if_neg (by decide)];unfold jh;rw[ht1,if_neg (by decide),if_neg (by decide),if_neg (by decide),if_pos rfl,if_pos (by omega)];rfl
 have s2:jA {ps0 with begun:=true} (t2::r2)= .ok ⟨⟨c.ins,[],[],[]⟩,true,false,false⟩:=by rw[nX rfl rfl (by rw[ht2];decide) (by rw[ht2];rfl)];unfold jh;rw[ht2,if_neg (by decide),if_pos rfl];unfold N7;rw[uY hk.ins hr2];rfl
 have s3:jA ⟨⟨c.ins,[],[],[]⟩,true,false,false⟩ (t3::r3)= .ok ⟨⟨c.ins,c.outs,[],[]⟩,true,false,false⟩:=by rw[nX rfl rfl (by rw[ht3];decide) (by rw[ht3];rfl)];unfold jh;rw[ht3,if_neg (by decide),if_neg (by decide),if_neg (by decide),if_neg (by decide),if_neg (by decide),if_pos rfl];unfold yc;rw[uY hk.outs hr3];rfl
 have s5:bF ps0 [t1::r1,t2::r2,t3::r3]= .ok ⟨⟨c.ins,c.outs,[],[]⟩,true,false,false⟩:=by rw[bF,s1];dsimp only;rw[bF,s2];dsimp only;rw[bF,s3];rfl
 rw[lw _ _ _ _ s5];have s6:bF ⟨⟨c.ins,c.outs,[],[]⟩,true,false,false⟩ l= .ok ⟨⟨c.ins,c.outs,c.lat,[]⟩,true,false,false⟩:=by
  rw[CO c.lat ⟨⟨c.ins,c.outs,[],[]⟩,true,false,false⟩ l hk.lat rfl rfl rfl hl];rfl
 rw[lw _ _ _ _ s6];obtain⟨on,s7⟩:=wS c.gates ⟨⟨c.ins,c.outs,c.lat,[]⟩,true,false,false⟩ gl hk.gates rfl rfl hg;have s7:bF ⟨⟨c.ins,c.outs,c.lat,[]⟩,true,false,false⟩ gl= .ok ⟨⟨c.ins,c.outs,c.lat,c.gates.map fun g=>⟨(aK g).name,10,(aK g).ins,(aQ (aK g)).1,(aQ (aK g)).2⟩⟩,true,false,on⟩:=s7;rw[lw _ _ _ _ s7];have hr0:r4=[]:=List.map_eq_nil_iff.1 hr4;subst hr0;rw[bF,nX rfl rfl (by rw[ht4];decide) (by rw[ht4];rfl)];unfold jh;rw[ht4,if_pos rfl,if_pos rfl];dsimp only;rw[bF];dsimp only;unfold Ud;rw[if_neg (by show ¬true=false;decide)];have hc:ji ⟨c.ins,c.outs,c.lat,c.gates.map fun g=>⟨(aK g).name,10,(aK g).ins,(aQ (aK g)).1,(aQ (aK g)).2⟩⟩=gG c:=by
  unfold ji gG
  congr 1
  show(c.gates.map _).map aU=_;rw[List.map_map];exact zsd fun g hg=>IU (dV (hk.gates g hg).1).1
 show(if(mO (ji _)).1=0 then _ else _)=_;rw[hc,if_pos (by rw[(CG h).1])]
open Go.RowKit
open Go.Shelf
open Go.Lib
def CQ:Go.Shelf.Ren:=⟨fun|137=>160|217=>164|266=>174|n=>n,fun|9=>9|5=>5|3=>3|n=>n,fun|n=>n⟩
theorem IY[MO]:Go.Proofs.Lays.n137 Tryz.prog CQ where
 mixed:=by kernel_rfl
 f137:=Tryz.func160.trans (congrArg some (by kernel_rfl))
 f217:=Tryz.func164.trans (congrArg some (by kernel_rfl))
 f266:=Tryz.func174.trans (congrArg some (by kernel_rfl))
 t3:=Tryz.underlying3
 a3:=Tryz.isAgg3
 z3:=Tryz.sizeOf3
 v3:=Tryz.zeroValue3
 t5:=Tryz.underlying5
 a5:=Tryz.isAgg5
 z5:=Tryz.sizeOf5
 v5:=Tryz.zeroValue5
 t9:=Tryz.underlying9
 a9:=Tryz.isAgg9
 z9:=Tryz.sizeOf9
 v9:=Tryz.zeroValue9
def PG:Go.Shelf.Ren:=⟨fun|138=>94|195=>122|218=>123|143=>124|219=>149|217=>164|225=>165|224=>166|267=>167|266=>174|314=>175|n=>n,fun|9=>9|3=>3|4=>4|5=>5|0=>0|46=>124|146=>181|51=>180|n=>n,fun|1=>5|n=>n⟩
theorem UZ[MO]:Go.Proofs.Lays.n138 Tryz.prog PG where
 mixed:=by kernel_rfl
 f138:=Tryz.func94.trans (congrArg some (by kernel_rfl))
 f143:=Tryz.func124.trans (congrArg some (by kernel_rfl))
 f195:=Tryz.func122.trans (congrArg some (by kernel_rfl))
 f217:=Tryz.func164.trans (congrArg some (by kernel_rfl))
 f218:=Tryz.func123.trans (congrArg some (by kernel_rfl))
 f219:=Tryz.func149.trans (congrArg some (by kernel_rfl))
 f224:=Tryz.func166.trans (congrArg some (by kernel_rfl))
 f225:=Tryz.func165.trans (congrArg some (by kernel_rfl))
 f266:=Tryz.func174.trans (congrArg some (by kernel_rfl))
 f267:=Tryz.func167.trans (congrArg some (by kernel_rfl))
 f314:=Tryz.func175.trans (congrArg some (by kernel_rfl))
 t0:=Tryz.underlying0
 a0:=Tryz.isAgg0
 z0:=Tryz.sizeOf0
 v0:=Tryz.zeroValue0
 t3:=Tryz.underlying3
 a3:=Tryz.isAgg3
 z3:=Tryz.sizeOf3
 v3:=Tryz.zeroValue3
 t4:=Tryz.underlying4
 a4:=Tryz.isAgg4
 z4:=Tryz.sizeOf4
 v4:=Tryz.zeroValue4
 t5:=Tryz.underlying5
 a5:=Tryz.isAgg5
 z5:=Tryz.sizeOf5
 v5:=Tryz.zeroValue5
 t9:=Tryz.underlying9
 a9:=Tryz.isAgg9
 z9:=Tryz.sizeOf9
 v9:=Tryz.zeroValue9
 t46:=Tryz.underlying124
 a46:=Tryz.isAgg124
 z46:=Tryz.sizeOf124
 v46:=Tryz.zeroValue124
 t51:=Tryz.underlying180
 a51:=Tryz.isAgg180
 z51:=Tryz.sizeOf180
 v51:=Tryz.zeroValue180
 t146:=Tryz.underlying181
 a146:=Tryz.isAgg181
 z146:=Tryz.sizeOf181
 v146:=Tryz.zeroValue181
 g1:=by kernel_rfl
def CU:Go.Shelf.Ren:=⟨fun|148=>133|222=>153|223=>154|269=>168|n=>n,fun|9=>9|3=>3|4=>4|5=>5|146=>181|51=>180|46=>124|n=>n,fun|n=>n⟩
theorem IZ[MO]:Go.Proofs.Lays.n148 Tryz.prog CU where
 mixed:=by kernel_rfl
 f148:=Tryz.func133.trans (congrArg some (by kernel_rfl))
 f222:=Tryz.func153.trans (congrArg some (by kernel_rfl))
 f223:=Tryz.func154.trans (congrArg some (by kernel_rfl))
 f269:=Tryz.func168.trans (congrArg some (by kernel_rfl))
 t3:=Tryz.underlying3
 a3:=Tryz.isAgg3
 z3:=Tryz.sizeOf3
 v3:=Tryz.zeroValue3
 t4:=Tryz.underlying4
 a4:=Tryz.isAgg4
 z4:=Tryz.sizeOf4
 v4:=Tryz.zeroValue4
 t5:=Tryz.underlying5
 a5:=Tryz.isAgg5
 z5:=Tryz.sizeOf5
 v5:=Tryz.zeroValue5
 t9:=Tryz.underlying9
 a9:=Tryz.isAgg9
 z9:=Tryz.sizeOf9
 v9:=Tryz.zeroValue9
 t46:=Tryz.underlying124
 a46:=Tryz.isAgg124
 z46:=Tryz.sizeOf124
 v46:=Tryz.zeroValue124
 t51:=Tryz.underlying180
 a51:=Tryz.isAgg180
 z51:=Tryz.sizeOf180
 v51:=Tryz.zeroValue180
 t146:=Tryz.underlying181
 a146:=Tryz.isAgg181
 z146:=Tryz.sizeOf181
 v146:=Tryz.zeroValue181
def SK:Go.Shelf.Ren:=⟨fun|160=>112|232=>135|231=>134|227=>136|234=>138|233=>137|236=>140|235=>139|228=>155|271=>158|151=>157|197=>156|120=>171|152=>170|260=>169|137=>160|119=>176|224=>166|225=>165|217=>164|266=>174|n=>n,fun|9=>9|4=>4|3=>3|5=>5|117=>221|116=>220|0=>0|124=>224|21=>21|105=>235|46=>124|119=>244|139=>247|138=>246|n=>n,fun|3=>8|4=>9|n=>n⟩
theorem VL[MO]:Go.Proofs.Lays.n160 Tryz.prog SK where
 mixed:=by kernel_rfl
 f119:=Tryz.func176.trans (congrArg some (by kernel_rfl))
 f120:=Tryz.func171.trans (congrArg some (by kernel_rfl))
 f137:=Tryz.func160.trans (congrArg some (by kernel_rfl))
 f151:=Tryz.func157.trans (congrArg some (by kernel_rfl))
 f152:=Tryz.func170.trans (congrArg some (by kernel_rfl))
 f160:=Tryz.func112.trans (congrArg some (by kernel_rfl))
 f197:=Tryz.func156.trans (congrArg some (by kernel_rfl))
 f217:=Tryz.func164.trans (congrArg some (by kernel_rfl))
 f224:=Tryz.func166.trans (congrArg some (by kernel_rfl))
 f225:=Tryz.func165.trans (congrArg some (by kernel_rfl))
 f227:=Tryz.func136.trans (congrArg some (by kernel_rfl))
 f228:=Tryz.func155.trans (congrArg some (by kernel_rfl))
 f231:=Tryz.func134.trans (congrArg some (by kernel_rfl))
 f232:=Tryz.func135.trans (congrArg some (by kernel_rfl))
 f233:=Tryz.func137.trans (congrArg some (by kernel_rfl))
 f234:=Tryz.func138.trans (congrArg some (by kernel_rfl))
 f235:=Tryz.func139.trans (congrArg some (by kernel_rfl))
 f236:=Tryz.func140.trans (congrArg some (by kernel_rfl))
 f260:=Tryz.func169.trans (congrArg some (by kernel_rfl))
 f266:=Tryz.func174.trans (congrArg some (by kernel_rfl))
 f271:=Tryz.func158.trans (congrArg some (by kernel_rfl))
 t0:=Tryz.underlying0
 a0:=Tryz.isAgg0
 z0:=Tryz.sizeOf0
 v0:=Tryz.zeroValue0
 t3:=Tryz.underlying3
 a3:=Tryz.isAgg3
 z3:=Tryz.sizeOf3
 v3:=Tryz.zeroValue3
 t4:=Tryz.underlying4
 a4:=Tryz.isAgg4
 z4:=Tryz.sizeOf4
 v4:=Tryz.zeroValue4
 t5:=Tryz.underlying5
 a5:=Tryz.isAgg5
 z5:=Tryz.sizeOf5
 v5:=Tryz.zeroValue5
 t9:=Tryz.underlying9
 a9:=Tryz.isAgg9
 z9:=Tryz.sizeOf9
 v9:=Tryz.zeroValue9
 t21:=Tryz.underlying21
 a21:=Tryz.isAgg21
 z21:=Tryz.sizeOf21
 v21:=Tryz.zeroValue21
 t46:=Tryz.underlying124
 a46:=Tryz.isAgg124
 z46:=Tryz.sizeOf124
 v46:=Tryz.zeroValue124
 t105:=Tryz.underlying235
 a105:=Tryz.isAgg235
 z105:=Tryz.sizeOf235
 v105:=Tryz.zeroValue235
 t116:=Tryz.underlying220
 a116:=Tryz.isAgg220
 z116:=Tryz.sizeOf220
 t117:=Tryz.underlying221
 a117:=Tryz.isAgg221
 z117:=Tryz.sizeOf221
 v117:=Tryz.zeroValue221
 t119:=Tryz.underlying244
 a119:=Tryz.isAgg244
 z119:=Tryz.sizeOf244
 t124:=Tryz.underlying224
 a124:=Tryz.isAgg224
 z124:=Tryz.sizeOf224
 v124:=Tryz.zeroValue224
 t138:=Tryz.underlying246
 a138:=Tryz.isAgg246
 z138:=Tryz.sizeOf246
 v138:=Tryz.zeroValue246
 t139:=Tryz.underlying247
 a139:=Tryz.isAgg247
 z139:=Tryz.sizeOf247
 v139:=Tryz.zeroValue247
 g3:=by kernel_rfl
 g4:=by kernel_rfl
def yg:Go.Shelf.Ren:=⟨fun|150=>143|153=>161|152=>170|226=>173|227=>136|228=>155|137=>160|119=>176|224=>166|225=>165|217=>164|266=>174|n=>n,fun|9=>9|4=>4|3=>3|5=>5|21=>21|117=>221|116=>220|0=>0|46=>124|124=>224|n=>n,fun|n=>n⟩
theorem CV[MO]:Go.Proofs.Lays.n150 Tryz.prog yg where
 mixed:=by kernel_rfl
 f119:=Tryz.func176.trans (congrArg some (by kernel_rfl))
 f137:=Tryz.func160.trans (congrArg some (by kernel_rfl))
 f150:=Tryz.func143.trans (congrArg some (by kernel_rfl))
 f152:=Tryz.func170.trans (congrArg some (by kernel_rfl))
 f153:=Tryz.func161.trans (congrArg some (by kernel_rfl))
 f217:=Tryz.func164.trans (congrArg some (by kernel_rfl))
 f224:=Tryz.func166.trans (congrArg some (by kernel_rfl))
 f225:=Tryz.func165.trans (congrArg some (by kernel_rfl))
 f226:=Tryz.func173.trans (congrArg some (by kernel_rfl))
 f227:=Tryz.func136.trans (congrArg some (by kernel_rfl))
 f228:=Tryz.func155.trans (congrArg some (by kernel_rfl))
 f266:=Tryz.func174.trans (congrArg some (by kernel_rfl))
 t0:=Tryz.underlying0
 a0:=Tryz.isAgg0
 z0:=Tryz.sizeOf0
 v0:=Tryz.zeroValue0
 t3:=Tryz.underlying3
 a3:=Tryz.isAgg3
 z3:=Tryz.sizeOf3
 v3:=Tryz.zeroValue3
 t4:=Tryz.underlying4
 a4:=Tryz.isAgg4
 z4:=Tryz.sizeOf4
 v4:=Tryz.zeroValue4
 t5:=Tryz.underlying5
 a5:=Tryz.isAgg5
 z5:=Tryz.sizeOf5
 v5:=Tryz.zeroValue5
 t9:=Tryz.underlying9
 a9:=Tryz.isAgg9
 z9:=Tryz.sizeOf9
 v9:=Tryz.zeroValue9
 t21:=Tryz.underlying21
 a21:=Tryz.isAgg21
 z21:=Tryz.sizeOf21
 v21:=Tryz.zeroValue21
 t46:=Tryz.underlying124
 a46:=Tryz.isAgg124
 z46:=Tryz.sizeOf124
 v46:=Tryz.zeroValue124
 t116:=Tryz.underlying220
 a116:=Tryz.isAgg220
 z116:=Tryz.sizeOf220
 t117:=Tryz.underlying221
 a117:=Tryz.isAgg221
 z117:=Tryz.sizeOf221
 v117:=Tryz.zeroValue221
 t124:=Tryz.underlying224
 a124:=Tryz.isAgg224
 z124:=Tryz.sizeOf224
 v124:=Tryz.zeroValue224
def PI:Go.Shelf.Ren:=⟨fun|143=>124|219=>149|217=>164|225=>165|224=>166|267=>167|266=>174|314=>175|n=>n,fun|9=>9|3=>3|4=>4|5=>5|46=>124|146=>181|51=>180|n=>n,fun|1=>5|n=>n⟩
theorem U0[MO]:Go.Proofs.Lays.n143 Tryz.prog PI where
 mixed:=by kernel_rfl
 f143:=Tryz.func124.trans (congrArg some (by kernel_rfl))
 f217:=Tryz.func164.trans (congrArg some (by kernel_rfl))
 f219:=Tryz.func149.trans (congrArg some (by kernel_rfl))
 f224:=Tryz.func166.trans (congrArg some (by kernel_rfl))
 f225:=Tryz.func165.trans (congrArg some (by kernel_rfl))
 f266:=Tryz.func174.trans (congrArg some (by kernel_rfl))
 f267:=Tryz.func167.trans (congrArg some (by kernel_rfl))
 f314:=Tryz.func175.trans (congrArg some (by kernel_rfl))
 t3:=Tryz.underlying3
 a3:=Tryz.isAgg3
 z3:=Tryz.sizeOf3
 v3:=Tryz.zeroValue3
 t4:=Tryz.underlying4
 a4:=Tryz.isAgg4
 z4:=Tryz.sizeOf4
 v4:=Tryz.zeroValue4
 t5:=Tryz.underlying5
 a5:=Tryz.isAgg5
 z5:=Tryz.sizeOf5
 v5:=Tryz.zeroValue5
 t9:=Tryz.underlying9
 a9:=Tryz.isAgg9
 z9:=Tryz.sizeOf9
 v9:=Tryz.zeroValue9
 t46:=Tryz.underlying124
 a46:=Tryz.isAgg124
 z46:=Tryz.sizeOf124
 v46:=Tryz.zeroValue124
 t51:=Tryz.underlying180
 a51:=Tryz.isAgg180
 z51:=Tryz.sizeOf180
 v51:=Tryz.zeroValue180
 t146:=Tryz.underlying181
 a146:=Tryz.isAgg181
 z146:=Tryz.sizeOf181
 v146:=Tryz.zeroValue181
 g1:=by kernel_rfl
def CW:Go.Shelf.Ren:=⟨fun|105=>28|212=>67|99=>68|165=>69|166=>23|170=>70|169=>24|263=>106|264=>107|206=>108|240=>52|241=>109|276=>95|277=>132|n=>n,fun|9=>9|3=>3|4=>4|20=>20|0=>0|46=>124|109=>125|5=>5|72=>60|76=>69|51=>180|146=>181|53=>183|148=>184|70=>57|37=>58|75=>68|127=>108|164=>158|80=>71|n=>n,fun|n=>n⟩
theorem SL[MO]:Go.Proofs.Lays.n105 Tryz.prog CW where
 mixed:=by kernel_rfl
 f99:=Tryz.func68.trans (congrArg some (by kernel_rfl))
 f105:=Tryz.func28.trans (congrArg some (by kernel_rfl))
 f165:=Tryz.func69.trans (congrArg some (by kernel_rfl))
 f166:=Tryz.func23.trans (congrArg some (by kernel_rfl))
 f169:=Tryz.func24.trans (congrArg some (by kernel_rfl))
 f170:=Tryz.func70.trans (congrArg some (by kernel_rfl))
 f206:=Tryz.func108.trans (congrArg some (by kernel_rfl))
 f212:=Tryz.func67.trans (congrArg some (by kernel_rfl))
 f240:=Tryz.func52.trans (congrArg some (by kernel_rfl))
 f241:=Tryz.func109.trans (congrArg some (by kernel_rfl))
 f263:=Tryz.func106.trans (congrArg some (by kernel_rfl))
 f264:=Tryz.func107.trans (congrArg some (by kernel_rfl))
 f276:=Tryz.func95.trans (congrArg some (by kernel_rfl))
 f277:=Tryz.func132.trans (congrArg some (by kernel_rfl))
 t0:=Tryz.underlying0
 a0:=Tryz.isAgg0
 z0:=Tryz.sizeOf0
 v0:=Tryz.zeroValue0
 t3:=Tryz.underlying3
 a3:=Tryz.isAgg3
 z3:=Tryz.sizeOf3
 v3:=Tryz.zeroValue3
 t4:=Tryz.underlying4
 a4:=Tryz.isAgg4
 z4:=Tryz.sizeOf4
 v4:=Tryz.zeroValue4
 t5:=Tryz.underlying5
 a5:=Tryz.isAgg5
 z5:=Tryz.sizeOf5
 v5:=Tryz.zeroValue5
 t9:=Tryz.underlying9
 a9:=Tryz.isAgg9
 z9:=Tryz.sizeOf9
 v9:=Tryz.zeroValue9
 t20:=Tryz.underlying20
 a20:=Tryz.isAgg20
 z20:=Tryz.sizeOf20
 v20:=Tryz.zeroValue20
 t37:=Tryz.underlying58
 a37:=Tryz.isAgg58
 z37:=Tryz.sizeOf58
 v37:=Tryz.zeroValue58
 t46:=Tryz.underlying124
 a46:=Tryz.isAgg124
 z46:=Tryz.sizeOf124
 v46:=Tryz.zeroValue124
 t51:=Tryz.underlying180
 a51:=Tryz.isAgg180
 z51:=Tryz.sizeOf180
 v51:=Tryz.zeroValue180
 t53:=Tryz.underlying183
 a53:=Tryz.isAgg183
 z53:=Tryz.sizeOf183
 v53:=Tryz.zeroValue183
 t70:=Tryz.underlying57
 a70:=Tryz.isAgg57
 z70:=Tryz.sizeOf57
 v70:=Tryz.zeroValue57
 t72:=Tryz.underlying60
 a72:=Tryz.isAgg60
 z72:=Tryz.sizeOf60
 v72:=Tryz.zeroValue60
 t75:=Tryz.underlying68
 a75:=Tryz.isAgg68
 z75:=Tryz.sizeOf68
 v75:=Tryz.zeroValue68
 t76:=Tryz.underlying69
 a76:=Tryz.isAgg69
 z76:=Tryz.sizeOf69
 v76:=Tryz.zeroValue69
 t109:=Tryz.underlying125
 a109:=Tryz.isAgg125
 z109:=Tryz.sizeOf125
 v109:=Tryz.zeroValue125
 t127:=Tryz.underlying108
 a127:=Tryz.isAgg108
 z127:=Tryz.sizeOf108
 v127:=Tryz.zeroValue108
 t146:=Tryz.underlying181
 a146:=Tryz.isAgg181
 z146:=Tryz.sizeOf181
 v146:=Tryz.zeroValue181
 t148:=Tryz.underlying184
 a148:=Tryz.isAgg184
 z148:=Tryz.sizeOf184
 v148:=Tryz.zeroValue184
 t164:=Tryz.underlying158
 a164:=Tryz.isAgg158
 z164:=Tryz.sizeOf158
 v164:=Tryz.zeroValue158
theorem nY{c:C}{l:S}{x:Value}(h:VRel c (.str l) x):x= .string ⟨l.toArray⟩:=by
 simp only[VRel]at h;obtain⟨s,rfl,h,_⟩:=h
 congr 1
 rw[<-h]
theorem Gx[MO](s:S)(n:Nat)(hn:n<256):Ev TE 160 [.str s,.int .u8 n] (vi (Lib.indexByte s (UInt8.ofNat n))):=by intro ok w vs hs hl;simp only[VList,VRel]at hl;obtain⟨y,ys,rfl,⟨b,rfl,hb,_⟩,y2,ys2,rfl,rfl,rfl⟩:=hl;refine Calls.mono (Any.strings_IndexByte IY b n w) ?_;rintro en w' ⟨rfl,rfl⟩;refine⟨_,rfl,WExt.refl _,?_⟩;simp only[VRel];rw[hb];rfl
theorem CX[MO](s:S)(c:UInt8):Ev TE 94 [.str s,.str [c]] (vi (s.count c:Nat)):=by intro ok w vs hs hl;simp only[VList]at hl;obtain⟨y,ys,rfl,h1,y2,ys2,rfl,h2,rfl⟩:=hl;have:=nY h1;subst this;have:=nY h2;subst this;refine Calls.mono (Any.strings_Count_one UZ ⟨s.toArray⟩ c w) ?_;rintro en w' ⟨rfl,rfl⟩;exact⟨_,rfl,WExt.refl _,by simp only[VRel];rfl⟩
theorem PK[MO](s:S)(c:UInt8)(hs0:s.length<=1000000000):Ev TE 133 [.str s,.str [c]] (vi (Lib.lastIndexByte ⟨s.toArray⟩ c.toNat)):=by intro ok w vs hs hl;simp only[VList]at hl;obtain⟨y,ys,rfl,h1,y2,ys2,rfl,h2,rfl⟩:=hl;have:=nY h1;subst this;have:=nY h2;subst this;refine Calls.mono (Any.strings_LastIndex_one IZ ⟨s.toArray⟩ ⟨#[c]⟩ rfl (by show s.toArray.size<_;simp;omega) w) ?_;rintro en w' ⟨rfl,rfl⟩;exact⟨_,rfl,WExt.refl _,by simp only[VRel];rfl⟩
theorem Wq:Builder.Extra Tryz.prog CW where
 sizeBuilder:=by kernel_rfl
 liesBuilder:=by kernel_rfl
 t5:=Tryz.underlying5
 a5:=Tryz.isAgg5
 z5:=Tryz.sizeOf5
 v5:=Tryz.zeroValue5
 infoByte:=by kernel_rfl
 cellsByte:=by kernel_rfl
 sizeByte:=by kernel_rfl
 neB5:=by decide
theorem CY{α:Type}(p:α->Bool)(l:List α):(l.dropWhile p).length<=l.length:=(List.dropWhile_sublist p).length_le
theorem LY(l cs:S):(Lib.trimS l cs).length<=l.length:=by unfold Lib.trimS Lib.trimLeftS Lib.trimRightS;refine Nat.le_trans (CY _ _) ?_;rw[List.length_reverse];exact Nat.le_trans (CY _ _) (by rw[List.length_reverse];exact zrb _)
theorem wV{w w':World}(x:Below w.heap.size w w'):WExt w w':=⟨x.os,x.tape,x.output,x.size,x.block⟩
theorem Gy[MO](s cut:S)(hc:cut.length<=1000)(ha:∀b∈cut,b.toNat<128):Ev TE 112 [.str s,.str cut] (.str (Lib.trimS s cut)):=by
 intro ok w vs hs hl;simp only[VList]at hl;obtain⟨y,ys,rfl,h1,y2,ys2,rfl,h2,rfl⟩:=hl;have hsl:s.length<=maxLen:=by obtain⟨_,_,_,h⟩:=(show ∃s':ByteArray,y= .string s'/\s'.data.toList=s/\s.length<=maxLen by simpa only[VRel]using h1);exact h
 have:=nY h1;subst this;have:=nY h2;subst this;refine Calls.mono (Any.strings_Trim_laid VL (by kernel_rfl) ⟨s.toArray⟩ ⟨cut.toArray⟩ w (by show s.toArray.size<=_;rw[List.size_toArray];exact hsl) (by show cut.toArray.size<_;simp;omega) (fun j b hj=>ha b (List.mem_of_getElem? hj))) ?_;rintro en w' ⟨rfl,hw⟩;refine⟨_,rfl,wV hw,?_⟩;simp only[VRel];exact⟨_,rfl,rfl,Nat.le_trans (LY s cut) hsl⟩
theorem PL[MO](s cs:S)(hs0:s.length<=1000000)(hc:cs.length<=1000)(ha:∀b∈s,b.toNat<128)(hca:∀b∈cs,b.toNat<128):Ev TE 143 [.str s,.str cs] (.bool (Lib.containsAny s cs)):=by intro ok w vs hs hl;simp only[VList]at hl;obtain⟨y,ys,rfl,h1,y2,ys2,rfl,h2,rfl⟩:=hl;have:=nY h1;subst this;have:=nY h2;subst this;refine Calls.mono (Any.strings_ContainsAny_laid CV (by kernel_rfl) ⟨s.toArray⟩ ⟨cs.toArray⟩ w (by show s.toArray.size<_;simp;omega) (by show cs.toArray.size<_;simp;omega) (fun j b hj=>ha b (List.mem_of_getElem? hj)) (fun j b hj=>hca b (List.mem_of_getElem? hj))) ?_;rintro en w' ⟨rfl,hw⟩;exact⟨_,rfl,wV hw,by simp only[VRel]⟩
theorem LZ[MO](s t:S)(hs0:s.length<=1000000):Ev TE 124 [.str s,.str t] (vi (Lib.index s t)):=by intro ok w vs hs hl;simp only[VList]at hl;obtain⟨y,ys,rfl,h1,y2,ys2,rfl,h2,rfl⟩:=hl;have:=nY h1;subst this;have:=nY h2;subst this;obtain⟨_,cs,ty,fz,hg0,m,hg1⟩:=hs.exa 5 _ rfl;have hg1:cs=_:=hg1;subst hg1;refine Calls.mono (Any.strings_Index U0 ⟨s.toArray⟩ ⟨t.toArray⟩ m w (by show s.toArray.size<_;simp;omega) (by show w.cell? ⟨5,0,none⟩=_;have hg2:w.heap[5]? =_:=hg0;simp[World.cell?,hg2])) ?_;rintro en w' ⟨rfl,rfl⟩;exact⟨_,rfl,WExt.refl _,by simp only[VRel]⟩
theorem lC[MO](s:S)(n:Nat)(hs0:s.length<=1000)(hn:n<=1000000):Ev TE 28 [.str s,vi n] (.str (Lib.repeatL s n)):=by intro ok w vs hs hl;simp only[VList]at hl;obtain⟨y,ys,rfl,h1,y2,ys2,rfl,h2,rfl⟩:=hl;have:=nY h1;subst this;simp only[VRel]at h2;subst h2;have hp:s.length*n<=1000*1000000:=Nat.mul_le_mul hs0 hn;refine Calls.mono (Any.strings_Repeat Go.Proofs.YtokppohljajhjaaGreatDoor.SL Wq ⟨s.toArray⟩ n w (by omega) (by show s.toArray.size*n<=_;simp;omega)) ?_;rintro en w' ⟨rfl,hw⟩;refine⟨_,rfl,wV hw,?_⟩;simp only[VRel];exact⟨_,rfl,rfl,by rw[Lib.repeatL_length];show _<=9223372036854775807;rw[Nat.mul_comm];omega⟩
end Go.Proofs.YtokppohljajhjaaGreatDoor
