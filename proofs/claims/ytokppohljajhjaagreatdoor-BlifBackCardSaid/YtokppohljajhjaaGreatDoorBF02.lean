/- Lemmas for this claim, part F02: each holds under what it names. -/
import Derived.Test.YtokppohljajhjaaGreatDoorBF01
import Derived.Shelf.Strings.Count
import Derived.Shelf.Strings.LastIndex
import Derived.Shelf.Small.Strs
import Derived.Shelf.Strings.Repeat
import Derived.Shelf.Strings.SlTrimAscii
import Derived.Shelf.Strings.IndexAnyAll
import Derived.Shelf.Strings.Search3
set_option linter.all false
set_option maxRecDepth 20000
namespace Go.Proofs.YtokppohljajhjaaGreatDoor
open Go Go.Proofs Go.Abs
abbrev RB(α:Type):=Except (Nat×Int) α
def mr:Bool->List Tk->List Tk
 |_,[]=>[]
 |b,t::r=>if t.k=3 then(if b=true then mr true r else t::mr true r)else t::mr false r
def bM:List Tk->List Tk->List (List Tk)
 |_,[]=>[]
 |acc,t::r=>if t.k=3 then acc::bM [] r else bM (acc++[t]) r
def iP(s:S):List Tk:=mr true (tkB s.length 0 s++[⟨3,[],s.length⟩])
theorem nJ:∀(l acc:List Tk),bM acc (mr acc.isEmpty l)=(bM acc l).filter fun x=> !x.isEmpty
 |[],acc=>by rw[mr,bM];rfl
 |t::r,acc=>by
  by_cases h:t.k=3
  ·cases acc with
   |nil=>show bM [] (mr true (t::r))=_;rw[mr,if_pos h,if_pos rfl,bM,if_pos h];exact nJ r []
   |cons a acc=>show bM (a::acc) (mr false (t::r))=_;rw[mr,if_pos h,if_neg (by decide),bM,if_pos h,bM,if_pos h];exact congrArg _ (nJ r [])
  ·have e:(acc++[t]).isEmpty=false:=by simp
   rw[mr,if_neg h,bM,if_neg h,bM,if_neg h,<-nJ r (acc++[t]),e]
theorem NI{s:S}:∀l∈bM [] (iP s),l≠[]:=fun l hl=>by have h:iP s=mr ([]:List Tk).isEmpty (tkB s.length 0 s++[⟨3,[],s.length⟩]):=rfl;rw[h,nJ]at hl;have:=(List.mem_filter.1 hl).2;intro e;rw[e]at this;exact absurd this (by decide)
structure Ps where
 c:Ci
 begun:Bool
 ended:Bool
 on:Bool
def iF(t:Tk):RB S:=if t.k=0 then(if(xC aT t.t).2=0 then .ok (xC aT t.t).1 else .error (t.at',(xC aT t.t).2))else .error (t.at',4)
def bQ:List Tk->RB (List S)
 |[]=> .ok []
 |t::r=>match iF t with
  | .error e=> .error e
  | .ok s=>match bQ r with
   | .error e=> .error e
   | .ok l=> .ok (s::l)
def zW(s:S):Option Int:=if s=[48]then some 0 else if s=[49]then some 1 else if s=[50]then some 2 else if s=[51]then some 2 else none
def pG(p:Ps)(y x:S)(k:Int):Ps:={p with c:={p.c with lat:=p.c.lat++[⟨y,x,k⟩]}}
def mD(p:Ps)(t:Tk)(r:List Tk):RB Ps:=match r with
 |a::b::r'=>if r'.length<=1 then(match iF a with
  | .error e=> .error e
  | .ok x=>match iF b with
   | .error e=> .error e
   | .ok y=>match r' with
    |[]=> .ok (pG p y x 2)
    |i::_=>match zW i.t with
     |some k=> .ok (pG p y x k)
     |none=> .error (i.at',1))else .error (t.at',2)
 |_=> .error (t.at',2)
def LV(p:Ps)(r:List Tk):RB Ps:=match bQ r with
 | .error e=> .error e
 | .ok l=> .ok {p with c:={p.c with ins:=p.c.ins++l}}
def xG(p:Ps)(r:List Tk):RB Ps:=match bQ r with
 | .error e=> .error e
 | .ok l=> .ok {p with c:={p.c with outs:=p.c.outs++l}}
def oW(p:Ps)(t:Tk)(r:List Tk):RB Ps:=match r with
 |[]=> .error (t.at',2)
 |_=>match bQ r with
  | .error e=> .error e
  | .ok l=> .ok {p with c:={p.c with gates:=p.c.gates++[⟨l.getLastD [],10,l.dropLast,[],false⟩]},on:=true}
def ug(t:Tk)(r:List Tk):S:=(r.getLastD t).t
def Bz(g:Ga)(t:Tk):S:=if g.ins.length=0 then []else t.t
def RU(g:Ga)(t:Tk)(r:List Tk):Bool:=jc g.ins.length (Bz g t)&&((ug t r==[48]||ug t r==[49])&&(g.rows.isEmpty||g.off==(ug t r==[48])))
def Hm(p:Ps)(t:Tk)(r:List Tk):RB Ps:=match p.on,p.c.gates.getLast? with
 |true,some g =>
  if r.length = min g.ins.length 1 then
   if RU g t r=true then .ok {p with c:={p.c with gates:=p.c.gates.dropLast++[{g with rows:=g.rows++[Bz g t],off:=ug t r==[48]}]}} else .error (t.at',2)
  else .error (t.at',2)
 |_,_=> .error (t.at',2)
def dZ:S:=[46,109,111,100,101,108]
def xY:S:=[46,101,110,100]
def eG:S:=[46,105,110,112,117,116,115]
def dw:S:=[46,111,117,116,112,117,116,115]
def gm:S:=[46,108,97,116,99,104]
def gq:S:=[46,110,97,109,101,115]
def jd(p:Ps)(t:Tk)(r:List Tk):RB Ps :=
 if t.t=xY then(if r=[]then .ok {p with ended:=true} else .error (t.at',2))
 else if t.t=eG then LV p r
 else if t.t=gm then mD p t r
 else if t.t=dZ then(if r.length<=1 then .ok {p with begun:=true} else .error (t.at',2))
 else if t.t=gq then oW p t r
 else if t.t=dw then xG p r
 else .error (t.at',9)
def jq(p:Ps):List Tk->RB Ps
 |[]=> .ok p
 |t::r =>
  if(!p.ended&&p.begun != (t.t==dZ))=false then .error (t.at',2)
  else if t.t.headD 0≠46 then Hm p t r
  else jd {p with on:=false} t r
def bF:Ps->List (List Tk)->RB Ps
 |p,[]=> .ok p
 |p,l::r=>match jq p l with
  | .error e=> .error e
  | .ok p=>bF p r
def xH(t:Tk):S×Int:=if t.k=0 then xC aT t.t else([],4)
def isT(s:S)(t:Tk):Bool:=(xH t).2==0&&(xH t).1==s
def J5(l:List Tk)(s:S):Nat:=match l.findIdx? (isT s)with
 |some i=>(l.getD i ⟨0,[],0⟩).at'
 |none=>0
def ps0:Ps:=⟨⟨[],[],[],[]⟩,false,false,false⟩
def je(c:Ci):Ci:={c with gates:=c.gates.map aU}
def RV(s:S)(p:Ps):RB Ci :=
 if p.ended=false then .error (s.length,2)
 else if(oK (je p.c)).1=0 then .ok (je p.c)
 else .error (if(oK (je p.c)).2=[]then 0 else J5 (iP s) (oK (je p.c)).2,(oK (je p.c)).1)
def mF(s:S):RB Ci:=match bF ps0 (bM [] (iP s))with
 | .error e=> .error e
 | .ok p=>RV s p
def spV(s:S):S:=if aT s=true then bf s else []
def dD(w:S)(l:List S):S:=w++l.flatMap (fun x=>32::spV x)++[10]
def kK(i:Int):S:=if i=0 then [48]else if i=1 then [49]else [51]
def Ed(off:Bool)(row:S):S:=(if row=[]then []else row++[32])++[if off=true then 48 else 49,10]
def jM(g:Ga):S:=dD gq ((az g).ins++[(az g).name])++(aQ (az g)).1.flatMap (Ed (aQ (az g)).2)
def LX:S:=[116,111,112]
def gZ(c:Ci):S:=dD dZ [LX]++dD eG c.ins++dD dw c.outs++c.lat.flatMap (fun q=>dD gm [q.next,q.name,kK q.init])++c.gates.flatMap jM++dD xY []
def jX(c:Ci):S×Int:=if(oK c).1=0 then(gZ c,0)else([],1)
def okW(w:S):Prop:=w≠[]/\∀c∈w,gG c=true
theorem Ee{c:UInt8}(h:iE c=true)(h1:c≠35)(h2:c≠92):gG c=true:=by
 unfold iE at h;simp only[zqf,zqb]at h;unfold gG oV;have a1:c≠32:=fun e=>by subst e;exact absurd h.1 (by decide)
 have a2:c≠9:=fun e=>by subst e;exact absurd h.1 (by decide)
 have a3:c≠13:=fun e=>by subst e;exact absurd h.1 (by decide)
 have a4:c≠10:=fun e=>by subst e;exact absurd h.1 (by decide)
 simp[a1,a2,a3,a4,h1,h2]
theorem xZ{s:S}(h:aT s=true):s≠[]/\∀c∈s,iE c=true:=by
 unfold aT at h;simp only[zqf,zqb,zrs]at h;refine⟨fun e=> ?_,?_⟩
 ·rw[e]at h;simp at h
 ·exact fun c hc=>by first|exact h.1 c hc|exact h.2 c hc
theorem rH{s:S}(h:aT s=true):okW (bf s)/\(bf s).headD 0≠46:=by
 obtain⟨h1,h2⟩:=xZ h;unfold bf;split
 ·refine⟨⟨by simp[aY,mM],fun c hc=> ?_⟩,by simp[aY,mM]⟩;unfold aY mM at hc;have hexW:∀n,n<16->gG (NE n)=true:=by decide
  rcases zrf.1 hc with hc|hc
  ·have hm:∀c∈([120,95,95]:S),gG c=true:=by decide
   exact hm c hc
  ·obtain⟨d,_,hd⟩:=List.mem_flatMap.1 hc;have:=d.toNat_lt;unfold JX at hd;simp only[zrj,zrp,or_false]at hd;rcases hd with rfl|rfl
   ·exact hexW _ (by omega)
   ·exact hexW _ (by omega)
 ·rename_i hc;simp only[Bool.or_eq_true,Bool.not_eq_true',not_or,Bool.not_eq_true,Bool.not_eq_false]at hc;have hl:=hc.2;unfold jb at hl;simp only[zqf,bne_iff_ne,ne_eq,Bool.not_eq_true',zsf]at hl;obtain⟨l1,l2,l3⟩:=hl;refine⟨⟨h1,fun c hc=>Ee (h2 c hc) (fun e=> ?_) (fun e=> ?_)⟩,l1⟩
  ·subst e;have:s.contains 35=true:=List.contains_iff_mem.2 hc;rw[l2]at this;cases this
  ·subst e;have:s.contains 92=true:=List.contains_iff_mem.2 hc;rw[l3]at this;cases this
def Wd(l:List S):List (Nat×S):=l.map fun w=>(0,w)
theorem J6{t:Tk}{n:S}(hn:aT n=true)(h:t.s=(0,bf n)):iF t= .ok n:=by
 have h1:t.k=0:=congrArg Prod.fst h;have h2:t.t=bf n:=congrArg Prod.snd h;have h0:aT []=false:=by decide
 unfold iF;rw[if_pos h1,h2,Ha h0 hn,if_pos rfl]
theorem uw:∀ {l:List Tk} {ns:List S},(∀n∈ns,aT n=true)->l.map Tk.s=Wd (ns.map bf)->bQ l= .ok ns
 |[],[],_,_=>rfl
 |[],_::_,_,h=>by cases h
 |_::_,[],_,h=>by cases h
 |t::l,n::ns,hn,h=>by have h:t.s::l.map Tk.s=(0,bf n)::Wd (ns.map bf):=h;injection h with h1 h2;rw[bQ,J6 (hn n (by simp)) h1,uw (fun x hx=>hn x (by simp[hx])) h2]
abbrev LW:=List (S×List S)
def kL(L:LW):S:=L.flatMap fun x=>nH x.1 x.2
def OkL(L:LW):Prop:=∀x∈L,okW x.1/\∀w∈x.2,okW w
theorem NJ{l:List S}(h:∀w∈l,okW w):2*l.length+1<=(oI l).length:=by
 induction l with
 |nil=>simp[oI]
 |cons w l ih =>
  have h1:0<w.length:=List.length_pos_iff.2 (h w (by simp)).1;have h2:=ih fun x hx=>h x (by simp[hx]);have e:oI (w::l)=32::(w++oI l):=by simp[oI]
  rw[e];simp only[zrt,zqa];omega
theorem Fz:∀ {L:LW},OkL L->∀ {n p:Nat},(kL L).length<=n->(tkB n p (kL L)).map Tk.s=L.flatMap fun x=>Wd (x.1::x.2)++[(3,[])]
 |[],_,n,p,_=>by cases n<;>rfl
 |x::L,h,n,p,hn=>by
  obtain⟨h1,h2⟩:=h x (by simp);have e:kL (x::L)=nH x.1 x.2++kL L:=rfl;have ht:=NJ h2;have hw:0<x.1.length:=List.length_pos_iff.2 h1.1;rw[e,zqa]at hn;have hl:(nH x.1 x.2).length=x.1.length+(oI x.2).length:=by simp[nH]
  obtain⟨m,rfl⟩:∃m,n=m+(2*x.2.length+2):=⟨n-(2*x.2.length+2),by omega⟩;obtain⟨q,hq⟩:=QA h1 h2 (n:=m) (p:=p) (r:=kL L);rw[e,hq,Fz (fun y hy=>h y (by simp[hy])) (by omega)];show(0,x.1)::(Wd x.2++(3,[])::_)=(((0,x.1)::Wd x.2)++[(3,[])])++_;simp only[List.cons_append,zqc,List.nil_append];rfl
def jY:List (Nat×S)->List (Nat×S)->List (List (Nat×S))
 |_,[]=>[]
 |acc,t::r=>if t.1=3 then acc::jY [] r else jY (acc++[t]) r
theorem vW:∀(l acc:List Tk),(bM acc l).map (·.map Tk.s)=jY (acc.map Tk.s) (l.map Tk.s)
 |[],acc=>rfl
 |t::r,acc=>by
  show(bM acc (t::r)).map _=jY _ (t.s::r.map Tk.s);rw[bM,jY];by_cases h:t.k=3
  ·rw[if_pos h,if_pos (show t.s.1=3 from h),zrd,vW r []];rfl
  ·rw[if_neg h,if_neg (show ¬t.s.1=3 from h),vW r (acc++[t]),zql];rfl
theorem vX:∀(ws:List S)(acc:List (Nat×S))(r:List (Nat×S)),jY acc (Wd ws++(3,[])::r)=(acc++Wd ws)::jY [] r
 |[],acc,r=>by show jY acc ((3,[])::r)=_;rw[jY,if_pos rfl];simp[Wd]
 |w::ws,acc,r=>by show jY acc ((0,w)::(Wd ws++(3,[])::r))=_;rw[jY,if_neg (show ¬(0:Nat)=3 by decide),vX ws];simp[Wd]
theorem vY:∀(L:LW),jY [] (L.flatMap (fun x=>Wd (x.1::x.2)++[(3,[])])++[(3,[])])=L.map (fun x=>Wd (x.1::x.2))++[[]]
 |[]=>rfl
 |x::L=>by rw[List.flatMap_cons,zqc,zqc];show jY [] (Wd (x.1::x.2)++(3,[])::(L.flatMap (fun x=>Wd (x.1::x.2)++[(3,[])])++[(3,[])]))=_;rw[vX,vY L];rfl
theorem Ho{L:LW}(h:OkL L):(bM [] (iP (kL L))).map (·.map Tk.s)=L.map fun x=>Wd (x.1::x.2):=by
 have e:iP (kL L)=mr ([]:List Tk).isEmpty (tkB (kL L).length 0 (kL L)++[⟨3,[],(kL L).length⟩]):=rfl;rw[e,nJ];have hf:∀l:List (List Tk),(l.filter fun x=> !x.isEmpty).map (·.map Tk.s)=(l.map (·.map Tk.s)).filter fun x=> !x.isEmpty:=fun l=>by
  rw[List.filter_map]
  congr 1
  refine List.filter_congr fun x _=> ?_;cases x<;>rfl
 rw[hf,vW,zql,Fz h (zrb _)];show(jY [] (L.flatMap (fun x=>Wd (x.1::x.2)++[(3,[])])++[(3,[])])).filter _=_;rw[vY,List.filter_append];show _++[]=_;rw[zqp,List.filter_eq_self];intro a ha;obtain⟨x,_,rfl⟩:=zrh.1 ha;rfl
abbrev Ls(ls:List (List Tk))(L:LW):Prop:=ls.map (·.map Tk.s)=L.map fun x=>Wd (x.1::x.2)
theorem Ls.app{ls:List (List Tk)}{A B:LW}(h:Ls ls (A++B)):∃a b,ls=a++b/\Ls a A/\Ls b B:=by unfold Ls at h;rw[zql]at h;obtain⟨a,b,rfl,ha,hb⟩:=List.map_eq_append_iff.1 h;exact⟨a,b,rfl,ha,hb⟩
theorem Ls.cons{ls:List (List Tk)}{w:S}{ws:List S}{B:LW}(h:Ls ls ((w,ws)::B)):∃t r b,ls=(t::r)::b/\t.k=0/\t.t=w/\r.map Tk.s=Wd ws/\Ls b B:=by
 cases ls with
 |nil=>cases h
 |cons l b =>
  have h:(l.map Tk.s)::b.map (·.map Tk.s)=Wd (w::ws)::B.map (fun x=>Wd (x.1::x.2)):=h;injection h with h1 h2;cases l with
  |nil=>cases h1
  |cons t r=>have h1:t.s::r.map Tk.s=(0,w)::Wd ws:=h1;injection h1 with h3 h4;exact⟨t,r,b,rfl,congrArg Prod.fst h3,congrArg Prod.snd h3,h4,h2⟩
theorem Ls.nil{ls:List (List Tk)}(h:Ls ls []):ls=[]:=List.map_eq_nil_iff.1 h
theorem lg:∀(a b:List (List Tk))(p p':Ps),bF p a= .ok p'->bF p (a++b)=bF p' b
 |[],b,p,p',h=>by cases h;rfl
 |l::a,b,p,p',h=>by
  rw[bF]at h;rw[List.cons_append,bF];cases hl:jq p l with
  |error e=>rw[hl]at h;cases h
  |ok q=>rw[hl]at h;exact lg a b q p' h
theorem nK{p:Ps}{t:Tk}{r:List Tk}(he:p.ended=false)(hb:p.begun=true)(hm:t.t≠dZ)(hd:t.t.headD 0=46):jq p (t::r)=jd {p with on:=false} t r:=by rw[jq,he,hb,if_neg (by simp[hm]),if_neg (by simp only[ne_eq,hd,not_true,not_false_eq_true])]
theorem NK{p:Ps}{t:Tk}{r:List Tk}(he:p.ended=false)(hb:p.begun=true)(hd:t.t.headD 0≠46):jq p (t::r)=Hm p t r:=by
 have hm:t.t≠dZ:=fun e=>by rw[e]at hd;exact hd rfl
 rw[jq,he,hb,if_neg (by simp[hm]),if_pos hd]
def Ux(q:La):S×List S:=(gm,[bf q.next,bf q.name,kK q.init])
def FB(off:Bool)(row:S):S×List S:=if row=[]then([if off=true then 48 else 49],[])else(row,[[if off=true then 48 else 49]])
def NL(g:Ga):LW:=(gq,((az g).ins++[(az g).name]).map bf)::(aQ (az g)).1.map (FB (aQ (az g)).2)
theorem U1{α β:Type}{f:α->β}{l:List α}{x:β}(h:l.map f=[x]):∃a,l=[a]/\f a=x:=by
 match l with
 |[]=>cases h
 |[a]=>injection h with h1 _;exact⟨a,rfl,h1⟩
 |_::_::_=>injection h with _ h;cases h
theorem U2{α β:Type}{f:α->β}{l:List α}{x y z:β}(h:l.map f=[x,y,z]):∃a b c,l=[a,b,c]/\f a=x/\f b=y/\f c=z:=by
 match l with
 |[]=>cases h
 |[_]=>injection h with _ h;cases h
 |[_,_]=>injection h with _ h;injection h with _ h;cases h
 |[a,b,c]=>injection h with h1 h;injection h with h2 h;injection h with h3 h;exact⟨a,b,c,rfl,h1,h2,h3⟩
 |_::_::_::_::_=>injection h with _ h;injection h with _ h;injection h with _ h;cases h
theorem BA:∀(lat:List La)(p:Ps)(ls:List (List Tk)),(∀q∈lat,aT q.name=true/\aT q.next=true/\nI q=true)->p.ended=false->p.begun=true->p.on=false->Ls ls (lat.map Ux) ->
 bF p ls= .ok {p with c:={p.c with lat:=p.c.lat++lat}}
 |[],p,ls,_,_,_,_,h=>by rw[h.nil,zqp];rfl
 |q::lat,p,ls,hq,he,hb,ho,h=>by
  obtain⟨q1,q2,q3⟩:=hq q (by simp);obtain⟨t,r,b,rfl,hk,ht,hr,hl⟩:=Ls.cons h;have hw:∀ {t:Tk} {n:S},aT n=true->t.s=(0,bf n)->iF t= .ok n:=J6;rw[bF,nK he hb (by rw[ht];decide) (by rw[ht];rfl)];have e1:jd {p with on:=false} t r= .ok (pG p q.name q.next q.init):=by
   unfold jd;rw[ht,if_neg (by decide),if_neg (by decide),if_pos rfl];obtain⟨a,b,i,rfl,r1,r2,r3⟩:=U2 (show r.map Tk.s=[(0,bf q.next),(0,bf q.name),(0,kK q.init)]from hr);have hi:i.t=kK q.init:=congrArg Prod.snd r3;have hd:zW i.t=some q.init:=by
    rw[hi];unfold nI at q3;simp only[zqf,zqb]at q3;have:q.init=0\/q.init=1\/q.init=2:=by omega
    rcases this with e|e|e<;>rw[e]<;>rfl
   unfold mD;dsimp only;rw[if_pos (show [i].length<=1 from zrb 1),hw q2 r1];dsimp only;rw[hw q1 r2];dsimp only;rw[hd,<-ho]
  rw[e1];dsimp only;rw[BA lat (pG p q.name q.next q.init) b (fun x hx=>hq x (by simp[hx])) he hb ho hl];simp[pG]
theorem x8{g:Ga}{off:Bool}{L:List Ga}:∀(rows:List S)(R0:List S)(off0:Bool)(p:Ps)(ls:List (List Tk)),(∀r∈rows,jc g.ins.length r=true)->p.ended=false->p.begun=true->p.on=true ->
 p.c.gates=L++[{g with rows:=R0,off:=off0}]->(R0=[]\/off0=off)->Ls ls (rows.map (FB off)) ->
 bF p ls= .ok {p with c:={p.c with gates:=L++[{g with rows:=R0++rows,off:=if rows=[]then off0 else off}]}}
 |[],R0,off0,p,ls,_,_,_,_,hg,_,h=>by rw[h.nil,zqp,if_pos rfl,<-hg];rfl
 |row::rows,R0,off0,p,ls,hr,he,hb,ho,hg,h0,h=>by
  have hro:=hr row (by simp);have hlen:row.length=g.ins.length:=by unfold jc at hro;rw[zqf,beq_iff_eq]at hro;exact hro.1
  have hbit:∀c∈row,Uk c=true:=by unfold jc at hro;rw[zqf,zrs]at hro;exact hro.2
  obtain⟨sg,hsg⟩:∃sg:S,sg=[if off=true then 48 else 49]:=⟨_,rfl⟩;have hs1:(sg==[48]||sg==[49])=true/\(sg==[48])=off/\sg.headD 0≠46:=by rw[hsg];cases off<;>decide
  have hst:∀ {t:Tk} {r:List Tk},r.length=min g.ins.length 1->ug t r=sg->Bz g t=row->Hm p t r= .ok {p with c:={p.c with gates:=L++[{g with rows:=R0++[row],off:=off}]}}:=by
   intro t r h1 h2 h3;unfold Hm;rw[ho,hg,List.getLast?_concat];show(if r.length=min g.ins.length 1 then if RU ({g with rows:=R0,off:=off0}:Ga) t r=true then(_:RB Ps)else _ else _)=_;rw[if_pos h1,if_pos ?_,List.dropLast_concat,h2,hs1.2.1]
   ·have h3':Bz {g with rows:=R0,off:=off0} t=row:=h3;rw[h3']
   ·unfold RU;show(jc g.ins.length (Bz g t)&&((ug t r==[48]||ug t r==[49])&&(R0.isEmpty||off0==(ug t r==[48]))))=true;rw[h3,h2,hro,hs1.1,hs1.2.1];rcases h0 with rfl|rfl
    ·rfl
    ·simp
  have key:∀ {t:Tk} {r:List Tk} {b:List (List Tk)},t.t.headD 0≠46->r.length=min g.ins.length 1->ug t r=sg->Bz g t=row->Ls b (rows.map (FB off)) ->
   bF p ((t::r)::b)= .ok {p with c:={p.c with gates:=L++[{g with rows:=R0++(row::rows),off:=off}]}}:=by
   intro t r b h1 h2 h3 h4 hl;rw[bF,NK he hb h1,hst h2 h3 h4];dsimp only;rw[x8 rows (R0++[row]) off {p with c:={p.c with gates:=L++[{g with rows:=R0++[row],off:=off}]}} b (fun x hx=>hr x (by simp[hx])) he hb ho rfl (.inr rfl) hl,zqc];have:(if rows=[]then off else off)=off:=by split<;>rfl
   rw[this];rfl
  rw[if_neg (List.cons_ne_nil _ _)];by_cases hn:g.ins.length=0
  ·have hrow:row=[]:=List.eq_nil_of_length_eq_zero (by omega);have h:Ls ls ((sg,[])::rows.map (FB off)):=by
    have e:FB off row=(sg,[]):=by unfold FB;rw[if_pos hrow,<-hsg]
    rw[zrd,e]at h;exact h
   obtain⟨t,r,b,rfl,hk,ht,hrr,hl⟩:=Ls.cons h;have hr0:r=[]:=List.map_eq_nil_iff.1 hrr;subst hr0;exact key (by rw[ht];exact hs1.2.2) (by rw[hn];rfl) ht (by unfold Bz;rw[if_pos hn,hrow]) hl
  ·have hrow:row≠[]:=fun e=>hn (by rw[<-hlen,e];rfl);have h:Ls ls ((row,[sg])::rows.map (FB off)):=by
    have e:FB off row=(row,[sg]):=by unfold FB;rw[if_neg hrow,<-hsg]
    rw[zrd,e]at h;exact h
   obtain⟨t,r,b,rfl,hk,ht,hrr,hl⟩:=Ls.cons h;obtain⟨a,rfl,ha⟩:=U1 (show r.map Tk.s=[(0,sg)]from hrr);refine key ?_ ?_ (congrArg Prod.snd ha) (by unfold Bz;rw[if_neg hn,ht]) hl
   ·rw[ht];cases row with
    |nil=>exact absurd rfl hrow
    |cons c row=>intro e;have e:c=46:=e;have:=hbit c (by simp);rw[e]at this;exact absurd this (by decide)
   ·show 1=_;omega
theorem NM:∀n,n<9->∀op,op<10->∀r∈(kZ op n).1,jc n r=true:=by decide +kernel
theorem FC{g:Ga}(h:gU g=true):(∀r∈(aQ (az g)).1,jc (az g).ins.length r=true)/\((aQ (az g)).1=[]->(aQ (az g)).2=false):=by
 obtain⟨g1,g2,g3⟩:=eF (jA h);obtain⟨_,_,_,p4⟩:=gY (eF h).1;unfold aQ;by_cases h10:(az g).op=10
 ·rw[if_pos h10];refine⟨g3,fun e=> ?_⟩;cases ho:(az g).off with
  |false=>rfl
  |true=>exact absurd ⟨e,ho⟩ (p4 h10)
 ·rw[if_neg h10];have hh:=g1.h;unfold vO at hh;simp only[zqf,zqb]at hh;obtain⟨h0,h1,h2⟩:=hh;refine⟨NM _ (Ec h2) _ (by omega),fun e=> ?_⟩;generalize (az g).op.toNat=k at *;unfold kZ at e ⊢;split
  all_goals first|rfl|cases e
theorem vZ:∀(gs:List Ga)(p:Ps)(ls:List (List Tk)),(∀g∈gs,gU g=true/\aT g.name=true/\∀s∈g.ins,aT s=true)->p.ended=false->p.begun=true->Ls ls (gs.flatMap NL) ->
 ∃on,bF p ls= .ok {p with c:={p.c with gates:=p.c.gates++gs.map fun g=>⟨(az g).name,10,(az g).ins,(aQ (az g)).1,(aQ (az g)).2⟩},on:=on}
 |[],p,ls,_,_,_,h=>by rw[h.nil];exact⟨p.on,by rw[List.map_nil,zqp];rfl⟩
 |g::gs,p,ls,hg,he,hb,h=>by
  obtain⟨g1,g2,g3⟩:=hg g (by simp);obtain⟨_,p2,p3,_⟩:=gY (eF g1).1;obtain⟨c1,c2⟩:=FC g1;rw[List.flatMap_cons]at h;obtain⟨a,b,rfl,ha,hbb⟩:=Ls.app h;obtain⟨t,r,a',rfl,hk,ht,hr,hl⟩:=Ls.cons ha;have hw:bQ r= .ok ((az g).ins++[(az g).name]):=uw (fun n hn=>by
   rw[p2,p3]at hn;rcases zrf.1 hn with hn|hn
   ·exact g3 n hn
   ·rw[zrc.1 hn];exact g2) hr
  have hrn:r≠[]:=fun e=>by rw[e,zql]at hr;simp[Wd]at hr
  obtain⟨q,hq⟩:∃q:Ps,q={p with c:={p.c with gates:=p.c.gates++[⟨(az g).name,10,(az g).ins,[],false⟩]},on:=true}:=⟨_,rfl⟩;have e1:jq p (t::r)= .ok q:=by
   rw[nK he hb (by rw[ht];decide) (by rw[ht];rfl)];unfold jd;rw[ht,if_neg (by decide),if_neg (by decide),if_neg (by decide),if_neg (by decide),if_pos rfl];unfold oW;split
   ·exact absurd rfl hrn
   ·rw[hw];dsimp only;rw[List.getLastD_concat,List.dropLast_concat,hq]
  have e2:=x8 (g:=⟨(az g).name,10,(az g).ins,[],false⟩) (off:=(aQ (az g)).2) (L:=p.c.gates) (aQ (az g)).1 [] false q a' c1 (by rw[hq];exact he) (by rw[hq];exact hb) (by rw[hq]) (by rw[hq]) (.inl rfl) hl;have e3:bF p ((t::r)::a')= .ok {q with c:={q.c with gates:=p.c.gates++[⟨(az g).name,10,(az g).ins,(aQ (az g)).1,(aQ (az g)).2⟩]}}:=by
   rw[bF,e1];dsimp only;rw[e2,List.nil_append];have:(if(aQ (az g)).1=[]then false else(aQ (az g)).2)=(aQ (az g)).2:=by
    split
    ·rename_i hc;rw[c2 hc]
    ·rfl
   rw[this]
  rw[lg _ b _ _ e3];obtain⟨on,e4⟩:=vZ gs {q with c:={q.c with gates:=p.c.gates++[⟨(az g).name,10,(az g).ins,(aQ (az g)).1,(aQ (az g)).2⟩]}} b (fun x hx=>hg x (by simp[hx])) (by rw[hq];exact he) (by rw[hq];exact hb) hbb;refine⟨on,?_⟩;rw[e4,hq];simp
def wo(c:Ci):LW:=[(dZ,[LX]),(eG,c.ins.map bf),(dw,c.outs.map bf)]++(c.lat.map Ux++(c.gates.flatMap NL++[(xY,[])]))
theorem uy{w:S}{l:List S}(h:∀s∈l,aT s=true):dD w l=nH w (l.map bf):=by
 have e:∀l:List S,(∀s∈l,aT s=true)->l.flatMap (fun x=>32::spV x)=(l.map bf).flatMap fun w=>32::w:=by
  intro l
  induction l with
  |nil=>intro _;rfl
  |cons s l ih=>intro h;rw[List.flatMap_cons,ih fun x hx=>h x (by simp[hx]),zrd,List.flatMap_cons];unfold spV;rw[if_pos (h s (by simp))]
 unfold dD nH oI;rw[e l h,zqc]
structure NamesOk(c:Ci):Prop where
 ins:∀s∈c.ins,aT s=true
 outs:∀s∈c.outs,aT s=true
 lat:∀q∈c.lat,aT q.name=true/\aT q.next=true/\nI q=true
 gates:∀g∈c.gates,gU g=true/\aT g.name=true/\∀s∈g.ins,aT s=true
theorem NP{c:Ci}(h:NetOk c):NamesOk c where
 ins s hs:=h.told s (by unfold iC;simp[hs])
 outs s hs:=h.told s (by unfold iC;simp[hs])
 lat q hq:=by
  have m:∀s,s∈[q.name,q.next]->aT s=true:=fun s hs=>h.told s (by
   unfold iC;rw[zrf,zrf];exact .inl (.inr (List.mem_flatMap.2 ⟨q,hq,hs⟩)))
  exact⟨m _ (by simp),m _ (by simp),h.lat q hq⟩
 gates g hg:=by
  have m:∀s,s∈g.name::g.ins->aT s=true:=fun s hs=>h.told s (by
   unfold iC;rw[zrf];exact .inr (List.mem_flatMap.2 ⟨g,hg,hs⟩))
  exact⟨h.gates g hg,m _ (by simp),fun s hs=>m s (by simp[hs])⟩
theorem BB(i:Int):okW (kK i)/\bf (kK i)=kK i/\aT (kK i)=true:=by
 have h:∀s∈([[48],[49],[51]]:List S),s≠[]/\(∀c∈s,gG c=true)/\bf s=s/\aT s=true:=by decide
 unfold kK
 repeat' split
 all_goals (refine⟨⟨?_,?_⟩,?_,?_⟩<;>decide)
theorem QD{c:Ci}(h:NamesOk c):gZ c=kL (wo c):=by
 have e0:dD dZ [LX]=nH dZ [LX]:=by decide +kernel
 have e1:=uy (w:=eG) h.ins;have e2:=uy (w:=dw) h.outs;have e3:∀l:List La,(∀q∈l,aT q.name=true/\aT q.next=true/\nI q=true)->l.flatMap (fun q=>dD gm [q.next,q.name,kK q.init])=kL (l.map Ux):=by
  intro l
  induction l with
  |nil=>intro _;rfl
  |cons q l ih =>
   intro hl;obtain⟨q1,q2,q3⟩:=hl q (by simp);obtain⟨_,i2,i3⟩:=BB q.init;rw[List.flatMap_cons,ih fun x hx=>hl x (by simp[hx]),uy (l:=[q.next,q.name,kK q.init]) (fun s hs=>by
    simp only[zrj,zrp,or_false]at hs;rcases hs with rfl|rfl|rfl
    ·exact q2
    ·exact q1
    ·exact i3)]
   show nH gm [bf q.next,bf q.name,bf (kK q.init)]++_=nH gm [bf q.next,bf q.name,kK q.init]++_;rw[i2];rfl
 have e4:∀(off:Bool)(l:List S),l.flatMap (Ed off)=kL (l.map (FB off)):=by
  intro off l
  induction l with
  |nil=>rfl
  |cons r l ih =>
   rw[List.flatMap_cons,ih];show Ed off r++_=nH (FB off r).1 (FB off r).2++_
   congr 1
   unfold Ed FB;split
   ·simp[nH,oI]
   ·simp[nH,oI]
 have ta:∀a b:LW,kL (a++b)=kL a++kL b:=fun a b=>by simp[kL]
 have e5:∀l:List Ga,(∀g∈l,gU g=true/\aT g.name=true/\∀s∈g.ins,aT s=true)->l.flatMap jM=kL (l.flatMap NL):=by
  intro l
  induction l with
  |nil=>intro _;rfl
  |cons g l ih =>
   intro hl;obtain⟨g1,g2,g3⟩:=hl g (by simp);obtain⟨_,p2,p3,_⟩:=gY (eF g1).1;rw[List.flatMap_cons,ih fun x hx=>hl x (by simp[hx]),List.flatMap_cons,ta]
   congr 1
   show jM g=nH gq _++kL _;rw[<-e4];unfold jM;rw[uy (fun s hs=>by
    rw[p2,p3]at hs;rcases zrf.1 hs with hs|hs
    ·exact g3 s hs
    ·rw[zrc.1 hs];exact g2)]
 have e6:dD xY []=nH xY []:=by decide +kernel
 unfold gZ wo;rw[ta,ta,ta,e0,e1,e2,e3 _ h.lat,e5 _ h.gates,e6];simp only[kL,List.flatMap_cons,List.flatMap_nil,zqp,zqc]
theorem okL{c:Ci}(h:NamesOk c):OkL (wo c):=by
 have sp:∀l:List S,(∀s∈l,aT s=true)->∀w∈l.map bf,okW w:=fun l hl w hw=>by obtain⟨s,hs,rfl⟩:=zrh.1 hw;exact(rH (hl s hs)).1
 have fx:∀w∈([dZ,LX,eG,dw,gm,gq,xY]:List S),w≠[]/\∀c∈w,gG c=true:=by decide
 intro x hx;unfold wo at hx;simp only[zrf,zrj,zrp,or_false]at hx;rcases hx with(rfl|rfl|rfl)|hx|hx|rfl
 ·exact⟨fx _ (by simp),fun w hw=>by rw[zrc.1 hw];exact fx _ (by simp)⟩
 ·exact⟨fx _ (by simp),sp _ h.ins⟩
 ·exact⟨fx _ (by simp),sp _ h.outs⟩
 ·obtain⟨q,hq,rfl⟩:=zrh.1 hx;obtain⟨q1,q2,_⟩:=h.lat q hq;refine⟨fx gm (by simp),fun w hw=> ?_⟩;have hw:w∈[bf q.next,bf q.name,kK q.init]:=hw;simp only[zrj,zrp,or_false]at hw;rcases hw with rfl|rfl|rfl
  ·exact(rH q2).1
  ·exact(rH q1).1
  ·exact(BB _).1
 ·obtain⟨g,hg,hx⟩:=List.mem_flatMap.1 hx;obtain⟨g1,g2,g3⟩:=h.gates g hg;obtain⟨_,p2,p3,_⟩:=gY (eF g1).1;obtain⟨c1,_⟩:=FC g1;unfold NL at hx;rcases zrj.1 hx with rfl|hx
  ·refine⟨fx _ (by simp),sp _ fun s hs=> ?_⟩;rw[p2,p3]at hs;rcases zrf.1 hs with hs|hs
   ·exact g3 s hs
   ·rw[zrc.1 hs];exact g2
  ·obtain⟨r,hr,rfl⟩:=zrh.1 hx;have hro:=c1 r hr;unfold jc at hro;rw[zqf,zrs]at hro;have hb:∀off:Bool,okW [if off=true then 48 else 49]:=fun off=>by cases off<;>exact⟨by decide,by decide⟩
   unfold FB;split
   ·exact⟨hb _,fun w hw=>by cases hw⟩
   ·rename_i hne;refine⟨⟨hne,fun c hc=> ?_⟩,fun w hw=>by rw[zrc.1 hw];exact hb _⟩;have:=hro.2 c hc;unfold Uk at this;simp only[Bool.or_eq_true,beq_iff_eq]at this;rcases this with(rfl|rfl)|rfl<;>decide
 ·exact⟨fx _ (by simp),fun w hw=>by cases hw⟩
theorem Ef{c:Ci}(h:(oK c).1=0):mF (gZ c)= .ok (fZ c):=by
 have hn:=vV h;have hk:=NP hn;rw[QD hk];unfold mF;obtain⟨ls,hls⟩:∃ls,ls=bM [] (iP (kL (wo c))):=⟨_,rfl⟩;rw[<-hls];have hL:Ls ls (wo c):=by rw[hls];exact Ho (okL hk)
 clear hls;unfold wo at hL;obtain⟨a,b,hd0,ha,hL1⟩:=Ls.app hL;subst hd0;obtain⟨t1,r1,a,rfl,_,ht1,hr1,ha⟩:=Ls.cons ha;obtain⟨t2,r2,a,rfl,_,ht2,hr2,ha⟩:=Ls.cons ha;obtain⟨t3,r3,a,rfl,_,ht3,hr3,ha⟩:=Ls.cons ha;have:=ha.nil;subst this;obtain⟨l,d,hd1,hl,hL2⟩:=Ls.app hL1;obtain⟨gl,e,hd2,hg,hL3⟩:=Ls.app hL2;subst hd2;subst hd1;obtain⟨t4,r4,e,rfl,_,ht4,hr4,he⟩:=Ls.cons hL3;have:=he.nil;subst this;have hlen1:r1.length=1:=by have:=congrArg List.length hr1;simpa [Wd]using this
 have s1:jq ps0 (t1::r1)= .ok {ps0 with begun:=true}:=by rw[jq,ht1,if_neg (by decide),if_neg (by decide)];unfold jd;rw[ht1,if_neg (by decide),if_neg (by decide),if_neg (by decide),if_pos rfl,if_pos (by omega)];rfl
 have s2:jq {ps0 with begun:=true} (t2::r2)= .ok ⟨⟨c.ins,[],[],[]⟩,true,false,false⟩:=by rw[nK rfl rfl (by rw[ht2];decide) (by rw[ht2];rfl)];unfold jd;rw[ht2,if_neg (by decide),if_pos rfl];unfold LV;rw[uw hk.ins hr2];rfl
 have s3:jq ⟨⟨c.ins,[],[],[]⟩,true,false,false⟩ (t3::r3)= .ok ⟨⟨c.ins,c.outs,[],[]⟩,true,false,false⟩:=by rw[nK rfl rfl (by rw[ht3];decide) (by rw[ht3];rfl)];unfold jd;rw[ht3,if_neg (by decide),if_neg (by decide),if_neg (by decide),if_neg (by decide),if_neg (by decide),if_pos rfl];unfold xG;rw[uw hk.outs hr3];rfl
 have s5:bF ps0 [t1::r1,t2::r2,t3::r3]= .ok ⟨⟨c.ins,c.outs,[],[]⟩,true,false,false⟩:=by rw[bF,s1];dsimp only;rw[bF,s2];dsimp only;rw[bF,s3];rfl
 rw[lg _ _ _ _ s5];have s6:bF ⟨⟨c.ins,c.outs,[],[]⟩,true,false,false⟩ l= .ok ⟨⟨c.ins,c.outs,c.lat,[]⟩,true,false,false⟩:=by
  rw[BA c.lat ⟨⟨c.ins,c.outs,[],[]⟩,true,false,false⟩ l hk.lat rfl rfl rfl hl];rfl
 rw[lg _ _ _ _ s6];obtain⟨on,s7⟩:=vZ c.gates ⟨⟨c.ins,c.outs,c.lat,[]⟩,true,false,false⟩ gl hk.gates rfl rfl hg;have s7:bF ⟨⟨c.ins,c.outs,c.lat,[]⟩,true,false,false⟩ gl= .ok ⟨⟨c.ins,c.outs,c.lat,c.gates.map fun g=>⟨(az g).name,10,(az g).ins,(aQ (az g)).1,(aQ (az g)).2⟩⟩,true,false,on⟩:=s7;rw[lg _ _ _ _ s7];have hr0:r4=[]:=List.map_eq_nil_iff.1 hr4;subst hr0;rw[bF,nK rfl rfl (by rw[ht4];decide) (by rw[ht4];rfl)];unfold jd;rw[ht4,if_pos rfl,if_pos rfl];dsimp only;rw[bF];dsimp only;unfold RV;rw[if_neg (by show ¬true=false;decide)];have hc:je ⟨c.ins,c.outs,c.lat,c.gates.map fun g=>⟨(az g).name,10,(az g).ins,(aQ (az g)).1,(aQ (az g)).2⟩⟩=fZ c:=by
  unfold je fZ
  congr 1
  show(c.gates.map _).map aU=_;rw[List.map_map];exact zsd fun g hg=>Hf (eF (hk.gates g hg).1).1
 show(if(oK (je _)).1=0 then _ else _)=_;rw[hc,if_pos (by rw[(Bv h).1])]
theorem J7{g:Ga}(h:GOk g):az (az g)=az g:=by
 obtain⟨c,_,_,p4⟩:=gY h;obtain⟨q,hq⟩:∃q,q=az g:=⟨_,rfl⟩;rw[<-hq]at c p4 ⊢;have hcan:aU q=q:=by
  by_cases h10:q.op=10
  ·exact Fh c h10
  ·have h1:gQ q=q:=by
    unfold gQ;split
    ·rename_i hc;have hh:=c.h;rw[hc.1]at hh;split
     ·rename_i ho;rcases ho with e|e|e<;>(rw[e]at hh;exact absurd hh (by decide))
     ·split
      ·rename_i ho;rcases ho with e|e|e<;>(rw[e]at hh;exact absurd hh (by decide))
      ·rfl
    ·rfl
   unfold aU;rw[h1,if_pos h10]
 unfold az;rw[hcan,if_neg (fun hc=>p4 hc.1 hc.2),hcan]
theorem Eg{c:Ci}(h:(oK c).1=0):jX (fZ c)=jX c:=by
 have hn:=vV h;have key:∀l:List Ga,(∀g∈l,gU g=true)->(l.map az).flatMap jM=l.flatMap jM:=by
  intro l
  induction l with
  |nil=>intro _;rfl
  |cons g l ih =>
   intro hl;rw[zrd,List.flatMap_cons,ih fun x hx=>hl x (by simp[hx]),List.flatMap_cons];have e1:jM (az g)=jM g:=by
    unfold jM;rw[J7 (eF (hl g (by simp))).1]
   rw[e1]
 have e:gZ (fZ c)=gZ c:=congrArg (fun z=>dD dZ [LX]++dD eG c.ins++dD dw c.outs++c.lat.flatMap (fun q=>dD gm [q.next,q.name,kK q.init])++z++dD xY []) (key _ hn.gates);have a:jX (fZ c)=(gZ (fZ c),0):=by unfold jX;exact if_pos (congrArg Prod.fst (Bv h).1)
 have b:jX c=(gZ c,0):=by unfold jX;exact if_pos h
 rw[a,b,e]
open Go.RowKit
open Go.Shelf
open Go.Lib
def BC:Go.Shelf.Ren:=⟨fun|137=>160|217=>164|266=>174|n=>n,fun|9=>9|5=>5|3=>3|n=>n,fun|n=>n⟩
theorem Hq[MO]:Go.Proofs.Lays.n137 Tryz.prog BC where
 mixed:=by kernel_rfl
 f137:=Tryz.func160.trans (congrArg some (by kernel_rfl))
 f217:=Tryz.func164.trans (congrArg some (by kernel_rfl))
 f266:=Tryz.func174.trans (congrArg some (by kernel_rfl))
 t3:=Tryz.underlying3
 a3:=Tryz.isAgg3
 z3:=Tryz.sizeOf3
 v3:=Tryz.zeroValue3
 t5:=Tryz.underlying5
 a5:=Tryz.isAgg5
 z5:=Tryz.sizeOf5
 v5:=Tryz.zeroValue5
 t9:=Tryz.underlying9
 a9:=Tryz.isAgg9
 z9:=Tryz.sizeOf9
 v9:=Tryz.zeroValue9
def NQ:Go.Shelf.Ren:=⟨fun|138=>94|195=>122|218=>123|143=>124|219=>149|217=>164|225=>165|224=>166|267=>167|266=>174|314=>175|n=>n,fun|9=>9|3=>3|4=>4|5=>5|0=>0|46=>124|146=>181|51=>180|n=>n,fun|1=>5|n=>n⟩
theorem TC[MO]:Go.Proofs.Lays.n138 Tryz.prog NQ where
 mixed:=by kernel_rfl
 f138:=Tryz.func94.trans (congrArg some (by kernel_rfl))
 f143:=Tryz.func124.trans (congrArg some (by kernel_rfl))
 f195:=Tryz.func122.trans (congrArg some (by kernel_rfl))
 f217:=Tryz.func164.trans (congrArg some (by kernel_rfl))
 f218:=Tryz.func123.trans (congrArg some (by kernel_rfl))
 f219:=Tryz.func149.trans (congrArg some (by kernel_rfl))
 f224:=Tryz.func166.trans (congrArg some (by kernel_rfl))
 f225:=Tryz.func165.trans (congrArg some (by kernel_rfl))
 f266:=Tryz.func174.trans (congrArg some (by kernel_rfl))
 f267:=Tryz.func167.trans (congrArg some (by kernel_rfl))
 f314:=Tryz.func175.trans (congrArg some (by kernel_rfl))
 t0:=Tryz.underlying0
 a0:=Tryz.isAgg0
 z0:=Tryz.sizeOf0
 v0:=Tryz.zeroValue0
 t3:=Tryz.underlying3
 a3:=Tryz.isAgg3
 z3:=Tryz.sizeOf3
 v3:=Tryz.zeroValue3
 t4:=Tryz.underlying4
 a4:=Tryz.isAgg4
 z4:=Tryz.sizeOf4
 v4:=Tryz.zeroValue4
 t5:=Tryz.underlying5
 a5:=Tryz.isAgg5
 z5:=Tryz.sizeOf5
 v5:=Tryz.zeroValue5
 t9:=Tryz.underlying9
 a9:=Tryz.isAgg9
 z9:=Tryz.sizeOf9
 v9:=Tryz.zeroValue9
 t46:=Tryz.underlying124
 a46:=Tryz.isAgg124
 z46:=Tryz.sizeOf124
 v46:=Tryz.zeroValue124
 t51:=Tryz.underlying180
 a51:=Tryz.isAgg180
 z51:=Tryz.sizeOf180
 v51:=Tryz.zeroValue180
 t146:=Tryz.underlying181
 a146:=Tryz.isAgg181
 z146:=Tryz.sizeOf181
 v146:=Tryz.zeroValue181
 g1:=by kernel_rfl
def BD:Go.Shelf.Ren:=⟨fun|148=>133|222=>153|223=>154|269=>168|n=>n,fun|9=>9|3=>3|4=>4|5=>5|146=>181|51=>180|46=>124|n=>n,fun|n=>n⟩
theorem Hr[MO]:Go.Proofs.Lays.n148 Tryz.prog BD where
 mixed:=by kernel_rfl
 f148:=Tryz.func133.trans (congrArg some (by kernel_rfl))
 f222:=Tryz.func153.trans (congrArg some (by kernel_rfl))
 f223:=Tryz.func154.trans (congrArg some (by kernel_rfl))
 f269:=Tryz.func168.trans (congrArg some (by kernel_rfl))
 t3:=Tryz.underlying3
 a3:=Tryz.isAgg3
 z3:=Tryz.sizeOf3
 v3:=Tryz.zeroValue3
 t4:=Tryz.underlying4
 a4:=Tryz.isAgg4
 z4:=Tryz.sizeOf4
 v4:=Tryz.zeroValue4
 t5:=Tryz.underlying5
 a5:=Tryz.isAgg5
 z5:=Tryz.sizeOf5
 v5:=Tryz.zeroValue5
 t9:=Tryz.underlying9
 a9:=Tryz.isAgg9
 z9:=Tryz.sizeOf9
 v9:=Tryz.zeroValue9
 t46:=Tryz.underlying124
 a46:=Tryz.isAgg124
 z46:=Tryz.sizeOf124
 v46:=Tryz.zeroValue124
 t51:=Tryz.underlying180
 a51:=Tryz.isAgg180
 z51:=Tryz.sizeOf180
 v51:=Tryz.zeroValue180
 t146:=Tryz.underlying181
 a146:=Tryz.isAgg181
 z146:=Tryz.sizeOf181
 v146:=Tryz.zeroValue181
def QE:Go.Shelf.Ren:=⟨fun|160=>112|232=>135|231=>134|227=>136|234=>138|233=>137|236=>140|235=>139|228=>155|271=>158|151=>157|197=>156|120=>171|152=>170|260=>169|137=>160|119=>176|224=>166|225=>165|217=>164|266=>174|n=>n,fun|9=>9|4=>4|3=>3|5=>5|117=>221|116=>220|0=>0|124=>224|21=>21|105=>235|46=>124|119=>244|139=>247|138=>246|n=>n,fun|3=>8|4=>9|n=>n⟩
theorem Uy[MO]:Go.Proofs.Lays.n160 Tryz.prog QE where
 mixed:=by kernel_rfl
 f119:=Tryz.func176.trans (congrArg some (by kernel_rfl))
 f120:=Tryz.func171.trans (congrArg some (by kernel_rfl))
 f137:=Tryz.func160.trans (congrArg some (by kernel_rfl))
 f151:=Tryz.func157.trans (congrArg some (by kernel_rfl))
 f152:=Tryz.func170.trans (congrArg some (by kernel_rfl))
 f160:=Tryz.func112.trans (congrArg some (by kernel_rfl))
 f197:=Tryz.func156.trans (congrArg some (by kernel_rfl))
 f217:=Tryz.func164.trans (congrArg some (by kernel_rfl))
 f224:=Tryz.func166.trans (congrArg some (by kernel_rfl))
 f225:=Tryz.func165.trans (congrArg some (by kernel_rfl))
 f227:=Tryz.func136.trans (congrArg some (by kernel_rfl))
 f228:=Tryz.func155.trans (congrArg some (by kernel_rfl))
 f231:=Tryz.func134.trans (congrArg some (by kernel_rfl))
 f232:=Tryz.func135.trans (congrArg some (by kernel_rfl))
 f233:=Tryz.func137.trans (congrArg some (by kernel_rfl))
 f234:=Tryz.func138.trans (congrArg some (by kernel_rfl))
 f235:=Tryz.func139.trans (congrArg some (by kernel_rfl))
 f236:=Tryz.func140.trans (congrArg some (by kernel_rfl))
 f260:=Tryz.func169.trans (congrArg some (by kernel_rfl))
 f266:=Tryz.func174.trans (congrArg some (by kernel_rfl))
 f271:=Tryz.func158.trans (congrArg some (by kernel_rfl))
 t0:=Tryz.underlying0
 a0:=Tryz.isAgg0
 z0:=Tryz.sizeOf0
 v0:=Tryz.zeroValue0
 t3:=Tryz.underlying3
 a3:=Tryz.isAgg3
 z3:=Tryz.sizeOf3
 v3:=Tryz.zeroValue3
 t4:=Tryz.underlying4
 a4:=Tryz.isAgg4
 z4:=Tryz.sizeOf4
 v4:=Tryz.zeroValue4
 t5:=Tryz.underlying5
 a5:=Tryz.isAgg5
 z5:=Tryz.sizeOf5
 v5:=Tryz.zeroValue5
 t9:=Tryz.underlying9
 a9:=Tryz.isAgg9
 z9:=Tryz.sizeOf9
 v9:=Tryz.zeroValue9
 t21:=Tryz.underlying21
 a21:=Tryz.isAgg21
 z21:=Tryz.sizeOf21
 v21:=Tryz.zeroValue21
 t46:=Tryz.underlying124
 a46:=Tryz.isAgg124
 z46:=Tryz.sizeOf124
 v46:=Tryz.zeroValue124
 t105:=Tryz.underlying235
 a105:=Tryz.isAgg235
 z105:=Tryz.sizeOf235
 v105:=Tryz.zeroValue235
 t116:=Tryz.underlying220
 a116:=Tryz.isAgg220
 z116:=Tryz.sizeOf220
 t117:=Tryz.underlying221
 a117:=Tryz.isAgg221
 z117:=Tryz.sizeOf221
 v117:=Tryz.zeroValue221
 t119:=Tryz.underlying244
 a119:=Tryz.isAgg244
 z119:=Tryz.sizeOf244
 t124:=Tryz.underlying224
 a124:=Tryz.isAgg224
 z124:=Tryz.sizeOf224
 v124:=Tryz.zeroValue224
 t138:=Tryz.underlying246
 a138:=Tryz.isAgg246
 z138:=Tryz.sizeOf246
 v138:=Tryz.zeroValue246
 t139:=Tryz.underlying247
 a139:=Tryz.isAgg247
 z139:=Tryz.sizeOf247
 v139:=Tryz.zeroValue247
 g3:=by kernel_rfl
 g4:=by kernel_rfl
def xI:Go.Shelf.Ren:=⟨fun|150=>143|153=>161|152=>170|226=>173|227=>136|228=>155|137=>160|119=>176|224=>166|225=>165|217=>164|266=>174|n=>n,fun|9=>9|4=>4|3=>3|5=>5|21=>21|117=>221|116=>220|0=>0|46=>124|124=>224|n=>n,fun|n=>n⟩
theorem BF[MO]:Go.Proofs.Lays.n150 Tryz.prog xI where
 mixed:=by kernel_rfl
 f119:=Tryz.func176.trans (congrArg some (by kernel_rfl))
 f137:=Tryz.func160.trans (congrArg some (by kernel_rfl))
 f150:=Tryz.func143.trans (congrArg some (by kernel_rfl))
 f152:=Tryz.func170.trans (congrArg some (by kernel_rfl))
 f153:=Tryz.func161.trans (congrArg some (by kernel_rfl))
 f217:=Tryz.func164.trans (congrArg some (by kernel_rfl))
 f224:=Tryz.func166.trans (congrArg some (by kernel_rfl))
 f225:=Tryz.func165.trans (congrArg some (by kernel_rfl))
 f226:=Tryz.func173.trans (congrArg some (by kernel_rfl))
 f227:=Tryz.func136.trans (congrArg some (by kernel_rfl))
 f228:=Tryz.func155.trans (congrArg some (by kernel_rfl))
 f266:=Tryz.func174.trans (congrArg some (by kernel_rfl))
 t0:=Tryz.underlying0
 a0:=Tryz.isAgg0
 z0:=Tryz.sizeOf0
 v0:=Tryz.zeroValue0
 t3:=Tryz.underlying3
 a3:=Tryz.isAgg3
 z3:=Tryz.sizeOf3
 v3:=Tryz.zeroValue3
 t4:=Tryz.underlying4
 a4:=Tryz.isAgg4
 z4:=Tryz.sizeOf4
 v4:=Tryz.zeroValue4
 t5:=Tryz.underlying5
 a5:=Tryz.isAgg5
 z5:=Tryz.sizeOf5
 v5:=Tryz.zeroValue5
 t9:=Tryz.underlying9
 a9:=Tryz.isAgg9
 z9:=Tryz.sizeOf9
 v9:=Tryz.zeroValue9
 t21:=Tryz.underlying21
 a21:=Tryz.isAgg21
 z21:=Tryz.sizeOf21
 v21:=Tryz.zeroValue21
 t46:=Tryz.underlying124
 a46:=Tryz.isAgg124
 z46:=Tryz.sizeOf124
 v46:=Tryz.zeroValue124
 t116:=Tryz.underlying220
 a116:=Tryz.isAgg220
 z116:=Tryz.sizeOf220
 t117:=Tryz.underlying221
 a117:=Tryz.isAgg221
 z117:=Tryz.sizeOf221
 v117:=Tryz.zeroValue221
 t124:=Tryz.underlying224
 a124:=Tryz.isAgg224
 z124:=Tryz.sizeOf224
 v124:=Tryz.zeroValue224
def NT:Go.Shelf.Ren:=⟨fun|143=>124|219=>149|217=>164|225=>165|224=>166|267=>167|266=>174|314=>175|n=>n,fun|9=>9|3=>3|4=>4|5=>5|46=>124|146=>181|51=>180|n=>n,fun|1=>5|n=>n⟩
theorem TD[MO]:Go.Proofs.Lays.n143 Tryz.prog NT where
 mixed:=by kernel_rfl
 f143:=Tryz.func124.trans (congrArg some (by kernel_rfl))
 f217:=Tryz.func164.trans (congrArg some (by kernel_rfl))
 f219:=Tryz.func149.trans (congrArg some (by kernel_rfl))
 f224:=Tryz.func166.trans (congrArg some (by kernel_rfl))
 f225:=Tryz.func165.trans (congrArg some (by kernel_rfl))
 f266:=Tryz.func174.trans (congrArg some (by kernel_rfl))
 f267:=Tryz.func167.trans (congrArg some (by kernel_rfl))
 f314:=Tryz.func175.trans (congrArg some (by kernel_rfl))
 t3:=Tryz.underlying3
 a3:=Tryz.isAgg3
 z3:=Tryz.sizeOf3
 v3:=Tryz.zeroValue3
 t4:=Tryz.underlying4
 a4:=Tryz.isAgg4
 z4:=Tryz.sizeOf4
 v4:=Tryz.zeroValue4
 t5:=Tryz.underlying5
 a5:=Tryz.isAgg5
 z5:=Tryz.sizeOf5
 v5:=Tryz.zeroValue5
 t9:=Tryz.underlying9
 a9:=Tryz.isAgg9
 z9:=Tryz.sizeOf9
 v9:=Tryz.zeroValue9
 t46:=Tryz.underlying124
 a46:=Tryz.isAgg124
 z46:=Tryz.sizeOf124
 v46:=Tryz.zeroValue124
 t51:=Tryz.underlying180
 a51:=Tryz.isAgg180
 z51:=Tryz.sizeOf180
 v51:=Tryz.zeroValue180
 t146:=Tryz.underlying181
 a146:=Tryz.isAgg181
 z146:=Tryz.sizeOf181
 v146:=Tryz.zeroValue181
 g1:=by kernel_rfl
def BG:Go.Shelf.Ren:=⟨fun|105=>28|212=>67|99=>68|165=>69|166=>23|170=>70|169=>24|263=>106|264=>107|206=>108|240=>52|241=>109|276=>95|277=>132|n=>n,fun|9=>9|3=>3|4=>4|20=>20|0=>0|46=>124|109=>125|5=>5|72=>60|76=>69|51=>180|146=>181|53=>183|148=>184|70=>57|37=>58|75=>68|127=>108|164=>158|80=>71|n=>n,fun|n=>n⟩
theorem QF[MO]:Go.Proofs.Lays.n105 Tryz.prog BG where
 mixed:=by kernel_rfl
 f99:=Tryz.func68.trans (congrArg some (by kernel_rfl))
 f105:=Tryz.func28.trans (congrArg some (by kernel_rfl))
 f165:=Tryz.func69.trans (congrArg some (by kernel_rfl))
 f166:=Tryz.func23.trans (congrArg some (by kernel_rfl))
 f169:=Tryz.func24.trans (congrArg some (by kernel_rfl))
 f170:=Tryz.func70.trans (congrArg some (by kernel_rfl))
 f206:=Tryz.func108.trans (congrArg some (by kernel_rfl))
 f212:=Tryz.func67.trans (congrArg some (by kernel_rfl))
 f240:=Tryz.func52.trans (congrArg some (by kernel_rfl))
 f241:=Tryz.func109.trans (congrArg some (by kernel_rfl))
 f263:=Tryz.func106.trans (congrArg some (by kernel_rfl))
 f264:=Tryz.func107.trans (congrArg some (by kernel_rfl))
 f276:=Tryz.func95.trans (congrArg some (by kernel_rfl))
 f277:=Tryz.func132.trans (congrArg some (by kernel_rfl))
 t0:=Tryz.underlying0
 a0:=Tryz.isAgg0
 z0:=Tryz.sizeOf0
 v0:=Tryz.zeroValue0
 t3:=Tryz.underlying3
 a3:=Tryz.isAgg3
 z3:=Tryz.sizeOf3
 v3:=Tryz.zeroValue3
 t4:=Tryz.underlying4
 a4:=Tryz.isAgg4
 z4:=Tryz.sizeOf4
 v4:=Tryz.zeroValue4
 t5:=Tryz.underlying5
 a5:=Tryz.isAgg5
 z5:=Tryz.sizeOf5
 v5:=Tryz.zeroValue5
 t9:=Tryz.underlying9
 a9:=Tryz.isAgg9
 z9:=Tryz.sizeOf9
 v9:=Tryz.zeroValue9
 t20:=Tryz.underlying20
 a20:=Tryz.isAgg20
 z20:=Tryz.sizeOf20
 v20:=Tryz.zeroValue20
 t37:=Tryz.underlying58
 a37:=Tryz.isAgg58
 z37:=Tryz.sizeOf58
 v37:=Tryz.zeroValue58
 t46:=Tryz.underlying124
 a46:=Tryz.isAgg124
 z46:=Tryz.sizeOf124
 v46:=Tryz.zeroValue124
 t51:=Tryz.underlying180
 a51:=Tryz.isAgg180
 z51:=Tryz.sizeOf180
 v51:=Tryz.zeroValue180
 t53:=Tryz.underlying183
 a53:=Tryz.isAgg183
 z53:=Tryz.sizeOf183
 v53:=Tryz.zeroValue183
 t70:=Tryz.underlying57
 a70:=Tryz.isAgg57
 z70:=Tryz.sizeOf57
 v70:=Tryz.zeroValue57
 t72:=Tryz.underlying60
 a72:=Tryz.isAgg60
 z72:=Tryz.sizeOf60
 v72:=Tryz.zeroValue60
 t75:=Tryz.underlying68
 a75:=Tryz.isAgg68
 z75:=Tryz.sizeOf68
 v75:=Tryz.zeroValue68
 t76:=Tryz.underlying69
 a76:=Tryz.isAgg69
 z76:=Tryz.sizeOf69
 v76:=Tryz.zeroValue69
 t109:=Tryz.underlying125
 a109:=Tryz.isAgg125
 z109:=Tryz.sizeOf125
 v109:=Tryz.zeroValue125
 t127:=Tryz.underlying108
 a127:=Tryz.isAgg108
 z127:=Tryz.sizeOf108
 v127:=Tryz.zeroValue108
 t146:=Tryz.underlying181
 a146:=Tryz.isAgg181
 z146:=Tryz.sizeOf181
 v146:=Tryz.zeroValue181
 t148:=Tryz.underlying184
 a148:=Tryz.isAgg184
 z148:=Tryz.sizeOf184
 v148:=Tryz.zeroValue184
 t164:=Tryz.underlying158
 a164:=Tryz.isAgg158
 z164:=Tryz.sizeOf158
 v164:=Tryz.zeroValue158
theorem nM{c:C}{l:S}{x:Value}(h:VRel c (.str l) x):x= .string ⟨l.toArray⟩:=by
 simp only[VRel]at h;obtain⟨s,rfl,h,_⟩:=h
 congr 1
 rw[<-h]
theorem FD[MO](s:S)(n:Nat)(hn:n<256):Ev TE 160 [.str s,.int .u8 n] (vi (Lib.indexByte s (UInt8.ofNat n))):=by intro ok w vs hs hl;simp only[VList,VRel]at hl;obtain⟨y,ys,rfl,⟨b,rfl,hb,_⟩,y2,ys2,rfl,rfl,rfl⟩:=hl;refine Calls.mono (Any.strings_IndexByte Hq b n w) ?_;rintro en w' ⟨rfl,rfl⟩;refine⟨_,rfl,WExt.refl _,?_⟩;simp only[VRel];rw[hb];rfl
theorem BH[MO](s:S)(c:UInt8):Ev TE 94 [.str s,.str [c]] (vi (s.count c:Nat)):=by intro ok w vs hs hl;simp only[VList]at hl;obtain⟨y,ys,rfl,h1,y2,ys2,rfl,h2,rfl⟩:=hl;have:=nM h1;subst this;have:=nM h2;subst this;refine Calls.mono (Any.strings_Count_one TC ⟨s.toArray⟩ c w) ?_;rintro en w' ⟨rfl,rfl⟩;exact⟨_,rfl,WExt.refl _,by simp only[VRel];rfl⟩
theorem NU[MO](s:S)(c:UInt8)(hs0:s.length<=1000000000):Ev TE 133 [.str s,.str [c]] (vi (Lib.lastIndexByte ⟨s.toArray⟩ c.toNat)):=by intro ok w vs hs hl;simp only[VList]at hl;obtain⟨y,ys,rfl,h1,y2,ys2,rfl,h2,rfl⟩:=hl;have:=nM h1;subst this;have:=nM h2;subst this;refine Calls.mono (Any.strings_LastIndex_one Hr ⟨s.toArray⟩ ⟨#[c]⟩ rfl (by show s.toArray.size<_;simp;omega) w) ?_;rintro en w' ⟨rfl,rfl⟩;exact⟨_,rfl,WExt.refl _,by simp only[VRel];rfl⟩
theorem U3:Builder.Extra Tryz.prog BG where
 sizeBuilder:=by kernel_rfl
 liesBuilder:=by kernel_rfl
 t5:=Tryz.underlying5
 a5:=Tryz.isAgg5
 z5:=Tryz.sizeOf5
 v5:=Tryz.zeroValue5
 infoByte:=by kernel_rfl
 cellsByte:=by kernel_rfl
 sizeByte:=by kernel_rfl
 neB5:=by decide
theorem BI{α:Type}(p:α->Bool)(l:List α):(l.dropWhile p).length<=l.length:=(List.dropWhile_sublist p).length_le
theorem J8(l cs:S):(Lib.trimS l cs).length<=l.length:=by unfold Lib.trimS Lib.trimLeftS Lib.trimRightS;refine Nat.le_trans (BI _ _) ?_;rw[List.length_reverse];exact Nat.le_trans (BI _ _) (by rw[List.length_reverse];exact zrb _)
theorem ww{w w':World}(x:Below w.heap.size w w'):WExt w w':=⟨x.os,x.tape,x.output,x.size,x.block⟩
theorem FH[MO](s cut:S)(hc:cut.length<=1000)(ha:∀b∈cut,b.toNat<128):Ev TE 112 [.str s,.str cut] (.str (Lib.trimS s cut)):=by
 intro ok w vs hs hl;simp only[VList]at hl;obtain⟨y,ys,rfl,h1,y2,ys2,rfl,h2,rfl⟩:=hl;have hsl:s.length<=maxLen:=by obtain⟨_,_,_,h⟩:=(show ∃s':ByteArray,y= .string s'/\s'.data.toList=s/\s.length<=maxLen by simpa only[VRel]using h1);exact h
 have:=nM h1;subst this;have:=nM h2;subst this;refine Calls.mono (Any.strings_Trim_laid Uy (by kernel_rfl) ⟨s.toArray⟩ ⟨cut.toArray⟩ w (by show s.toArray.size<=_;rw[List.size_toArray];exact hsl) (by show cut.toArray.size<_;simp;omega) (fun j b hj=>ha b (List.mem_of_getElem? hj))) ?_;rintro en w' ⟨rfl,hw⟩;refine⟨_,rfl,ww hw,?_⟩;simp only[VRel];exact⟨_,rfl,rfl,Nat.le_trans (J8 s cut) hsl⟩
theorem NV[MO](s cs:S)(hs0:s.length<=1000000)(hc:cs.length<=1000)(ha:∀b∈s,b.toNat<128)(hca:∀b∈cs,b.toNat<128):Ev TE 143 [.str s,.str cs] (.bool (Lib.containsAny s cs)):=by intro ok w vs hs hl;simp only[VList]at hl;obtain⟨y,ys,rfl,h1,y2,ys2,rfl,h2,rfl⟩:=hl;have:=nM h1;subst this;have:=nM h2;subst this;refine Calls.mono (Any.strings_ContainsAny_laid BF (by kernel_rfl) ⟨s.toArray⟩ ⟨cs.toArray⟩ w (by show s.toArray.size<_;simp;omega) (by show cs.toArray.size<_;simp;omega) (fun j b hj=>ha b (List.mem_of_getElem? hj)) (fun j b hj=>hca b (List.mem_of_getElem? hj))) ?_;rintro en w' ⟨rfl,hw⟩;exact⟨_,rfl,ww hw,by simp only[VRel]⟩
theorem J9[MO](s t:S)(hs0:s.length<=1000000):Ev TE 124 [.str s,.str t] (vi (Lib.index s t)):=by intro ok w vs hs hl;simp only[VList]at hl;obtain⟨y,ys,rfl,h1,y2,ys2,rfl,h2,rfl⟩:=hl;have:=nM h1;subst this;have:=nM h2;subst this;obtain⟨_,cs,ty,fz,hg0,m,hg1⟩:=hs.exa 5 _ rfl;have hg1:cs=_:=hg1;subst hg1;refine Calls.mono (Any.strings_Index TD ⟨s.toArray⟩ ⟨t.toArray⟩ m w (by show s.toArray.size<_;simp;omega) (by show w.cell? ⟨5,0,none⟩=_;have hg2:w.heap[5]? =_:=hg0;simp[World.cell?,hg2])) ?_;rintro en w' ⟨rfl,rfl⟩;exact⟨_,rfl,WExt.refl _,by simp only[VRel]⟩
theorem lh[MO](s:S)(n:Nat)(hs0:s.length<=1000)(hn:n<=1000000):Ev TE 28 [.str s,vi n] (.str (Lib.repeatL s n)):=by intro ok w vs hs hl;simp only[VList]at hl;obtain⟨y,ys,rfl,h1,y2,ys2,rfl,h2,rfl⟩:=hl;have:=nM h1;subst this;simp only[VRel]at h2;subst h2;have hp:s.length*n<=1000*1000000:=Nat.mul_le_mul hs0 hn;refine Calls.mono (Any.strings_Repeat Go.Proofs.YtokppohljajhjaaGreatDoor.QF U3 ⟨s.toArray⟩ n w (by omega) (by show s.toArray.size*n<=_;simp;omega)) ?_;rintro en w' ⟨rfl,hw⟩;refine⟨_,rfl,ww hw,?_⟩;simp only[VRel];exact⟨_,rfl,rfl,by rw[Lib.repeatL_length];show _<=9223372036854775807;rw[Nat.mul_comm];omega⟩
theorem Eh(p s:S):p.isPrefixOf s=(decide (p.length<=s.length)&&(s.take p.length==p)):=by
 rw[Bool.eq_iff_iff,List.isPrefixOf_iff_prefix,List.prefix_iff_eq_take,zqf,zqb,beq_iff_eq];constructor
 ·intro h;have:=congrArg List.length h;rw[zrl]at this;exact⟨by omega,h.symm⟩
 ·exact fun h=>h.2.symm
theorem BJ[MO](s p:S):Ev TE 108 [.str s,.str p] (.bool (p.isPrefixOf s)):=by
 rw[Eh];refine ai Tryz.func108 rfl (by simp[nts]) (vm ?_);by_cases hle:p.length<=s.length
 ·have e1:decide ((p.length:Int)<=(s.length:Int))=true:=by simpa using hle
  have e2:decide (p.length<=s.length)=true:=by simpa using hle
  simp only[wq.1,seval,Tryz.results108,e1,e2];exact⟨⟨by omega,by omega⟩,aG.dat rfl⟩
 ·have e1:decide ((p.length:Int)<=(s.length:Int))=false:=by simpa using hle
  have e2:decide (p.length<=s.length)=false:=by simpa using hle
  simp only[wq.1,seval,Tryz.results108,e1,e2];exact aG.dat rfl
theorem Ko[MO](s p:S):Ev TE 68 [.str s,.str p] (.bool (p.isPrefixOf s)):=by refine ai Tryz.func68 rfl (by simp[nts]) (vm ?_);simp only[wq.1,seval,Tryz.results68];refine ag.ev (BJ s p) rfl ?_;simp only[wq.1,seval];exact aG.dat rfl
theorem TF(c d:UInt8):((c.toNat:Int) != (d.toNat:Int))=(c != d):=by
 rw[bne,bne]
 congr 1
 rw[Bool.eq_iff_iff,beq_iff_eq,beq_iff_eq,Int.ofNat_inj];exact⟨fun h=>UInt8.toNat_inj.1 h,fun h=>by rw[h]⟩
theorem QG(c d:UInt8):((c.toNat:Int)==(d.toNat:Int))=(c==d):=by rw[Bool.eq_iff_iff,beq_iff_eq,beq_iff_eq,Int.ofNat_inj];exact⟨fun h=>UInt8.toNat_inj.1 h,fun h=>by rw[h]⟩
theorem zq:∀(l:S)(c:UInt8),decide (Lib.indexByte l c<0)= !l.contains c
 |[],c=>rfl
 |x::l,c=>by
  have ih:=zq l c;rw[List.contains_cons];by_cases h:x=c
  ·subst h;simp[Lib.indexByte]
  ·have h1:(x==c)=false:=by simpa using h
   have h2:(c==x)=false:=by simpa using fun e:c=x=>h e.symm
   rw[h2,Bool.false_or,<-ih,Lib.indexByte,h1];have h3:=Lib.indexByte_ge l c;generalize Lib.indexByte l c=z at *;by_cases hm:z=-1
   ·subst hm;rfl
   ·have:(z==-1)=false:=by simpa using hm
    rw[this];simp;omega
theorem NW(l:S)(c:UInt8):decide (0<=Lib.indexByte l c)=l.contains c:=by have:=zq l c;rw[<-Bool.not_not (b:=l.contains c),<-this,<-decide_not];exact decide_eq_decide.2 (by omega)
theorem NY[MO](c:UInt8):Ev TE 203 [vb c] (.bool (c != 10)):=by refine ai Tryz.func203 rfl (by simp[nts]) (vm ?_);simp only[wq.1,seval,Tryz.results203];refine dW rfl ?_;rw[<-TF c 10];rfl
def Ei:S:=[32,9,13]
def NZ:S:=[32,9,13,10,35,92]
theorem N7[MO](c:UInt8):Ev TE 202 [vb c] (.bool (!NZ.contains c)):=by have h:=FD NZ c.toNat (by have:=c.toNat_lt;omega);rw[UInt8.ofNat_toNat]at h;refine ai Tryz.func202 rfl (by simp[nts]) (vm ?_);simp only[wq.1,seval,Tryz.results202];refine ag.ev h rfl ?_;simp only[wq.1,seval];refine dW rfl ?_;rw[<-zq]
def BK(p:UInt8->Bool)(s:S):Nat:=(s.takeWhile p).length
theorem BL{p:UInt8->Bool}{s:S}{n:Nat}(h:n<=s.length)(ha:∀x∈s.take n,p x=true)(hs:∀hn:n<s.length,p s[n]=false):BK p s=n:=by
 have e:s=s.take n++s.drop n:=(List.take_append_drop n s).symm;have h1:(s.drop n).takeWhile p=[]:=by
  by_cases hn:n<s.length
  ·rw[List.drop_eq_getElem_cons hn,List.takeWhile_cons,hs hn];rfl
  ·rw[List.drop_eq_nil_of_le (by omega)];rfl
 unfold BK;rw[e,List.takeWhile_append_of_pos ha,h1,zqp,zrl];omega
theorem PM[MO](s:S)(a:Nat)(q:FuncId)(p:UInt8->Bool)(ha:a<=s.length)(hs:s.length<=1000000000)(he:ah P q=true)(hq:∀c:UInt8,Ev TE q [vb c] (.bool (p c))) :
 Ev TE 201 [.str s,vi a,.fn (.func q) [] []] (vi (BK p (s.drop a))):=by
 have hM:=mLx;refine ai Tryz.func201 rfl (by simp[nts]) (vm ?_);simp only[wq.1,Nat.reduceLT,Tryz.results201];refine aN (fun m f h=>∃i,m+i=s.length-a/\f.t 0= .str s/\f.t 1=vi a/\f.t 2= .fn (.func q) [] []/\f.t 7=vi i/\f.d=[]/\∀x∈(s.drop a).take i,p x=true) (s.length-a) ⟨0,by simp,rfl,rfl,rfl,rfl,rfl,by simp⟩ ?_;rintro m f h ⟨i,hm,h0,h1,h2,h7,hd,hall⟩;have hl:(s.drop a).length=s.length-a:=List.length_drop ..;have w1:IntKind.i64.wrap ((a:Int)+i)=((a+i:Nat):Int):=by rw[iy (by omega) (by omega)];omega
 refine vm ?_;by_cases hc:a+i<s.length
 ·have hc':decide (((a+i:Nat):Int)<s.length)=true:=by simp;omega
  have hg:(s.drop a)[i]'(by omega)=s[a+i]:=List.getElem_drop ..;simp only[wq.1,seval,h0,h1,h2,h7,w1,hc',Qx hc,he];refine⟨⟨by omega,by omega⟩,ag.ev (hq _) rfl ?_⟩;simp only[wq.1,seval];cases hp:p s[a+i]with
  |true=>simp only[wq.1,seval,h7,aC (show i<maxLen by omega)];exact .inl ⟨m-1,by omega,i+1,by omega,h0,h1,h2,rfl,hd,dm (by omega) hall (by rw[hg];exact hp)⟩
  |false=>simp only[wq.1,seval,h7,hd];rw[BL (n:=i) (by omega) hall (fun _=>by rw[hg];exact hp)];exact aG.dat rfl
 ·have hc':decide (((a+i:Nat):Int)<s.length)=false:=by simp;omega
  simp only[wq.1,seval,h0,h1,h2,h7,w1,hc'];refine⟨.any,?_⟩;simp only[wq.1,seval,h7,hd];rw[BL (n:=i) (by omega) hall (fun h=>absurd h (by omega))];exact aG.dat rfl
theorem QH[MO](s:S)(a:Nat)(ha:a<=s.length)(hs:s.length<=1000000000):Ev TE 199 [.str s,vi a] (vi (BK (· != 10) (s.drop a))):=by refine ai Tryz.func199 rfl (by simp[nts]) (vm ?_);simp only[wq.1,seval,Tryz.results199];refine ag.ev (PM s a 203 _ ha hs (by simp[ens]) NY) rfl ?_;simp only[wq.1,seval];exact aG.dat rfl
abbrev Tk.v(t:Tk):V:= .agg [vi t.k,.str t.t,vi t.at']
abbrev iM(l:List Tk):V:= .is false 3 (l.map Tk.v)
theorem Ej[MO](n:Int):Ev TE 198 [vi n] (.tup [.agg [vi (-1),.str [],vi 0],vi n]):=by refine ai Tryz.func198 rfl (by simp[nts]) (vm ?_);simp only[wq.1,seval,Tryz.results198];exact aG.dat rfl
theorem PN[MO](k:Int)(s:S)(a n:Nat)(hn:n≠0)(ha:a+n<=s.length)(hs:s.length<=1000000000):Ev TE 200 [vi k,.str s,vi a,vi n] (.tup [.agg [vi k,.str ((s.drop a).take n),vi a],vi n]):=by
 have e0:((n:Int)==0)=false:=by simpa using hn
 have w1:IntKind.i64.wrap ((a:Int)+n)=((a+n:Nat):Int):=by rw[iy (by omega) (by omega)];omega
 refine ai Tryz.func200 rfl (by simp[nts]) (vm ?_);simp only[wq.1,seval,Tryz.results200,e0,w1];rw[Nat.add_sub_cancel_left];exact⟨by omega,aG.dat rfl⟩
def oL(p:Nat):S->Option Tk×Nat
 |[]=>(none,0)
 |c::r =>
  if c=35 then(none,BK (· != 10) (c::r))
  else if c=92/\r.head? =some 10 then(none,2)
  else if oV c=true then(none,1)
  else if c=10 then(some ⟨3,[],p⟩,1)
  else if c=92 then(some ⟨0,[92],p⟩,1)
  else(some ⟨0,(c::r).takeWhile gG,p⟩,BK gG (c::r))
theorem FI(p:UInt8->Bool):∀l:S,l.dropWhile p=l.drop (BK p l)
 |[]=>rfl
 |x::l=>by
  unfold BK;cases h:p x with
  |true=>rw[List.dropWhile_cons,if_pos h,List.takeWhile_cons,if_pos h,zrt,List.drop_succ_cons,FI p l];rfl
  |false=>rw[List.dropWhile_cons,if_neg (by rw[h];decide),List.takeWhile_cons,if_neg (by rw[h];decide)];rfl
theorem FK{n p:Nat}{c:UInt8}{r:S}:tkB (n+1) p (c::r)=(oL p (c::r)).1.toList++tkB n (p+(oL p (c::r)).2) ((c::r).drop (oL p (c::r)).2):=by
 rw[tkB,oL]
 repeat' split
 all_goals first|rfl|(rw[FI];rfl)
abbrev tkO:Option Tk->V
 |some t=>t.v
 |none=> .agg [vi (-1),.str [],vi 0]
theorem Kq(c:UInt8):(!NZ.contains c)=gG c:=by unfold NZ gG oV;simp only[List.contains_cons,List.contains_nil,Bool.or_false,Bool.or_assoc,beq_iff_eq]
theorem QI[MO](s:S)(a:Nat)(c:UInt8)(r:S)(hr:s.drop a=c::r)(hs:s.length<=1000000000):Ev TE 197 [.agg [],.str s,vi a] (.tup [tkO (oL a (c::r)).1,vi (oL a (c::r)).2]):=by
 have hM:=mLx;have ha:a<s.length:=by have:=congrArg List.length hr;rw[List.length_drop,zrt]at this;omega
 have hc:s[a]=c:=by have:=List.drop_eq_getElem_cons ha;rw[hr]at this;injection this with h1 _;exact h1.symm
 have hln:=QH s a (by omega) hs;have hpf:=Ko (s.drop a) [92,10];have hib:=FD Ei c.toNat (by have:=c.toNat_lt;omega);rw[UInt8.ofNat_toNat]at hib;have hrn:=PM s a 202 gG (by omega) hs (by simp[ens]) (fun x=>by rw[<-Kq];exact N7 x);rw[hr]at hln hpf hrn;have hib2:decide (0<=Lib.indexByte Ei c)=oV c:=by rw[NW];unfold Ei oV;simp only[List.contains_cons,List.contains_nil,Bool.or_false,Bool.or_assoc]
 have e35:((c.toNat:Int)==35)=(c==35):=QG c 35;have e10:((c.toNat:Int)==10)=(c==10):=QG c 10;have e92:((c.toNat:Int)==92)=(c==92):=QG c 92;have hpf2:([92,10]:S).isPrefixOf (c::r)=decide (c=92/\r.head? =some 10):=by
  cases r with
  |nil=>simp[List.isPrefixOf]
  |cons d r=>simp only[List.isPrefixOf,Bool.and_true,List.head?_cons,Option.some.injEq];rw[Bool.eq_iff_iff,zqf,beq_iff_eq,beq_iff_eq,zqb];exact⟨fun h=>⟨h.1.symm,h.2.symm⟩,fun h=>⟨h.1.symm,h.2.symm⟩⟩
 rw[hpf2]at hpf;have hlen:(c::r).length=s.length-a:=by rw[<-hr,List.length_drop]
 have hpos:BK gG (c::r)<=(c::r).length:=(List.takeWhile_sublist _).length_le;obtain⟨R,hR⟩:∃R,R=oL a (c::r):=⟨_,rfl⟩;rw[<-hR];refine ai Tryz.func197 rfl (by simp[nts]) (vm ?_);simp only[wq.1,seval,Tryz.results197,Qx ha,hc,e35];refine⟨⟨by omega,by omega⟩,vcB.mk (fun h1=> ?_) (fun h1=> ?_)⟩
 ·have h1':c=35:=by simpa using h1
  have:R=(none,BK (· != 10) (c::r)):=by rw[hR,oL,if_pos h1']
  subst this;simp only[wq.1,seval];refine ag.ev hln rfl ?_;simp only[wq.1,seval];refine ag.ev (Ej _) rfl ?_;simp only[wq.1,seval];exact aG.dat rfl
 have h1':c≠35:=by simpa using h1
 rw[oL,if_neg h1']at hR;simp only[wq.1,seval,hr];refine⟨by omega,ag.ev hpf rfl ?_⟩;simp only[wq.1,seval];refine vcB.mk (fun h2=> ?_) (fun h2=> ?_)
 ·have h2':=zqs h2;rw[if_pos h2']at hR;subst hR;simp only[wq.1,Nat.reduceLT];refine ag.ev (Ej _) rfl ?_;simp only[wq.1,seval];exact aG.dat rfl
 have h2':=of_decide_eq_false h2;rw[if_neg h2']at hR;simp only[wq.1,seval];refine ag.ev hib rfl ?_;simp only[wq.1,seval,hib2];refine vcB.mk (fun h3=> ?_) (fun h3=> ?_)
 ·rw[if_pos h3]at hR;subst hR;simp only[wq.1,Nat.reduceLT];refine ag.ev (Ej _) rfl ?_;simp only[wq.1,seval];exact aG.dat rfl
 rw[if_neg (by rw[h3];decide)]at hR;simp only[wq.1,seval,e10];refine vcB.mk (fun h4=> ?_) (fun h4=> ?_)
 ·rw[if_pos (by simpa using h4)]at hR;subst hR;simp only[wq.1,seval];exact aG.dat rfl
 have h4':c≠10:=by simpa using h4
 rw[if_neg h4']at hR;simp only[wq.1,seval,e92];refine vcB.mk (fun h5=> ?_) (fun h5=> ?_)
 ·have h5':c=92:=by simpa using h5
  rw[if_pos h5']at hR;subst hR;have h:=PN 0 s a 1 (by decide) (by omega) hs;rw[hr,h5']at h;simp only[wq.1,seval];refine ag.ev h rfl ?_;simp only[wq.1,seval];exact aG.dat rfl
 have h5':c≠92:=by simpa using h5
 rw[if_neg h5']at hR;subst hR;have hw:gG c=true:=by
  unfold gG;rw[h3];simp[h1',h4',h5']
 have h:=PN 0 s a (BK gG (c::r)) (by unfold BK;rw[List.takeWhile_cons,if_pos hw];simp) (by omega) hs;rw[hr]at h;have ht:(c::r).take (BK gG (c::r))=(c::r).takeWhile gG:=by
  unfold BK
  conv=>lhs;rw[<-List.takeWhile_append_dropWhile (p:=gG) (l:=c::r)]
  rw[List.take_append_of_le_length (by simp)];simp
 rw[ht]at h;simp only[wq.1,seval];refine ag.ev hrn rfl ?_;simp only[wq.1,seval];refine ag.ev h rfl ?_;simp only[wq.1,seval];exact aG.dat rfl
end Go.Proofs.YtokppohljajhjaaGreatDoor
