/- Lemmas for this claim, part F09: each holds under what it names. -/
import Derived.Test.YthdidjjecjhenaaGreatF08
import Derived.Test.YthdidjjecjhenaaGreatA9
set_option linter.unusedVariables false
set_option linter.unusedSimpArgs false
set_option linter.unnecessarySimpa false
set_option maxRecDepth 20000
namespace Go.Proofs.YthdidjjecjhenaaGreat
open Go Go.Proofs Go.Abs
def wB(row:Cl)(a:Int):Int:=if a%2=1 then -(row.getD (a/2).toNat 0)else row.getD (a/2).toNat 0
structure UA where
 n:Nat
 cl:List Cl
 row:Cl
def Wh(s:UA)(p:Pq):UA :=
 ⟨s.n+1,s.cl++[[-((s.n:Int)+1),wB s.row p.1],[-((s.n:Int)+1),wB s.row p.2],[(s.n:Int)+1,-wB s.row p.1,-wB s.row p.2]],s.row++[(s.n:Int)+1]⟩
def CS(n k:Nat):Cl:=(List.range k).map fun i:Nat=>(n:Int)+(i:Int)+1
def XZ(g:Gr)(n:Nat)(lat:Cl):Cl:=-1::(CS n g.ins.toNat++lat)
structure US where
 n:Nat
 cl:List Cl
 rows:List Cl
 lat:Cl
def US.ands(g:Gr)(u:US)(i:Nat):UA:=(g.ands.take i).foldl Wh ⟨u.n+g.ins.toNat,u.cl,XZ g u.n u.lat⟩
def US.step(g:Gr)(u:US):US:=⟨(u.ands g g.ands.length).n,(u.ands g g.ands.length).cl,u.rows++[(u.ands g g.ands.length).row],g.next.map (wB (u.ands g g.ands.length).row)⟩
def qO(s:Nat×Cl)(b:Int):Nat×Cl:=if b=2 then(s.1+1,s.2++[(s.1:Int)+1])else(s.1,s.2++[2*b-1])
def vk(l:Cl):Nat×Cl:=l.foldl qO (1,[])
def bY(g:Gr)(b:Cl):Nat->US
 |0=>⟨(vk b).1,[[1]],[],(vk b).2⟩
 |k+1=>(bY g b k).step g
variable{g:Gr}
theorem eP{u:US}{i:Nat}(h:i<g.ands.length):u.ands g (i+1)=Wh (u.ands g i) g.ands[i]:=by unfold US.ands;rw[zrg,zqk h,List.foldl_append];rfl
theorem nO{g:Gr}{u:US}:∀ {i:Nat},i<=g.ands.length->(u.ands g i).n=u.n+g.ins.toNat+i
 |0,_=>rfl
 |i+1,h=>by rw[eP (by omega)];show(u.ands g i).n+1=_;rw[nO (by omega)];omega
theorem gK{g:Gr}{u:US}:∀ {i:Nat},i<=g.ands.length->(u.ands g i).row.length=1+g.ins.toNat+u.lat.length+i
 |0,_=>by simp[US.ands,XZ,CS];omega
 |i+1,h=>by rw[eP (by omega)];show((u.ands g i).row++[_]).length=_;rw[zqa,gK (by omega),zrk];omega
def inU(n:Nat)(a:Int):Prop:=a≠0/\-(n:Int)<=a/\a<=n
variable{n:Nat}{a:Int}
theorem inU.mono{k:Nat}(h:inU n a)(hk:n<=k):inU k a:=⟨h.1,by have:=h.2;omega,by have:=h.2;omega⟩
theorem inU.neg(h:inU n a):inU n (-a):=⟨by have:=h.1;omega,by have:=h.2;omega,by have:=h.2;omega⟩
variable{vs w:List Bool}
theorem vw(h:inU vs.length a):hol (vs++w) a=hol vs a:=by
 obtain⟨h0,h1,h2⟩:=h;unfold hol;split
 ·rw[zqg,zqj (by omega),<-zqg]
 ·rw[zqg,zqj (by omega),<-zqg]
theorem Un{b:Bool}:hol (vs++b::w) ((vs.length:Int)+1)=b:=by unfold hol;rw[if_neg (by omega),show((vs.length:Int)+1-1).toNat=vs.length by omega];simp
def Ac(n:Nat)(row:Cl):Prop:=∀a∈row,inU n a
def Vu(n:Nat)(l:List Cl):Prop:=∀c∈l,∀a∈c,inU n a
theorem Vw{l:List Cl}(h:Vu vs.length l):sat l (vs++w)=sat l vs:=by unfold sat;rw[Bool.eq_iff_iff,zrs,zrs];refine forall_congr' fun c=>forall_congr' fun hc=> ?_;rw[List.any_eq_true,List.any_eq_true];refine exists_congr fun a=>and_congr_right fun ha=> ?_;rw[vw (h c hc a ha)]
variable{row:Cl}
theorem yU(h:Ac vs.length row):row.map (hol (vs++w))=row.map (hol vs) :=
 zsd fun a ha=>vw (h a ha)
theorem CU{k:Nat}(h:k<row.length):row.getD k 0∈row:=by rw[aS h];exact zqu h
theorem pV(h:Ac n row){a:Int}(h0:0<=a)(ha:a/2<row.length):inU n (wB row a):=by
 have:=h _ (CU (k:=(a/2).toNat) (by omega));unfold wB;split
 ·exact this.neg
 ·exact this
theorem ug(h:Ac n row){a:Int}(h0:0<=a)(ha:a/2<row.length):hol vs (wB row a)=lv (row.map (hol vs)) a:=by
 have hk:(a/2).toNat<row.length:=by omega
 have:=h _ (CU hk);have e:(row.map (hol vs)).getD (a/2).toNat false=hol vs (row.getD (a/2).toNat 0):=by rw[zqg,zqo,zqk hk,aS hk];rfl
 unfold wB lv;rw[e];rcases Int.emod_two_eq a with hm|hm
 ·rw[if_neg (by omega),hm];simp
 ·rw[if_pos hm,jI this.1,hm];simp
variable{cl:List Cl}
theorem Vx{v x y:Int}(hv:v≠0)(hx:x≠0)(hy:y≠0) :
 sat (cl++[[-v,x],[-v,y],[v,-x,-y]]) vs=true↔sat cl vs=true/\hol vs v=(hol vs x&&hol vs y):=by
 unfold sat;rw[List.all_append,zqf];refine and_congr_right fun _=> ?_;simp only[List.all_cons,List.all_nil,List.any_cons,List.any_nil,jI hv,jI hx,jI hy];cases hol vs v<;>cases hol vs x<;>cases hol vs y<;>decide
def yV(v:List Bool)(p:Pq):List Bool:=v++[lv v p.1&&lv v p.2]
theorem AL{st ins:List Bool}{i:Nat}:iC g st ins i=(g.ands.take i).foldl yV ([false]++ins++st):=rfl
structure UAok(s:UA):Prop where
 r:Ac s.n s.row
 c:Vu s.n s.cl
theorem Vy{s:UA}(h:UAok s){p:Pq}(h1:0<=p.1)(h2:0<=p.2)(h3:p.1/2<s.row.length)(h4:p.2/2<s.row.length):UAok (Wh s p):=by
 have hv:inU (s.n+1) ((s.n:Int)+1):=⟨by omega,by omega,by omega⟩;have a1:=(pV h.r h1 h3).mono (Nat.le_succ s.n);have a2:=(pV h.r h2 h4).mono (Nat.le_succ s.n);refine⟨fun a ha=> ?_,fun c hc a ha=> ?_⟩
 ·rcases zrf.1 ha with ha|ha
  ·exact(h.r a ha).mono (Nat.le_succ _)
  ·rw[zrc.1 ha];exact hv
 ·rcases zrf.1 hc with hc|hc
  ·exact(h.c c hc a ha).mono (Nat.le_succ _)
  ·simp only[zrj,zrp,or_false]at hc;rcases hc with rfl|rfl|rfl
   ·simp only[zrj,zrp,or_false]at ha;rcases ha with rfl|rfl
    ·exact hv.neg
    ·exact a1
   ·simp only[zrj,zrp,or_false]at ha;rcases ha with rfl|rfl
    ·exact hv.neg
    ·exact a2
   ·simp only[zrj,zrp,or_false]at ha;rcases ha with rfl|rfl|rfl
    ·exact hv
    ·exact a1.neg
    ·exact a2.neg
theorem SN{s:UA}(h:UAok s){p:Pq}(h1:0<=p.1)(h2:0<=p.2)(h3:p.1/2<s.row.length)(h4:p.2/2<s.row.length){vs:List Bool} :
 sat (Wh s p).cl vs=true↔sat s.cl vs=true/\(Wh s p).row.map (hol vs)=yV (s.row.map (hol vs)) p:=by
 show sat (s.cl++_) vs=true↔_;rw[Vx (by omega) (pV h.r h1 h3).1 (pV h.r h2 h4).1,ug h.r h1 h3,ug h.r h2 h4];refine and_congr_right fun _=> ?_;show _↔(s.row++[(s.n:Int)+1]).map (hol vs)=s.row.map (hol vs)++[_];rw[zql];constructor
 ·intro e;rw[List.map_singleton,e]
 ·intro e;exact List.head_eq_of_cons_eq (List.append_cancel_left e)
def stM:Cl->List Bool->Prop
 |[],[]=>True
 |b::l,s::st=>(b=2\/s=decide (b=1))/\stM l st
 |_,_=>False
theorem CV:∀(l:Cl)(s:Nat×Cl)(vs:List Bool)(st0:List Bool),(∀b∈l,0<=b/\b<=2)->vs.length=s.1->1<=s.1->hol vs 1=true->Ac s.1 s.2->s.2.map (hol vs)=st0->∀st,stM l st ->
 ∃w,(vs++w).length=(l.foldl qO s).1/\(l.foldl qO s).2.map (hol (vs++w))=st0++st
 |[],s,vs,st0,_,h1,_,_,_,h2,st,hm=>by
  cases st with
  |nil=>exact⟨[],by simpa using h1,by simpa using h2⟩
  |cons a t=>exact hm.elim
 |b::l,s,vs,st0,hl,h1,hp,ho,hr,h2,st,hm=>by
  cases st with
  |nil=>exact hm.elim
  |cons x t =>
   obtain⟨hx,hm⟩:=hm;have hb:=hl b (by simp);have hl':∀b∈l,0<=b/\b<=2:=fun b h=>hl b (by simp[h]);rw[List.foldl_cons];by_cases h:b=2
   ·have e:qO s b=(s.1+1,s.2++[(s.1:Int)+1]):=by unfold qO;rw[if_pos h]
    rw[e];have hho:hol (vs++[x]) 1=true:=by rw[vw ⟨by omega,by omega,by omega⟩];exact ho
    obtain ⟨w,w1,w2⟩ := CV l (s.1 + 1,s.2 ++ [(s.1 : Int) + 1]) (vs ++ [x]) (st0 ++ [x]) hl' (by simp [h1]) (by simp) hho
     (fun a ha=>by
      rcases zrf.1 ha with ha|ha
      ·exact(hr a ha).mono (Nat.le_succ _)
      ·rw[zrc.1 ha];exact⟨by omega,by omega,by simp⟩)
     (by
      rw[zql,yU (by rw[h1];exact hr),h2,List.map_singleton];have:=Un (vs:=vs) (w:=[]) (b:=x);rw[h1]at this;rw[this]) t hm
    exact⟨x::w,by simpa using w1,by simpa using w2⟩
   ·have e:qO s b=(s.1,s.2++[2*b-1]):=by unfold qO;rw[if_neg h]
    rw[e];have hq:hol vs (2*b-1)=x:=by
     rw[hx.resolve_left h];have:b=0\/b=1:=by omega
     rcases this with rfl|rfl
     ·show hol vs (-1)=false;rw[jI (by decide),ho];rfl
     ·exact ho
    obtain ⟨w,w1,w2⟩ := CV l (s.1,s.2 ++ [2 * b - 1]) vs (st0 ++ [x]) hl' h1 hp ho
     (fun a ha=>by
      rcases zrf.1 ha with ha|ha
      ·exact hr a ha
      ·rw[zrc.1 ha];exact⟨by omega,by omega,by omega⟩)
     (by rw[zql,h2,List.map_singleton,hq]) t hm
    exact⟨w,w1,by simpa using w2⟩
theorem yX:∀(l:Cl)(s:Nat×Cl),(∀b∈l,0<=b/\b<=2)->1<=s.1->Ac s.1 s.2->s.1<=(l.foldl qO s).1/\(l.foldl qO s).1<=s.1+l.length/\Ac (l.foldl qO s).1 (l.foldl qO s).2/\(l.foldl qO s).2.length=s.2.length+l.length
 |[],s,_,_,hr=>⟨zrb _,zrb _,hr,rfl⟩
 |b::l,s,hl,hp,hr=>by
  have hb:=hl b (by simp);have hl':∀b∈l,0<=b/\b<=2:=fun b h=>hl b (by simp[h]);rw[List.foldl_cons];by_cases h:b=2
  ·have e:qO s b=(s.1+1,s.2++[(s.1:Int)+1]):=by unfold qO;rw[if_pos h]
   rw[e];obtain⟨a1,a2,a3,a4⟩:=yX l (s.1+1,s.2++[(s.1:Int)+1]) hl' (by simp) (fun a ha=>by
    rcases zrf.1 ha with ha|ha
    ·exact(hr a ha).mono (Nat.le_succ _)
    ·rw[zrc.1 ha];exact⟨by omega,by omega,by simp⟩)
   simp only[zqa,zrk]at a1 a2 a4;exact⟨by omega,by rw[zrt];omega,a3,by rw[zrt];omega⟩
  ·have e:qO s b=(s.1,s.2++[2*b-1]):=by unfold qO;rw[if_neg h]
   rw[e];obtain⟨a1,a2,a3,a4⟩:=yX l (s.1,s.2++[2*b-1]) hl' hp (fun a ha=>by
    rcases zrf.1 ha with ha|ha
    ·exact hr a ha
    ·rw[zrc.1 ha];exact⟨by omega,by omega,by omega⟩)
   simp only[zqa,zrk]at a1 a2 a4;exact⟨a1,by rw[zrt];omega,a3,by rw[zrt];omega⟩
theorem CW:∀ {l:Cl} {st:List Bool} {b:Int} {s:Bool},stM l st->(b=2\/s=decide (b=1))->stM (l++[b]) (st++[s])
 |[],[],b,s,_,h=>⟨h,trivial⟩
 |a::l,x::st,b,s,h,h2=>⟨h.1,CW h.2 h2⟩
theorem Fh{vs:List Bool}(ho:hol vs 1=true):∀(l:Cl)(s:Nat×Cl)(l0:Cl),(∀b∈l,0<=b/\b<=2)->stM l0 (s.2.map (hol vs))->stM (l0++l) ((l.foldl qO s).2.map (hol vs))
 |[],s,l0,_,h=>by simpa using h
 |b::l,s,l0,hl,h=>by
  have hb:=hl b (by simp);have hl':∀b∈l,0<=b/\b<=2:=fun b h=>hl b (by simp[h]);rw[List.foldl_cons];have:stM (l0++[b]) ((qO s b).2.map (hol vs)):=by
   unfold qO;split
   ·rename_i h2;rw[zql];exact CW h (.inl h2)
   ·rename_i h2;rw[zql];refine CW h (.inr ?_);have:b=0\/b=1:=by omega
    rcases this with rfl|rfl
    ·show hol vs (-1)=false;rw[jI (by decide),ho];rfl
    ·exact ho
  have:=Fh ho l (qO s b) (l0++[b]) hl' this;simpa using this
def nx(g:Gr)(st x:List Bool):List Bool:=g.next.map (lv (g.vals st x))
def SQ(g:Gr):List Bool->List (List Bool)->List (List Bool)
 |_,[]=>[]
 |st,x::l=>g.vals st x::SQ g (nx g st x) l
def pW(g:Gr):List Bool->List (List Bool)->List Bool
 |st,[]=>st
 |st,x::l=>pW g (nx g st x) l
theorem pX{g:Gr}:∀ {st:List Bool} {l:List (List Bool)} {x:List Bool},pW g st (l++[x])=nx g (pW g st l) x
 |_,[],_=>rfl
 |_,_::l,_=>pX (l:=l)
theorem yY{g:Gr}:∀ {st:List Bool} {l:List (List Bool)} {x:List Bool},SQ g st (l++[x])=SQ g st l++[g.vals (pW g st l) x]
 |_,[],_=>rfl
 |_,_::l,_=>by show _::SQ g _ (l++_)=_;rw[yY (l:=l)];rfl
def SS(g:Gr):Nat:=1+g.ins.toNat+g.next.length+g.ands.length
structure USok(g:Gr)(u:US):Prop where
 l:u.lat.length=g.next.length
 lo:Ac u.n u.lat
 c:Vu u.n u.cl
 r:∀r∈u.rows,Ac u.n r/\r.length=SS g
 one:1<=u.n
theorem je{g:Gr}(hg:g.chk=0){u:US}(h:USok g u):∀ {i:Nat},i<=g.ands.length->UAok (u.ands g i)
 |0,_=>by
  refine⟨fun a ha=> ?_,fun c hc a ha=>(h.c c hc a ha).mono (Nat.le_add_right _ _)⟩;have ha:a∈-1::(CS u.n g.ins.toNat++u.lat):=ha;show inU (u.n+g.ins.toNat) a;have h1:=h.one;rcases zrj.1 ha with rfl|ha
  ·exact⟨by omega,by omega,by omega⟩
  ·rcases zrf.1 ha with ha|ha
   ·obtain⟨i,hi,rfl⟩:=zrh.1 ha;have:=List.mem_range.1 hi;exact⟨by omega,by omega,by omega⟩
   ·exact(h.lo a ha).mono (Nat.le_add_right _ _)
 |i+1,hi=>by
  obtain⟨_,i0,i1,i2,i3,i4,i5⟩:=aW hg;have hl:=gK (u:=u) (g:=g) (i:=i) (by omega);obtain⟨o1,o2,o3,o4⟩:=iD i5 (show i<g.ands.length by omega);have wf:g.first=1+g.ins+g.next.length:=rfl
  have hll:=h.l;rw[eP (by omega)];exact Vy (je hg h (by omega)) o1 o2 (by omega) (by omega)
theorem rP{g:Gr}(hg:g.chk=0){u:US}(h:USok g u){vs:List Bool}:∀ {i:Nat},i<=g.ands.length ->
 (sat (u.ands g i).cl vs=true↔sat u.cl vs=true/\(u.ands g i).row.map (hol vs)=(g.ands.take i).foldl yV ((u.ands g 0).row.map (hol vs)))
 |0,_=>by show sat u.cl vs=true↔sat u.cl vs=true/\_=_;exact⟨fun h=>⟨h,rfl⟩,fun h=>h.1⟩
 |i+1,hi=>by
  obtain⟨_,i0,i1,i2,i3,i4,i5⟩:=aW hg;have hl:=gK (u:=u) (g:=g) (i:=i) (by omega);obtain⟨o1,o2,o3,o4⟩:=iD i5 (show i<g.ands.length by omega);have wf:g.first=1+g.ins+g.next.length:=rfl
  have hll:=h.l;have ih:=rP hg h (vs:=vs) (i:=i) (by omega);rw[eP (by omega),SN (je hg h (by omega)) o1 o2 (by omega) (by omega),ih];have e:(g.ands.take (i+1)).foldl yV ((u.ands g 0).row.map (hol vs))=yV ((g.ands.take i).foldl yV ((u.ands g 0).row.map (hol vs))) g.ands[i]:=by rw[zrg,zqk (show i<g.ands.length by omega),List.foldl_append];rfl
  rw[e];constructor
  ·rintro⟨⟨a1,a2⟩,a3⟩;exact⟨a1,by rw[a3,a2]⟩
  ·rintro⟨a1,a2⟩;have a3:((u.ands g i).row++[((u.ands g i).n:Int)+1]).map (hol vs)=(g.ands.take i).foldl yV ((u.ands g 0).row.map (hol vs))++[_]:=a2;rw[zql,List.map_singleton]at a3;have a4:=List.append_inj_left' a3 rfl;exact⟨⟨a1,a4⟩,by rw[a2,a4]⟩
theorem LD(hg:g.chk=0){u:US}(h:USok g u):USok g (u.step g):=by
 obtain⟨_,i0,i1,i2,i3,i4,i5⟩:=aW hg;obtain⟨r1,r2,r3,r4⟩:=aN i4;have ok:=je hg h (zrb g.ands.length);have hl:=gK (u:=u) (g:=g) (zrb g.ands.length);have hn:=nO (u:=u) (g:=g) (zrb g.ands.length);have wf:g.first=1+g.ins+g.next.length:=rfl
 have wa:g.all=2*(g.first+g.ands.length):=rfl;have wv:SS g=1+g.ins.toNat+g.next.length+g.ands.length:=rfl
 have hll:=h.l;have h1:=h.one;refine⟨by simp[US.step],fun a ha=> ?_,ok.c,fun r hr=> ?_,?_⟩
 ·obtain⟨b,hb,rfl⟩:=zrh.1 ha;have:=r3 b hb;exact pV ok.r this.1 (by omega)
 ·rcases zrf.1 hr with hr|hr
  ·obtain⟨a1,a2⟩:=h.r r hr;exact⟨fun a ha=>(a1 a ha).mono (by show u.n<=(u.ands g g.ands.length).n;omega),a2⟩
  ·rw[zrc.1 hr];exact⟨ok.r,by omega⟩
 ·show 1<=(u.ands g g.ands.length).n;omega
theorem wC{g:Gr}(hg:g.chk=0){b:Cl}(hb:b.length=g.next.length)(hb2:∀x∈b,0<=x/\x<=2):∀k,USok g (bY g b k)
 |0=>by obtain⟨a1,a2,a3,a4⟩:=yX b (1,[]) hb2 (zrb _) (fun a ha=>by cases ha);refine⟨by show(vk b).2.length=_;unfold vk;rw[a4];simpa using hb,a3,fun c hc a ha=> ?_,fun r hr=>(by cases hr),a1⟩;have hc:c=[1]:=zrc.1 hc;subst hc;rw[zrc.1 ha];have:1<=(bY g b 0).n:=a1;exact⟨by decide,by omega,by omega⟩
 |k+1=>LD hg (wC hg hb hb2 k)
theorem Jk{u:US}(ho:hol vs 1=true):(u.ands g 0).row.map (hol vs)=[false]++(CS u.n g.ins.toNat).map (hol vs)++u.lat.map (hol vs):=by show(-1::(CS u.n g.ins.toNat++u.lat)).map (hol vs)=_;rw[zrd,show hol vs (-1)=false by rw[jI (by decide),ho];rfl,zql];rfl
theorem Jl{g:Gr}{st x:List Bool}:∀ {i:Nat},i<=g.ands.length->((iC g st x i).drop 1).take x.length=x
 |0,_=>by simp[iC]
 |i+1,h=>by have ih:=Jl (g:=g) (st:=st) (x:=x) (i:=i) (by omega);have hl:=jv (g:=g) (st:=st) (ins:=x) (i:=i) (by omega);rw[nN (by omega),List.drop_append_of_le_length (by omega),List.take_append_of_le_length (by rw[List.length_drop];omega)];exact ih
def Uo(g:Gr)(vs:List Bool)(rows:List Cl):List (List Bool):=rows.map fun r=>((r.map (hol vs)).drop 1).take g.ins.toNat
theorem Fj{g:Gr}(hg:g.chk=0){b:Cl}(hb:b.length=g.next.length)(hb2:∀x∈b,0<=x/\x<=2){vs:List Bool}:∀k,sat (bY g b k).cl vs=true ->
 hol vs 1=true/\(bY g b k).rows.map (fun r=>r.map (hol vs))=SQ g ((vk b).2.map (hol vs)) (Uo g vs (bY g b k).rows)/\(bY g b k).lat.map (hol vs)=pW g ((vk b).2.map (hol vs)) (Uo g vs (bY g b k).rows)
 |0,hs=>by refine⟨?_,rfl,rfl⟩;have:sat [[1]] vs=true:=hs;simpa [sat]using this
 |k+1,hs=>by
  have ok:=wC hg hb hb2 k;obtain⟨s1,s2⟩:=(rP hg ok (zrb _)).1 hs;obtain⟨a1,a2,a3⟩:=Fj hg hb hb2 k s1;rw[Jk a1,a3,<-AL]at s2;have hx:((((bY g b k).ands g g.ands.length).row.map (hol vs)).drop 1).take g.ins.toNat=(CS (bY g b k).n g.ins.toNat).map (hol vs):=by
   rw[s2];have:=Jl (g:=g) (st:=pW g ((vk b).2.map (hol vs)) (Uo g vs (bY g b k).rows)) (x:=(CS (bY g b k).n g.ins.toNat).map (hol vs)) (zrb _)
   rwa [show((CS (bY g b k).n g.ins.toNat).map (hol vs)).length=g.ins.toNat by simp[CS]]at this
  have hrw:(bY g b (k+1)).rows=(bY g b k).rows++[((bY g b k).ands g g.ands.length).row]:=rfl;have hsq:Uo g vs (bY g b (k+1)).rows=Uo g vs (bY g b k).rows++[(CS (bY g b k).n g.ins.toNat).map (hol vs)]:=by rw[hrw];unfold Uo;rw[zql,List.map_singleton,hx]
  refine⟨a1,?_,?_⟩
  ·rw[hsq,yY,hrw,zql,a2,List.map_singleton,s2];rfl
  ·rw[hsq,pX];obtain⟨_,i0,i1,i2,i3,i4,i5⟩:=aW hg;obtain⟨r1,r2,r3,r4⟩:=aN i4;have uok:=je hg ok (zrb g.ands.length);have hl:=gK (u:=bY g b k) (g:=g) (zrb g.ands.length);have wf:g.first=1+g.ins+g.next.length:=rfl
   have wa:g.all=2*(g.first+g.ands.length):=rfl;have hll:=ok.l;show(g.next.map (wB ((bY g b k).ands g g.ands.length).row)).map (hol vs)=nx g _ _;rw[List.map_map];refine zsd fun a ha=> ?_;have:=r3 a ha;show hol vs (wB _ a)=_;rw[ug uok.r this.1 (by omega),s2];rfl
theorem Vz{x:List Bool}:(CS vs.length x.length).map (hol (vs++x))=x:=by refine List.ext_getElem (by simp[CS]) fun i h1 h2=> ?_;simp only[CS,List.map_map,List.getElem_map,List.getElem_range,Function.comp];unfold hol;rw[if_neg (by omega),show((vs.length:Int)+(i:Int)+1-1).toNat=vs.length+i by omega,zqg,zsb (by omega),show vs.length+i-vs.length=i by omega,zqk h2];rfl
theorem wE{g:Gr}(hg:g.chk=0){b:Cl}(hb:b.length=g.next.length)(hb2:∀x∈b,0<=x/\x<=2){st:List Bool}(hst:stM b st){seq:List (List Bool)}(hq:∀x∈seq,x.length=g.ins.toNat):∀k,k<=seq.length ->
 ∃vs,vs.length=(bY g b k).n/\hol vs 1=true/\sat (bY g b k).cl vs=true/\(vk b).2.map (hol vs)=st/\(bY g b k).rows.map (fun r=>r.map (hol vs))=SQ g st (seq.take k)/\(bY g b k).lat.map (hol vs)=pW g st (seq.take k)
 |0,_=>by
  obtain⟨w,w1,w2⟩:=CV b (1,[]) [true] [] hb2 rfl (zrb _) rfl (fun a ha=>by cases ha) rfl st hst;refine⟨[true]++w,w1,?_,?_,w2,rfl,w2⟩
  ·rw[vw ⟨by decide,by decide,by decide⟩];rfl
  ·show sat [[1]] _=true;simp[sat,hol]
 |k+1,hk=>by
  obtain⟨vs,v1,v2,v3,v4,v5,v6⟩:=wE hg hb hb2 hst hq k (by omega);have ok:=wC hg hb hb2 k;obtain⟨x,hx⟩:∃x,x=seq[k]:=⟨_,rfl⟩;have hxl:x.length=g.ins.toNat:=by rw[hx];exact hq _ (zqu _)
  have htk:seq.take (k+1)=seq.take k++[x]:=by rw[zrg,zqk (by omega),hx];rfl
  obtain⟨s,hs⟩:∃s,s=pW g st (seq.take k):=⟨_,rfl⟩;rw[<-hs]at v6;have key:∀i,i<=g.ands.length->∃w,(vs++w).length=((bY g b k).ands g i).n/\((bY g b k).ands g i).row.map (hol (vs++w))=iC g s x i:=by
   intro i
   induction i with
   |zero =>
    intro _;refine⟨x,by show _=(bY g b k).n+g.ins.toNat;rw[zqa,v1,hxl],?_⟩;have ho:hol (vs++x) 1=true:=by rw[vw ⟨by decide,by omega,by have:=ok.one;omega⟩];exact v2
    rw[Jk ho,yU (row:=(bY g b k).lat) (by rw[v1];exact ok.lo),v6,<-v1,<-hxl,Vz];rfl
   |succ i ih =>
    intro hi;obtain⟨w,w1,w2⟩:=ih (by omega);have uok:=je hg ok (i:=i) (by omega);obtain⟨c,hc⟩:∃c,c=(lv (iC g s x i) g.ands[i].1&&lv (iC g s x i) g.ands[i].2):=⟨_,rfl⟩;refine⟨w++[c],?_,?_⟩
    ·rw[eP (by omega),<-zqc,zqa,w1];rfl
    ·rw[eP (by omega),<-zqc];show(((bY g b k).ands g i).row++[_]).map _=_;rw[zql,yU (by rw[w1];exact uok.r),w2,nN (by omega),<-hc,List.map_singleton];have:=Un (vs:=vs++w) (w:=[]) (b:=c);rw[w1]at this;rw[this]
  obtain⟨w,w1,w2⟩:=key g.ands.length (zrb _);have ho:hol (vs++w) 1=true:=by rw[vw ⟨by decide,by omega,by have:=ok.one;omega⟩];exact v2
  have hb0:Ac vs.length (vk b).2:=by
   obtain⟨a1,a2,a3,a4⟩:=yX b (1,[]) hb2 (zrb _) (fun a ha=>by cases ha);have hm:∀j,(bY g b 0).n<=(bY g b j).n:=fun j=>by
    induction j with
    |zero=>exact zrb _
    |succ j ih=>have:=nO (u:=bY g b j) (g:=g) (zrb g.ands.length);show _<=((bY g b j).ands g g.ands.length).n;omega
   intro a ha;rw[v1];exact(a3 a ha).mono (hm k)
  have hrow:((bY g b k).ands g 0).row.map (hol (vs++w))=[false]++x++s:=by
   have hfold:=w2;have e1:=gK (u:=bY g b k) (g:=g) (Nat.zero_le g.ands.length);have hpre:∀i,i<=g.ands.length->∃r,((bY g b k).ands g i).row=((bY g b k).ands g 0).row++r:=by
    intro i
    induction i with
    |zero=>intro _;exact⟨[],by simp⟩
    |succ i ih=>intro hi;obtain⟨r,hr⟩:=ih (by omega);refine⟨r++[(((bY g b k).ands g i).n:Int)+1],?_⟩;rw[eP (by omega)];show((bY g b k).ands g i).row++[_]=_;rw[hr,zqc]
   have hpv:∀i,i<=g.ands.length->∃r,iC g s x i=([false]++x++s)++r:=by
    intro i
    induction i with
    |zero=>intro _;exact⟨[],by simp[iC]⟩
    |succ i ih=>intro hi;obtain⟨r,hr⟩:=ih (by omega);exact⟨r++[_],by rw[nN (by omega)];(conv=>lhs;lhs;rw[hr]);rw[zqc]⟩
   obtain⟨r,hr⟩:=hpre _ (zrb _);obtain⟨r',hr'⟩:=hpv _ (zrb _);rw[hr,hr',zql]at hfold;refine List.append_inj_left hfold ?_;rw[zra,e1];have hsl:s.length=g.next.length:=by rw[<-v6,zra];exact ok.l
   have:=ok.l;simp only[zqa,zrk];omega
  have hsat:sat (bY g b (k+1)).cl (vs++w)=true:=by
   refine(rP hg ok (zrb _)).2 ⟨?_,?_⟩
   ·rw[Vw (by rw[v1];exact ok.c)];exact v3
   ·rw[w2,hrow,AL]
  refine⟨vs++w,w1,ho,hsat,by rw[yU hb0];exact v4,?_,?_⟩
  ·rw[htk,yY,<-hs];show((bY g b k).rows++[_]).map _=_;rw[zql,List.map_singleton,w2]
   congr 1
   rw[<-v5];refine zsd fun r hr=>yU (by rw[v1];exact(ok.r r hr).1)
  ·rw[htk,pX,<-hs];obtain⟨_,i0,i1,i2,i3,i4,i5⟩:=aW hg;obtain⟨r1,r2,r3,r4⟩:=aN i4;have uok:=je hg ok (zrb g.ands.length);have hl:=gK (u:=bY g b k) (g:=g) (zrb g.ands.length);have wf:g.first=1+g.ins+g.next.length:=rfl
   have wa:g.all=2*(g.first+g.ands.length):=rfl;have hll:=ok.l;show(g.next.map (wB ((bY g b k).ands g g.ands.length).row)).map (hol (vs++w))=nx g _ _;rw[List.map_map];refine zsd fun a ha=> ?_;have:=r3 a ha;show hol (vs++w) (wB _ a)=_;rw[ug uok.r this.1 (by omega),w2];rfl
abbrev bU(g:Gr)(n:Nat)(cv lv rv:V):O:= .cells [vi n,cv,lv,vi g.ins,ay g.next,ay g.init,prs g.ands,ay g.outs,rv]
abbrev xC(c:Cl):V:= .is true 1 (c.map vi)
variable{b:Nat}{cv lv rv:V}{h:H}{R:AEnd->H->(Nat->Bool)->Prop}
theorem oM(hh:h[b]? =some (bU g n cv lv rv))(hn:n<=1000000)
 (hr:R (.ret (vi ((n:Int)+1))) (h.set b (bU g (n+1) cv lv rv)) (fun _=>false)):ag TE 61 [.lp b 0] h R:=by
 have hM:=mLx;have w1:=aA (show n<maxLen by omega);have hl:=(zqe hh).1;have hs:∀o:O,(h.set b o)[b]? =some o:=fun o=>zqt hl;refine ah Tryz.func61 rfl (by simp[nts]) (vm ?_);simp only[wq.1,seval,Tryz.results61,hh,hs,w1];exact hr
theorem Jm(h:a%2=1):wB row a=-(row.getD (a/2).toNat 0):=if_pos h
theorem Fp(h:a%2=0):wB row a=row.getD (a/2).toNat 0:=if_neg (by omega)
variable{r cap:Nat}
theorem vz(hh:h[b]? =some (bU g n cv lv (.ls r 1 0 row.length cap)))(hr0:h[r]? =some (.cells (row.map vi)))
 (hb:∀x∈row,-1000000<=x/\x<=1000000) (a0:0<=a) (a1:a/2<row.length) (a2:a<=1000000)
 (hr:R (.ret (vi (wB row a))) h (fun _=>false)):ag TE 70 [.lp b 0,vi a] h R:=by
 have hM:=mLx;obtain⟨k,hk⟩:∃k:Nat,a/2=k:=⟨(a/2).toNat,by omega⟩;have hkl:k<row.length:=by omega
 have hg:(row.map vi).getD k .any=vi row[k]:=wU hkl _;have hx:=hb _ (zqu hkl);have q1:=Vs a;have q2:=We a0 (show a<=1000000000 by omega);have hgd:row.getD (a/2).toNat 0=row[k]:=by rw[hk,zsg,aS hkl]
 have wn:IntKind.i64.wrap (0-row[k])=-row[k]:=by rw[fE (by omega) (by omega)];omega
 have wn':IntKind.i64.wrap (-row[k])=-row[k]:=fE (by omega) (by omega);refine ah Tryz.func70 rfl (by simp[nts]) (vm ?_);rcases Int.emod_two_eq a with hm|hm
 ·rw[Fp hm,hgd]at hr;simp only[wq.1,seval,Tryz.results70,q1,q2,hm,hk,hh,hr0,hg,Nat.mul_one];exact⟨⟨by omega,by omega⟩,by omega,hr⟩
 ·rw[Jm hm,hgd]at hr;simp only[wq.1,seval,-Int.reduceNatCast,-Int.reduceNatCast',Tryz.results70,q1,q2,hm,hk,hh,hr0,hg,wn,Nat.mul_one];exact⟨⟨by omega,by omega⟩,by omega,hr⟩
theorem uh{p:Nat->Bool}:∀l:List Cl,V.drops p (l.map xC)=l.map xC
 |[]=>rfl
 |c::l=>by show V.drop p (xC c)::V.drops p (l.map xC)=_;rw[uh l];rfl
theorem wZ{D:Nat->Bool}{x:O}(hd:∀i o,h[i]? =some o->i≠b->o.drop D=o):(h.map (O.drop D)).set b x=h.set b x:=by
 refine List.ext_getElem? fun i=> ?_;by_cases hi:b=i
 ·subst hi;by_cases hl:b<h.length
  ·rw[zqt (by simpa using hl),zqt hl]
  ·rw[zsj (by simp;omega),zsj (by simp;omega)]
 ·rw[zqn hi,zqn hi,zqo];cases ho:h[i]? with
  |none=>rfl
  |some o=>simp[hd i o ho (Ne.symm hi)]
variable{C:Nat}
theorem qE{c:Cl}(hbC:b≠C)(hh:h[b]? =some (bU g n (.ls C 1 0 cl.length cl.length) lv rv))(hc:h[C]? =some (.cells (cl.map xC)))
 (hd:∀j o,h[j]? =some o->j≠b->o.drop (·==C)=o) (hlv:lv.drop (·==C)=lv) (hrv:rv.drop (·==C)=rv) (hcl:cl.length<=1000000)
 (hr:R (.ret (.tup [])) ((h.set C (.cells ((cl++[c]).map xC))).set b (bU g n (.ls C 1 0 (cl++[c]).length (cl++[c]).length) lv rv)) (·==C)):ag TE 60 [.lp b 0,xC c] h R:=by
 have hM:=mLx;refine ah Tryz.func60 rfl (by simp[nts]) (vm ?_);have hbc:(b==C)=false:=by simpa using hbC
 have hl:=(zqe hh).1;have hlC:=(zqe hc).1;have dX:V.drops (fun j=>j==C) (cl.map xC)=cl.map xC:=uh _;simp only[wq.1,↓reduceIte,Nat.reduceEqDiff,Nat.reduceLT,Nat.reduceLeDiff,Nat.reduceAdd,reduceCtorEq,Nat.reduceMul,Tryz.results60,hh,hc,hbc,dX];have hbo:((List.map (O.drop fun x=>x==C) h).set C (O.cells (List.map xC cl++[xC c])))[b]? =some (.cells [vi n,.any,lv,vi g.ins,ay g.next,ay g.init,prs g.ands,ay g.outs,rv]):=by rw[zqn (Ne.symm hbC),zqo,hh];simp only[zrw,O.drop,V.drops,V.drop,hlv,hrv,beq_self_eq_true,if_true]
 refine⟨⟨rfl,by decide⟩,⟨by omega,by omega,by omega⟩,?_⟩;rw[hbo];refine⟨by simp,?_⟩;rw[List.set_comm _ _ (Ne.symm hbC),wZ hd,List.set_comm _ _ hbC];rw[zql,zqa,zrk]at hr;exact hr
def vC(g:Gr)(lat:Cl):Cl:=-1::(List.replicate g.ins.toNat 0++lat)
theorem wF{q:Nat}{lat:Cl}(hh:h[b]? =some (bU g n cv lv rv))(hq:h[q]? =some (.cells (lat.map vi)))
 (hd:∀(j:Nat)(o:O),h[j]? =some o->o.drop (·==h.length)=o) (i0:0<=g.ins) (i1:g.ins<=4000) (hl:lat.length<=4000) (hqb:q≠b)
 (hr:R (.ret (.tup [])) (h.set b (bU g n cv lv (.ls h.length 1 0 (vC g lat).length (vC g lat).length))++[.cells ((vC g lat).map vi)]) (·==h.length)):ag TE 62 [.lp b 0,.ls q 1 0 lat.length cap] h R:=by
 have hM:=mLx;have hbl:=(zqe hh).1;have hql:=(zqe hq).1;have hti:ti TE.P 22=some ⟨.slice 3,1,24,.nils⟩:=by simp only[wq.1]
 have htn:ti TE.P 3=some ⟨.int .i64,1,8,.int .i64 0⟩:=by simp only[wq.1]
 have hx0:(h++[O.cells [vi (-1)]])[b]? =some (bU g n cv lv rv):=by rw[zqj hbl];exact hh
 have hx1:(h++[O.cells [vi (-1)]])[h.length]? =some (.cells [vi (-1)]):=by rw[zsb (zrb _)];simp
 obtain⟨m,hm⟩:∃m:Nat,g.ins=m:=⟨g.ins.toNat,by omega⟩;refine ag.kp (·==h.length) ?_;refine ah Tryz.func62 rfl (by simp[nts]) ?_;refine ak (kH ?_);refine aK rfl rfl ?_;simp only[wq.1,Int.reduceNeg,Tryz.results62];refine iq rfl rfl ?_;refine uN rfl hti rfl htn rfl trivial rfl ?_;refine aK rfl rfl ?_;simp only[wq.1,seval];refine aK rfl rfl ?_;simp only[wq.1,seval];refine aK rfl rfl ?_;simp only[wq.1,seval];refine aK rfl rfl ?_;simp only[wq.1,seval];refine aK rfl rfl ?_;simp only[wq.1,seval,hx0];refine iq rfl rfl ?_;refine oW (x:= .tmp 5) (y:= .tmp 10) (t:=22) (xt:=3) (el:=3) ⟨⟨_,rfl,rfl,rfl⟩,hti,rfl,htn,rfl,rfl,Nat.zero_lt_one⟩ (by simp only[wq.1,seval]) (by simp only[wq.1,↓reduceIte]) (id:=h.length) (len:=1) (cap:=1) (by simp only[wq.1,seval]) hx1 rfl (m:=m) (by simp only[wq.1,↓reduceIte,hm]) htn rfl (by omega) rfl (zv:=vi 0) rfl (cs:=List.replicate m (vi 0)) rfl (by rw[<-List.map_replicate (f:=vi)];exact pM _) (by omega) (by show(1+m)*8<=_;omega) (by simp only[wq.1]) ?_;have hmap:h.map (O.drop fun x=>x==h.length)=h:=by
  refine List.ext_getElem? fun j=> ?_;rw[zqo];cases ho:h[j]? with
  |none=>rfl
  |some o=>rw[zrw,hd j o ho]
 have hcs:V.drops (fun x=>x==h.length) ([vi (-1)]++List.replicate m (vi 0))=(-1::List.replicate m 0).map vi:=by rw[show [vi (-1)]++List.replicate m (vi 0)=(-1::List.replicate m (0:Int)).map vi by simp];exact aI _
 have hH:(List.map (O.drop fun x=>x==h.length) (h++[O.cells [V.int IntKind.i64 (-1)]])).set h.length (O.cells (V.drops (fun x=>x==h.length) ([vi (-1)]++List.replicate m (vi 0))))=h++[.cells (vi (-1)::(List.replicate m 0).map vi)]:=by rw[hcs,zql,hmap,List.set_append_right _ _ (zrb _)];simp
 rw[hH];have nb:(b==h.length)=false:=by simpa using Nat.ne_of_lt hbl
 have nq:(q==h.length)=false:=by simpa using Nat.ne_of_lt hql
 have hx2:(h++[O.cells (vi (-1)::(List.replicate m 0).map vi)])[b]? =some (bU g n cv lv rv):=by rw[zqj hbl];exact hh
 refine aK rfl rfl ?_;simp only[wq.1,seval,nb];refine aK rfl rfl ?_;simp only[wq.1,seval];refine aK rfl rfl ?_;simp only[wq.1,seval,hx2];refine jR ?_;simp only[wq.1,Int.reduceNeg];have hx3:((h++[O.cells (vi (-1)::(List.replicate m 0).map vi)]).set b (bU g n cv lv (.ls h.length 1 0 (1+m) (1+m))))[b]? =some (bU g n cv lv (.ls h.length 1 0 (1+m) (1+m))):=zqt (by simp;omega);have hx4:((h++[O.cells (vi (-1)::(List.replicate m 0).map vi)]).set b (bU g n cv lv (.ls h.length 1 0 (1+m) (1+m))))[q]? =some (.cells (lat.map vi)):=by
  rw[zqn (Ne.symm hqb),zqj hql];exact hq
 have hx5:((h++[O.cells (vi (-1)::(List.replicate m 0).map vi)]).set b (bU g n cv lv (.ls h.length 1 0 (1+m) (1+m))))[h.length]? =some (.cells (vi (-1)::(List.replicate m 0).map vi)):=by rw[zqn (Nat.ne_of_lt hbl),zsb (zrb _)];simp
 refine vm ?_;simp only[wq.1,seval,nb,nq,hx3,hx4,hx5];have e1:(if lat.length*1<=lat.length then some (lat.length,List.take (lat.length*1) (List.map vi lat))else none)=some (lat.length,lat.map vi):=by
  rw[Nat.mul_one,if_pos (zrb _),zqh (by simp)]
 rw[e1];have dL:∀l:Cl,V.drops (fun x=>x==h.length) (l.map vi)=l.map vi:=fun l=>aI l;obtain⟨B1,hB1⟩:∃B1:O,B1=O.cells [vi n,cv,lv,vi g.ins,ay g.next,ay g.init,prs g.ands,ay g.outs,V.ls h.length 1 0 (1+m) (1+m)]:=⟨_,rfl⟩;have hmm:∀X2:O,((List.map (O.drop fun x=>x==h.length) ((h++[O.cells (vi (-1)::List.map vi (List.replicate m 0))]).set b B1)).set h.length X2)=h.set b (B1.drop fun x=>x==h.length)++[X2]:=fun X2=>by
  rw[List.map_set,zql,hmap,List.set_append_left _ _ hbl,List.set_append_right _ _ (by simp)];simp
 have hbb:∀X2:O,(h.set b (B1.drop fun x=>x==h.length)++[X2])[b]? =some (B1.drop fun x=>x==h.length):=fun X2=>by rw[zqj (by simpa using hbl),zqt hbl]
 have hdB:(B1.drop fun x=>x==h.length)=O.cells [vi n,cv.drop fun x=>x==h.length,lv.drop fun x=>x==h.length,vi g.ins,ay g.next,ay g.init,prs g.ands,ay g.outs,.any]:=by rw[hB1];simp only[O.drop,V.drops,V.drop,beq_self_eq_true,if_true]
 have hob:=hd b _ hh;have hcl:cv.drop (fun x=>x==h.length)=cv/\lv.drop (fun x=>x==h.length)=lv:=by have:=hob;simp only[bU,O.drop,V.drops,V.drop,O.cells.injEq,List.cons.injEq]at this;exact⟨this.2.1,this.2.2.1⟩
 refine⟨⟨by simp;omega,pM _,by omega,by omega⟩,?_⟩;rw[<-hB1,hmm,hbb,hdB,hcl.1,hcl.2];refine⟨by simp,?_⟩;refine⟨fun j hj=> ?_,?_⟩
 ·simpa using hj
 rw[List.set_append_left _ _ (by simpa using hbl),List.set_set,dL,dL];have hlen:(vC g lat).length=1+m+lat.length:=by unfold vC;rw[hm];simp;omega
 rw[hlen]at hr;have dN:vi (-1)::(List.map vi (List.replicate m 0)++List.map vi lat)=(vC g lat).map vi:=by unfold vC;rw[hm];simp
 rw[dN];exact hr
structure BH(g:Gr)(k0:Nat)(h0:H)(b C L n:Nat)(cl:List Cl)(rs:List (Nat×Cl))(r:Nat)(row:Cl)(h:H):Prop where
 hb:h[b]? =some (bU g n (.ls C 1 0 cl.length cl.length) (.ls L 1 0 rs.length rs.length) (.ls r 1 0 row.length row.length))
 hC:h[C]? =some (.cells (cl.map xC))
 hL:h[L]? =some (.cells (rs.map fun p=> .ls p.1 1 0 p.2.length p.2.length))
 hr:h[r]? =some (.cells (row.map vi))
 hrs:∀p∈rs,h[p.1]? =some (.cells (p.2.map vi))/\k0<=p.1/\p.1≠r
 n1:b≠C
 n2:b≠L
 n3:C≠L
 bk:b<k0
 Ck:C<k0
 Lk:L<k0
 rk:k0<=r
 pl:∀(j:Nat)(o:O),h[j]? =some o->j≠b->j≠L->∀D,o.drop D=o
 bs:∀j,j<k0->j≠b->j≠C->j≠L->h[j]? =h0[j]?
def HU(g:Gr)(b C r:Nat)(lv:V)(h:H)(n:Nat)(cl:List Cl)(row:Cl):H :=
 ((h.set b (bU g n (.ls C 1 0 cl.length cl.length) lv (.ls r 1 0 row.length row.length))).set C (.cells (cl.map xC))).set r (.cells (row.map vi))
section
variable{g:Gr}{b C r:Nat}{lv:V}{h:H}{n:Nat}{cl:List Cl}{row:Cl}{X:H}
theorem kD:(HU g b C r lv h n cl row).length=h.length:=by simp[HU]
theorem X3(h1:b≠C)(h2:b≠r)(hl:b<h.length):(HU g b C r lv h n cl row++X)[b]? =some (bU g n (.ls C 1 0 cl.length cl.length) lv (.ls r 1 0 row.length row.length)):=by rw[zqj (by rw[kD];exact hl),HU,zqn (Ne.symm h2),zqn (Ne.symm h1),zqt hl]
theorem Yg(h2:C≠r)(hl:C<h.length):(HU g b C r lv h n cl row++X)[C]? =some (.cells (cl.map xC)):=by rw[zqj (by rw[kD];exact hl),HU,zqn (Ne.symm h2),zqt (by simpa using hl)]
theorem Yh(hl:r<h.length):(HU g b C r lv h n cl row++X)[r]? =some (.cells (row.map vi)):=by rw[zqj (by rw[kD];exact hl),HU,zqt (by simpa using hl)]
theorem X4{j:Nat}(h1:j≠b)(h2:j≠C)(h3:j≠r)(hl:j<h.length):(HU g b C r lv h n cl row++X)[j]? =h[j]? :=by rw[zqj (by rw[kD];exact hl),HU,zqn (Ne.symm h3),zqn (Ne.symm h2),zqn (Ne.symm h1)]
theorem Yi{j:Nat}(hl:h.length<=j):(HU g b C r lv h n cl row++X)[j]? =X[j-h.length]? :=by rw[zsb (by rw[kD];exact hl),kD]
theorem O9{n':Nat}(h1:b≠C)(h2:b≠r)(hl:b<h.length):(HU g b C r lv h n cl row++X).set b (bU g n' (.ls C 1 0 cl.length cl.length) lv (.ls r 1 0 row.length row.length))=HU g b C r lv h n' cl row++X:=by rw[List.set_append_left _ _ (by rw[kD];exact hl),HU,HU,List.set_comm _ _ (Ne.symm h2),List.set_comm _ _ (Ne.symm h1),List.set_set]
theorem Pg{cl':List Cl}(h1:b≠C)(h2:b≠r)(h3:C≠r)(hl:b<h.length)(hlC:C<h.length) :
 ((HU g b C r lv h n cl row++X).set C (.cells (cl'.map xC))).set b (bU g n (.ls C 1 0 cl'.length cl'.length) lv (.ls r 1 0 row.length row.length))=HU g b C r lv h n cl' row++X:=by
 rw[List.set_append_left _ _ (by rw[kD];exact hlC),List.set_append_left _ _ (by rw[zrn,kD];exact hl),HU,HU,List.set_comm _ _ (Ne.symm h3),List.set_set,
  List.set_comm _ _ (Ne.symm h2),List.set_comm _ _ (Ne.symm h1),List.set_set]
theorem Xt{row':Cl}(h1:b≠C)(h2:b≠r)(hl:b<h.length)(hlr:r<h.length) :
 ((HU g b C r lv h n cl row++X).set r (.cells (row'.map vi))).set b (bU g n (.ls C 1 0 cl.length cl.length) lv (.ls r 1 0 row'.length row'.length))=HU g b C r lv h n cl row'++X:=by
 rw[List.set_append_left _ _ (by rw[kD];exact hlr),List.set_append_left _ _ (by rw[zrn,kD];exact hl),HU,HU,List.set_set,
  List.set_comm _ _ (Ne.symm h2),List.set_comm _ _ (Ne.symm h1),List.set_set]
end
variable{k0 L:Nat}{h0:H}{rs:List (Nat×Cl)}
theorem BH.lens(k:BH g k0 h0 b C L n cl rs r row h):b<h.length/\C<h.length/\L<h.length/\r<h.length/\b≠r/\C≠r/\L≠r :=
 ⟨(zqe k.hb).1,(zqe k.hC).1,(zqe k.hL).1,(zqe k.hr).1,by have:=k.bk;have:=k.rk;omega,by have:=k.Ck;have:=k.rk;omega,by have:=k.Lk;have:=k.rk;omega⟩
theorem BH.hs(k:BH g k0 h0 b C L n cl rs r row h):h=HU g b C r (.ls L 1 0 rs.length rs.length) h n cl row++[]:=by
 have e:∀ {j:Nat} {o:O},h[j]? =some o->h.set j o=h:=fun hj=>by obtain⟨hl,rfl⟩:=zqe hj;exact List.set_getElem_self hl
 rw[zqp,HU,e k.hb,e k.hC,e k.hr]
theorem vF{D:Nat->Bool}:∀ {rs:List (Nat×Cl)},(∀p∈rs,D p.1=false)->V.drops D (rs.map fun p=>V.ls p.1 1 0 p.2.length p.2.length)=rs.map fun p=>V.ls p.1 1 0 p.2.length p.2.length
 |[],_=>rfl
 |p::rs,h=>by rw[zrd,V.drops,vF (rs:=rs) fun q hq=>h q (by simp[hq])];have:=h p (by simp);simp only[V.drop,this,zrm,if_false]
theorem BH.dropO(k:BH g k0 h0 b C L n cl rs r row h){D:Nat->Bool}(hD:∀p∈rs,D p.1=false) :
 ∀(j:Nat)(o:O),h[j]? =some o->j≠b->o.drop D=o:=fun j o ho hj=>by
 by_cases hL:j=L
 ·subst hL;rw[k.hL]at ho;cases ho;show O.cells (V.drops D _)=_;rw[vF hD]
 ·exact k.pl j o ho hj hL D
end Go.Proofs.YthdidjjecjhenaaGreat
