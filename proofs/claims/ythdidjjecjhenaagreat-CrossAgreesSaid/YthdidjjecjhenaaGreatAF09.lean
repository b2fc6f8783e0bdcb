/- Lemmas for this claim, part F09: each holds under what it names. -/
import Derived.Test.YthdidjjecjhenaaGreatAF08
import Derived.Test.YthdidjjecjhenaaGreatAA9
set_option linter.all false
set_option maxRecDepth 20000
namespace Go.Proofs.YthdidjjecjhenaaGreat
open Go Go.Proofs Go.Abs
open List renaming length → aa, replicate → aD
open Bool renaming true → ab, false → am
open Option renaming some → ar, none → aL
open Decidable renaming decide → aM
open Go.IntKind renaming wrap → a5
open Go.Result renaming andThen → a8
open Go.Abs.O renaming cells → aw
open Go.Abs.V renaming drops → aE, dat → a6, dats → a7
def wV(row:Cl)(a:Int):Int:=if a%2=1 then -(row.getD (a/2).toNat 0)else row.getD (a/2).toNat 0
structure UA where
 n:Nat
 cl:List Cl
 row:Cl
def WU(s:UA)(p:Pq):UA :=
 ⟨s.n+1,s.cl++[[-((s.n:Int)+1),wV s.row p.1],[-((s.n:Int)+1),wV s.row p.2],[(s.n:Int)+1,-wV s.row p.1,-wV s.row p.2]],s.row++[(s.n:Int)+1]⟩
def Dy(n k:Nat):Cl:=(List.range k).map λi:Nat=>(n:Int)+(i:Int)+1
def Yx(g:Gr)(n:Nat)(lat:Cl):Cl:=-1::(Dy n g.ins.toNat++lat)
structure US where
 n:Nat
 cl:List Cl
 rows:List Cl
 lat:Cl
def US.ands(g:Gr)(u:US)(i:Nat):UA:=(g.ands.take i).foldl WU ⟨u.n+g.ins.toNat,u.cl,Yx g u.n u.lat⟩
def US.step(g:Gr)(u:US):US:=⟨(u.ands g (aa g.ands)).n,(u.ands g (aa g.ands)).cl,u.rows++[(u.ands g (aa g.ands)).row],g.next.map (wV (u.ands g (aa g.ands)).row)⟩
def ru(s:Nat×Cl)(b:Int):Nat×Cl:=if b=2 then(s.1+1,s.2++[(s.1:Int)+1])else(s.1,s.2++[2*b-1])
def vT(l:Cl):Nat×Cl:=l.foldl ru (1,[])
def cO(g:Gr)(b:Cl):Nat->US
 |0=>⟨(vT b).1,[[1]],[],(vT b).2⟩
 |k+1=>(cO g b k).step g
variable{g:Gr}
theorem fF{u:US}{i:Nat}(h:i<aa g.ands):u.ands g (i+1)=WU (u.ands g i) g.ands[i]:=by unfold US.ands;rw[zrg,zqk h,List.foldl_append];rfl
theorem nU{g:Gr}{u:US}:∀ {i:Nat},i<=aa g.ands->(u.ands g i).n=u.n+g.ins.toNat+i
 |0,_=>rfl
 |i+1,h=>by rw[fF (by omega)];show(u.ands g i).n+1=_;rw[nU (by omega)];omega
theorem iw{g:Gr}{u:US}:∀ {i:Nat},i<=aa g.ands->(u.ands g i).row.length=1+g.ins.toNat+aa u.lat+i
 |0,_=>by simp[US.ands,Yx,Dy];omega
 |i+1,h=>by rw[fF (by omega)];show aa ((u.ands g i).row++[_])=_;rw[zqa,iw (by omega),zrk];omega
def inU(n:Nat)(a:Int):Prop:=a≠0/\-(n:Int)<=a/\a<=n
variable{n:Nat}{a:Int}
theorem inU.mono{k:Nat}(h:inU n a)(hk:n<=k):inU k a:=⟨h.1,by have:=h.2;omega,by have:=h.2;omega⟩
theorem inU.neg(h:inU n a):inU n (-a):=⟨by have:=h.1;omega,by have:=h.2;omega,by have:=h.2;omega⟩
variable{vs w:List Bool}
theorem vU(h:inU (aa vs) a):hol (vs++w) a=hol vs a:=by
 obtain⟨h0,h1,h2⟩:=h;unfold hol;split
 ·rw[zqg,zqj (by omega),<-zqg]
 ·rw[zqg,zqj (by omega),<-zqg]
theorem UV{b:Bool}:hol (vs++b::w) ((aa vs:Int)+1)=b:=by unfold hol;rw[if_neg (by omega),show((aa vs:Int)+1-1).toNat=aa vs by omega];simp
def AY(n:Nat)(row:Cl):Prop:=∀a∈row,inU n a
def VY(n:Nat)(l:List Cl):Prop:=∀c∈l,∀a∈c,inU n a
theorem VZ{l:List Cl}(h:VY (aa vs) l):sat l (vs++w)=sat l vs:=by unfold sat;rw[Bool.eq_iff_iff,zrs,zrs];refine forall_congr' λc=>forall_congr' λhc=> ?_;rw[List.any_eq_true,List.any_eq_true];refine exists_congr λa=>and_congr_right λha=> ?_;rw[vU (h c hc a ha)]
variable{row:Cl}
theorem zC(h:AY (aa vs) row):row.map (hol (vs++w))=row.map (hol vs) :=
 zsd λa ha=>vU (h a ha)
theorem Dz{k:Nat}(h:k<aa row):row.getD k 0∈row:=by rw[aP h];exact zqu h
theorem ql(h:AY n row){a:Int}(h0:0<=a)(ha:a/2<aa row):inU n (wV row a):=by
 have:=h _ (Dz (k:=(a/2).toNat) (by omega));unfold wV;split
 ·exact this.neg
 ·exact this
theorem uB(h:AY n row){a:Int}(h0:0<=a)(ha:a/2<aa row):hol vs (wV row a)=lv (row.map (hol vs)) a:=by
 have hk:(a/2).toNat<aa row:=by omega
 have:=h _ (Dz hk);have e:(row.map (hol vs)).getD (a/2).toNat am=hol vs (row.getD (a/2).toNat 0):=by rw[zqg,zqo,zqk hk,aP hk];rfl
 unfold wV lv;rw[e];rcases Int.emod_two_eq a with hm|hm
 ·rw[if_neg (by omega),hm];simp
 ·rw[if_pos hm,jQ this.1,hm];simp
variable{cl:List Cl}
theorem V3{v x y:Int}(hv:v≠0)(hx:x≠0)(hy:y≠0) :
 sat (cl++[[-v,x],[-v,y],[v,-x,-y]]) vs=ab↔sat cl vs=ab/\hol vs v=(hol vs x&&hol vs y):=by
 unfold sat;rw[List.all_append,zqf];refine and_congr_right λ_=> ?_;simp only[List.all_cons,List.all_nil,List.any_cons,List.any_nil,jQ hv,jQ hx,jQ hy];cases hol vs v<;>cases hol vs x<;>cases hol vs y<;>decide
def zD(v:List Bool)(p:Pq):List Bool:=v++[lv v p.1&&lv v p.2]
theorem BC{st ins:List Bool}{i:Nat}:dw g st ins i=(g.ands.take i).foldl zD ([am]++ins++st):=rfl
structure UAok(s:UA):Prop where
 r:AY s.n s.row
 c:VY s.n s.cl
theorem V4{s:UA}(h:UAok s){p:Pq}(h1:0<=p.1)(h2:0<=p.2)(h3:p.1/2<aa s.row)(h4:p.2/2<aa s.row):UAok (WU s p):=by
 have hv:inU (s.n+1) ((s.n:Int)+1):=⟨by omega,by omega,by omega⟩;have a1:=(ql h.r h1 h3).mono (Nat.le_succ s.n);have a2:=(ql h.r h2 h4).mono (Nat.le_succ s.n);refine⟨λa ha=> ?_,λc hc a ha=> ?_⟩
 ·rcases zrf.1 ha with ha|ha
  ·exact(h.r a ha).mono (Nat.le_succ _)
  ·rw[zrc.1 ha];exact hv
 ·rcases zrf.1 hc with hc|hc
  ·exact(h.c c hc a ha).mono (Nat.le_succ _)
  ·simp only[zrj,zrp,or_false]at hc;rcases hc with rfl|rfl|rfl
   ·simp only[zrj,zrp,or_false]at ha;rcases ha with rfl|rfl
    ·exact hv.neg
    ·exact a1
   ·simp only[zrj,zrp,or_false]at ha;rcases ha with rfl|rfl
    ·exact hv.neg
    ·exact a2
   ·simp only[zrj,zrp,or_false]at ha;rcases ha with rfl|rfl|rfl
    ·exact hv
    ·exact a1.neg
    ·exact a2.neg
theorem TL{s:UA}(h:UAok s){p:Pq}(h1:0<=p.1)(h2:0<=p.2)(h3:p.1/2<aa s.row)(h4:p.2/2<aa s.row){vs:List Bool} :
 sat (WU s p).cl vs=ab↔sat s.cl vs=ab/\(WU s p).row.map (hol vs)=zD (s.row.map (hol vs)) p:=by
 show sat (s.cl++_) vs=ab↔_;rw[V3 (by omega) (ql h.r h1 h3).1 (ql h.r h2 h4).1,uB h.r h1 h3,uB h.r h2 h4];refine and_congr_right λ_=> ?_;show _↔(s.row++[(s.n:Int)+1]).map (hol vs)=s.row.map (hol vs)++[_];rw[zql];constructor
 ·intro e;rw[List.map_singleton,e]
 ·intro e;exact List.head_eq_of_cons_eq (List.append_cancel_left e)
def stM:Cl->List Bool->Prop
 |[],[]=>True
 |b::l,s::st=>(b=2\/s=aM (b=1))/\stM l st
 |_,_=>False
theorem DC:∀(l:Cl)(s:Nat×Cl)(vs:List Bool)(st0:List Bool),(∀b∈l,0<=b/\b<=2)->aa vs=s.1->1<=s.1->hol vs 1=ab->AY s.1 s.2->s.2.map (hol vs)=st0->∀st,stM l st ->
 ∃w,aa (vs++w)=(l.foldl ru s).1/\(l.foldl ru s).2.map (hol (vs++w))=st0++st
 |[],s,vs,st0,_,h1,_,_,_,h2,st,hm=>by
  cases st with
  |nil=>exact⟨[],by simpa using h1,by simpa using h2⟩
  |cons a t=>exact hm.elim
 |b::l,s,vs,st0,hl,h1,hp,ho,hr,h2,st,hm=>by
  cases st with
  |nil=>exact hm.elim
  |cons x t =>
   obtain⟨hx,hm⟩:=hm;have hb:=hl b (by simp);have hl':∀b∈l,0<=b/\b<=2:=λb h=>hl b (by simp[h]);rw[List.foldl_cons];by_cases h:b=2
   ·have e:ru s b=(s.1+1,s.2++[(s.1:Int)+1]):=by unfold ru;rw[if_pos h]
    rw[e];have hho:hol (vs++[x]) 1=ab:=by rw[vU ⟨by omega,by omega,by omega⟩];exact ho
    obtain ⟨w,w1,w2⟩ := DC l (s.1 + 1,s.2 ++ [(s.1 : Int) + 1]) (vs ++ [x]) (st0 ++ [x]) hl' (by simp [h1]) (by simp) hho
     (λa ha=>by
      rcases zrf.1 ha with ha|ha
      ·exact(hr a ha).mono (Nat.le_succ _)
      ·rw[zrc.1 ha];exact⟨by omega,by omega,by simp⟩)
     (by
      rw[zql,zC (by rw[h1];exact hr),h2,List.map_singleton];have:=UV (vs:=vs) (w:=[]) (b:=x);rw[h1]at this;rw[this]) t hm
    exact⟨x::w,by simpa using w1,by simpa using w2⟩
   ·have e:ru s b=(s.1,s.2++[2*b-1]):=by unfold ru;rw[if_neg h]
    rw[e];have hq:hol vs (2*b-1)=x:=by
     rw[hx.resolve_left h];have:b=0\/b=1:=by omega
     rcases this with rfl|rfl
     ·show hol vs (-1)=am;rw[jQ (by decide),ho];rfl
     ·exact ho
    obtain ⟨w,w1,w2⟩ := DC l (s.1,s.2 ++ [2 * b - 1]) vs (st0 ++ [x]) hl' h1 hp ho
     (λa ha=>by
      rcases zrf.1 ha with ha|ha
      ·exact hr a ha
      ·rw[zrc.1 ha];exact⟨by omega,by omega,by omega⟩)
     (by rw[zql,h2,List.map_singleton,hq]) t hm
    exact⟨w,w1,by simpa using w2⟩
theorem zF:∀(l:Cl)(s:Nat×Cl),(∀b∈l,0<=b/\b<=2)->1<=s.1->AY s.1 s.2->s.1<=(l.foldl ru s).1/\(l.foldl ru s).1<=s.1+aa l/\AY (l.foldl ru s).1 (l.foldl ru s).2/\(l.foldl ru s).2.length=aa s.2+aa l
 |[],s,_,_,hr=>⟨zrb _,zrb _,hr,rfl⟩
 |b::l,s,hl,hp,hr=>by
  have hb:=hl b (by simp);have hl':∀b∈l,0<=b/\b<=2:=λb h=>hl b (by simp[h]);rw[List.foldl_cons];by_cases h:b=2
  ·have e:ru s b=(s.1+1,s.2++[(s.1:Int)+1]):=by unfold ru;rw[if_pos h]
   rw[e];obtain⟨a1,a2,a3,a4⟩:=zF l (s.1+1,s.2++[(s.1:Int)+1]) hl' (by simp) (λa ha=>by
    rcases zrf.1 ha with ha|ha
    ·exact(hr a ha).mono (Nat.le_succ _)
    ·rw[zrc.1 ha];exact⟨by omega,by omega,by simp⟩)
   simp only[zqa,zrk]at a1 a2 a4;exact⟨by omega,by rw[zrt];omega,a3,by rw[zrt];omega⟩
  ·have e:ru s b=(s.1,s.2++[2*b-1]):=by unfold ru;rw[if_neg h]
   rw[e];obtain⟨a1,a2,a3,a4⟩:=zF l (s.1,s.2++[2*b-1]) hl' hp (λa ha=>by
    rcases zrf.1 ha with ha|ha
    ·exact hr a ha
    ·rw[zrc.1 ha];exact⟨by omega,by omega,by omega⟩)
   simp only[zqa,zrk]at a1 a2 a4;exact⟨a1,by rw[zrt];omega,a3,by rw[zrt];omega⟩
theorem DD:∀ {l:Cl} {st:List Bool} {b:Int} {s:Bool},stM l st->(b=2\/s=aM (b=1))->stM (l++[b]) (st++[s])
 |[],[],b,s,_,h=>⟨h,trivial⟩
 |a::l,x::st,b,s,h,h2=>⟨h.1,DD h.2 h2⟩
theorem FW{vs:List Bool}(ho:hol vs 1=ab):∀(l:Cl)(s:Nat×Cl)(l0:Cl),(∀b∈l,0<=b/\b<=2)->stM l0 (s.2.map (hol vs))->stM (l0++l) ((l.foldl ru s).2.map (hol vs))
 |[],s,l0,_,h=>by simpa using h
 |b::l,s,l0,hl,h=>by
  have hb:=hl b (by simp);have hl':∀b∈l,0<=b/\b<=2:=λb h=>hl b (by simp[h]);rw[List.foldl_cons];have:stM (l0++[b]) ((ru s b).2.map (hol vs)):=by
   unfold ru;split
   ·rename_i h2;rw[zql];exact DD h (.inl h2)
   ·rename_i h2;rw[zql];refine DD h (.inr ?_);have:b=0\/b=1:=by omega
    rcases this with rfl|rfl
    ·show hol vs (-1)=am;rw[jQ (by decide),ho];rfl
    ·exact ho
  have:=FW ho l (ru s b) (l0++[b]) hl' this;simpa using this
def nx(g:Gr)(st x:List Bool):List Bool:=g.next.map (lv (g.vals st x))
def TM(g:Gr):List Bool->List (List Bool)->List (List Bool)
 |_,[]=>[]
 |st,x::l=>g.vals st x::TM g (nx g st x) l
def qm(g:Gr):List Bool->List (List Bool)->List Bool
 |st,[]=>st
 |st,x::l=>qm g (nx g st x) l
theorem qo{g:Gr}:∀ {st:List Bool} {l:List (List Bool)} {x:List Bool},qm g st (l++[x])=nx g (qm g st l) x
 |_,[],_=>rfl
 |_,_::l,_=>qo (l:=l)
theorem zG{g:Gr}:∀ {st:List Bool} {l:List (List Bool)} {x:List Bool},TM g st (l++[x])=TM g st l++[g.vals (qm g st l) x]
 |_,[],_=>rfl
 |_,_::l,_=>by show _::TM g _ (l++_)=_;rw[zG (l:=l)];rfl
def TN(g:Gr):Nat:=1+g.ins.toNat+aa g.next+aa g.ands
structure USok(g:Gr)(u:US):Prop where
 l:aa u.lat=aa g.next
 lo:AY u.n u.lat
 c:VY u.n u.cl
 r:∀r∈u.rows,AY u.n r/\aa r=TN g
 one:1<=u.n
theorem jC{g:Gr}(hg:g.chk=0){u:US}(h:USok g u):∀ {i:Nat},i<=aa g.ands->UAok (u.ands g i)
 |0,_=>by
  refine⟨λa ha=> ?_,λc hc a ha=>(h.c c hc a ha).mono (Nat.le_add_right _ _)⟩;have ha:a∈-1::(Dy u.n g.ins.toNat++u.lat):=ha;show inU (u.n+g.ins.toNat) a;have h1:=h.one;rcases zrj.1 ha with rfl|ha
  ·exact⟨by omega,by omega,by omega⟩
  ·rcases zrf.1 ha with ha|ha
   ·obtain⟨i,hi,rfl⟩:=zrh.1 ha;have:=List.mem_range.1 hi;exact⟨by omega,by omega,by omega⟩
   ·exact(h.lo a ha).mono (Nat.le_add_right _ _)
 |i+1,hi=>by
  obtain⟨_,i0,i1,i2,i3,i4,i5⟩:=aU hg;have hl:=iw (u:=u) (g:=g) (i:=i) (by omega);obtain⟨o1,o2,o3,o4⟩:=iq i5 (show i<aa g.ands by omega);have wf:g.first=1+g.ins+aa g.next:=rfl
  have hll:=h.l;rw[fF (by omega)];exact V4 (jC hg h (by omega)) o1 o2 (by omega) (by omega)
theorem sG{g:Gr}(hg:g.chk=0){u:US}(h:USok g u){vs:List Bool}:∀ {i:Nat},i<=aa g.ands ->
 (sat (u.ands g i).cl vs=ab↔sat u.cl vs=ab/\(u.ands g i).row.map (hol vs)=(g.ands.take i).foldl zD ((u.ands g 0).row.map (hol vs)))
 |0,_=>by show sat u.cl vs=ab↔sat u.cl vs=ab/\_=_;exact⟨λh=>⟨h,rfl⟩,λh=>h.1⟩
 |i+1,hi=>by
  obtain⟨_,i0,i1,i2,i3,i4,i5⟩:=aU hg;have hl:=iw (u:=u) (g:=g) (i:=i) (by omega);obtain⟨o1,o2,o3,o4⟩:=iq i5 (show i<aa g.ands by omega);have wf:g.first=1+g.ins+aa g.next:=rfl
  have hll:=h.l;have ih:=sG hg h (vs:=vs) (i:=i) (by omega);rw[fF (by omega),TL (jC hg h (by omega)) o1 o2 (by omega) (by omega),ih];have e:(g.ands.take (i+1)).foldl zD ((u.ands g 0).row.map (hol vs))=zD ((g.ands.take i).foldl zD ((u.ands g 0).row.map (hol vs))) g.ands[i]:=by rw[zrg,zqk (show i<aa g.ands by omega),List.foldl_append];rfl
  rw[e];constructor
  ·rintro⟨⟨a1,a2⟩,a3⟩;exact⟨a1,by rw[a3,a2]⟩
  ·rintro⟨a1,a2⟩;have a3:((u.ands g i).row++[((u.ands g i).n:Int)+1]).map (hol vs)=(g.ands.take i).foldl zD ((u.ands g 0).row.map (hol vs))++[_]:=a2;rw[zql,List.map_singleton]at a3;have a4:=List.append_inj_left' a3 rfl;exact⟨⟨a1,a4⟩,by rw[a2,a4]⟩
theorem MJ(hg:g.chk=0){u:US}(h:USok g u):USok g (u.step g):=by
 obtain⟨_,i0,i1,i2,i3,i4,i5⟩:=aU hg;obtain⟨r1,r2,r3,r4⟩:=aJ i4;have ok:=jC hg h (zrb (aa g.ands));have hl:=iw (u:=u) (g:=g) (zrb (aa g.ands));have hn:=nU (u:=u) (g:=g) (zrb (aa g.ands));have wf:g.first=1+g.ins+aa g.next:=rfl
 have wa:g.all=2*(g.first+aa g.ands):=rfl;have wv:TN g=1+g.ins.toNat+aa g.next+aa g.ands:=rfl
 have hll:=h.l;have h1:=h.one;refine⟨by simp[US.step],λa ha=> ?_,ok.c,λr hr=> ?_,?_⟩
 ·obtain⟨b,hb,rfl⟩:=zrh.1 ha;have:=r3 b hb;exact ql ok.r this.1 (by omega)
 ·rcases zrf.1 hr with hr|hr
  ·obtain⟨a1,a2⟩:=h.r r hr;exact⟨λa ha=>(a1 a ha).mono (by show u.n<=(u.ands g (aa g.ands)).n;omega),a2⟩
  ·rw[zrc.1 hr];exact⟨ok.r,by omega⟩
 ·show 1<=(u.ands g (aa g.ands)).n;omega
theorem wW{g:Gr}(hg:g.chk=0){b:Cl}(hb:aa b=aa g.next)(hb2:∀x∈b,0<=x/\x<=2):∀k,USok g (cO g b k)
 |0=>by obtain⟨a1,a2,a3,a4⟩:=zF b (1,[]) hb2 (zrb _) (λa ha=>by cases ha);refine⟨by show(vT b).2.length=_;unfold vT;rw[a4];simpa using hb,a3,λc hc a ha=> ?_,λr hr=>(by cases hr),a1⟩;have hc:c=[1]:=zrc.1 hc;subst hc;rw[zrc.1 ha];have:1<=(cO g b 0).n:=a1;exact⟨by decide,by omega,by omega⟩
 |k+1=>MJ hg (wW hg hb hb2 k)
theorem JH{u:US}(ho:hol vs 1=ab):(u.ands g 0).row.map (hol vs)=[am]++(Dy u.n g.ins.toNat).map (hol vs)++u.lat.map (hol vs):=by show(-1::(Dy u.n g.ins.toNat++u.lat)).map (hol vs)=_;rw[zrd,show hol vs (-1)=am by rw[jQ (by decide),ho];rfl,zql];rfl
theorem JI{g:Gr}{st x:List Bool}:∀ {i:Nat},i<=aa g.ands->((dw g st x i).drop 1).take (aa x)=x
 |0,_=>by simp[dw]
 |i+1,h=>by have ih:=JI (g:=g) (st:=st) (x:=x) (i:=i) (by omega);have hl:=iY (g:=g) (st:=st) (ins:=x) (i:=i) (by omega);rw[jT (by omega),List.drop_append_of_le_length (by omega),List.take_append_of_le_length (by rw[List.length_drop];omega)];exact ih
def UW(g:Gr)(vs:List Bool)(rows:List Cl):List (List Bool):=rows.map λr=>((r.map (hol vs)).drop 1).take g.ins.toNat
theorem FX{g:Gr}(hg:g.chk=0){b:Cl}(hb:aa b=aa g.next)(hb2:∀x∈b,0<=x/\x<=2){vs:List Bool}:∀k,sat (cO g b k).cl vs=ab ->
 hol vs 1=ab/\(cO g b k).rows.map (λr=>r.map (hol vs))=TM g ((vT b).2.map (hol vs)) (UW g vs (cO g b k).rows)/\(cO g b k).lat.map (hol vs)=qm g ((vT b).2.map (hol vs)) (UW g vs (cO g b k).rows)
 |0,hs=>by refine⟨?_,rfl,rfl⟩;have:sat [[1]] vs=ab:=hs;simpa [sat]using this
 |k+1,hs=>by
  have ok:=wW hg hb hb2 k;obtain⟨s1,s2⟩:=(sG hg ok (zrb _)).1 hs;obtain⟨a1,a2,a3⟩:=FX hg hb hb2 k s1;rw[JH a1,a3,<-BC]at s2;have hx:((((cO g b k).ands g (aa g.ands)).row.map (hol vs)).drop 1).take g.ins.toNat=(Dy (cO g b k).n g.ins.toNat).map (hol vs):=by
   rw[s2];have:=JI (g:=g) (st:=qm g ((vT b).2.map (hol vs)) (UW g vs (cO g b k).rows)) (x:=(Dy (cO g b k).n g.ins.toNat).map (hol vs)) (zrb _)
   rwa [show aa ((Dy (cO g b k).n g.ins.toNat).map (hol vs))=g.ins.toNat by simp[Dy]]at this
  have hrw:(cO g b (k+1)).rows=(cO g b k).rows++[((cO g b k).ands g (aa g.ands)).row]:=rfl;have hsq:UW g vs (cO g b (k+1)).rows=UW g vs (cO g b k).rows++[(Dy (cO g b k).n g.ins.toNat).map (hol vs)]:=by rw[hrw];unfold UW;rw[zql,List.map_singleton,hx]
  refine⟨a1,?_,?_⟩
  ·rw[hsq,zG,hrw,zql,a2,List.map_singleton,s2];rfl
  ·rw[hsq,qo];obtain⟨_,i0,i1,i2,i3,i4,i5⟩:=aU hg;obtain⟨r1,r2,r3,r4⟩:=aJ i4;have uok:=jC hg ok (zrb (aa g.ands));have hl:=iw (u:=cO g b k) (g:=g) (zrb (aa g.ands));have wf:g.first=1+g.ins+aa g.next:=rfl
   have wa:g.all=2*(g.first+aa g.ands):=rfl;have hll:=ok.l;show(g.next.map (wV ((cO g b k).ands g (aa g.ands)).row)).map (hol vs)=nx g _ _;rw[List.map_map];refine zsd λa ha=> ?_;have:=r3 a ha;show hol vs (wV _ a)=_;rw[uB uok.r this.1 (by omega),s2];rfl
theorem V5{x:List Bool}:(Dy (aa vs) (aa x)).map (hol (vs++x))=x:=by refine List.ext_getElem (by simp[Dy]) λi h1 h2=> ?_;simp only[Dy,List.map_map,List.getElem_map,List.getElem_range,Function.comp];unfold hol;rw[if_neg (by omega),show((aa vs:Int)+(i:Int)+1-1).toNat=aa vs+i by omega,zqg,zsb (by omega),show aa vs+i-aa vs=i by omega,zqk h2];rfl
theorem wX{g:Gr}(hg:g.chk=0){b:Cl}(hb:aa b=aa g.next)(hb2:∀x∈b,0<=x/\x<=2){st:List Bool}(hst:stM b st){seq:List (List Bool)}(hq:∀x∈seq,aa x=g.ins.toNat):∀k,k<=aa seq ->
 ∃vs,aa vs=(cO g b k).n/\hol vs 1=ab/\sat (cO g b k).cl vs=ab/\(vT b).2.map (hol vs)=st/\(cO g b k).rows.map (λr=>r.map (hol vs))=TM g st (seq.take k)/\(cO g b k).lat.map (hol vs)=qm g st (seq.take k)
 |0,_=>by
  obtain⟨w,w1,w2⟩:=DC b (1,[]) [ab] [] hb2 rfl (zrb _) rfl (λa ha=>by cases ha) rfl st hst;refine⟨[ab]++w,w1,?_,?_,w2,rfl,w2⟩
  ·rw[vU ⟨by decide,by decide,by decide⟩];rfl
  ·show sat [[1]] _=ab;simp[sat,hol]
 |k+1,hk=>by
  obtain⟨vs,v1,v2,v3,v4,v5,v6⟩:=wX hg hb hb2 hst hq k (by omega);have ok:=wW hg hb hb2 k;obtain⟨x,hx⟩:∃x,x=seq[k]:=⟨_,rfl⟩;have hxl:aa x=g.ins.toNat:=by rw[hx];exact hq _ (zqu _)
  have htk:seq.take (k+1)=seq.take k++[x]:=by rw[zrg,zqk (by omega),hx];rfl
  obtain⟨s,hs⟩:∃s,s=qm g st (seq.take k):=⟨_,rfl⟩;rw[<-hs]at v6;have key:∀i,i<=aa g.ands->∃w,aa (vs++w)=((cO g b k).ands g i).n/\((cO g b k).ands g i).row.map (hol (vs++w))=dw g s x i:=by
   intro i
   induction i with
   |zero =>
    intro _;refine⟨x,by show _=(cO g b k).n+g.ins.toNat;rw[zqa,v1,hxl],?_⟩;have ho:hol (vs++x) 1=ab:=by rw[vU ⟨by decide,by omega,by have:=ok.one;omega⟩];exact v2
    rw[JH ho,zC (row:=(cO g b k).lat) (by rw[v1];exact ok.lo),v6,<-v1,<-hxl,V5];rfl
   |succ i ih =>
    intro hi;obtain⟨w,w1,w2⟩:=ih (by omega);have uok:=jC hg ok (i:=i) (by omega);obtain⟨c,hc⟩:∃c,c=(lv (dw g s x i) g.ands[i].1&&lv (dw g s x i) g.ands[i].2):=⟨_,rfl⟩;refine⟨w++[c],?_,?_⟩
    ·rw[fF (by omega),<-zqc,zqa,w1];rfl
    ·rw[fF (by omega),<-zqc];show(((cO g b k).ands g i).row++[_]).map _=_;rw[zql,zC (by rw[w1];exact uok.r),w2,jT (by omega),<-hc,List.map_singleton];have:=UV (vs:=vs++w) (w:=[]) (b:=c);rw[w1]at this;rw[this]
  obtain⟨w,w1,w2⟩:=key (aa g.ands) (zrb _);have ho:hol (vs++w) 1=ab:=by rw[vU ⟨by decide,by omega,by have:=ok.one;omega⟩];exact v2
  have hb0:AY (aa vs) (vT b).2:=by
   obtain⟨a1,a2,a3,a4⟩:=zF b (1,[]) hb2 (zrb _) (λa ha=>by cases ha);have hm:∀j,(cO g b 0).n<=(cO g b j).n:=λj=>by
    induction j with
    |zero=>exact zrb _
    |succ j ih=>have:=nU (u:=cO g b j) (g:=g) (zrb (aa g.ands));show _<=((cO g b j).ands g (aa g.ands)).n;omega
   intro a ha;rw[v1];exact(a3 a ha).mono (hm k)
  have hrow:((cO g b k).ands g 0).row.map (hol (vs++w))=[am]++x++s:=by
   have hfold:=w2;have e1:=iw (u:=cO g b k) (g:=g) (Nat.zero_le (aa g.ands));have hpre:∀i,i<=aa g.ands->∃r,((cO g b k).ands g i).row=((cO g b k).ands g 0).row++r:=by
    intro i
    induction i with
    |zero=>intro _;exact⟨[],by simp⟩
    |succ i ih=>intro hi;obtain⟨r,hr⟩:=ih (by omega);refine⟨r++[(((cO g b k).ands g i).n:Int)+1],?_⟩;rw[fF (by omega)];show((cO g b k).ands g i).row++[_]=_;rw[hr,zqc]
   have hpv:∀i,i<=aa g.ands->∃r,dw g s x i=([am]++x++s)++r:=by
    intro i
    induction i with
    |zero=>intro _;exact⟨[],by simp[dw]⟩
    |succ i ih=>intro hi;obtain⟨r,hr⟩:=ih (by omega);exact⟨r++[_],by rw[jT (by omega)];(conv=>lhs;lhs;rw[hr]);rw[zqc]⟩
   obtain⟨r,hr⟩:=hpre _ (zrb _);obtain⟨r',hr'⟩:=hpv _ (zrb _);rw[hr,hr',zql]at hfold;refine List.append_inj_left hfold ?_;rw[zra,e1];have hsl:aa s=aa g.next:=by rw[<-v6,zra];exact ok.l
   have:=ok.l;simp only[zqa,zrk];omega
  have hsat:sat (cO g b (k+1)).cl (vs++w)=ab:=by
   refine(sG hg ok (zrb _)).2 ⟨?_,?_⟩
   ·rw[VZ (by rw[v1];exact ok.c)];exact v3
   ·rw[w2,hrow,BC]
  refine⟨vs++w,w1,ho,hsat,by rw[zC hb0];exact v4,?_,?_⟩
  ·rw[htk,zG,<-hs];show((cO g b k).rows++[_]).map _=_;rw[zql,List.map_singleton,w2]
   congr 1
   rw[<-v5];refine zsd λr hr=>zC (by rw[v1];exact(ok.r r hr).1)
  ·rw[htk,qo,<-hs];obtain⟨_,i0,i1,i2,i3,i4,i5⟩:=aU hg;obtain⟨r1,r2,r3,r4⟩:=aJ i4;have uok:=jC hg ok (zrb (aa g.ands));have hl:=iw (u:=cO g b k) (g:=g) (zrb (aa g.ands));have wf:g.first=1+g.ins+aa g.next:=rfl
   have wa:g.all=2*(g.first+aa g.ands):=rfl;have hll:=ok.l;show(g.next.map (wV ((cO g b k).ands g (aa g.ands)).row)).map (hol (vs++w))=nx g _ _;rw[List.map_map];refine zsd λa ha=> ?_;have:=r3 a ha;show hol (vs++w) (wV _ a)=_;rw[uB uok.r this.1 (by omega),w2];rfl
abbrev bU(g:Gr)(n:Nat)(cv lv rv:V):O:=aw [vi n,cv,lv,vi g.ins,az g.next,az g.init,prs g.ands,az g.outs,rv]
abbrev xC(c:Cl):V:= .is ab 1 (c.map vi)
variable{b:Nat}{cv lv rv:V}{h:H}{R:AEnd->H->(Nat->Bool)->Prop}
theorem oU(hh:h[b]? =ar (bU g n cv lv rv))(hn:n<=1000000)
 (hr:R (.ret (vi ((n:Int)+1))) (h.set b (bU g (n+1) cv lv rv)) (λ_=>am)):ag TE 61 [.lp b 0] h R:=by
 have hM:=mLx;have w1:=ax (show n<maxLen by omega);have hl:=(zqe hh).1;have hs:∀o:O,(h.set b o)[b]? =ar o:=λo=>zqt hl;refine ah Tryz.func61 rfl (by simp[nts]) (vm ?_);simp only[wq.1,seval,Tryz.results61,hh,hs,w1];exact hr
theorem JJ(h:a%2=1):wV row a=-(row.getD (a/2).toNat 0):=if_pos h
theorem FY(h:a%2=0):wV row a=row.getD (a/2).toNat 0:=if_neg (by omega)
variable{r cap:Nat}
theorem vV(hh:h[b]? =ar (bU g n cv lv (.ls r 1 0 (aa row) cap)))(hr0:h[r]? =ar (aw (row.map vi)))
 (hb:∀x∈row,-1000000<=x/\x<=1000000) (a0:0<=a) (a1:a/2<aa row) (a2:a<=1000000)
 (hr:R (.ret (vi (wV row a))) h (λ_=>am)):ag TE 70 [.lp b 0,vi a] h R:=by
 have hM:=mLx;obtain⟨k,hk⟩:∃k:Nat,a/2=k:=⟨(a/2).toNat,by omega⟩;have hkl:k<aa row:=by omega
 have hg:(row.map vi).getD k .any=vi row[k]:=sU hkl _;have hx:=hb _ (zqu hkl);have q1:=VX a;have q2:=WT a0 (show a<=1000000000 by omega);have hgd:row.getD (a/2).toNat 0=row[k]:=by rw[hk,zsg,aP hkl]
 have wn:a5 .i64 (0-row[k])=-row[k]:=by rw[fM (by omega) (by omega)];omega
 have wn':a5 .i64 (-row[k])=-row[k]:=fM (by omega) (by omega);refine ah Tryz.func70 rfl (by simp[nts]) (vm ?_);rcases Int.emod_two_eq a with hm|hm
 ·rw[FY hm,hgd]at hr;simp only[wq.1,seval,Tryz.results70,q1,q2,hm,hk,hh,hr0,hg,Nat.mul_one];exact⟨⟨by omega,by omega⟩,by omega,hr⟩
 ·rw[JJ hm,hgd]at hr;simp only[wq.1,seval,-Int.reduceNatCast,-Int.reduceNatCast',Tryz.results70,q1,q2,hm,hk,hh,hr0,hg,wn,Nat.mul_one];exact⟨⟨by omega,by omega⟩,by omega,hr⟩
theorem uC{p:Nat->Bool}:∀l:List Cl,aE p (l.map xC)=l.map xC
 |[]=>rfl
 |c::l=>by show V.drop p (xC c)::aE p (l.map xC)=_;rw[uC l];rfl
theorem xO{D:Nat->Bool}{x:O}(hd:∀i o,h[i]? =ar o->i≠b->o.drop D=o):(h.map (O.drop D)).set b x=h.set b x:=by
 refine List.ext_getElem? λi=> ?_;by_cases hi:b=i
 ·subst hi;by_cases hl:b<aa h
  ·rw[zqt (by simpa using hl),zqt hl]
  ·rw[zsj (by simp;omega),zsj (by simp;omega)]
 ·rw[zqn hi,zqn hi,zqo];cases ho:h[i]? with
  |none=>rfl
  |some o=>simp[hd i o ho (Ne.symm hi)]
variable{C:Nat}
theorem qN{c:Cl}(hbC:b≠C)(hh:h[b]? =ar (bU g n (.ls C 1 0 (aa cl) (aa cl)) lv rv))(hc:h[C]? =ar (aw (cl.map xC)))
 (hd:∀j o,h[j]? =ar o->j≠b->o.drop (·==C)=o) (hlv:lv.drop (·==C)=lv) (hrv:rv.drop (·==C)=rv) (hcl:aa cl<=1000000)
 (hr:R (.ret (.tup [])) ((h.set C (aw ((cl++[c]).map xC))).set b (bU g n (.ls C 1 0 (aa (cl++[c])) (aa (cl++[c]))) lv rv)) (·==C)):ag TE 60 [.lp b 0,xC c] h R:=by
 have hM:=mLx;refine ah Tryz.func60 rfl (by simp[nts]) (vm ?_);have hbc:(b==C)=am:=by simpa using hbC
 have hl:=(zqe hh).1;have hlC:=(zqe hc).1;have dX:aE (λj=>j==C) (cl.map xC)=cl.map xC:=uC _;simp only[wq.1,↓reduceIte,Nat.reduceEqDiff,Nat.reduceLT,Nat.reduceLeDiff,Nat.reduceAdd,reduceCtorEq,Nat.reduceMul,Tryz.results60,hh,hc,hbc,dX];have hbo:((List.map (O.drop λx=>x==C) h).set C (aw (List.map xC cl++[xC c])))[b]? =ar (aw [vi n,.any,lv,vi g.ins,az g.next,az g.init,prs g.ands,az g.outs,rv]):=by rw[zqn (Ne.symm hbC),zqo,hh];simp only[zrw,O.drop,aE,V.drop,hlv,hrv,beq_self_eq_true,if_true]
 refine⟨⟨rfl,by decide⟩,⟨by omega,by omega,by omega⟩,?_⟩;rw[hbo];refine⟨by simp,?_⟩;rw[List.set_comm _ _ (Ne.symm hbC),xO hd,List.set_comm _ _ hbC];rw[zql,zqa,zrk]at hr;exact hr
def vW(g:Gr)(lat:Cl):Cl:=-1::(aD g.ins.toNat 0++lat)
theorem wY{q:Nat}{lat:Cl}(hh:h[b]? =ar (bU g n cv lv rv))(hq:h[q]? =ar (aw (lat.map vi)))
 (hd:∀(j:Nat)(o:O),h[j]? =ar o->o.drop (·==aa h)=o) (i0:0<=g.ins) (i1:g.ins<=4000) (hl:aa lat<=4000) (hqb:q≠b)
 (hr:R (.ret (.tup [])) (h.set b (bU g n cv lv (.ls (aa h) 1 0 (aa (vW g lat)) (aa (vW g lat))))++[aw ((vW g lat).map vi)]) (·==aa h)):ag TE 62 [.lp b 0,.ls q 1 0 (aa lat) cap] h R:=by
 have hM:=mLx;have hbl:=(zqe hh).1;have hql:=(zqe hq).1;have hti:ti TE.P 22=ar ⟨.slice 3,1,24,.nils⟩:=by simp only[wq.1]
 have htn:ti TE.P 3=ar ⟨.int .i64,1,8,.int .i64 0⟩:=by simp only[wq.1]
 have hx0:(h++[aw [vi (-1)]])[b]? =ar (bU g n cv lv rv):=by rw[zqj hbl];exact hh
 have hx1:(h++[aw [vi (-1)]])[aa h]? =ar (aw [vi (-1)]):=by rw[zsb (zrb _)];simp
 obtain⟨m,hm⟩:∃m:Nat,g.ins=m:=⟨g.ins.toNat,by omega⟩;refine ag.kp (·==aa h) ?_;refine ah Tryz.func62 rfl (by simp[nts]) ?_;refine ak (jF ?_);refine aK rfl rfl ?_;simp only[wq.1,Int.reduceNeg,Tryz.results62];refine gX rfl rfl ?_;refine vC rfl hti rfl htn rfl trivial rfl ?_;refine aK rfl rfl ?_;simp only[wq.1,seval];refine aK rfl rfl ?_;simp only[wq.1,seval];refine aK rfl rfl ?_;simp only[wq.1,seval];refine aK rfl rfl ?_;simp only[wq.1,seval];refine aK rfl rfl ?_;simp only[wq.1,seval,hx0];refine gX rfl rfl ?_;refine o8 (x:= .tmp 5) (y:= .tmp 10) (t:=22) (xt:=3) (el:=3) ⟨⟨_,rfl,rfl,rfl⟩,hti,rfl,htn,rfl,rfl,Nat.zero_lt_one⟩ (by simp only[wq.1,seval]) (by simp only[wq.1,↓reduceIte]) (id:=h.length) (len:=1) (cap:=1) (by simp only[wq.1,seval]) hx1 rfl (m:=m) (by simp only[wq.1,↓reduceIte,hm]) htn rfl (by omega) rfl (zv:=vi 0) rfl (cs:=aD m (vi 0)) rfl (by rw[<-List.map_replicate (f:=vi)];exact qg _) (by omega) (by show(1+m)*8<=_;omega) (by simp only[wq.1]) ?_;have hmap:h.map (O.drop λx=>x==aa h)=h:=by
  refine List.ext_getElem? λj=> ?_;rw[zqo];cases ho:h[j]? with
  |none=>rfl
  |some o=>rw[zrw,hd j o ho]
 have hcs:aE (λx=>x==aa h) ([vi (-1)]++aD m (vi 0))=(-1::aD m 0).map vi:=by rw[show [vi (-1)]++aD m (vi 0)=(-1::aD m (0:Int)).map vi by simp];exact aN _
 have hH:(List.map (O.drop λx=>x==aa h) (h++[aw [V.int IntKind.i64 (-1)]])).set (aa h) (aw (aE (λx=>x==aa h) ([vi (-1)]++aD m (vi 0))))=h++[aw (vi (-1)::(aD m 0).map vi)]:=by rw[hcs,zql,hmap,List.set_append_right _ _ (zrb _)];simp
 rw[hH];have nb:(b==aa h)=am:=by simpa using Nat.ne_of_lt hbl
 have nq:(q==aa h)=am:=by simpa using Nat.ne_of_lt hql
 have hx2:(h++[aw (vi (-1)::(aD m 0).map vi)])[b]? =ar (bU g n cv lv rv):=by rw[zqj hbl];exact hh
 refine aK rfl rfl ?_;simp only[wq.1,seval,nb];refine aK rfl rfl ?_;simp only[wq.1,seval];refine aK rfl rfl ?_;simp only[wq.1,seval,hx2];refine iZ ?_;simp only[wq.1,Int.reduceNeg];have hx3:((h++[aw (vi (-1)::(aD m 0).map vi)]).set b (bU g n cv lv (.ls (aa h) 1 0 (1+m) (1+m))))[b]? =ar (bU g n cv lv (.ls (aa h) 1 0 (1+m) (1+m))):=zqt (by simp;omega);have hx4:((h++[aw (vi (-1)::(aD m 0).map vi)]).set b (bU g n cv lv (.ls (aa h) 1 0 (1+m) (1+m))))[q]? =ar (aw (lat.map vi)):=by
  rw[zqn (Ne.symm hqb),zqj hql];exact hq
 have hx5:((h++[aw (vi (-1)::(aD m 0).map vi)]).set b (bU g n cv lv (.ls (aa h) 1 0 (1+m) (1+m))))[aa h]? =ar (aw (vi (-1)::(aD m 0).map vi)):=by rw[zqn (Nat.ne_of_lt hbl),zsb (zrb _)];simp
 refine vm ?_;simp only[wq.1,seval,nb,nq,hx3,hx4,hx5];have e1:(if aa lat*1<=aa lat then ar (aa lat,List.take (aa lat*1) (List.map vi lat))else aL)=ar (aa lat,lat.map vi):=by
  rw[Nat.mul_one,if_pos (zrb _),zqh (by simp)]
 rw[e1];have dL:∀l:Cl,aE (λx=>x==aa h) (l.map vi)=l.map vi:=λl=>aN l;obtain⟨B1,hB1⟩:∃B1:O,B1=aw [vi n,cv,lv,vi g.ins,az g.next,az g.init,prs g.ands,az g.outs,V.ls (aa h) 1 0 (1+m) (1+m)]:=⟨_,rfl⟩;have hmm:∀X2:O,((List.map (O.drop λx=>x==aa h) ((h++[aw (vi (-1)::List.map vi (aD m 0))]).set b B1)).set (aa h) X2)=h.set b (B1.drop λx=>x==aa h)++[X2]:=λX2=>by
  rw[List.map_set,zql,hmap,List.set_append_left _ _ hbl,List.set_append_right _ _ (by simp)];simp
 have hbb:∀X2:O,(h.set b (B1.drop λx=>x==aa h)++[X2])[b]? =ar (B1.drop λx=>x==aa h):=λX2=>by rw[zqj (by simpa using hbl),zqt hbl]
 have hdB:(B1.drop λx=>x==aa h)=aw [vi n,cv.drop λx=>x==aa h,lv.drop λx=>x==aa h,vi g.ins,az g.next,az g.init,prs g.ands,az g.outs,.any]:=by rw[hB1];simp only[O.drop,aE,V.drop,beq_self_eq_true,if_true]
 have hob:=hd b _ hh;have hcl:cv.drop (λx=>x==aa h)=cv/\lv.drop (λx=>x==aa h)=lv:=by have:=hob;simp only[bU,O.drop,aE,V.drop,O.cells.injEq,List.cons.injEq]at this;exact⟨this.2.1,this.2.2.1⟩
 refine⟨⟨by simp;omega,qg _,by omega,by omega⟩,?_⟩;rw[<-hB1,hmm,hbb,hdB,hcl.1,hcl.2];refine⟨by simp,?_⟩;refine⟨λj hj=> ?_,?_⟩
 ·simpa using hj
 rw[List.set_append_left _ _ (by simpa using hbl),List.set_set,dL,dL];have hlen:aa (vW g lat)=1+m+aa lat:=by unfold vW;rw[hm];simp;omega
 rw[hlen]at hr;have dZ:vi (-1)::(List.map vi (aD m 0)++List.map vi lat)=(vW g lat).map vi:=by unfold vW;rw[hm];simp
 rw[dZ];exact hr
structure BH(g:Gr)(k0:Nat)(h0:H)(b C L n:Nat)(cl:List Cl)(rs:List (Nat×Cl))(r:Nat)(row:Cl)(h:H):Prop where
 hb:h[b]? =ar (bU g n (.ls C 1 0 (aa cl) (aa cl)) (.ls L 1 0 (aa rs) (aa rs)) (.ls r 1 0 (aa row) (aa row)))
 hC:h[C]? =ar (aw (cl.map xC))
 hL:h[L]? =ar (aw (rs.map λp=> .ls p.1 1 0 (aa p.2) (aa p.2)))
 hr:h[r]? =ar (aw (row.map vi))
 hrs:∀p∈rs,h[p.1]? =ar (aw (p.2.map vi))/\k0<=p.1/\p.1≠r
 n1:b≠C
 n2:b≠L
 n3:C≠L
 bk:b<k0
 Ck:C<k0
 Lk:L<k0
 rk:k0<=r
 pl:∀(j:Nat)(o:O),h[j]? =ar o->j≠b->j≠L->∀D,o.drop D=o
 bs:∀j,j<k0->j≠b->j≠C->j≠L->h[j]? =h0[j]?
def HU(g:Gr)(b C r:Nat)(lv:V)(h:H)(n:Nat)(cl:List Cl)(row:Cl):H :=
 ((h.set b (bU g n (.ls C 1 0 (aa cl) (aa cl)) lv (.ls r 1 0 (aa row) (aa row)))).set C (aw (cl.map xC))).set r (aw (row.map vi))
section
variable{g:Gr}{b C r:Nat}{lv:V}{h:H}{n:Nat}{cl:List Cl}{row:Cl}{X:H}
theorem kL:aa (HU g b C r lv h n cl row)=aa h:=by simp[HU]
theorem Yy(h1:b≠C)(h2:b≠r)(hl:b<aa h):(HU g b C r lv h n cl row++X)[b]? =ar (bU g n (.ls C 1 0 (aa cl) (aa cl)) lv (.ls r 1 0 (aa row) (aa row))):=by rw[zqj (by rw[kL];exact hl),HU,zqn (Ne.symm h2),zqn (Ne.symm h1),zqt hl]
theorem YL(h2:C≠r)(hl:C<aa h):(HU g b C r lv h n cl row++X)[C]? =ar (aw (cl.map xC)):=by rw[zqj (by rw[kL];exact hl),HU,zqn (Ne.symm h2),zqt (by simpa using hl)]
theorem YM(hl:r<aa h):(HU g b C r lv h n cl row++X)[r]? =ar (aw (row.map vi)):=by rw[zqj (by rw[kL];exact hl),HU,zqt (by simpa using hl)]
theorem Yz{j:Nat}(h1:j≠b)(h2:j≠C)(h3:j≠r)(hl:j<aa h):(HU g b C r lv h n cl row++X)[j]? =h[j]? :=by rw[zqj (by rw[kL];exact hl),HU,zqn (Ne.symm h3),zqn (Ne.symm h2),zqn (Ne.symm h1)]
theorem YN{j:Nat}(hl:aa h<=j):(HU g b C r lv h n cl row++X)[j]? =X[j-aa h]? :=by rw[zsb (by rw[kL];exact hl),kL]
theorem PW{n':Nat}(h1:b≠C)(h2:b≠r)(hl:b<aa h):(HU g b C r lv h n cl row++X).set b (bU g n' (.ls C 1 0 (aa cl) (aa cl)) lv (.ls r 1 0 (aa row) (aa row)))=HU g b C r lv h n' cl row++X:=by rw[List.set_append_left _ _ (by rw[kL];exact hl),HU,HU,List.set_comm _ _ (Ne.symm h2),List.set_comm _ _ (Ne.symm h1),List.set_set]
theorem PX{cl':List Cl}(h1:b≠C)(h2:b≠r)(h3:C≠r)(hl:b<aa h)(hlC:C<aa h) :
 ((HU g b C r lv h n cl row++X).set C (aw (cl'.map xC))).set b (bU g n (.ls C 1 0 (aa cl') (aa cl')) lv (.ls r 1 0 (aa row) (aa row)))=HU g b C r lv h n cl' row++X:=by
 rw[List.set_append_left _ _ (by rw[kL];exact hlC),List.set_append_left _ _ (by rw[zrn,kL];exact hl),HU,HU,List.set_comm _ _ (Ne.symm h3),List.set_set,
  List.set_comm _ _ (Ne.symm h2),List.set_comm _ _ (Ne.symm h1),List.set_set]
theorem XZ{row':Cl}(h1:b≠C)(h2:b≠r)(hl:b<aa h)(hlr:r<aa h) :
 ((HU g b C r lv h n cl row++X).set r (aw (row'.map vi))).set b (bU g n (.ls C 1 0 (aa cl) (aa cl)) lv (.ls r 1 0 (aa row') (aa row')))=HU g b C r lv h n cl row'++X:=by
 rw[List.set_append_left _ _ (by rw[kL];exact hlr),List.set_append_left _ _ (by rw[zrn,kL];exact hl),HU,HU,List.set_set,
  List.set_comm _ _ (Ne.symm h2),List.set_comm _ _ (Ne.symm h1),List.set_set]
end
variable{k0 L:Nat}{h0:H}{rs:List (Nat×Cl)}
theorem BH.lens(k:BH g k0 h0 b C L n cl rs r row h):b<aa h/\C<aa h/\L<aa h/\r<aa h/\b≠r/\C≠r/\L≠r :=
 ⟨(zqe k.hb).1,(zqe k.hC).1,(zqe k.hL).1,(zqe k.hr).1,by have:=k.bk;have:=k.rk;omega,by have:=k.Ck;have:=k.rk;omega,by have:=k.Lk;have:=k.rk;omega⟩
theorem BH.hs(k:BH g k0 h0 b C L n cl rs r row h):h=HU g b C r (.ls L 1 0 (aa rs) (aa rs)) h n cl row++[]:=by
 have e:∀ {j:Nat} {o:O},h[j]? =ar o->h.set j o=h:=λhj=>by obtain⟨hl,rfl⟩:=zqe hj;exact List.set_getElem_self hl
 rw[zqp,HU,e k.hb,e k.hC,e k.hr]
theorem vX{D:Nat->Bool}:∀ {rs:List (Nat×Cl)},(∀p∈rs,D p.1=am)->aE D (rs.map λp=>V.ls p.1 1 0 (aa p.2) (aa p.2))=rs.map λp=>V.ls p.1 1 0 (aa p.2) (aa p.2)
 |[],_=>rfl
 |p::rs,h=>by rw[zrd,aE,vX (rs:=rs) λq hq=>h q (by simp[hq])];have:=h p (by simp);simp only[V.drop,this,zrm,if_false]
theorem BH.dropO(k:BH g k0 h0 b C L n cl rs r row h){D:Nat->Bool}(hD:∀p∈rs,D p.1=am) :
 ∀(j:Nat)(o:O),h[j]? =ar o->j≠b->o.drop D=o:=λj o ho hj=>by
 by_cases hL:j=L
 ·subst hL;rw[k.hL]at ho;cases ho;show aw (aE D _)=_;rw[vX hD]
 ·exact k.pl j o ho hj hL D
end Go.Proofs.YthdidjjecjhenaaGreat
