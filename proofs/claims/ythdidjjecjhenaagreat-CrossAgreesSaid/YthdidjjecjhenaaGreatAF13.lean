/- Lemmas for this claim, part F13: each holds under what it names. -/
import Derived.Test.YthdidjjecjhenaaGreatAF12
import Derived.Test.YthdidjjecjhenaaGreatAA10
set_option linter.all false
set_option maxRecDepth 20000
set_option maxHeartbeats 8000000
namespace Go.Proofs.YthdidjjecjhenaaGreat
open Go Go.Proofs Go.Abs
open List renaming length → aa, replicate → aD
open Bool renaming true → ab, false → am
open Option renaming some → ar, none → aL
open Decidable renaming decide → aM
open Go.IntKind renaming wrap → a5
open Go.Result renaming andThen → a8
open Go.Abs.O renaming cells → aw
open Go.Abs.V renaming drops → aE, dat → a6, dats → a7
variable{m:Mo}
theorem cu(h:m.chk=0):m.g.chk=0/\(aa m.ins:Int)=m.g.ins/\aa m.lat=aa m.g.next/\aa m.out=aa m.g.outs:=by obtain⟨h1,h2,_,_,_⟩:=wU h;simp only[Mo.lens,zsf,bne_eq_false_iff_eq]at h2;exact⟨h1,h2.1.1,by have:=h2.1.2;omega,by have:=h2.2;omega⟩
theorem jZ(h:m.chk=0):m.ins.Nodup/\m.lat.Nodup/\m.out.Nodup:=by obtain⟨_,_,_,h2,_⟩:=wU h;simp only[Mo.twos,FO,zsf,Bool.not_eq_false',zqb]at h2;exact⟨(List.nodup_append.1 h2.1).1,(List.nodup_append.1 h2.1).2.1,h2.2⟩
theorem Gi:∀ {a b:List S},a.Nodup->(∀x∈a,x∈b)->aa a<=aa b
 |[],_,_,_=>Nat.zero_le _
 |x::a,b,h,hs=>by
  have hx:=hs x (by simp);have h1:=Gi (a:=a) (b:=b.erase x) (List.nodup_cons.1 h).2 λy hy=>by refine(List.mem_erase_of_ne λe=> ?_).2 (hs y (by simp[hy]));subst e;exact(List.nodup_cons.1 h).1 hy
  rw[List.length_erase_of_mem hx]at h1;have:=List.length_pos_of_mem hx;rw[zrt];omega
variable{l:List S}
theorem uM{s:S}:(at? l s).isSome=ab↔s∈l:=by
 constructor
 ·intro h;obtain⟨n,hn⟩:=Option.isSome_iff_exists.1 h;obtain⟨h1,h2⟩:=kD hn;rw[<-h2];exact zqu h1
 ·intro h;obtain⟨n,hn⟩:=Dx h;rw[hn];rfl
theorem qR{a b:List S}(h:aa a=aa b/\∀s∈a,(at? b s).isSome=ab)(hn:a.Nodup):∀s∈b,(at? a s).isSome=ab:=λs hs=>by
 rw[uM];refine Classical.byContradiction λhna=> ?_;have h1:=Gi (a:=a) (b:=b.erase s) hn λy hy=>by
  refine(List.mem_erase_of_ne λe=> ?_).2 (uM.1 (h.2 y hy));subst e;exact hna hy
 rw[List.length_erase_of_mem hs]at h1;have:=List.length_pos_of_mem hs;omega
def xB(a b:Mo)(x:List Bool):List Bool:=b.ins.map λs=>x.getD (atI a.ins s) am
theorem X8(h:l.Nodup){x:List Bool}(hx:aa x=aa l):l.map (λs=>x.getD (atI l s) am)=x:=by refine List.ext_getElem (by simp[hx]) λi h1 h2=> ?_;rw[List.getElem_map];unfold atI;rw[Gf h (by simpa using h1)];exact aP h2
variable{x st:List Bool}
theorem JX{s1 s2:List Bool}(hx:aa x=aa l)(hin:∀s∈m.ins,(at? l s).isSome=ab)(hst:aa st=aa m.lat){f:Int}(hf:f=1+(aa l:Int)+(aa s1:Int)) :
 Maps ([am]++x++(s1++st++s2)) [] (to0 l m f) ([am]++m.ins.map (λs=>x.getD (atI l s) am)++st):=by
 have hl:aa ([am]++x++(s1++st++s2))=1+aa x+(aa s1+aa st+aa s2):=by simp;omega
 refine⟨λy hy=> ?_,?_⟩
 ·rw[hl,List.length_nil];unfold to0 at hy;rcases zrj.1 hy with rfl|hy
  ·omega
  ·rcases zrf.1 hy with hy|hy
   ·obtain⟨s,hs,rfl⟩:=zrh.1 hy;have:=JV (hin s hs);omega
   ·obtain⟨i,hi,rfl⟩:=zrh.1 hy;have:=List.mem_range.1 hi;omega
 ·unfold to0 vlA;rw[List.foldl_nil,zrd,zql,List.map_map,List.map_map];show am::(_++_)=am::(_++_)
  congr 2
  ·refine zsd λs hs=> ?_;have:=JV (hin s hs);show List.getD _ (1+(atI l s:Int)).toNat am=_;rw[show(1+(atI l s:Int)).toNat=atI l s+1 by omega];show List.getD (am::(x++(s1++st++s2))) (atI l s+1) am=_;rw[List.getD_cons_succ,zqg,zqj (by omega),<-zqg]
  ·refine List.ext_getElem (by simp[hst]) λi h1 h2=> ?_;rw[List.getElem_map,List.getElem_range];show List.getD _ (f+(i:Int)).toNat am=_;rw[show(f+(i:Int)).toNat=(aa x+(aa s1+i))+1 by omega];show List.getD (am::(x++(s1++st++s2))) _ am=_;rw[List.getD_cons_succ,zqg,zsb (by omega),show aa x+(aa s1+i)-aa x=aa s1+i by omega,zqc,zsb (by omega),show aa s1+i-aa s1=i by omega,zqj h2,zqk h2];rfl
structure JIn(a b:Mo)(pa pb x:List Bool):Prop where
 la:aa pa=aa a.lat
 lb:aa pb=aa b.lat
 lx:aa x=aa a.ins
abbrev jb(pa pb x:List Bool):List Bool:=[am]++x++(pa++pb)
variable{a b:Mo}{pa pb:List Bool}
theorem uN(h:JIn a b pa pb x):(aa (jb pa pb x):Int)=jf a b:=by obtain⟨h1,h2,h3⟩:=h;unfold jf;simp only[zqa,zrk];omega
theorem IC(c:CanOk a b){pa pb x:List Bool}(h:JIn a b pa pb x) :
 (jA a b).1.length=(aY a.g).ands.length/\OkA (aa (jb pa pb x)) (jA a b).1/\Maps (jb pa pb x) (jA a b).1 (jA a b).2 ((aY a.g).vals pa x):=by
 obtain⟨g1,g2,g3,g4⟩:=cu c.ca;obtain⟨n1,n2,n3⟩:=jZ c.ca;obtain⟨p1,p2,p3,p4⟩:=cZ (g:=a.g);have hm:=JX (l:=a.ins) (m:=a) (x:=x) (s1:=[]) (st:=pa) (s2:=pb) h.lx (λs hs=>uM.2 hs) h.la (f:=1+(aa a.ins:Int)) (by simp);rw[X8 n1 h.lx,List.nil_append]at hm;have hw:((aa ([am]++x++pa):Nat):Int)=(aY a.g).first:=by have:=h.la;have:=h.lx;show _=1+(aY a.g).ins+((aY a.g).next.length:Int);simp only[zqa,zrk];omega
 obtain⟨⟨B,b1,b2⟩,b3,b4⟩:=zW (base:=jb pa pb x) (A:=(aY a.g).ands) (s:=([],to0 a.ins a (1+(aa a.ins:Int)))) (λi hi=>by simp at hi) hm (U3 (jd g1) hw);rw[uN h]at b1 b3 b4;rw[<-uN h]at b3;refine⟨?_,?_,?_⟩
 ·show(ww (jf a b) _ _).1.length=_;rw[b1,<-b2];rfl
 ·rw[uN h]at b3 ⊢;exact b3
 ·rw[qQ];exact b4
theorem IE(c:CanOk a b){pa pb x:List Bool}(h:JIn a b pa pb x) :
 (∃B,(jB a b).1=(jA a b).1++B/\aa B=(aY b.g).ands.length)/\OkA (aa (jb pa pb x)) (jB a b).1/\Maps (jb pa pb x) (jB a b).1 (jB a b).2 ((aY b.g).vals pb (xB a b x)):=by
 obtain⟨a1,a2,a3⟩:=IC c h;obtain⟨g1,g2,g3,g4⟩:=cu c.cb;obtain⟨n1,n2,n3⟩:=jZ c.ca;obtain⟨p1,p2,p3,p4⟩:=cZ (g:=b.g);have hm:=JX (l:=a.ins) (m:=b) (x:=x) (s1:=pa) (st:=pb) (s2:=[]) h.lx (qR c.ins n1) h.lb (f:=1+(aa a.ins:Int)+(aa a.lat:Int)) (by rw[h.la]);rw[zqp]at hm;have hm2:Maps (jb pa pb x) (jA a b).1 (to0 a.ins b (1+(aa a.ins:Int)+(aa a.lat:Int))) ([am]++xB a b x++pb):=hm.more (B:=(jA a b).1);have hw:((aa ([am]++xB a b x++pb):Nat):Int)=(aY b.g).first:=by have:=h.lb;show _=1+(aY b.g).ins+((aY b.g).next.length:Int);simp only[zqa,zrk,xB,zra];omega
 obtain⟨b0,b3,b4⟩:=zW (base:=jb pa pb x) (A:=(aY b.g).ands) (s:=((jA a b).1,to0 a.ins b (1+(aa a.ins:Int)+(aa a.lat:Int)))) a2 hm2 (U3 (jd g1) hw);have e:ww (aa (jb pa pb x)) ((jA a b).1,to0 a.ins b (1+(aa a.ins:Int)+(aa a.lat:Int))) (aY b.g).ands=jB a b:=by rw[uN h];rfl
 rw[e]at b0 b3 b4;rw[qQ];exact⟨b0,b3,b4⟩
theorem MR{a b:Mo}(c:CanOk a b){pa pb x:List Bool}(h:JIn a b pa pb x):∀i,i<=aa a.out ->
 (∃B,(jO a b i).1=(jB a b).1++B)/\OkA (aa (jb pa pb x)) (jO a b i).1/\(jO a b i).1.length<=(jB a b).1.length+3*i/\(jO a b i).2.length=i /\
  (∀o∈(jO a b i).2,0<=o/\o<2*((aa (jb pa pb x):Int)+(jO a b i).1.length)) /\
  (jO a b i).2.map (lv (vlA (jb pa pb x) (jO a b i).1))=(List.range i).map λj=>lv ((aY a.g).vals pa x) ((aY a.g).outs.getD j 0) != lv ((aY b.g).vals pb (xB a b x)) ((aY b.g).outs.getD (atI b.out (a.out.getD j [])) 0)
 |0,_=>⟨⟨[],(zqp _).symm⟩,(IE c h).2.1,zrb _,rfl,λo ho=>(by cases ho),rfl⟩
 |i+1,hi=>by
  obtain⟨⟨B,i1⟩,i2,i3,i4,i5,i6⟩:=MR c h i (by omega);obtain⟨a1,a2,a3⟩:=IC c h;obtain⟨⟨B2,b1,b1'⟩,b2,b3⟩:=IE c h;obtain⟨ga1,ga2,ga3,ga4⟩:=cu c.ca;obtain⟨gb1,gb2,gb3,gb4⟩:=cu c.cb;obtain⟨pa1,pa2,pa3,pa4⟩:=cZ (g:=a.g);obtain⟨pb1,pb2,pb3,pb4⟩:=cZ (g:=b.g);have rng:∀ {g:Gr},g.chk=0->∀ {st y:List Bool},aa st=aa g.next->(aa y:Int)=g.ins->∀k,0<=g.outs.getD k 0/\g.outs.getD k 0/2<(aa (g.vals st y):Int):=λ{g} hg {st y} h1 h2 k=>by
   obtain⟨_,i0,i1,i2,i3,i4,i5⟩:=aU hg;obtain⟨r1,r2,r3,r4⟩:=aJ i4;have hl:aa (g.vals st y)=1+aa y+aa st+aa g.ands:=iY (zrb _);have wf:g.first=1+g.ins+aa g.next:=rfl
   have wa:g.all=2*(g.first+aa g.ands):=rfl;rw[hl];by_cases hk:k<aa g.outs
   ·rw[aP hk];have:=r4 _ (zqu hk);omega
   ·rw[zqg,zsj (by omega)];exact⟨Int.le_refl _,by simp;omega⟩
  have ha:=h.la;have hb:=h.lb;have hx:=h.lx;have hci:=c.ins.1;obtain⟨o1,o2⟩:=rng (jd ga1) (st:=pa) (y:=x) (by omega) (by omega) i;obtain⟨q1,q2⟩:=rng (jd gb1) (st:=pb) (y:=xB a b x) (by omega) (by unfold xB;rw[zra];omega) (atI b.out (a.out.getD i []));obtain⟨e1,e2,e3⟩:=a3.lit o1 o2;obtain⟨f1,f2,f3⟩:=b3.lit q1 q2;have hpB:OkA (aa (jb pa pb x)) (jO a b i).1:=i2;have l1:(jA a b).1.length<=(jB a b).1.length:=by rw[b1,zqa];omega
  have l2:(jB a b).1.length<=(jO a b i).1.length:=by rw[i1,zqa];omega
  obtain ⟨⟨B3,x1⟩,x2,x3,o,x4,x5,x6,x7⟩ := TZ (base := jb pa pb x) ⟨x ++ (pa ++ pb),rfl⟩ (s := jO a b i) hpB
   (p:=mvX (jA a b).2 ((aY a.g).outs.getD i 0)) (q:=mvX (jB a b).2 ((aY b.g).outs.getD (atI b.out (a.out.getD i [])) 0)) ⟨e1,by omega⟩ ⟨f1,by omega⟩
  have e:Rk (aa (jb pa pb x)) (mvX (jA a b).2 ((aY a.g).outs.getD i 0)) (mvX (jB a b).2 ((aY b.g).outs.getD (atI b.out (a.out.getD i [])) 0)) (jO a b i)=jO a b (i+1):=by rw[uN h];rfl
  rw[e]at x1 x2 x3 x4 x6 x7;have l3:(jO a b i).1.length<=(jO a b (i+1)).1.length:=by rw[x1,zqa];omega
  refine⟨⟨B++B3,by rw[x1,i1,zqc]⟩,x2,by omega,by rw[x4,zqa,i4,zrk],λy hy=> ?_,?_⟩
  ·rw[x4]at hy;rcases zrf.1 hy with hy|hy
   ·have:=i5 y hy;omega
   ·rw[zrc.1 hy];exact⟨x5,x6⟩
  ·rw[x4,zql,List.range_succ,zql,<-i6]
   congr 1
   ·refine zsd λy hy=> ?_;have:=i5 y hy;rw[x1];exact lV this.1 (by omega)
   ·rw[List.map_singleton,List.map_singleton,x7];have m1:lv (vlA (jb pa pb x) (jO a b i).1) (mvX (jA a b).2 ((aY a.g).outs.getD i 0))=lv (vlA (jb pa pb x) (jA a b).1) (mvX (jA a b).2 ((aY a.g).outs.getD i 0)):=by
     rw[i1,b1,zqc];exact lV e1 (by omega)
    have m2:lv (vlA (jb pa pb x) (jO a b i).1) (mvX (jB a b).2 ((aY b.g).outs.getD (atI b.out (a.out.getD i [])) 0))=lv (vlA (jb pa pb x) (jB a b).1) (mvX (jB a b).2 ((aY b.g).outs.getD (atI b.out (a.out.getD i [])) 0)):=by rw[i1];exact lV f1 (by omega)
    rw[m1,m2,e3,f3]
structure JBig(a b:Mo):Prop where
 n:aa a.ins+(aa a.lat+aa b.lat)+aa a.g.ands+aa b.g.ands+3*aa a.out<=4000
theorem Gj(c:CanOk a b):(jO a b (aa a.out)).1.length<=aa a.g.ands+aa b.g.ands+3*aa a.out:=by
 have h:JIn a b (aD (aa a.lat) am) (aD (aa b.lat) am) (aD (aa a.ins) am):=⟨zsc,zsc,zsc⟩;obtain⟨a1,a2,a3⟩:=IC c h;obtain⟨⟨B2,b1,b1'⟩,b2,b3⟩:=IE c h;obtain⟨_,_,i3,_,_,_⟩:=MR c h (aa a.out) (zrb _);have k1:=nX (cu c.ca).1;have k2:=nX (cu c.cb).1;have:(jB a b).1.length=(jA a b).1.length+aa B2:=by rw[b1,zqa]
 omega
theorem qU(c:CanOk a b):(aF a b).first=jf a b:=by obtain⟨ga1,ga2,ga3,ga4⟩:=cu c.ca;obtain⟨gb1,gb2,gb3,gb4⟩:=cu c.cb;obtain⟨pa1,pa2,pa3,pa4⟩:=cZ (g:=a.g);obtain⟨pb1,pb2,pb3,pb4⟩:=cZ (g:=b.g);show 1+(aa a.ins:Int)+(aa ((aY a.g).next.map (mvX (jA a b).2)++(aY b.g).next.map (mvX (jB a b).2)):Int)=_;unfold jf;simp only[zqa,zra];omega
theorem Gl:(aF a b).vals (pa++pb) x=vlA (jb pa pb x) (jO a b (aa a.out)).1:=qQ
theorem Qp(c:CanOk a b){pa pb x:List Bool}(h:JIn a b pa pb x):nx (aF a b) (pa++pb) x=nx a.g pa x++nx b.g pb (xB a b x):=by
 obtain⟨a1,a2,a3⟩:=IC c h;obtain⟨⟨B2,b1,b1'⟩,b2,b3⟩:=IE c h;obtain⟨⟨B,i1⟩,i2,i3,i4,i5,i6⟩:=MR c h (aa a.out) (zrb _);obtain⟨ga1,ga2,ga3,ga4⟩:=cu c.ca;obtain⟨gb1,gb2,gb3,gb4⟩:=cu c.cb;obtain⟨pa1,pa2,pa3,pa4⟩:=cZ (g:=a.g);obtain⟨pb1,pb2,pb3,pb4⟩:=cZ (g:=b.g);have ha:=h.la;have hb:=h.lb;have hx:=h.lx;have hci:=c.ins.1;have hxb:aa (xB a b x)=aa b.ins:=by unfold xB;rw[zra]
 have l1:(jB a b).1.length=(jA a b).1.length+aa B2:=by rw[b1,zqa]
 have l2:(jO a b (aa a.out)).1.length=(jB a b).1.length+aa B:=by rw[i1,zqa]
 unfold nx;rw[Gl];show((aY a.g).next.map (mvX (jA a b).2)++(aY b.g).next.map (mvX (jB a b).2)).map _=_;rw[zql,List.map_map,List.map_map,<-(xW ga1 (st:=pa) (x:=x) (by omega) (by omega)).2,<-(xW gb1 (st:=pb) (x:=xB a b x) (by omega) (by omega)).2];have rng:∀ {g:Gr},g.chk=0->∀ {st y:List Bool},aa st=aa g.next->(aa y:Int)=g.ins->∀l∈g.next,0<=l/\l/2<(aa (g.vals st y):Int):=λ{g} hg {st y} h1 h2 l hl=>by
  obtain⟨_,i0,i1,i2,i3,i4,i5⟩:=aU hg;obtain⟨r1,r2,r3,r4⟩:=aJ i4;have hll:aa (g.vals st y)=1+aa y+aa st+aa g.ands:=iY (zrb _);have wf:g.first=1+g.ins+aa g.next:=rfl
  have wa:g.all=2*(g.first+aa g.ands):=rfl;have:=r3 l hl;omega
 congr 1
 ·refine zsd λl hl=> ?_;obtain⟨o1,o2⟩:=rng (jd ga1) (st:=pa) (y:=x) (by omega) (by omega) l hl;obtain⟨e1,e2,e3⟩:=a3.lit o1 o2;show lv (vlA _ _) (mvX _ l)=_;rw[<-e3,i1,b1,zqc];exact lV e1 (by omega)
 ·refine zsd λl hl=> ?_;obtain⟨o1,o2⟩:=rng (jd gb1) (st:=pb) (y:=xB a b x) (by omega) (by omega) l hl;obtain⟨e1,e2,e3⟩:=b3.lit o1 o2;show lv (vlA _ _) (mvX _ l)=_;rw[<-e3,i1];exact lV e1 (by omega)
variable{i:Nat}
theorem xY{α β:Type}{f:α->β}{l:List α}{d:α}{d':β}(h:i<aa l):(l.map f).getD i d'=f (l.getD i d):=by rw[zqg,zqo,zqk h,aP h];rfl
def oV(g:Gr)(st x:List Bool):List Bool:=g.outs.map (lv (g.vals st x))
theorem Gm(c:CanOk a b){pa pb x:List Bool}(h:JIn a b pa pb x):oV (aF a b) (pa++pb) x=(List.range (aa a.out)).map λj=>(oV a.g pa x).getD j am != (oV b.g pb (xB a b x)).getD (atI b.out (a.out.getD j [])) am:=by
 obtain⟨⟨B,i1⟩,i2,i3,i4,i5,i6⟩:=MR c h (aa a.out) (zrb _);obtain⟨ga1,ga2,ga3,ga4⟩:=cu c.ca;obtain⟨gb1,gb2,gb3,gb4⟩:=cu c.cb;obtain⟨pa1,pa2,pa3,pa4⟩:=cZ (g:=a.g);obtain⟨pb1,pb2,pb3,pb4⟩:=cZ (g:=b.g);have ha:=h.la;have hb:=h.lb;have hx:=h.lx;have hci:=c.ins.1;have hxb:aa (xB a b x)=aa b.ins:=by unfold xB;rw[zra]
 unfold oV;rw[Gl,<-(xW ga1 (st:=pa) (x:=x) (by omega) (by omega)).1,<-(xW gb1 (st:=pb) (x:=xB a b x) (by omega) (by omega)).1];show(jO a b (aa a.out)).2.map _=_;rw[i6];refine zsd λj hj=> ?_;have hj:=List.mem_range.1 hj;have hmem:a.out.getD j []∈a.out:=by rw[aP hj];exact zqu hj
 have hk:=JV (c.out.2 _ hmem);rw[xY (d:=0) (by omega),xY (d:=0) (by omega)]
theorem DU(c:CanOk a b)(big:JBig a b):(aF a b).chk=0:=by
 have h:JIn a b (aD (aa a.lat) am) (aD (aa b.lat) am) (aD (aa a.ins) am):=⟨zsc,zsc,zsc⟩;obtain⟨a1,a2,a3⟩:=IC c h;obtain⟨⟨B2,b1,b1'⟩,b2,b3⟩:=IE c h;obtain⟨⟨B,i1⟩,i2,i3,i4,i5,i6⟩:=MR c h (aa a.out) (zrb _);have hjl:=uN h;have hla:=Gj c;have hfe:=qU c;have hbn:=big.n;obtain⟨ga1,ga2,ga3,ga4⟩:=cu c.ca;obtain⟨gb1,gb2,gb3,gb4⟩:=cu c.cb;obtain⟨pa1,pa2,pa3,pa4⟩:=cZ (g:=a.g);obtain⟨pb1,pb2,pb3,pb4⟩:=cZ (g:=b.g);obtain⟨_,ra0,ra1,ra2,ra3,ra4,ra5⟩:=aU ga1;obtain⟨_,rb0,rb1,rb2,rb3,rb4,rb5⟩:=aU gb1;obtain⟨ta1,ta2,ta3,ta4⟩:=aJ ra4;obtain⟨tb1,tb2,tb3,tb4⟩:=aJ rb4;have l1:(jB a b).1.length=(jA a b).1.length+aa B2:=by rw[b1,zqa]
 have l2:(jO a b (aa a.out)).1.length=(jB a b).1.length+aa B:=by rw[i1,zqa]
 have ae:(aF a b).all=2*(jf a b+((jO a b (aa a.out)).1.length:Int)):=by unfold Gr.all;rw[hfe];rfl
 have nl:(aF a b).next.length=aa a.lat+aa b.lat:=by show aa ((aY a.g).next.map (mvX (jA a b).2)++(aY b.g).next.map (mvX (jB a b).2))=_;rw[zqa,zra,zra];omega
 have rng:∀ {g:Gr},g.chk=0->∀ {st y:List Bool},aa st=aa g.next->(aa y:Int)=g.ins->∀l∈g.next,0<=l/\l/2<(aa (g.vals st y):Int):=λ{g} hg {st y} h1 h2 l hl=>by
  obtain⟨_,i0,i1,i2,i3,i4,i5⟩:=aU hg;obtain⟨r1,r2,r3,r4⟩:=aJ i4;have hll:aa (g.vals st y)=1+aa y+aa st+aa g.ands:=iY (zrb _);have wf:g.first=1+g.ins+aa g.next:=rfl
  have wa:g.all=2*(g.first+aa g.ands):=rfl;have:=r3 l hl;omega
 have l1':(aF a b).lim=am:=by show(aM ((aa a.ins:Int)<0)||aM (4000<(aa a.ins:Int))||aM (4000<(aa a.ins:Int)+((aF a b).next.length:Int)+((jO a b (aa a.out)).1.length:Int))||aM (4000<((jO a b (aa a.out)).2.length:Int)))=am;simp only[nl,i4,zsf,zqd];omega
 have l2':(aF a b).oddR=am:=by
  simp only[Gr.oddR,ae,zsf,bne_eq_false_iff_eq,List.any_eq_false,xx,xN,Bool.not_eq_true,zqd];refine⟨⟨⟨?_,λy hy=> ?_⟩,λy hy=> ?_⟩,λy hy=> ?_⟩
  ·rw[nl];show(mN a b (aa a.lat)).b.length=_;rw[Gg];omega
  ·have:=JW ta2 tb2 (aa a.lat) y hy;omega
  ·have hy:y∈(aY a.g).next.map (mvX (jA a b).2)++(aY b.g).next.map (mvX (jB a b).2):=hy
   rcases zrf.1 hy with hy|hy
   ·obtain⟨l,hl,rfl⟩:=zrh.1 hy;obtain⟨o1,o2⟩:=rng (jd ga1) (st:=aD (aa a.lat) am) (y:=aD (aa a.ins) am) (by simp;omega) (by simp;omega) l hl;have:=a3.lit o1 o2;omega
   ·obtain⟨l,hl,rfl⟩:=zrh.1 hy;have hxb:aa (xB a b (aD (aa a.ins) am))=aa b.ins:=by unfold xB;rw[zra]
    obtain⟨o1,o2⟩:=rng (jd gb1) (st:=aD (aa b.lat) am) (y:=xB a b (aD (aa a.ins) am)) (by simp;omega) (by omega) l hl;have:=b3.lit o1 o2;omega
  ·have:=i5 y hy;omega
 have l3':(aF a b).oddAs (aF a b).ands.length=am:=by
  unfold Gr.oddAs;rw[List.any_eq_false];intro k hk;have hk:k<(jO a b (aa a.out)).1.length:=by simpa [aF]using hk
  rw[hfe];show ¬Ny (2*(jf a b+k)) ((jO a b (aa a.out)).1.getD k (0,0))=ab;rw[aP hk];have:=i2 k hk;simp only[Ny,Bool.or_eq_true,zqb];omega
 unfold Gr.chk;rw[l1',l2',l3'];rfl
theorem jU:∀ {b:Cl} {st:List Bool},stM b st↔aa b=aa st/\∀i,i<aa b->b.getD i 0=2\/st.getD i am=aM (b.getD i 0=1)
 |[],[]=>by simp[stM]
 |[],_::_=>by simp[stM]
 |_::_,[]=>by simp[stM]
 |b::l,s::st=>by
  rw[stM,jU (b:=l) (st:=st),zrt,zrt];constructor
  ·rintro⟨h1,h2,h3⟩;refine⟨by omega,λi hi=> ?_⟩;cases i with
   |zero=>simpa using h1
   |succ i=>simpa using h3 i (by omega)
  ·rintro⟨h1,h2⟩;exact⟨by simpa using h2 0 (by omega),by omega,λi hi=>by simpa using h2 (i+1) (by omega)⟩
theorem JY{α:Type}{l:List α}{j:Nat}{v d:α}:(l.set i v).getD j d=if i=j/\i<aa l then v else l.getD j d:=by
 rw[zqg,zqg];by_cases h:i=j
 ·subst h;by_cases hl:i<aa l
  ·rw[zqt hl,if_pos ⟨rfl,hl⟩];rfl
  ·rw[zsj (by simp;omega),zsj (by omega),if_neg (by omega)]
 ·rw[zqn h,if_neg (λe=>h e.1)]
theorem Wp{x y:Cl}{p q:List Bool}(h:aa x=aa p):stM (x++y) (p++q)↔stM x p/\stM y q:=by
 rw[jU,jU,jU,zqa,zqa];have e1:∀i,i<aa x->(x++y).getD i 0=x.getD i 0/\(p++q).getD i am=p.getD i am:=λi hi=>by
  simp only[zqg];rw[zqj hi,zqj (by omega)];exact⟨rfl,rfl⟩
 have e2:∀i,(x++y).getD (aa x+i) 0=y.getD i 0/\(p++q).getD (aa x+i) am=q.getD i am:=λi=>by simp only[zqg];rw[zsb (Nat.le_add_right _ _),zsb (by omega),Nat.add_sub_cancel_left,show aa x+i-aa p=i by omega];exact⟨rfl,rfl⟩
 constructor
 ·rintro⟨h1,h2⟩;refine⟨⟨h,λi hi=> ?_⟩,by omega,λi hi=> ?_⟩
  ·have:=h2 i (by omega)
   rwa [(e1 i hi).1,(e1 i hi).2]at this
  ·have:=h2 (aa x+i) (by omega)
   rwa [(e2 i).1,(e2 i).2]at this
 ·rintro⟨⟨h1,h2⟩,h3,h4⟩;refine⟨by omega,λi hi=> ?_⟩;by_cases hl:i<aa x
  ·rw[(e1 i hl).1,(e1 i hl).2];exact h2 i hl
  ·obtain⟨j,rfl⟩:∃j,i=aa x+j:=⟨i-aa x,by omega⟩;rw[(e2 j).1,(e2 j).2];exact h4 j (by omega)
def MV(a b:Mo)(pa pb:List Bool):Prop:=∀i k,i<aa a.lat->at? b.lat (a.lat.getD i [])=ar k->pa.getD i am=pb.getD k am
def rH(a b:Mo)(pa pb:List Bool):Prop:=stM a.g.init pa/\stM b.g.init pb/\MV a b pa pb
theorem JZ{l:Cl}{v:Int}(h2:l.getD i 0=2)(h:stM (l.set i v) st):stM l st:=by
 rw[jU,zrn]at h;rw[jU];refine⟨h.1,λj hj=> ?_⟩;by_cases e:i=j
 ·subst e;exact .inl h2
 ·have:=h.2 j hj
  rwa [JY,if_neg (λx=>e x.1)]at this
theorem U4{l:Cl}{v:Int}(hv:v=2\/st.getD i am=aM (v=1))(h:stM l st):stM (l.set i v) st:=by
 rw[jU]at h;rw[jU,zrn];refine⟨h.1,λj hj=> ?_⟩;rw[JY];split
 ·rename_i e;rw[<-e.1];exact hv
 ·exact h.2 j hj
theorem Qq{a b:Mo}{st:List Bool}:∀i,stM (mN a b i).b st->stM (a.g.init++b.g.init) st
 |0,h=>h
 |i+1,h=>by
  refine Qq i ?_;have h:stM (l7 (aa a.ins) (aa a.lat) b.lat (mN a b i) i (a.lat.getD i [])).b st:=h;unfold l7 at h;split at h
  ·exact h
  ·dsimp only at h;split at h
   ·rename_i h2;exact JZ h2 h
   ·split at h
    ·rename_i h2;exact JZ h2 h
    ·exact h
theorem X9{a b:Mo}{st:List Bool}(hr:∀x∈a.g.init++b.g.init,0<=x/\x<=2)(hla:aa a.lat=aa a.g.init)(hlb:aa b.lat=aa b.g.init)(h0:stM (a.g.init++b.g.init) st)
 (he:∀i k,i<aa a.lat->at? b.lat (a.lat.getD i [])=ar k->st.getD i am=st.getD (aa a.lat+k) am):∀i,i<=aa a.lat->stM (mN a b i).b st/\(mN a b i).ok=ab
 |0,_=>⟨h0,rfl⟩
 |i+1,hi=>by
  obtain⟨h1,h2⟩:=X9 hr hla hlb h0 he i (by omega);have hl:=Gg (a:=a) (b:=b) i;have hg:=xX (JW (a:=a) (b:=b) (λx hx=>hr x (zrf.2 (.inl hx))) (λx hx=>hr x (zrf.2 (.inr hx))) i);show stM (l7 (aa a.ins) (aa a.lat) b.lat (mN a b i) i (a.lat.getD i [])).b st/\(l7 (aa a.ins) (aa a.lat) b.lat (mN a b i) i (a.lat.getD i [])).ok=ab;unfold l7;split
  ·exact⟨h1,h2⟩
  ·rename_i k hk;have e:=he i k (by omega) hk;obtain⟨hkl,_⟩:=kD hk;have c1:=(jU.1 h1).2 i (by omega);have c2:=(jU.1 h1).2 (aa a.lat+k) (by omega);have g1:=hg i;have g2:=hg (aa a.lat+k);rw[h2];dsimp only;generalize (mN a b i).b=l at h1 c1 c2 g1 g2 ⊢;constructor
   ·split
    ·exact U4 (by rw[e];exact c2) h1
    ·split
     ·exact U4 (by rw[<-e];exact c1) h1
     ·exact h1
   ·rw[e]at c1;generalize l.getD i 0=x at c1 g1 ⊢;generalize l.getD (aa a.lat+k) 0=y at c2 g2 ⊢;generalize st.getD (aa a.lat+k) am=v at c1 c2;rcases c1 with rfl|c1
    ·rfl
    rcases c2 with rfl|c2
    ·simp
    ·rw[c1]at c2;have:x=0\/x=1\/x=2:=by omega
     have:y=0\/y=1\/y=2:=by omega
     rcases ‹x=0\/x=1\/x=2› with rfl|rfl|rfl<;>rcases ‹y=0\/y=1\/y=2› with rfl|rfl|rfl<;>first|rfl|(revert c2;decide)
theorem J3{a b:Mo}:∀i p,p∈(mN a b i).p↔∃j k,j<i/\at? b.lat (a.lat.getD j [])=ar k/\p=(1+(aa a.ins:Int)+(j:Int),1+(aa a.ins:Int)+(aa a.lat:Int)+(k:Int))
 |0,p=>⟨λh=>(by cases h),λ⟨j,k,h,_⟩=>absurd h (Nat.not_lt_zero _)⟩
 |i+1,p=>by
  have ih:=J3 (a:=a) (b:=b) i p;show p∈(l7 (aa a.ins) (aa a.lat) b.lat (mN a b i) i (a.lat.getD i [])).p↔_;unfold l7;split
  ·rename_i hn;rw[ih];constructor
   ·rintro⟨j,k,h1,h2,h3⟩;exact⟨j,k,by omega,h2,h3⟩
   ·rintro⟨j,k,h1,h2,h3⟩;by_cases e:j=i
    ·subst e;rw[hn]at h2;cases h2
    ·exact⟨j,k,by omega,h2,h3⟩
  ·rename_i k0 hk;dsimp only;rw[zrf,ih,zrc];constructor
   ·rintro(⟨j,k,h1,h2,h3⟩|h)
    ·exact⟨j,k,by omega,h2,h3⟩
    ·exact⟨i,k0,by omega,hk,h⟩
   ·rintro⟨j,k,h1,h2,h3⟩;by_cases e:j=i
    ·subst e;rw[hk]at h2;cases h2;exact .inr h3
    ·exact .inl ⟨j,k,by omega,h2,h3⟩
theorem zY(c:CanOk a b){pa pb:List Bool}(ha:aa pa=aa a.lat)(hb:aa pb=aa b.lat) :
 (rH a b pa pb->(mV a b).ok=ab/\stM (mV a b).b (pa++pb))/\(stM (mV a b).b (pa++pb)->MV a b pa pb->rH a b pa pb):=by
 obtain⟨ga1,ga2,ga3,ga4⟩:=cu c.ca;obtain⟨gb1,gb2,gb3,gb4⟩:=cu c.cb;obtain⟨_,ra0,ra1,ra2,ra3,ra4,ra5⟩:=aU ga1;obtain⟨_,rb0,rb1,rb2,rb3,rb4,rb5⟩:=aU gb1;obtain⟨ta1,ta2,ta3,ta4⟩:=aJ ra4;obtain⟨tb1,tb2,tb3,tb4⟩:=aJ rb4;have happ:stM (a.g.init++b.g.init) (pa++pb)↔stM a.g.init pa/\stM b.g.init pb:=Wp (by omega);constructor
 ·rintro⟨h1,h2,h3⟩;have:=X9 (a:=a) (b:=b) (st:=pa++pb) (λx hx=>(zrf.1 hx).elim (ta2 x) (tb2 x)) (by omega) (by omega) (happ.2 ⟨h1,h2⟩) (λi k hi hk=>by
   have:=h3 i k hi hk;simp only[zqg]at this ⊢;rw[zqj (by omega),zsb (by omega),show aa a.lat+k-aa pa=k by omega];exact this) (aa a.lat) (zrb _)
  exact⟨this.2,this.1⟩
 ·intro h1 h2;have:=happ.1 (Qq _ h1);exact⟨this.1,this.2,h2⟩
variable{g:Gr}
theorem Qr:aa (nx g st x)=aa g.next:=by unfold nx;rw[zra]
theorem Ya:aa (xB a b x)=aa b.ins:=by unfold xB;rw[zra]
theorem Gn{a b:Mo}(c:CanOk a b):∀ {seq:List (List Bool)} {pa pb:List Bool},aa pa=aa a.lat->aa pb=aa b.lat->(∀x∈seq,aa x=aa a.ins) ->
 qm (aF a b) (pa++pb) seq=qm a.g pa seq++qm b.g pb (seq.map (xB a b))/\aa (qm a.g pa seq)=aa a.lat/\aa (qm b.g pb (seq.map (xB a b)))=aa b.lat
 |[],pa,pb,ha,hb,_=>⟨rfl,ha,hb⟩
 |x::seq,pa,pb,ha,hb,hx=>by obtain⟨ga1,ga2,ga3,ga4⟩:=cu c.ca;obtain⟨gb1,gb2,gb3,gb4⟩:=cu c.cb;have h:=Qp c ⟨ha,hb,hx x (by simp)⟩;have ih:=Gn c (seq:=seq) (pa:=nx a.g pa x) (pb:=nx b.g pb (xB a b x)) (by rw[Qr];omega) (by rw[Qr];omega) (λy hy=>hx y (by simp[hy]));show qm (aF a b) (nx (aF a b) (pa++pb) x) seq=qm a.g (nx a.g pa x) seq++qm b.g (nx b.g pb (xB a b x)) (seq.map (xB a b))/\_;rw[h];exact ih
theorem J4{g:Gr}:∀ {seq:List (List Bool)} {st:List Bool} {t:Nat},t<aa seq->(TM g st seq).getD t []=g.vals (qm g st (seq.take t)) (seq.getD t [])
 |[],st,t,h=>absurd h (Nat.not_lt_zero _)
 |x::seq,st,0,_=>rfl
 |x::seq,st,t+1,h=>by show(TM g (nx g st x) seq).getD t []=g.vals (qm g (nx g st x) (seq.take t)) (seq.getD t []);exact J4 (by simpa using h)
def wz(g:Gr)(st:List Bool)(seq:List (List Bool)):List Bool:=oV g (qm g st (seq.take (aa seq-1))) (seq.getD (aa seq-1) [])
variable{seq:List (List Bool)}
theorem Gp:aa (wz g st seq)=aa g.outs:=by unfold wz oV;rw[zra]
theorem MW(c:CanOk a b){seq:List (List Bool)}{pa pb:List Bool}(ha:aa pa=aa a.lat)(hb:aa pb=aa b.lat)(hx:∀x∈seq,aa x=aa a.ins)(h0:0<aa seq) :
 wz (aF a b) (pa++pb) seq=(List.range (aa a.out)).map λj=>(wz a.g pa seq).getD j am != (wz b.g pb (seq.map (xB a b))).getD (atI b.out (a.out.getD j [])) am:=by
 obtain⟨h1,h2,h3⟩:=Gn c (seq:=seq.take (aa seq-1)) ha hb (λx h=>hx x (zsh h));have hl:aa seq-1<aa seq:=by omega
 have hg:seq.getD (aa seq-1) []∈seq:=by rw[aP hl];exact zqu hl
 have:=Gm c (pa:=qm a.g pa (seq.take (aa seq-1))) (pb:=qm b.g pb ((seq.take (aa seq-1)).map (xB a b))) (x:=seq.getD (aa seq-1) []) ⟨h2,h3,hx _ hg⟩;unfold wz;rw[h1,this,zra,<-List.map_take,xY (d:=[]) hl]
variable{k:Nat}
theorem zZ{b:Cl}:aa (iy g b k)=k+1:=by unfold iy;rw[zqa,oW];rfl
theorem Qs{b:Cl}{t:Nat}(h:t<k):(iy g b k).getD t []=(cO g b k).rows.getD t []:=by unfold iy;rw[zqg,zqj (by rw[oW];exact h),<-zqg]
abbrev rwH(g:Gr)(b:Cl)(k:Nat)(vs:List Bool)(t:Nat):List Bool:=((cO g b k).rows.getD t []).map (hol vs)
theorem qB(hg:g.chk=0){b:Cl}(hb:aa b=aa g.next)(hb2:∀x∈b,0<=x/\x<=2){k t:Nat}(ht:t<k){a:Int}(h0:0<=a)(h1:a<g.all) :
 inU (cO g b k).n (lY (iy g b k) t a)/\∀vs,hol vs (lY (iy g b k) t a)=lv (rwH g b k vs t) a:=by
 have ok:=wW hg hb hb2 k;obtain⟨_,i0,i1,i2,i3,i4,i5⟩:=aU hg;have wf:g.first=1+g.ins+aa g.next:=rfl
 have wa:g.all=2*(g.first+aa g.ands):=rfl;have wv:TN g=1+g.ins.toNat+aa g.next+aa g.ands:=rfl
 have htl:t<(cO g b k).rows.length:=by rw[oW];exact ht
 have hm:(cO g b k).rows.getD t []∈(cO g b k).rows:=by rw[aP htl];exact zqu htl
 obtain⟨r1,r2⟩:=ok.r _ hm;unfold lY;rw[zsg,Qs ht,zZ];have hal:a/2<(aa ((cO g b k).rows.getD t []):Int):=by omega
 rw[if_neg (by omega)];exact⟨ql r1 h0 hal,λvs=>uB r1 h0 hal⟩
def Gq(R:List Cl)(p:Pq):List Cl:=[[lY R 0 (2*p.1),-lY R 0 (2*p.2)],[-lY R 0 (2*p.1),lY R 0 (2*p.2)]]
def A7(g:Gr)(beg:Cl)(pr:List Pq)(k:Nat):List Cl:=((cO g beg k).cl++pr.flatMap (Gq (iy g beg k)))++[g.outs.map λa=>lY (iy g beg k) ((k:Int)-1) a]
variable{vs:List Bool}
theorem DV{a b:List Cl}:sat (a++b) vs=(sat a vs&&sat b vs):=by unfold sat;rw[List.all_append]
theorem Ua{x y:Int}(hx:x≠0)(hy:y≠0){vs:List Bool}:sat [[x,-y],[-x,y]] vs=ab↔hol vs x=hol vs y:=by unfold sat;simp only[List.all_cons,List.all_nil,List.any_cons,List.any_nil,jQ hx,jQ hy];cases hol vs x<;>cases hol vs y<;>decide
theorem J5{α:Type}{f:α->List Cl}{vs:List Bool}:∀ {l:List α},sat (l.flatMap f) vs=ab↔∀x∈l,sat (f x) vs=ab
 |[]=>by simp[sat]
 |a::l=>by rw[List.flatMap_cons,DV,zqf,J5 (l:=l)];simp
theorem Qu(hg:g.chk=0){b:Cl}(hb:aa b=aa g.next)(hb2:∀x∈b,0<=x/\x<=2){pr:List Pq}(hp:∀p∈pr,(0<=2*p.1/\2*p.1<g.all)/\0<=2*p.2/\2*p.2<g.all){k:Nat}(hk:0<k){vs:List Bool} :
 sat (A7 g b pr k) vs=ab↔sat (cO g b k).cl vs=ab/\(∀p∈pr,lv (rwH g b k vs 0) (2*p.1)=lv (rwH g b k vs 0) (2*p.2))/\∃a∈g.outs,lv (rwH g b k vs (k-1)) a=ab:=by
 obtain⟨_,i0,i1,i2,i3,i4,i5⟩:=aU hg;obtain⟨r1,r2,r3,r4⟩:=aJ i4;unfold A7;rw[DV,DV,zqf,zqf,and_assoc,J5];refine and_congr_right λ_=>and_congr ?_ ?_
 ·refine forall_congr' λp=>forall_congr' λhp1=> ?_;obtain⟨h1,h2⟩:=hp p hp1;obtain⟨a1,a2⟩:=qB hg hb hb2 (t:=0) hk h1.1 h1.2;obtain⟨b1,b2⟩:=qB hg hb hb2 (t:=0) hk h2.1 h2.2;unfold Gq;rw[show((0:Nat):Int)=0 from rfl]at a1 a2 b1 b2;rw[Ua a1.1 b1.1,a2,b2]
 ·show sat [_] vs=ab↔_;unfold sat;rw[List.all_cons,List.all_nil,Bool.and_true,List.any_map,List.any_eq_true];refine exists_congr λa=>and_congr_right λha=> ?_;have hr:=r4 a ha;have:=(qB hg hb hb2 (k:=k) (t:=k-1) (by omega) hr.1 hr.2).2 vs;rw[show((k-1:Nat):Int)=(k:Int)-1 by omega]at this;show hol vs (lY _ _ _)=ab↔_;rw[this]
def Eb(R:List Cl)(f:Int)(n:Nat)(vs:List Bool):List Bool:=(List.range n).map λi:Nat=>hol vs (lY R 0 (2*(f+(i:Int))))
def Qv(R:List Cl)(ni k:Nat)(vs:List Bool):List (List Bool):=(List.range k).map λt:Nat=>(List.range ni).map λi:Nat=>hol vs (lY R t (2*(1+(i:Int))))
theorem J6{v:List Bool}{f:Int}(hf:0<=f):lv v (2*(f+(i:Int)))=v.getD (f.toNat+i) am:=by rw[show 2*(f+(i:Int))=2*((f.toNat+i:Nat):Int) by omega,zT]
theorem xZ(h:i<1+aa x+aa st):(g.vals st x).getD i am=([am]++x++st).getD i am:=by rw[qQ];have:=zS (base:=[am]++x++st) (A:=[]) (B:=g.ands) (k:=i) (by simp;omega);rw[List.nil_append]at this;exact this
structure Runs(a b:Mo)(k:Nat)(pa pb:List Bool)(seq:List (List Bool)):Prop where
 la:aa pa=aa a.lat
 lb:aa pb=aa b.lat
 lk:aa seq=k
 lx:∀x∈seq,aa x=aa a.ins
theorem Qw(c:CanOk a b)(big:JBig a b):∀p∈(mV a b).p,(0<=2*p.1/\2*p.1<(aF a b).all)/\0<=2*p.2/\2*p.2<(aF a b).all:=λp hp=>by obtain⟨j,k,h1,h2,rfl⟩:=(J3 _ _).1 hp;obtain⟨h3,_⟩:=kD h2;have wa:(aF a b).all=2*((aF a b).first+(aF a b).ands.length):=rfl;rw[wa,qU c];unfold jf;dsimp only;omega
theorem qV(c:CanOk a b):(mV a b).b.length=(aF a b).next.length/\(∀x∈(mV a b).b,0<=x/\x<=2)/\(aF a b).next.length=aa a.lat+aa b.lat:=by
 obtain⟨ga1,ga2,ga3,ga4⟩:=cu c.ca;obtain⟨gb1,gb2,gb3,gb4⟩:=cu c.cb;obtain⟨pa1,pa2,pa3,pa4⟩:=cZ (g:=a.g);obtain⟨pb1,pb2,pb3,pb4⟩:=cZ (g:=b.g);obtain⟨_,ra0,ra1,ra2,ra3,ra4,ra5⟩:=aU ga1;obtain⟨_,rb0,rb1,rb2,rb3,rb4,rb5⟩:=aU gb1;obtain⟨ta1,ta2,ta3,ta4⟩:=aJ ra4;obtain⟨tb1,tb2,tb3,tb4⟩:=aJ rb4;have nl:(aF a b).next.length=aa a.lat+aa b.lat:=by show aa ((aY a.g).next.map (mvX (jA a b).2)++(aY b.g).next.map (mvX (jB a b).2))=_;rw[zqa,zra,zra];omega
 refine⟨?_,JW ta2 tb2 _,nl⟩;show(mN a b (aa a.lat)).b.length=_;rw[Gg];omega
theorem Qx{b:Cl}(h:(cO g b k).rows.map (λr=>r.map (hol vs))=TM g st seq){t:Nat}(ht:t<k)(hs:aa seq=k):rwH g b k vs t=g.vals (qm g st (seq.take t)) (seq.getD t []):=by rw[<-J4 (by omega),<-h];unfold rwH;rw[xY (d:=[]) (by rw[oW];exact ht)]
theorem U5(c:CanOk a b){g:Gr}{pa pb x:List Bool}(ha:aa pa=aa a.lat)(hb:aa pb=aa b.lat)(hx:aa x=aa a.ins) :
 (∀p∈(mV a b).p,lv (g.vals (pa++pb) x) (2*p.1)=lv (g.vals (pa++pb) x) (2*p.2))↔MV a b pa pb:=by
 have key:∀j k,j<aa a.lat->k<aa b.lat->(lv (g.vals (pa++pb) x) (2*(1+(aa a.ins:Int)+(j:Int)))=lv (g.vals (pa++pb) x) (2*(1+(aa a.ins:Int)+(aa a.lat:Int)+(k:Int)))↔pa.getD j am=pb.getD k am):=λj k hj hk=>by
  rw[J6 (by omega),J6 (by omega),xZ (by simp;omega),xZ (by simp;omega)];rw[show(1+(aa a.ins:Int)).toNat+j=(aa x+j)+1 by omega,show(1+(aa a.ins:Int)+(aa a.lat:Int)).toNat+k=(aa x+(aa pa+k))+1 by omega];have e1:([am]++x++(pa++pb)).getD ((aa x+j)+1) am=pa.getD j am:=by
   show(am::(x++(pa++pb))).getD _ am=_;rw[List.getD_cons_succ,zqg,zsb (by omega),Nat.add_sub_cancel_left,zqj (by omega),<-zqg]
  have e2:([am]++x++(pa++pb)).getD ((aa x+(aa pa+k))+1) am=pb.getD k am:=by show(am::(x++(pa++pb))).getD _ am=_;rw[List.getD_cons_succ,zqg,zsb (by omega),Nat.add_sub_cancel_left,zsb (by omega),Nat.add_sub_cancel_left,<-zqg]
  rw[e1,e2]
 constructor
 ·intro h i k hi hk;exact(key i k hi (kD hk).1).1 (h _ ((J3 _ _).2 ⟨i,k,hi,hk,rfl⟩))
 ·intro h p hp;obtain⟨j,k,h1,h2,rfl⟩:=(J3 _ _).1 hp;exact(key j k h1 (kD h2).1).2 (h j k h1 h2)
theorem Gs(c:CanOk a b)(big:JBig a b){k:Nat}(hk:0<k){vs:List Bool}(h:sat (A7 (aF a b) (mV a b).b (mV a b).p k) vs=ab) :
 ∃pa pb seq,Runs a b k pa pb seq/\rH a b pa pb/\Eb (iy (aF a b) (mV a b).b k) (1+(aa a.ins:Int)) (aa a.lat) vs=pa/\Eb (iy (aF a b) (mV a b).b k) (1+(aa a.ins:Int)+(aa a.lat:Int)) (aa b.lat) vs=pb /\
  Qv (iy (aF a b) (mV a b).b k) (aa a.ins) k vs=seq/\(∀l∈(aF a b).outs,hol vs (lY (iy (aF a b) (mV a b).b k) ((k:Int)-1) l)=lv ((aF a b).vals (qm (aF a b) (pa++pb) (seq.take (k-1))) (seq.getD (k-1) [])) l) /\
  ∃l∈(aF a b).outs,lv ((aF a b).vals (qm (aF a b) (pa++pb) (seq.take (k-1))) (seq.getD (k-1) [])) l=ab:=by
 obtain⟨b1,b2,b3⟩:=qV c;have hg:=DU c big;have hf:=qU c;obtain⟨_,i0,i1,i2,i3,i4,i5⟩:=aU hg;obtain⟨r1,r2,r3,r4⟩:=aJ i4;obtain⟨s1,s2,s3⟩:=(Qu hg b1 b2 (Qw c big) hk).1 h;obtain⟨o1,o2,o3⟩:=FX hg b1 b2 k s1;have ok:=wW hg b1 b2 k;obtain⟨st,hst⟩:∃st,st=(vT (mV a b).b).2.map (hol vs):=⟨_,rfl⟩;obtain⟨seq,hseq⟩:∃seq,seq=UW (aF a b) vs (cO (aF a b) (mV a b).b k).rows:=⟨_,rfl⟩;rw[<-hst,<-hseq]at o2 o3;have hm:stM (mV a b).b st:=by have:=FW o1 (mV a b).b (1,[]) [] b2 trivial;rw[hst];exact this
 have hsl:aa st=aa a.lat+aa b.lat:=by rw[<-(jU.1 hm).1,b1,b3]
 have hki:(aF a b).ins.toNat=aa a.ins:=zsg _;have hql:aa seq=k:=by rw[hseq];unfold UW;rw[zra,oW]
 have hqx:∀x∈seq,aa x=aa a.ins:=λx hx=>by
  rw[hseq]at hx;obtain⟨r,hr,rfl⟩:=zrh.1 hx;have:=(ok.r r hr).2;have wv:TN (aF a b)=1+(aF a b).ins.toNat+(aF a b).next.length+(aF a b).ands.length:=rfl
  simp only[zrl,List.length_drop,zra,hki];omega
 have hrow:∀t,t<k->rwH (aF a b) (mV a b).b k vs t=(aF a b).vals (qm (aF a b) st (seq.take t)) (seq.getD t []):=λt ht=>Qx o2 ht hql;have hsplit:st=st.take (aa a.lat)++st.drop (aa a.lat):=(List.take_append_drop _ _).symm;have hla:aa (st.take (aa a.lat))=aa a.lat:=by rw[zrl];omega
 have hlb:aa (st.drop (aa a.lat))=aa b.lat:=by rw[List.length_drop];omega
 obtain⟨pa,hpa⟩:∃pa,pa=st.take (aa a.lat):=⟨_,rfl⟩;obtain⟨pb,hpb⟩:∃pb,pb=st.drop (aa a.lat):=⟨_,rfl⟩;rw[<-hpa]at hla hsplit;rw[<-hpb]at hlb hsplit;have hx0:aa (seq.getD 0 [])=aa a.ins:=hqx _ (by rw[aP (by omega)];exact zqu _);have hr0:rwH (aF a b) (mV a b).b k vs 0=(aF a b).vals (pa++pb) (seq.getD 0 []):=by rw[hrow 0 hk,<-hsplit];rfl
 rw[hr0]at s2;have hpo:=(U5 c hla hlb hx0).1 s2;have hlit:∀(f:Int)(i:Nat),0<=f->f+(i:Int)<(aF a b).first->hol vs (lY (iy (aF a b) (mV a b).b k) 0 (2*(f+(i:Int))))=([am]++seq.getD 0 []++(pa++pb)).getD (f.toNat+i) am:=λf i h0 h1=>by
  have wa:(aF a b).all=2*((aF a b).first+(aF a b).ands.length):=rfl;have:=(qB hg b1 b2 (t:=0) hk (a:=2*(f+(i:Int))) (by omega) (by omega)).2 vs;rw[show((0:Nat):Int)=0 from rfl]at this;rw[this,hr0,J6 h0,xZ];have:jf a b=1+(aa a.ins:Int)+((aa a.lat:Int)+(aa b.lat:Int)):=rfl;rw[zqa];omega
 refine⟨pa,pb,seq,⟨hla,hlb,hql,hqx⟩,(zY c hla hlb).2 (by rw[<-hsplit];exact hm) hpo,?_,?_,?_,?_,?_⟩
 ·unfold Eb;refine List.ext_getElem (by simp[hla]) λi h1 h2=> ?_;simp only[List.getElem_map,List.getElem_range];rw[hlit _ _ (by omega) (by rw[hf];unfold jf;omega),show(1+(aa a.ins:Int)).toNat+i=(aa (seq.getD 0 [])+i)+1 by omega];show(am::(seq.getD 0 []++(pa++pb))).getD _ am=_;rw[List.getD_cons_succ,zqg,zsb (by omega),Nat.add_sub_cancel_left,zqj h2,zqk h2];rfl
 ·unfold Eb;refine List.ext_getElem (by simp[hlb]) λi h1 h2=> ?_;simp only[List.getElem_map,List.getElem_range];rw[hlit _ _ (by omega) (by rw[hf];unfold jf;omega),show(1+(aa a.ins:Int)+(aa a.lat:Int)).toNat+i=(aa (seq.getD 0 [])+(aa pa+i))+1 by omega];show(am::(seq.getD 0 []++(pa++pb))).getD _ am=_;rw[List.getD_cons_succ,zqg,zsb (by omega),Nat.add_sub_cancel_left,zsb (by omega),Nat.add_sub_cancel_left,zqk h2];rfl
 ·unfold Qv;refine List.ext_getElem (by simp[hql]) λt h1 h2=> ?_;simp only[List.getElem_map,List.getElem_range];have hx:=hqx _ (zqu h2);refine List.ext_getElem (by simp[hx]) λi h3 h4=> ?_;simp only[List.getElem_map,List.getElem_range];have wa:(aF a b).all=2*((aF a b).first+(aF a b).ands.length):=rfl;have hjf:jf a b=1+(aa a.ins:Int)+((aa a.lat:Int)+(aa b.lat:Int)):=rfl;have:=(qB hg b1 b2 (k:=k) (t:=t) (by omega) (a:=2*(1+(i:Int))) (by omega) (by omega)).2 vs;rw[this,hrow t (by omega),aP h2,J6 (by omega),xZ (by omega),show(1:Int).toNat+i=i+1 by omega];show(am::(seq[t]++_)).getD _ am=_;rw[List.getD_cons_succ,zqg,zqj h4,zqk h4];rfl
 ·intro l hl;have hr:=r4 l hl;have:=(qB hg b1 b2 (k:=k) (t:=k-1) (by omega) hr.1 hr.2).2 vs;rw[show((k-1:Nat):Int)=(k:Int)-1 by omega]at this;rw[this,hrow (k-1) (by omega),<-hsplit]
 ·obtain⟨l,h1,h2⟩:=s3;rw[hrow (k-1) (by omega),hsplit]at h2;exact⟨l,h1,h2⟩
theorem Ub(c:CanOk a b)(big:JBig a b){k:Nat}(hk:0<k){pa pb:List Bool}{seq:List (List Bool)}(hr:Runs a b k pa pb seq)(hm:rH a b pa pb)
 (hd:∃l∈(aF a b).outs,lv ((aF a b).vals (qm (aF a b) (pa++pb) (seq.take (k-1))) (seq.getD (k-1) [])) l=ab):∃vs,sat (A7 (aF a b) (mV a b).b (mV a b).p k) vs=ab:=by
 obtain⟨b1,b2,b3⟩:=qV c;have hg:=DU c big;have hki:(aF a b).ins.toNat=aa a.ins:=zsg _;obtain⟨m1,m2⟩:=(zY c hr.la hr.lb).1 hm;obtain⟨vs,v1,v2,v3,v4,v5,v6⟩:=wX hg b1 b2 m2 (seq:=seq) (λx hx=>by rw[hki];exact hr.lx x hx) k (by rw[hr.lk];exact zrb _);have hlk:=hr.lk;rw[zqh (by omega)]at v5;have hrow:∀t,t<k->rwH (aF a b) (mV a b).b k vs t=(aF a b).vals (qm (aF a b) (pa++pb) (seq.take t)) (seq.getD t []):=λt ht=>Qx v5 ht hr.lk;have hx0:aa (seq.getD 0 [])=aa a.ins:=hr.lx _ (by rw[aP (by omega)];exact zqu _);refine⟨vs,(Qu hg b1 b2 (Qw c big) hk).2 ⟨v3,?_,?_⟩⟩
 ·rw[hrow 0 hk];exact(U5 c hr.la hr.lb hx0).2 hm.2.2
 ·rw[hrow (k-1) (by omega)];exact hd
def Aa(a b:Mo)(pa pb:List Bool)(seq:List (List Bool))(j:Nat):Bool:=(wz a.g pa seq).getD j am != (wz b.g pb (seq.map (xB a b))).getD (atI b.out (a.out.getD j [])) am
theorem DW(c:CanOk a b){k:Nat}(hk:0<k){pa pb:List Bool}{seq:List (List Bool)}(hr:Runs a b k pa pb seq) :
 (aF a b).outs.map (lv ((aF a b).vals (qm (aF a b) (pa++pb) (seq.take (k-1))) (seq.getD (k-1) [])))=(List.range (aa a.out)).map (Aa a b pa pb seq):=by
 have hlk:=hr.lk;have h:=MW c hr.la hr.lb hr.lx (by omega);unfold wz oV at h;rw[hr.lk]at h;rw[h];unfold Aa wz oV;rw[zra,hr.lk]
def J7(n:Nat):List V:=(List.range n).map λi:Nat=>vi (i:Int)
theorem Qy(n:Nat):J7 (n+1)=J7 n++[vi (n:Int)]:=by unfold J7;rw[List.range_succ,zql];rfl
theorem uP{n:Nat}(h:i<n)(d:V):(J7 n).getD i d=vi (i:Int):=by simp[J7,zqg,h]
abbrev plV(l:List S):V:= .im (l.map V.str) (J7 (aa l))
theorem Qz{n:Nat}:a7 (J7 n)=ab:=by
 unfold J7;generalize List.range n=l
 induction l with
 |nil=>rfl
 |cons a l ih=>rw[zrd,a7,ih];rfl
theorem lg(l:List S)(hn:l.Nodup):Ev TE 27 [ig l] (plV l):=by
 refine Ev.bnd λhb=> ?_;have hlen:=qL hb;refine aC Tryz.func27 rfl (by simp[nts]) (vm ?_);simp only[wq.1,seval,Tryz.results27];refine aA (λm f h=>∃i,m+i=aa l/\f.t 3= .lm 0/\f.t 7=ig l/\f.t 8=vi (aa l)/\f.t 9=vi i/\f.d=[]/\h=[.map ((l.take i).map V.str) (J7 i)]) (aa l) ⟨0,by simp,rfl,rfl,rfl,rfl,rfl,rfl⟩ ?_;rintro m f h ⟨i,hm,h3,h7,h8,h9,hd,rfl⟩;refine vm ?_;simp only[wq.1,seval,h8,h9];refine vcB.mk (λhc=> ?_) (λhc=> ?_)
 ·simp only[zqb,zqi]at hc;have hsucc:l.take (i+1)=l.take i++[l[i]]:=by rw[zrg];simp[hc]
  have hat:at? (l.take i) l[i]=aL:=TJ λh=>by obtain⟨k,hk,he⟩:=List.getElem_of_mem h;rw[List.getElem_take]at he;have:=(List.getElem_inj hn).1 he;simp at hk;omega
  simp only[wq.1,seval,h3,h7,h9,BA hc,IZ,eQ,K.keyOk,hat];refine⟨⟨by omega,by omega⟩,.inl ⟨m-1,by omega,i+1,by omega,h3,h7,h8,by rw[ax (by omega)];rfl,hd,?_⟩⟩;rw[hsucc,zql,Qy];rfl
 ·simp only[zqd,zqi]at hc;simp only[wq.1,seval,h3,hd];have:i=aa l:=by omega
  subst this;rw[zrx];exact aH.lm rfl (aj.dat iK) (aj.dat Qz)
theorem MX(b:List S)(s:S):Ev TE 80 [.str s,.ip (plV b)] (.bool (!(at? b s).isSome)):=by
 refine aC Tryz.func80 rfl (by simp[nts]) (vm ?_);simp only[wq.1,seval,Tryz.results80];cases hat:at? b s with
 |none=>simp only[wq.1,seval,qF,eQ,hat];exact aH.dat rfl
 |some n=>simp only[wq.1,seval,qF,eQ,hat];exact aH.dat rfl
theorem Gt(a b:List S)(hn:b.Nodup):Ev TE 48 [ig a,ig b] (.bool (qA a b)):=by
 have hp:=lg b hn;have hc:=UT a 80 [.ip (plV b)] (λs=> !(at? b s).isSome) rfl (by simp only[a7,a6,zre]) (λx _=>MX b x);have e:qA a b=(((aa a:Int)==(aa b:Int))&& !(a.any λs=> !(at? b s).isSome)):=by
  unfold qA;rw[List.all_eq_not_any_not]
  congr 1
  rw[Bool.eq_iff_iff,zqb,beq_iff_eq];omega
 rw[e];refine aC Tryz.func48 rfl (by simp[nts]) (vm ?_);simp only[wq.1,seval,Tryz.results48];refine ag.ev hp (by simp only[a7,a6,iK,zre]) ?_;simp only[wq.1,seval];cases hl:((aa a:Int)==(aa b:Int))with
 |false=>simp only[wq.1,seval];exact⟨.bool ab,trivial,aH.dat rfl⟩
 |true=>simp only[wq.1,seval];refine ag.lend hc (aj.cons (aH.dat (by simp only[a6,iK])) (aj.cons (aH.fn aj.nil (aj.cons (aH.lp rfl (aj.dat (by simp only[a7,a6,zre])) rfl rfl (by simp[V.vc]) rfl) aj.nil)) aj.nil)) rfl ?_;simp only[wq.1,↓reduceIte,Nat.reduceEqDiff,Nat.reduceLT,reduceCtorEq];exact aH.dat rfl
abbrev cCM(m:Mo):List V:=[vi m.g.ins,az m.g.next,az m.g.init,prs m.g.ands,az m.g.outs,ig m.ins,ig m.lat,ig m.out]
theorem Uc(a b:Mo)(ha:a.g.Sm)(hb:b.g.Sm):Ev TE 25 [a.v,b.v] (vi (pg a b)):=by
 have h1:=FU a ha;have h2:=FU b hb;unfold Mo.v at h1 h2 ⊢;refine aC Tryz.func25 rfl (by simp[nts]) (vm ?_);simp only[wq.1,↓reduceIte,Nat.reduceEqDiff,Nat.reduceLT,Nat.reduceAdd,reduceCtorEq,Nat.reduceMul,Tryz.results25];refine⟨⟨rfl,by decide⟩,?_⟩;refine aA (λm f h=>∃(i:Nat)(X:H),m+i=2/\f.t 2= .lp 0 0/\f.t 3= .lp 1 0/\f.t 10= .is ab 8 [.agg (cCM a),.agg (cCM b)]/\f.t 11=vi 2/\f.t 12=vi i/\f.d=[]/\(1<=i->a.chk=0)/\(2<=i->b.chk=0)/\h=[aw (cCM a),aw (cCM b)]++X) 2 ⟨0,[],by omega,rfl,rfl,rfl,rfl,rfl,rfl,by omega,by omega,rfl⟩ ?_;rintro m f h ⟨i,X,hm,t2,t3,t10,t11,t12,hd,hca,hcb,rfl⟩;refine fU (by rw[hd];simp) ?_;have hcl:([aw (cCM a),aw (cCM b)]:H).map (O.drop (aQ (aa ([aw (cCM a),aw (cCM b)]:H))))=[aw (cCM a),aw (cCM b)]:=rfl;rw[hcl];have hi:i=0\/i=1\/i=2:=by omega
 rcases hi with rfl|rfl|rfl
 ·have t12:f.t 12=vi 0:=t12;refine vm ?_;simp only[wq.1,seval,-Int.reduceNatCast,-Int.reduceNatCast',aG,Tryz.results25,t2,t3,t10,t11,t12,hd,aQ];refine⟨by omega,ag.ev h1 (by simp only[a7,a6,zre]) ?_⟩;simp only[wq.1,↓reduceIte,Nat.reduceLT];refine vcB.mk (λhc=> ?_) (λhc=> ?_)
  ·simp only[wq.1,seval,hd,aQ];exact aH.eq rfl (by unfold pg;rw[if_pos (by simpa using hc)])
  ·simp only[wq.1,seval,t12];exact .inl ⟨m-1,by omega,1,[aw (cCM a)],by omega,by simp only[wq.1,seval,t2,aQ],by simp only[wq.1,seval,t3,aQ],by simp only[wq.1,seval,t10],by simp only[wq.1,seval,t11],rfl,hd,λ_=>by simpa using hc,λh=>by omega,rfl⟩
 ·have t12:f.t 12=vi 1:=t12;have hca:=hca (zrb _);refine vm ?_;simp only[wq.1,seval,-Int.reduceNatCast,-Int.reduceNatCast',aG,Tryz.results25,t2,t3,t10,t11,t12,hd,aQ];refine⟨by omega,ag.ev h2 (by simp only[a7,a6,zre]) ?_⟩;simp only[wq.1,↓reduceIte,Nat.reduceLT];refine vcB.mk (λhc=> ?_) (λhc=> ?_)
  ·simp only[wq.1,seval,hd,aQ];exact aH.eq rfl (by unfold pg;rw[if_neg (by omega),if_pos (by simpa using hc)])
  ·simp only[wq.1,seval,t12];exact .inl ⟨m-1,by omega,2,[aw (cCM b)],by omega,by simp only[wq.1,seval,t2,aQ],by simp only[wq.1,seval,t3,aQ],by simp only[wq.1,seval,t10],by simp only[wq.1,seval,t11],rfl,hd,λ_=>hca,λ_=>by simpa using hc,rfl⟩
 ·have t12:f.t 12=vi 2:=t12;have hca:=hca (by omega);have hcb:=hcb (zrb _);obtain⟨n1,n2,n3⟩:=jZ hcb;have k1:=Gt a.ins b.ins n1;have k2:=Gt a.out b.out n3;have ce:pg a b=if(qA a.ins b.ins&&qA a.out b.out)=ab then 0 else 12:=by unfold pg;rw[if_neg (by omega),if_neg (by omega)]
  rw[ce];refine vm ?_;simp only[wq.1,seval,t2,t3,t11,t12,aQ];refine ag.ev k1 (by simp only[a7,a6,iK,zre]) ?_;simp only[wq.1,seval,t2,t3,aQ];cases qA a.ins b.ins with
  |false=>simp only[wq.1,seval];refine⟨.bool ab,?_⟩;simp only[wq.1,seval,hd];exact aH.dat rfl
  |true =>
   simp only[wq.1,seval];refine ag.ev k2 (by simp only[a7,a6,iK,zre]) ?_;simp only[wq.1,seval];cases qA a.out b.out with
   |false=>simp only[wq.1,seval,hd,aQ];exact aH.dat rfl
   |true=>simp only[wq.1,seval,hd,aQ];exact aH.dat rfl
abbrev hJo(x0 x1 x2 jc:List V):H:=[aw x0,aw x1,aw x2,aw jc]
abbrev hM2(a b:Mo)(x0 x1 x2:List V)(iv:V)(s:MS):H :=
 [aw x0,aw x1,aw x2,aw [vi 0,.nils,.nils,.nils,.nils,.ls 6 1 0 (aa s.b) (aa s.b),.ls 7 2 0 (aa s.p) (aa s.p),iv,.bool am],aw (cCM a),aw (cCM b),aw (s.b.map vi),aw (fl s.p)]
theorem IG{x0 x1 x2:List V}{iv:V}(hiv:iv.dat=ab)(hio:iv.one=ab)(d0:a7 x0=ab)(d1:a7 x1=ab)(d2:a7 x2=ab)(hn:b.lat.Nodup)
 (hla:aa a.lat=aa a.g.init) (hlb:aa b.lat=aa b.g.init) (hia:aa a.ins<=4000) (hl1:aa a.lat<=4000) (hl2:aa b.lat<=4000) {R:AEnd->H->(Nat->Bool)->Prop}
 (hr:R (.ret (.bool (mV a b).ok)) (hJo x0 x1 x2 [vi 0,.nils,.nils,.nils,.nils,az (mV a b).b,prs (mV a b).p,iv,.bool am]) (λ_=>am)) :
 ag TE 28 [.lp 3 0,.agg (cCM a),.agg (cCM b)] (hJo x0 x1 x2 [vi 0,.nils,.nils,.nils,.nils,.nils,.nils,iv,.bool am]) R:=by
 have hM := mLx;have dd0 : ∀ p,aE p x0 = x0 := λp => bF.dats_drops _ d0;have dd1 : ∀ p,aE p x1 = x1 := λp => bF.dats_drops _ d1;have dd2 : ∀ p,aE p x2 = x2 := λp => bF.dats_drops _ d2;have ddi : ∀ p,iv.drop p = iv := λp => bF _ hiv;have hcc := wS [a.g.init,b.g.init] (by simp;omega) (by simp);rw [show ([a.g.init,b.g.init] : List Cl).flatten = a.g.init ++ b.g.init by simp] at hcc;obtain ⟨I,hI⟩ : ∃ I,I = (mN a b 0).b := ⟨_,rfl⟩;have hI2 : I = a.g.init ++ b.g.init := hI;rw [<- hI2] at hcc;have hpl := lg b.lat hn;refine ag.fresh ?_;refine ah Tryz.func28 rfl (by simp [nts]) ?_;refine vn ?_;simp only [wq.1,↓reduceIte,Nat.reduceEqDiff,Nat.reduceLT,Nat.reduceAdd,Tryz.results28];refine vn ?_;simp only [wq.1,↓reduceIte,Nat.reduceEqDiff,Nat.reduceLT,Nat.reduceLeDiff,Nat.reduceAdd,reduceCtorEq,Nat.reduceMul];refine ⟨⟨rfl,by decide⟩,jM hcc (by simp only [a7,a6,jP,zre]) (jP _) ?_⟩;simp only [wq.1,seval];refine vn ?_;simp only [wq.1,seval];refine ⟨by decide +kernel,Aq.mk hpl rfl (by simp only [a7,a6,iK,zre]) ?_⟩;simp only [wq.1,seval];refine gz ?_;refine lF (h' := [aw x0,aw x1,aw x2,aw [vi 0,.nils,.nils,.nils,.nils,.ls 6 1 0 (aa I) (aa I),.ls 7 2 0 0 0,iv,.bool am],aw (cCM a),aw (cCM b),aw (I.map vi),aw []])
  (HLe.set (h := [aw x0,aw x1,aw x2,aw [vi 0,.nils,.nils,.nils,.nils,.ls 6 1 0 (aa I) (aa I),.nils,iv,.bool am],aw (cCM a),aw (cCM b),aw (I.map vi),aw []]) (i := 3) (o := aw [vi 0,.nils,.nils,.nils,.nils,.ls 6 1 0 (aa I) (aa I),.nils,iv,.bool am]) rfl
   (OLe.cells (zrb _) (fD.cons (VLe.refl _) (fD.cons (VLe.refl _) (fD.cons (VLe.refl _) (fD.cons (VLe.refl _) (fD.cons (VLe.refl _) (fD.cons (VLe.refl _) (fD.cons dH (fD.refl _)))))))))) ?_
 refine ak ?_;refine vn ?_;simp only[wq.1,seval];refine aB ?_;refine aA (λm f h=>∃i,m+i=aa a.lat/\f.t 0= .lp 3 0/\f.t 4= .lp 4 0/\f.t 5= .lp 5 0/\f.t 7=plV b.lat/\f.t 8=vi (aa a.lat)/\f.t 9= .bool (mN a b i).ok/\f.t 35=ig a.lat/\f.t 36=vi (aa a.lat)/\f.t 37=vi i/\f.d=[]/\h=hM2 a b x0 x1 x2 iv (mN a b i)/\∀j,j<4->f.k j=am) (aa a.lat) ⟨0,by omega,rfl,rfl,rfl,rfl,rfl,rfl,rfl,rfl,rfl,rfl,by rw[hI];rfl,λj hj=>rfl⟩ ?_;rintro m f h ⟨i,hm,t0,t4,t5,t7,t8,t9,t35,t36,t37,hd,rfl,hk⟩;have hln:=Gg (a:=a) (b:=b) i;have hsucc:mN a b (i+1)=l7 (aa a.ins) (aa a.lat) b.lat (mN a b i) i (a.lat.getD i []):=rfl;obtain⟨s,hs⟩:∃s,s=mN a b i:=⟨_,rfl⟩;rw[<-hs]at t9 hln hsucc ⊢;have hbl:aa (s.b.map vi)=aa s.b*1:=by rw[zra];omega
 refine vn ?_;simp only[wq.1,Nat.reduceLT,t36,t37];refine ak (aX (b:=aM ((i:Int)<aa a.lat)) (by simp only[wq.1,↓reduceIte]) (by simp only[wq.1,↓reduceIte]) (λhlt=> ?_) (λhlt=> ?_))
 ·simp only[zqb,zqi]at hlt;have hw:=ax (show i<maxLen by omega);have hxe:a.lat.getD i []=a.lat[i]:=aP hlt;rw[hxe]at hsucc;refine vm ?_;simp only[wq.1];cases hat:at? b.lat a.lat[i]with
  |none =>
   have hs1:mN a b (i+1)=s:=by rw[hsucc];unfold l7;rw[hat]
   refine ak (aB ?_);refine vm ?_;simp only[wq.1,seval,t7,t35,t37,BA hlt,qF,eQ,K.keyOk,hat];refine⟨⟨by omega,by omega⟩,?_⟩;refine vm ?_;simp only[wq.1,seval,t37,hw];exact .inl ⟨m-1,by omega,i+1,by omega,t0,t4,t5,t7,t8,by simp only[wq.1,seval,t9,hs1],t35,t36,rfl,hd,by rw[hs1],λj hj=>by simp only[wq.1];exact hk j hj⟩
  |some k =>
   obtain⟨hkl,_⟩:=kD hat;have hi1:i<aa s.b:=by omega
   have hi2:aa a.lat+k<aa s.b:=by omega
   have hkn:k<aa b.lat:=hkl;have hgp:(s.b.map vi).getD i .any=vi s.b[i]:=sU hi1 _;have hgq:(s.b.map vi).getD (aa a.lat+k) .any=vi s.b[aa a.lat+k]:=sU hi2 _;have wk:a5 .i64 ((aa a.lat:Int)+(k:Int))=((aa a.lat+k:Nat):Int):=by rw[aV (by omega) (by omega)];omega
   have hgk:(J7 (aa b.lat)).getD k .any=vi k:=uP hkl _;refine ak (aB ?_);refine vn ?_;simp only[wq.1,seval,t35,t37,BA hlt];refine⟨⟨by omega,by omega⟩,?_⟩;refine vn ?_;simp only[wq.1,seval,t7,qF,eQ,K.keyOk,hat,hgk];refine vn ?_;simp only[wq.1,seval];refine vn ?_;simp only[wq.1,↓reduceIte,Nat.reduceEqDiff,Nat.reduceLT,Nat.reduceLeDiff,Nat.reduceAdd,reduceCtorEq,t0,t8,wk];refine⟨by decide +kernel,?_⟩;refine⟨⟨by omega,by omega⟩,⟨by omega,by omega⟩,?_⟩;have w1:a5 .i64 (1+(aa a.ins:Int))=1+(aa a.ins:Int):=aV (by omega) (by omega);have w2:a5 .i64 (1+(aa a.ins:Int)+(i:Int))=1+(aa a.ins:Int)+(i:Int):=aV (by omega) (by omega);have w3:a5 .i64 (1+(aa a.ins:Int)+(aa a.lat:Int))=1+(aa a.ins:Int)+(aa a.lat:Int):=aV (by omega) (by omega);have w4:a5 .i64 (1+(aa a.ins:Int)+(aa a.lat:Int)+(k:Int))=1+(aa a.ins:Int)+(aa a.lat:Int)+(k:Int):=aV (by omega) (by omega);have hfl:=BF s.p;have hfd:∀q:Nat->Bool,aE q (fl s.p)=fl s.p:=λq=>zJ _;obtain⟨np,hnp⟩:∃np,np=s.p++[((1+(aa a.ins:Int)+(i:Int),1+(aa a.ins:Int)+(aa a.lat:Int)+(k:Int)):Pq)]:=⟨_,rfl⟩;refine ak (qf dV [0] [1,2,3,4,5,6,7,8,9,10,11,12,13,14,15,16,17,18,19,20,21] 22 (.one 22<| .take 23<| .take 24<| .take 25<| .one 26<| .fin) (λf' h'=>f'.t 0= .lp 3 0/\f'.t 4= .lp 4 0/\f'.t 5= .lp 5 0/\f'.t 7=plV b.lat/\f'.t 8=vi (aa a.lat)/\f'.t 9= .bool s.ok/\f'.t 14= .lp 6 i/\f'.t 15= .lp 6 (aa a.lat+k)/\f'.t 35=ig a.lat/\f'.t 36=vi (aa a.lat)/\f'.t 37=vi i/\f'.d=[]/\(∀j,j<4->f'.k j=am)/\h'=hM2 a b x0 x1 x2 iv ⟨s.b,np,s.ok⟩) (by decide +kernel) ?_ ?_)
   ·intro K hK;simp only[rY,List.filterMap_cons,List.filterMap_nil];simp only[wq.1,↓reduceIte,Nat.reduceEqDiff,Nat.reduceLT,Nat.reduceLeDiff,Nat.reduceAdd,reduceCtorEq,Nat.reduceMul,lI,gB,t0,t4,t8,w1,w2,w3,w4];refine⟨⟨rfl,by decide⟩,hK _ _ ?_⟩;simp only[wq.1,seval,t0,t4,t5,t7,t8,t9,t35,t36,t37,hd,hfl,hfd,ddi,dd0,dd1,dd2];have hnl:aa np=aa s.p+1:=by rw[hnp];simp
    have hnf:fl np=fl s.p++[vi (1+(aa a.ins:Int)+(i:Int)),vi (1+(aa a.ins:Int)+(aa a.lat:Int)+(k:Int))]:=by rw[hnp];simp only[fl,List.flatMap_append,List.flatMap_cons,List.flatMap_nil,zqp]
    have hpl1:aa s.p<=i:=by
     have:∀j,(mN a b j).p.length<=j:=λj=>by
      induction j with
      |zero=>exact zrb _
      |succ j ih =>
       show(l7 _ _ _ _ _ _).p.length<=_;unfold l7;split
       ·omega
       ·simp;omega
     rw[hs];exact this i
    refine⟨rfl,⟨rfl,by omega,by omega⟩,by rw[Nat.mul_one],by rw[Nat.mul_one],λj hj=> ?_,?_⟩
    ·rw[hk j hj,Bool.false_or,beq_eq_false_iff_ne];omega
    ·rw[aN];unfold hM2;rw[hnl,hnf];rfl
   ·rintro f h ⟨t0,t4,t5,t7,t8,t9,t14,t15,t35,t36,t37,hd,hk,rfl⟩;show awp _ _ _ _ _ _ _;have hs1:mN a b (i+1)=⟨if s.b[i]=2 then s.b.set i s.b[aa a.lat+k]else if s.b[aa a.lat+k]=2 then s.b.set (aa a.lat+k) s.b[i]else s.b,np,s.ok&&(s.b[i]==2||s.b[aa a.lat+k]==2||s.b[i]==s.b[aa a.lat+k])⟩:=by
     rw[hsucc];unfold l7;rw[hat];simp only[aP hi1,aP hi2,hnp]
    generalize hp:s.b[i]=p at hs1 hgp;generalize hq:s.b[aa a.lat+k]=q at hs1 hgq;have fin:∀(B:Cl)(okk:Bool)(f:Fr),mN a b (i+1)=⟨B,np,okk⟩->f.t 0= .lp 3 0->f.t 4= .lp 4 0->f.t 5= .lp 5 0->f.t 7=plV b.lat->f.t 8=vi (aa a.lat)->f.t 9= .bool okk->f.t 35=ig a.lat->f.t 36=vi (aa a.lat)->f.t 37=vi i->f.d=[]->(∀j,j<4->f.k j=am)->True:=λ_ _ _ _ _ _ _ _ _ _ _ _ _ _ _=>trivial;refine aB ?_;refine vn ?_;simp only[wq.1,seval,t14,hgp];refine⟨by omega,?_⟩;have hsp:∀(j:Nat)(x:Int),j<aa s.b->(s.b.map vi).take j++[vi x]++(s.b.map vi).drop (j+1)=(s.b.set j x).map vi:=λj x hj=>uD hj;have hlen:∀j x,aa (s.b.set j x)=aa s.b:=λj x=>zrn;refine aX (b:=p==2) (by simp only[wq.1,↓reduceIte]) (by simp only[wq.1,↓reduceIte]) (λe1=> ?_) (λe1=> ?_)
    ·rw[if_pos (by simpa using e1)]at hs1;have hs1:mN a b (i+1)=⟨s.b.set i q,np,s.ok⟩:=by rw[hs1,e1];simp
     refine vm ?_;simp only[wq.1,seval,t14,t15,hgq];refine⟨by omega,by omega,?_⟩;rw[hsp _ _ hi1];refine vm ?_;simp only[wq.1,seval,t37,hw];exact .inl ⟨m-1,by omega,i+1,by omega,t0,t4,t5,t7,t8,by simp only[wq.1,seval,t9,hs1],t35,t36,rfl,hd,by rw[hs1];unfold hM2;rw[hlen],λj hj=>by simp only[wq.1];exact hk j hj⟩
    ·rw[if_neg (by simpa using e1)]at hs1;have e1':(p==2)=am:=by simpa using e1
     refine vn ?_;simp only[wq.1,seval,t15,hgq];refine⟨by omega,?_⟩;refine aX (b:=q==2) (by simp only[wq.1,↓reduceIte]) (by simp only[wq.1,↓reduceIte]) (λe2=> ?_) (λe2=> ?_)
     ·rw[if_pos (by simpa using e2)]at hs1;have hs1:mN a b (i+1)=⟨s.b.set (aa a.lat+k) p,np,s.ok⟩:=by rw[hs1,e2];simp
      refine vm ?_;simp only[wq.1,seval,t14,t15,hgp];refine⟨by omega,by omega,?_⟩;rw[hsp _ _ hi2];refine vm ?_;simp only[wq.1,seval,t37,hw];exact .inl ⟨m-1,by omega,i+1,by omega,t0,t4,t5,t7,t8,by simp only[wq.1,seval,t9,hs1],t35,t36,rfl,hd,by rw[hs1];unfold hM2;rw[hlen],λj hj=>by simp only[wq.1];exact hk j hj⟩
     ·rw[if_neg (by simpa using e2)]at hs1;have e2':(q==2)=am:=by simpa using e2
      rw[e1',e2',Bool.false_or,Bool.false_or]at hs1;refine vn ?_;simp only[wq.1,seval,t14,t15,hgp,hgq];refine⟨by decide +kernel,by omega,by omega,?_⟩;refine aX (b:=p != q) (by simp only[wq.1,↓reduceIte]) (by simp only[wq.1,↓reduceIte]) (λe3=> ?_) (λe3=> ?_)
      ·have hs1:mN a b (i+1)=⟨s.b,np,am⟩:=by rw[hs1,show(p==q)=am by simpa using e3];simp
       refine vm ?_;simp only[wq.1,Nat.reduceLT];refine vm ?_;simp only[wq.1,seval,t37,hw];exact .inl ⟨m-1,by omega,i+1,by omega,t0,t4,t5,t7,t8,by simp only[wq.1,seval,hs1],t35,t36,rfl,hd,by rw[hs1],λj hj=>by simp only[wq.1];exact hk j hj⟩
      ·have hs1:mN a b (i+1)=⟨s.b,np,s.ok⟩:=by rw[hs1,show(p==q)=ab by simpa using e3];simp
       refine vm ?_;simp only[wq.1];refine vm ?_;simp only[wq.1,seval,t37,hw];exact .inl ⟨m-1,by omega,i+1,by omega,t0,t4,t5,t7,t8,by simp only[wq.1,seval,t9,hs1],t35,t36,rfl,hd,by rw[hs1],λj hj=>by simp only[wq.1];exact hk j hj⟩
 ·simp only[zqd,zqi]at hlt;have:i=aa a.lat:=by omega
  subst this;refine vm ?_;simp only[wq.1];show awp _ _ _ _ _ _ _;have hmv:s=mV a b:=hs;refine uh (h0:=hJo x0 x1 x2 [vi 0,.nils,.nils,.nils,.nils,.ls 6 1 0 (aa s.b) (aa s.b),.ls 7 2 0 (aa s.p) (aa s.p),iv,.bool am]) (Y:=[aw (cCM a),aw (cCM b),aw (s.b.map vi),aw (fl s.p)]) 3 _ [vi 0,.nils,.nils,.nils,.nils,az s.b,prs s.p,iv,.bool am] rfl ?_ ?_ (λi hi=>by have hi:i∈f.d:=hi;rw[hd]at hi;cases hi) ?_
  ·intro i o ho hne;rcases i with _|_|_|_|i
   ·obtain rfl:=Option.some.inj ho;rw[aZ,dd0]
   ·obtain rfl:=Option.some.inj ho;rw[aZ,dd1]
   ·obtain rfl:=Option.some.inj ho;rw[aZ,dd2]
   ·exact absurd rfl hne
   ·simp[hJo]at ho
  ·refine⟨.inl rfl,.inl rfl,.inl rfl,.inl rfl,.inl rfl,.inr ⟨rfl,dG ?_ rfl⟩,.inr ⟨rfl,mF ?_ rfl⟩,.inl (ddi _).symm,.inl rfl,trivial⟩
   ·show ar (aw (aE _ _))=_;rw[aN]
   ·show ar (aw (aE _ _))=_;rw[zJ]
  ·show awp _ _ _ _ _ _ _;refine vm ?_;simp only[wq.1,seval,t9,hd];rw[hmv];exact⟨λi hi=>by rw[hk i hi];simp[aQ];omega,hr⟩
end Go.Proofs.YthdidjjecjhenaaGreat
