/- Lemmas for this claim, part F13: each holds under what it names. -/
import Derived.Test.YthdidjjecjhenaaGreatF12
import Derived.Test.YthdidjjecjhenaaGreatA10
set_option linter.unusedVariables false
set_option linter.unusedSimpArgs false
set_option linter.unnecessarySimpa false
set_option maxRecDepth 20000
set_option maxHeartbeats 8000000
namespace Go.Proofs.YthdidjjecjhenaaGreat
open Go Go.Proofs Go.Abs
variable{m:Mo}
theorem cO(h:m.chk=0):m.g.chk=0/\(m.ins.length:Int)=m.g.ins/\m.lat.length=m.g.next.length/\m.out.length=m.g.outs.length:=by obtain⟨h1,h2,_,_,_⟩:=wz h;simp only[Mo.lens,zsf,bne_eq_false_iff_eq]at h2;exact⟨h1,h2.1.1,by have:=h2.1.2;omega,by have:=h2.2;omega⟩
theorem kL(h:m.chk=0):m.ins.Nodup/\m.lat.Nodup/\m.out.Nodup:=by obtain⟨_,_,_,h2,_⟩:=wz h;simp only[Mo.twos,Fa,zsf,Bool.not_eq_false',zqb]at h2;exact⟨(List.nodup_append.1 h2.1).1,(List.nodup_append.1 h2.1).2.1,h2.2⟩
theorem FM:∀ {a b:List S},a.Nodup->(∀x∈a,x∈b)->a.length<=b.length
 |[],_,_,_=>Nat.zero_le _
 |x::a,b,h,hs=>by
  have hx:=hs x (by simp);have h1:=FM (a:=a) (b:=b.erase x) (List.nodup_cons.1 h).2 fun y hy=>by refine(List.mem_erase_of_ne fun e=> ?_).2 (hs y (by simp[hy]));subst e;exact(List.nodup_cons.1 h).1 hy
  rw[List.length_erase_of_mem hx]at h1;have:=List.length_pos_of_mem hx;rw[zrt];omega
variable{l:List S}
theorem zD{s:S}:(at? l s).isSome=true↔s∈l:=by
 constructor
 ·intro h;obtain⟨n,hn⟩:=Option.isSome_iff_exists.1 h;obtain⟨h1,h2⟩:=lH hn;rw[<-h2];exact zqu h1
 ·intro h;obtain⟨n,hn⟩:=CQ h;rw[hn];rfl
theorem vM{a b:List S}(h:a.length=b.length/\∀s∈a,(at? b s).isSome=true)(hn:a.Nodup):∀s∈b,(at? a s).isSome=true:=fun s hs=>by
 rw[zD];refine Classical.byContradiction fun hna=> ?_;have h1:=FM (a:=a) (b:=b.erase s) hn fun y hy=>by
  refine(List.mem_erase_of_ne fun e=> ?_).2 (zD.1 (h.2 y hy));subst e;exact hna hy
 rw[List.length_erase_of_mem hs]at h1;have:=List.length_pos_of_mem hs;omega
def xB(a b:Mo)(x:List Bool):List Bool:=b.ins.map fun s=>x.getD (atI a.ins s) false
theorem Xz(h:l.Nodup){x:List Bool}(hx:x.length=l.length):l.map (fun s=>x.getD (atI l s) false)=x:=by refine List.ext_getElem (by simp[hx]) fun i h1 h2=> ?_;rw[List.getElem_map];unfold atI;rw[FH h (by simpa using h1)];exact aS h2
variable{x st:List Bool}
theorem Jz{s1 s2:List Bool}(hx:x.length=l.length)(hin:∀s∈m.ins,(at? l s).isSome=true)(hst:st.length=m.lat.length){f:Int}(hf:f=1+(l.length:Int)+(s1.length:Int)) :
 Maps ([false]++x++(s1++st++s2)) [] (to0 l m f) ([false]++m.ins.map (fun s=>x.getD (atI l s) false)++st):=by
 have hl:([false]++x++(s1++st++s2)).length=1+x.length+(s1.length+st.length+s2.length):=by simp;omega
 refine⟨fun y hy=> ?_,?_⟩
 ·rw[hl,List.length_nil];unfold to0 at hy;rcases zrj.1 hy with rfl|hy
  ·omega
  ·rcases zrf.1 hy with hy|hy
   ·obtain⟨s,hs,rfl⟩:=zrh.1 hy;have:=Jw (hin s hs);omega
   ·obtain⟨i,hi,rfl⟩:=zrh.1 hy;have:=List.mem_range.1 hi;omega
 ·unfold to0 vlA;rw[List.foldl_nil,zrd,zql,List.map_map,List.map_map];show false::(_++_)=false::(_++_)
  congr 2
  ·refine zsd fun s hs=> ?_;have:=Jw (hin s hs);show List.getD _ (1+(atI l s:Int)).toNat false=_;rw[show(1+(atI l s:Int)).toNat=atI l s+1 by omega];show List.getD (false::(x++(s1++st++s2))) (atI l s+1) false=_;rw[List.getD_cons_succ,zqg,zqj (by omega),<-zqg]
  ·refine List.ext_getElem (by simp[hst]) fun i h1 h2=> ?_;rw[List.getElem_map,List.getElem_range];show List.getD _ (f+(i:Int)).toNat false=_;rw[show(f+(i:Int)).toNat=(x.length+(s1.length+i))+1 by omega];show List.getD (false::(x++(s1++st++s2))) _ false=_;rw[List.getD_cons_succ,zqg,zsb (by omega),show x.length+(s1.length+i)-x.length=s1.length+i by omega,zqc,zsb (by omega),show s1.length+i-s1.length=i by omega,zqj h2,zqk h2];rfl
structure JIn(a b:Mo)(pa pb x:List Bool):Prop where
 la:pa.length=a.lat.length
 lb:pb.length=b.lat.length
 lx:x.length=a.ins.length
abbrev jb(pa pb x:List Bool):List Bool:=[false]++x++(pa++pb)
variable{a b:Mo}{pa pb:List Bool}
theorem uw(h:JIn a b pa pb x):((jb pa pb x).length:Int)=jf a b:=by obtain⟨h1,h2,h3⟩:=h;unfold jf;simp only[zqa,zrk];omega
theorem H9(c:CanOk a b){pa pb x:List Bool}(h:JIn a b pa pb x) :
 (jA a b).1.length=(aY a.g).ands.length/\OkA (jb pa pb x).length (jA a b).1/\Maps (jb pa pb x) (jA a b).1 (jA a b).2 ((aY a.g).vals pa x):=by
 obtain⟨g1,g2,g3,g4⟩:=cO c.ca;obtain⟨n1,n2,n3⟩:=kL c.ca;obtain⟨p1,p2,p3,p4⟩:=bZ (g:=a.g);have hm:=Jz (l:=a.ins) (m:=a) (x:=x) (s1:=[]) (st:=pa) (s2:=pb) h.lx (fun s hs=>zD.2 hs) h.la (f:=1+(a.ins.length:Int)) (by simp);rw[Xz n1 h.lx,List.nil_append]at hm;have hw:((([false]++x++pa).length:Nat):Int)=(aY a.g).first:=by have:=h.la;have:=h.lx;show _=1+(aY a.g).ins+((aY a.g).next.length:Int);simp only[zqa,zrk];omega
 obtain⟨⟨B,b1,b2⟩,b3,b4⟩:=zC (base:=jb pa pb x) (A:=(aY a.g).ands) (s:=([],to0 a.ins a (1+(a.ins.length:Int)))) (fun i hi=>by simp at hi) hm (Uy (iP g1) hw);rw[uw h]at b1 b3 b4;rw[<-uw h]at b3;refine⟨?_,?_,?_⟩
 ·show(vK (jf a b) _ _).1.length=_;rw[b1,<-b2];rfl
 ·rw[uw h]at b3 ⊢;exact b3
 ·rw[qH];exact b4
theorem Ia(c:CanOk a b){pa pb x:List Bool}(h:JIn a b pa pb x) :
 (∃B,(jB a b).1=(jA a b).1++B/\B.length=(aY b.g).ands.length)/\OkA (jb pa pb x).length (jB a b).1/\Maps (jb pa pb x) (jB a b).1 (jB a b).2 ((aY b.g).vals pb (xB a b x)):=by
 obtain⟨a1,a2,a3⟩:=H9 c h;obtain⟨g1,g2,g3,g4⟩:=cO c.cb;obtain⟨n1,n2,n3⟩:=kL c.ca;obtain⟨p1,p2,p3,p4⟩:=bZ (g:=b.g);have hm:=Jz (l:=a.ins) (m:=b) (x:=x) (s1:=pa) (st:=pb) (s2:=[]) h.lx (vM c.ins n1) h.lb (f:=1+(a.ins.length:Int)+(a.lat.length:Int)) (by rw[h.la]);rw[zqp]at hm;have hm2:Maps (jb pa pb x) (jA a b).1 (to0 a.ins b (1+(a.ins.length:Int)+(a.lat.length:Int))) ([false]++xB a b x++pb):=hm.more (B:=(jA a b).1);have hw:((([false]++xB a b x++pb).length:Nat):Int)=(aY b.g).first:=by have:=h.lb;show _=1+(aY b.g).ins+((aY b.g).next.length:Int);simp only[zqa,zrk,xB,zra];omega
 obtain⟨b0,b3,b4⟩:=zC (base:=jb pa pb x) (A:=(aY b.g).ands) (s:=((jA a b).1,to0 a.ins b (1+(a.ins.length:Int)+(a.lat.length:Int)))) a2 hm2 (Uy (iP g1) hw);have e:vK (jb pa pb x).length ((jA a b).1,to0 a.ins b (1+(a.ins.length:Int)+(a.lat.length:Int))) (aY b.g).ands=jB a b:=by rw[uw h];rfl
 rw[e]at b0 b3 b4;rw[qH];exact⟨b0,b3,b4⟩
theorem LV{a b:Mo}(c:CanOk a b){pa pb x:List Bool}(h:JIn a b pa pb x):∀i,i<=a.out.length ->
 (∃B,(jO a b i).1=(jB a b).1++B)/\OkA (jb pa pb x).length (jO a b i).1/\(jO a b i).1.length<=(jB a b).1.length+3*i/\(jO a b i).2.length=i /\
  (∀o∈(jO a b i).2,0<=o/\o<2*(((jb pa pb x).length:Int)+(jO a b i).1.length)) /\
  (jO a b i).2.map (lv (vlA (jb pa pb x) (jO a b i).1))=(List.range i).map fun j=>lv ((aY a.g).vals pa x) ((aY a.g).outs.getD j 0) != lv ((aY b.g).vals pb (xB a b x)) ((aY b.g).outs.getD (atI b.out (a.out.getD j [])) 0)
 |0,_=>⟨⟨[],(zqp _).symm⟩,(Ia c h).2.1,zrb _,rfl,fun o ho=>(by cases ho),rfl⟩
 |i+1,hi=>by
  obtain⟨⟨B,i1⟩,i2,i3,i4,i5,i6⟩:=LV c h i (by omega);obtain⟨a1,a2,a3⟩:=H9 c h;obtain⟨⟨B2,b1,b1'⟩,b2,b3⟩:=Ia c h;obtain⟨ga1,ga2,ga3,ga4⟩:=cO c.ca;obtain⟨gb1,gb2,gb3,gb4⟩:=cO c.cb;obtain⟨pa1,pa2,pa3,pa4⟩:=bZ (g:=a.g);obtain⟨pb1,pb2,pb3,pb4⟩:=bZ (g:=b.g);have rng:∀ {g:Gr},g.chk=0->∀ {st y:List Bool},st.length=g.next.length->(y.length:Int)=g.ins->∀k,0<=g.outs.getD k 0/\g.outs.getD k 0/2<((g.vals st y).length:Int):=fun {g} hg {st y} h1 h2 k=>by
   obtain⟨_,i0,i1,i2,i3,i4,i5⟩:=aW hg;obtain⟨r1,r2,r3,r4⟩:=aN i4;have hl:(g.vals st y).length=1+y.length+st.length+g.ands.length:=jv (zrb _);have wf:g.first=1+g.ins+g.next.length:=rfl
   have wa:g.all=2*(g.first+g.ands.length):=rfl;rw[hl];by_cases hk:k<g.outs.length
   ·rw[aS hk];have:=r4 _ (zqu hk);omega
   ·rw[zqg,zsj (by omega)];exact⟨Int.le_refl _,by simp;omega⟩
  have ha:=h.la;have hb:=h.lb;have hx:=h.lx;have hci:=c.ins.1;obtain⟨o1,o2⟩:=rng (iP ga1) (st:=pa) (y:=x) (by omega) (by omega) i;obtain⟨q1,q2⟩:=rng (iP gb1) (st:=pb) (y:=xB a b x) (by omega) (by unfold xB;rw[zra];omega) (atI b.out (a.out.getD i []));obtain⟨e1,e2,e3⟩:=a3.lit o1 o2;obtain⟨f1,f2,f3⟩:=b3.lit q1 q2;have hpB:OkA (jb pa pb x).length (jO a b i).1:=i2;have l1:(jA a b).1.length<=(jB a b).1.length:=by rw[b1,zqa];omega
  have l2:(jB a b).1.length<=(jO a b i).1.length:=by rw[i1,zqa];omega
  obtain ⟨⟨B3,x1⟩,x2,x3,o,x4,x5,x6,x7⟩ := Tm (base := jb pa pb x) ⟨x ++ (pa ++ pb),rfl⟩ (s := jO a b i) hpB
   (p:=mvX (jA a b).2 ((aY a.g).outs.getD i 0)) (q:=mvX (jB a b).2 ((aY b.g).outs.getD (atI b.out (a.out.getD i [])) 0)) ⟨e1,by omega⟩ ⟨f1,by omega⟩
  have e:QH (jb pa pb x).length (mvX (jA a b).2 ((aY a.g).outs.getD i 0)) (mvX (jB a b).2 ((aY b.g).outs.getD (atI b.out (a.out.getD i [])) 0)) (jO a b i)=jO a b (i+1):=by rw[uw h];rfl
  rw[e]at x1 x2 x3 x4 x6 x7;have l3:(jO a b i).1.length<=(jO a b (i+1)).1.length:=by rw[x1,zqa];omega
  refine⟨⟨B++B3,by rw[x1,i1,zqc]⟩,x2,by omega,by rw[x4,zqa,i4,zrk],fun y hy=> ?_,?_⟩
  ·rw[x4]at hy;rcases zrf.1 hy with hy|hy
   ·have:=i5 y hy;omega
   ·rw[zrc.1 hy];exact⟨x5,x6⟩
  ·rw[x4,zql,List.range_succ,zql,<-i6]
   congr 1
   ·refine zsd fun y hy=> ?_;have:=i5 y hy;rw[x1];exact lJ this.1 (by omega)
   ·rw[List.map_singleton,List.map_singleton,x7];have m1:lv (vlA (jb pa pb x) (jO a b i).1) (mvX (jA a b).2 ((aY a.g).outs.getD i 0))=lv (vlA (jb pa pb x) (jA a b).1) (mvX (jA a b).2 ((aY a.g).outs.getD i 0)):=by
     rw[i1,b1,zqc];exact lJ e1 (by omega)
    have m2:lv (vlA (jb pa pb x) (jO a b i).1) (mvX (jB a b).2 ((aY b.g).outs.getD (atI b.out (a.out.getD i [])) 0))=lv (vlA (jb pa pb x) (jB a b).1) (mvX (jB a b).2 ((aY b.g).outs.getD (atI b.out (a.out.getD i [])) 0)):=by rw[i1];exact lJ f1 (by omega)
    rw[m1,m2,e3,f3]
structure JBig(a b:Mo):Prop where
 n:a.ins.length+(a.lat.length+b.lat.length)+a.g.ands.length+b.g.ands.length+3*a.out.length<=4000
theorem FN(c:CanOk a b):(jO a b a.out.length).1.length<=a.g.ands.length+b.g.ands.length+3*a.out.length:=by
 have h:JIn a b (List.replicate a.lat.length false) (List.replicate b.lat.length false) (List.replicate a.ins.length false):=⟨zsc,zsc,zsc⟩;obtain⟨a1,a2,a3⟩:=H9 c h;obtain⟨⟨B2,b1,b1'⟩,b2,b3⟩:=Ia c h;obtain⟨_,_,i3,_,_,_⟩:=LV c h a.out.length (zrb _);have k1:=nR (cO c.ca).1;have k2:=nR (cO c.cb).1;have:(jB a b).1.length=(jA a b).1.length+B2.length:=by rw[b1,zqa]
 omega
theorem qI(c:CanOk a b):(az a b).first=jf a b:=by obtain⟨ga1,ga2,ga3,ga4⟩:=cO c.ca;obtain⟨gb1,gb2,gb3,gb4⟩:=cO c.cb;obtain⟨pa1,pa2,pa3,pa4⟩:=bZ (g:=a.g);obtain⟨pb1,pb2,pb3,pb4⟩:=bZ (g:=b.g);show 1+(a.ins.length:Int)+(((aY a.g).next.map (mvX (jA a b).2)++(aY b.g).next.map (mvX (jB a b).2)).length:Int)=_;unfold jf;simp only[zqa,zra];omega
theorem FO:(az a b).vals (pa++pb) x=vlA (jb pa pb x) (jO a b a.out.length).1:=qH
theorem PQ(c:CanOk a b){pa pb x:List Bool}(h:JIn a b pa pb x):nx (az a b) (pa++pb) x=nx a.g pa x++nx b.g pb (xB a b x):=by
 obtain⟨a1,a2,a3⟩:=H9 c h;obtain⟨⟨B2,b1,b1'⟩,b2,b3⟩:=Ia c h;obtain⟨⟨B,i1⟩,i2,i3,i4,i5,i6⟩:=LV c h a.out.length (zrb _);obtain⟨ga1,ga2,ga3,ga4⟩:=cO c.ca;obtain⟨gb1,gb2,gb3,gb4⟩:=cO c.cb;obtain⟨pa1,pa2,pa3,pa4⟩:=bZ (g:=a.g);obtain⟨pb1,pb2,pb3,pb4⟩:=bZ (g:=b.g);have ha:=h.la;have hb:=h.lb;have hx:=h.lx;have hci:=c.ins.1;have hxb:(xB a b x).length=b.ins.length:=by unfold xB;rw[zra]
 have l1:(jB a b).1.length=(jA a b).1.length+B2.length:=by rw[b1,zqa]
 have l2:(jO a b a.out.length).1.length=(jB a b).1.length+B.length:=by rw[i1,zqa]
 unfold nx;rw[FO];show((aY a.g).next.map (mvX (jA a b).2)++(aY b.g).next.map (mvX (jB a b).2)).map _=_;rw[zql,List.map_map,List.map_map,<-(xx ga1 (st:=pa) (x:=x) (by omega) (by omega)).2,<-(xx gb1 (st:=pb) (x:=xB a b x) (by omega) (by omega)).2];have rng:∀ {g:Gr},g.chk=0->∀ {st y:List Bool},st.length=g.next.length->(y.length:Int)=g.ins->∀l∈g.next,0<=l/\l/2<((g.vals st y).length:Int):=fun {g} hg {st y} h1 h2 l hl=>by
  obtain⟨_,i0,i1,i2,i3,i4,i5⟩:=aW hg;obtain⟨r1,r2,r3,r4⟩:=aN i4;have hll:(g.vals st y).length=1+y.length+st.length+g.ands.length:=jv (zrb _);have wf:g.first=1+g.ins+g.next.length:=rfl
  have wa:g.all=2*(g.first+g.ands.length):=rfl;have:=r3 l hl;omega
 congr 1
 ·refine zsd fun l hl=> ?_;obtain⟨o1,o2⟩:=rng (iP ga1) (st:=pa) (y:=x) (by omega) (by omega) l hl;obtain⟨e1,e2,e3⟩:=a3.lit o1 o2;show lv (vlA _ _) (mvX _ l)=_;rw[<-e3,i1,b1,zqc];exact lJ e1 (by omega)
 ·refine zsd fun l hl=> ?_;obtain⟨o1,o2⟩:=rng (iP gb1) (st:=pb) (y:=xB a b x) (by omega) (by omega) l hl;obtain⟨e1,e2,e3⟩:=b3.lit o1 o2;show lv (vlA _ _) (mvX _ l)=_;rw[<-e3,i1];exact lJ e1 (by omega)
variable{i:Nat}
theorem xy{α β:Type}{f:α->β}{l:List α}{d:α}{d':β}(h:i<l.length):(l.map f).getD i d'=f (l.getD i d):=by rw[zqg,zqo,zqk h,aS h];rfl
def oV(g:Gr)(st x:List Bool):List Bool:=g.outs.map (lv (g.vals st x))
theorem FP(c:CanOk a b){pa pb x:List Bool}(h:JIn a b pa pb x):oV (az a b) (pa++pb) x=(List.range a.out.length).map fun j=>(oV a.g pa x).getD j false != (oV b.g pb (xB a b x)).getD (atI b.out (a.out.getD j [])) false:=by
 obtain⟨⟨B,i1⟩,i2,i3,i4,i5,i6⟩:=LV c h a.out.length (zrb _);obtain⟨ga1,ga2,ga3,ga4⟩:=cO c.ca;obtain⟨gb1,gb2,gb3,gb4⟩:=cO c.cb;obtain⟨pa1,pa2,pa3,pa4⟩:=bZ (g:=a.g);obtain⟨pb1,pb2,pb3,pb4⟩:=bZ (g:=b.g);have ha:=h.la;have hb:=h.lb;have hx:=h.lx;have hci:=c.ins.1;have hxb:(xB a b x).length=b.ins.length:=by unfold xB;rw[zra]
 unfold oV;rw[FO,<-(xx ga1 (st:=pa) (x:=x) (by omega) (by omega)).1,<-(xx gb1 (st:=pb) (x:=xB a b x) (by omega) (by omega)).1];show(jO a b a.out.length).2.map _=_;rw[i6];refine zsd fun j hj=> ?_;have hj:=List.mem_range.1 hj;have hmem:a.out.getD j []∈a.out:=by rw[aS hj];exact zqu hj
 have hk:=Jw (c.out.2 _ hmem);rw[xy (d:=0) (by omega),xy (d:=0) (by omega)]
theorem Dj(c:CanOk a b)(big:JBig a b):(az a b).chk=0:=by
 have h:JIn a b (List.replicate a.lat.length false) (List.replicate b.lat.length false) (List.replicate a.ins.length false):=⟨zsc,zsc,zsc⟩;obtain⟨a1,a2,a3⟩:=H9 c h;obtain⟨⟨B2,b1,b1'⟩,b2,b3⟩:=Ia c h;obtain⟨⟨B,i1⟩,i2,i3,i4,i5,i6⟩:=LV c h a.out.length (zrb _);have hjl:=uw h;have hla:=FN c;have hfe:=qI c;have hbn:=big.n;obtain⟨ga1,ga2,ga3,ga4⟩:=cO c.ca;obtain⟨gb1,gb2,gb3,gb4⟩:=cO c.cb;obtain⟨pa1,pa2,pa3,pa4⟩:=bZ (g:=a.g);obtain⟨pb1,pb2,pb3,pb4⟩:=bZ (g:=b.g);obtain⟨_,ra0,ra1,ra2,ra3,ra4,ra5⟩:=aW ga1;obtain⟨_,rb0,rb1,rb2,rb3,rb4,rb5⟩:=aW gb1;obtain⟨ta1,ta2,ta3,ta4⟩:=aN ra4;obtain⟨tb1,tb2,tb3,tb4⟩:=aN rb4;have l1:(jB a b).1.length=(jA a b).1.length+B2.length:=by rw[b1,zqa]
 have l2:(jO a b a.out.length).1.length=(jB a b).1.length+B.length:=by rw[i1,zqa]
 have ae:(az a b).all=2*(jf a b+((jO a b a.out.length).1.length:Int)):=by unfold Gr.all;rw[hfe];rfl
 have nl:(az a b).next.length=a.lat.length+b.lat.length:=by show((aY a.g).next.map (mvX (jA a b).2)++(aY b.g).next.map (mvX (jB a b).2)).length=_;rw[zqa,zra,zra];omega
 have rng:∀ {g:Gr},g.chk=0->∀ {st y:List Bool},st.length=g.next.length->(y.length:Int)=g.ins->∀l∈g.next,0<=l/\l/2<((g.vals st y).length:Int):=fun {g} hg {st y} h1 h2 l hl=>by
  obtain⟨_,i0,i1,i2,i3,i4,i5⟩:=aW hg;obtain⟨r1,r2,r3,r4⟩:=aN i4;have hll:(g.vals st y).length=1+y.length+st.length+g.ands.length:=jv (zrb _);have wf:g.first=1+g.ins+g.next.length:=rfl
  have wa:g.all=2*(g.first+g.ands.length):=rfl;have:=r3 l hl;omega
 have l1':(az a b).lim=false:=by show(decide ((a.ins.length:Int)<0)||decide (4000<(a.ins.length:Int))||decide (4000<(a.ins.length:Int)+((az a b).next.length:Int)+((jO a b a.out.length).1.length:Int))||decide (4000<((jO a b a.out.length).2.length:Int)))=false;simp only[nl,i4,zsf,zqd];omega
 have l2':(az a b).oddR=false:=by
  simp only[Gr.oddR,ae,zsf,bne_eq_false_iff_eq,List.any_eq_false,O4,EX,Bool.not_eq_true,zqd];refine⟨⟨⟨?_,fun y hy=> ?_⟩,fun y hy=> ?_⟩,fun y hy=> ?_⟩
  ·rw[nl];show(mN a b a.lat.length).b.length=_;rw[FI];omega
  ·have:=Jy ta2 tb2 a.lat.length y hy;omega
  ·have hy:y∈(aY a.g).next.map (mvX (jA a b).2)++(aY b.g).next.map (mvX (jB a b).2):=hy
   rcases zrf.1 hy with hy|hy
   ·obtain⟨l,hl,rfl⟩:=zrh.1 hy;obtain⟨o1,o2⟩:=rng (iP ga1) (st:=List.replicate a.lat.length false) (y:=List.replicate a.ins.length false) (by simp;omega) (by simp;omega) l hl;have:=a3.lit o1 o2;omega
   ·obtain⟨l,hl,rfl⟩:=zrh.1 hy;have hxb:(xB a b (List.replicate a.ins.length false)).length=b.ins.length:=by unfold xB;rw[zra]
    obtain⟨o1,o2⟩:=rng (iP gb1) (st:=List.replicate b.lat.length false) (y:=xB a b (List.replicate a.ins.length false)) (by simp;omega) (by omega) l hl;have:=b3.lit o1 o2;omega
  ·have:=i5 y hy;omega
 have l3':(az a b).oddAs (az a b).ands.length=false:=by
  unfold Gr.oddAs;rw[List.any_eq_false];intro k hk;have hk:k<(jO a b a.out.length).1.length:=by simpa [az]using hk
  rw[hfe];show ¬Uk (2*(jf a b+k)) ((jO a b a.out.length).1.getD k (0,0))=true;rw[aS hk];have:=i2 k hk;simp only[Uk,Bool.or_eq_true,zqb];omega
 unfold Gr.chk;rw[l1',l2',l3'];rfl
theorem jM:∀ {b:Cl} {st:List Bool},stM b st↔b.length=st.length/\∀i,i<b.length->b.getD i 0=2\/st.getD i false=decide (b.getD i 0=1)
 |[],[]=>by simp[stM]
 |[],_::_=>by simp[stM]
 |_::_,[]=>by simp[stM]
 |b::l,s::st=>by
  rw[stM,jM (b:=l) (st:=st),zrt,zrt];constructor
  ·rintro⟨h1,h2,h3⟩;refine⟨by omega,fun i hi=> ?_⟩;cases i with
   |zero=>simpa using h1
   |succ i=>simpa using h3 i (by omega)
  ·rintro⟨h1,h2⟩;exact⟨by simpa using h2 0 (by omega),by omega,fun i hi=>by simpa using h2 (i+1) (by omega)⟩
theorem JA{α:Type}{l:List α}{j:Nat}{v d:α}:(l.set i v).getD j d=if i=j/\i<l.length then v else l.getD j d:=by
 rw[zqg,zqg];by_cases h:i=j
 ·subst h;by_cases hl:i<l.length
  ·rw[zqt hl,if_pos ⟨rfl,hl⟩];rfl
  ·rw[zsj (by simp;omega),zsj (by omega),if_neg (by omega)]
 ·rw[zqn h,if_neg (fun e=>h e.1)]
theorem VJ{x y:Cl}{p q:List Bool}(h:x.length=p.length):stM (x++y) (p++q)↔stM x p/\stM y q:=by
 rw[jM,jM,jM,zqa,zqa];have e1:∀i,i<x.length->(x++y).getD i 0=x.getD i 0/\(p++q).getD i false=p.getD i false:=fun i hi=>by
  simp only[zqg];rw[zqj hi,zqj (by omega)];exact⟨rfl,rfl⟩
 have e2:∀i,(x++y).getD (x.length+i) 0=y.getD i 0/\(p++q).getD (x.length+i) false=q.getD i false:=fun i=>by simp only[zqg];rw[zsb (Nat.le_add_right _ _),zsb (by omega),Nat.add_sub_cancel_left,show x.length+i-p.length=i by omega];exact⟨rfl,rfl⟩
 constructor
 ·rintro⟨h1,h2⟩;refine⟨⟨h,fun i hi=> ?_⟩,by omega,fun i hi=> ?_⟩
  ·have:=h2 i (by omega)
   rwa [(e1 i hi).1,(e1 i hi).2]at this
  ·have:=h2 (x.length+i) (by omega)
   rwa [(e2 i).1,(e2 i).2]at this
 ·rintro⟨⟨h1,h2⟩,h3,h4⟩;refine⟨by omega,fun i hi=> ?_⟩;by_cases hl:i<x.length
  ·rw[(e1 i hl).1,(e1 i hl).2];exact h2 i hl
  ·obtain⟨j,rfl⟩:∃j,i=x.length+j:=⟨i-x.length,by omega⟩;rw[(e2 j).1,(e2 j).2];exact h4 j (by omega)
def LW(a b:Mo)(pa pb:List Bool):Prop:=∀i k,i<a.lat.length->at? b.lat (a.lat.getD i [])=some k->pa.getD i false=pb.getD k false
def qY(a b:Mo)(pa pb:List Bool):Prop:=stM a.g.init pa/\stM b.g.init pb/\LW a b pa pb
theorem JB{l:Cl}{v:Int}(h2:l.getD i 0=2)(h:stM (l.set i v) st):stM l st:=by
 rw[jM,zrn]at h;rw[jM];refine⟨h.1,fun j hj=> ?_⟩;by_cases e:i=j
 ·subst e;exact .inl h2
 ·have:=h.2 j hj
  rwa [JA,if_neg (fun x=>e x.1)]at this
theorem Uz{l:Cl}{v:Int}(hv:v=2\/st.getD i false=decide (v=1))(h:stM l st):stM (l.set i v) st:=by
 rw[jM]at h;rw[jM,zrn];refine⟨h.1,fun j hj=> ?_⟩;rw[JA];split
 ·rename_i e;rw[<-e.1];exact hv
 ·exact h.2 j hj
theorem PR{a b:Mo}{st:List Bool}:∀i,stM (mN a b i).b st->stM (a.g.init++b.g.init) st
 |0,h=>h
 |i+1,h=>by
  refine PR i ?_;have h:stM (lS a.ins.length a.lat.length b.lat (mN a b i) i (a.lat.getD i [])).b st:=h;unfold lS at h;split at h
  ·exact h
  ·dsimp only at h;split at h
   ·rename_i h2;exact JB h2 h
   ·split at h
    ·rename_i h2;exact JB h2 h
    ·exact h
theorem XA{a b:Mo}{st:List Bool}(hr:∀x∈a.g.init++b.g.init,0<=x/\x<=2)(hla:a.lat.length=a.g.init.length)(hlb:b.lat.length=b.g.init.length)(h0:stM (a.g.init++b.g.init) st)
 (he:∀i k,i<a.lat.length->at? b.lat (a.lat.getD i [])=some k->st.getD i false=st.getD (a.lat.length+k) false):∀i,i<=a.lat.length->stM (mN a b i).b st/\(mN a b i).ok=true
 |0,_=>⟨h0,rfl⟩
 |i+1,hi=>by
  obtain⟨h1,h2⟩:=XA hr hla hlb h0 he i (by omega);have hl:=FI (a:=a) (b:=b) i;have hg:=Di (Jy (a:=a) (b:=b) (fun x hx=>hr x (zrf.2 (.inl hx))) (fun x hx=>hr x (zrf.2 (.inr hx))) i);show stM (lS a.ins.length a.lat.length b.lat (mN a b i) i (a.lat.getD i [])).b st/\(lS a.ins.length a.lat.length b.lat (mN a b i) i (a.lat.getD i [])).ok=true;unfold lS;split
  ·exact⟨h1,h2⟩
  ·rename_i k hk;have e:=he i k (by omega) hk;obtain⟨hkl,_⟩:=lH hk;have c1:=(jM.1 h1).2 i (by omega);have c2:=(jM.1 h1).2 (a.lat.length+k) (by omega);have g1:=hg i;have g2:=hg (a.lat.length+k);rw[h2];dsimp only;generalize (mN a b i).b=l at h1 c1 c2 g1 g2 ⊢;constructor
   ·split
    ·exact Uz (by rw[e];exact c2) h1
    ·split
     ·exact Uz (by rw[<-e];exact c1) h1
     ·exact h1
   ·rw[e]at c1;generalize l.getD i 0=x at c1 g1 ⊢;generalize l.getD (a.lat.length+k) 0=y at c2 g2 ⊢;generalize st.getD (a.lat.length+k) false=v at c1 c2;rcases c1 with rfl|c1
    ·rfl
    rcases c2 with rfl|c2
    ·simp
    ·rw[c1]at c2;have:x=0\/x=1\/x=2:=by omega
     have:y=0\/y=1\/y=2:=by omega
     rcases ‹x=0\/x=1\/x=2› with rfl|rfl|rfl<;>rcases ‹y=0\/y=1\/y=2› with rfl|rfl|rfl<;>first|rfl|(revert c2;decide)
theorem JC{a b:Mo}:∀i p,p∈(mN a b i).p↔∃j k,j<i/\at? b.lat (a.lat.getD j [])=some k/\p=(1+(a.ins.length:Int)+(j:Int),1+(a.ins.length:Int)+(a.lat.length:Int)+(k:Int))
 |0,p=>⟨fun h=>(by cases h),fun⟨j,k,h,_⟩=>absurd h (Nat.not_lt_zero _)⟩
 |i+1,p=>by
  have ih:=JC (a:=a) (b:=b) i p;show p∈(lS a.ins.length a.lat.length b.lat (mN a b i) i (a.lat.getD i [])).p↔_;unfold lS;split
  ·rename_i hn;rw[ih];constructor
   ·rintro⟨j,k,h1,h2,h3⟩;exact⟨j,k,by omega,h2,h3⟩
   ·rintro⟨j,k,h1,h2,h3⟩;by_cases e:j=i
    ·subst e;rw[hn]at h2;cases h2
    ·exact⟨j,k,by omega,h2,h3⟩
  ·rename_i k0 hk;dsimp only;rw[zrf,ih,zrc];constructor
   ·rintro(⟨j,k,h1,h2,h3⟩|h)
    ·exact⟨j,k,by omega,h2,h3⟩
    ·exact⟨i,k0,by omega,hk,h⟩
   ·rintro⟨j,k,h1,h2,h3⟩;by_cases e:j=i
    ·subst e;rw[hk]at h2;cases h2;exact .inr h3
    ·exact .inl ⟨j,k,by omega,h2,h3⟩
theorem FQ(c:CanOk a b){pa pb:List Bool}(ha:pa.length=a.lat.length)(hb:pb.length=b.lat.length) :
 (qY a b pa pb->(mV a b).ok=true/\stM (mV a b).b (pa++pb))/\(stM (mV a b).b (pa++pb)->LW a b pa pb->qY a b pa pb):=by
 obtain⟨ga1,ga2,ga3,ga4⟩:=cO c.ca;obtain⟨gb1,gb2,gb3,gb4⟩:=cO c.cb;obtain⟨_,ra0,ra1,ra2,ra3,ra4,ra5⟩:=aW ga1;obtain⟨_,rb0,rb1,rb2,rb3,rb4,rb5⟩:=aW gb1;obtain⟨ta1,ta2,ta3,ta4⟩:=aN ra4;obtain⟨tb1,tb2,tb3,tb4⟩:=aN rb4;have happ:stM (a.g.init++b.g.init) (pa++pb)↔stM a.g.init pa/\stM b.g.init pb:=VJ (by omega);constructor
 ·rintro⟨h1,h2,h3⟩;have:=XA (a:=a) (b:=b) (st:=pa++pb) (fun x hx=>(zrf.1 hx).elim (ta2 x) (tb2 x)) (by omega) (by omega) (happ.2 ⟨h1,h2⟩) (fun i k hi hk=>by
   have:=h3 i k hi hk;simp only[zqg]at this ⊢;rw[zqj (by omega),zsb (by omega),show a.lat.length+k-pa.length=k by omega];exact this) a.lat.length (zrb _)
  exact⟨this.2,this.1⟩
 ·intro h1 h2;have:=happ.1 (PR _ h1);exact⟨this.1,this.2,h2⟩
variable{g:Gr}
theorem PS:(nx g st x).length=g.next.length:=by unfold nx;rw[zra]
theorem XB:(xB a b x).length=b.ins.length:=by unfold xB;rw[zra]
theorem FU{a b:Mo}(c:CanOk a b):∀ {seq:List (List Bool)} {pa pb:List Bool},pa.length=a.lat.length->pb.length=b.lat.length->(∀x∈seq,x.length=a.ins.length) ->
 pW (az a b) (pa++pb) seq=pW a.g pa seq++pW b.g pb (seq.map (xB a b))/\(pW a.g pa seq).length=a.lat.length/\(pW b.g pb (seq.map (xB a b))).length=b.lat.length
 |[],pa,pb,ha,hb,_=>⟨rfl,ha,hb⟩
 |x::seq,pa,pb,ha,hb,hx=>by obtain⟨ga1,ga2,ga3,ga4⟩:=cO c.ca;obtain⟨gb1,gb2,gb3,gb4⟩:=cO c.cb;have h:=PQ c ⟨ha,hb,hx x (by simp)⟩;have ih:=FU c (seq:=seq) (pa:=nx a.g pa x) (pb:=nx b.g pb (xB a b x)) (by rw[PS];omega) (by rw[PS];omega) (fun y hy=>hx y (by simp[hy]));show pW (az a b) (nx (az a b) (pa++pb) x) seq=pW a.g (nx a.g pa x) seq++pW b.g (nx b.g pb (xB a b x)) (seq.map (xB a b))/\_;rw[h];exact ih
theorem JD{g:Gr}:∀ {seq:List (List Bool)} {st:List Bool} {t:Nat},t<seq.length->(SQ g st seq).getD t []=g.vals (pW g st (seq.take t)) (seq.getD t [])
 |[],st,t,h=>absurd h (Nat.not_lt_zero _)
 |x::seq,st,0,_=>rfl
 |x::seq,st,t+1,h=>by show(SQ g (nx g st x) seq).getD t []=g.vals (pW g (nx g st x) (seq.take t)) (seq.getD t []);exact JD (by simpa using h)
def vN(g:Gr)(st:List Bool)(seq:List (List Bool)):List Bool:=oV g (pW g st (seq.take (seq.length-1))) (seq.getD (seq.length-1) [])
variable{seq:List (List Bool)}
theorem PT:(vN g st seq).length=g.outs.length:=by unfold vN oV;rw[zra]
theorem LY(c:CanOk a b){seq:List (List Bool)}{pa pb:List Bool}(ha:pa.length=a.lat.length)(hb:pb.length=b.lat.length)(hx:∀x∈seq,x.length=a.ins.length)(h0:0<seq.length) :
 vN (az a b) (pa++pb) seq=(List.range a.out.length).map fun j=>(vN a.g pa seq).getD j false != (vN b.g pb (seq.map (xB a b))).getD (atI b.out (a.out.getD j [])) false:=by
 obtain⟨h1,h2,h3⟩:=FU c (seq:=seq.take (seq.length-1)) ha hb (fun x h=>hx x (zsh h));have hl:seq.length-1<seq.length:=by omega
 have hg:seq.getD (seq.length-1) []∈seq:=by rw[aS hl];exact zqu hl
 have:=FP c (pa:=pW a.g pa (seq.take (seq.length-1))) (pb:=pW b.g pb ((seq.take (seq.length-1)).map (xB a b))) (x:=seq.getD (seq.length-1) []) ⟨h2,h3,hx _ hg⟩;unfold vN;rw[h1,this,zra,<-List.map_take,xy (d:=[]) hl]
variable{k:Nat}
theorem zF{b:Cl}:(gQ g b k).length=k+1:=by unfold gQ;rw[zqa,oN];rfl
theorem PU{b:Cl}{t:Nat}(h:t<k):(gQ g b k).getD t []=(bY g b k).rows.getD t []:=by unfold gQ;rw[zqg,zqj (by rw[oN];exact h),<-zqg]
abbrev rwH(g:Gr)(b:Cl)(k:Nat)(vs:List Bool)(t:Nat):List Bool:=((bY g b k).rows.getD t []).map (hol vs)
theorem ql(hg:g.chk=0){b:Cl}(hb:b.length=g.next.length)(hb2:∀x∈b,0<=x/\x<=2){k t:Nat}(ht:t<k){a:Int}(h0:0<=a)(h1:a<g.all) :
 inU (bY g b k).n (lM (gQ g b k) t a)/\∀vs,hol vs (lM (gQ g b k) t a)=lv (rwH g b k vs t) a:=by
 have ok:=wC hg hb hb2 k;obtain⟨_,i0,i1,i2,i3,i4,i5⟩:=aW hg;have wf:g.first=1+g.ins+g.next.length:=rfl
 have wa:g.all=2*(g.first+g.ands.length):=rfl;have wv:SS g=1+g.ins.toNat+g.next.length+g.ands.length:=rfl
 have htl:t<(bY g b k).rows.length:=by rw[oN];exact ht
 have hm:(bY g b k).rows.getD t []∈(bY g b k).rows:=by rw[aS htl];exact zqu htl
 obtain⟨r1,r2⟩:=ok.r _ hm;unfold lM;rw[zsg,PU ht,zF];have hal:a/2<(((bY g b k).rows.getD t []).length:Int):=by omega
 rw[if_neg (by omega)];exact⟨pV r1 h0 hal,fun vs=>ug r1 h0 hal⟩
def FV(R:List Cl)(p:Pq):List Cl:=[[lM R 0 (2*p.1),-lM R 0 (2*p.2)],[-lM R 0 (2*p.1),lM R 0 (2*p.2)]]
def Ae(g:Gr)(beg:Cl)(pr:List Pq)(k:Nat):List Cl:=((bY g beg k).cl++pr.flatMap (FV (gQ g beg k)))++[g.outs.map fun a=>lM (gQ g beg k) ((k:Int)-1) a]
variable{vs:List Bool}
theorem Dk{a b:List Cl}:sat (a++b) vs=(sat a vs&&sat b vs):=by unfold sat;rw[List.all_append]
theorem Tn{x y:Int}(hx:x≠0)(hy:y≠0){vs:List Bool}:sat [[x,-y],[-x,y]] vs=true↔hol vs x=hol vs y:=by unfold sat;simp only[List.all_cons,List.all_nil,List.any_cons,List.any_nil,jI hx,jI hy];cases hol vs x<;>cases hol vs y<;>decide
theorem JE{α:Type}{f:α->List Cl}{vs:List Bool}:∀ {l:List α},sat (l.flatMap f) vs=true↔∀x∈l,sat (f x) vs=true
 |[]=>by simp[sat]
 |a::l=>by rw[List.flatMap_cons,Dk,zqf,JE (l:=l)];simp
theorem PW(hg:g.chk=0){b:Cl}(hb:b.length=g.next.length)(hb2:∀x∈b,0<=x/\x<=2){pr:List Pq}(hp:∀p∈pr,(0<=2*p.1/\2*p.1<g.all)/\0<=2*p.2/\2*p.2<g.all){k:Nat}(hk:0<k){vs:List Bool} :
 sat (Ae g b pr k) vs=true↔sat (bY g b k).cl vs=true/\(∀p∈pr,lv (rwH g b k vs 0) (2*p.1)=lv (rwH g b k vs 0) (2*p.2))/\∃a∈g.outs,lv (rwH g b k vs (k-1)) a=true:=by
 obtain⟨_,i0,i1,i2,i3,i4,i5⟩:=aW hg;obtain⟨r1,r2,r3,r4⟩:=aN i4;unfold Ae;rw[Dk,Dk,zqf,zqf,and_assoc,JE];refine and_congr_right fun _=>and_congr ?_ ?_
 ·refine forall_congr' fun p=>forall_congr' fun hp1=> ?_;obtain⟨h1,h2⟩:=hp p hp1;obtain⟨a1,a2⟩:=ql hg hb hb2 (t:=0) hk h1.1 h1.2;obtain⟨b1,b2⟩:=ql hg hb hb2 (t:=0) hk h2.1 h2.2;unfold FV;rw[show((0:Nat):Int)=0 from rfl]at a1 a2 b1 b2;rw[Tn a1.1 b1.1,a2,b2]
 ·show sat [_] vs=true↔_;unfold sat;rw[List.all_cons,List.all_nil,Bool.and_true,List.any_map,List.any_eq_true];refine exists_congr fun a=>and_congr_right fun ha=> ?_;have hr:=r4 a ha;have:=(ql hg hb hb2 (k:=k) (t:=k-1) (by omega) hr.1 hr.2).2 vs;rw[show((k-1:Nat):Int)=(k:Int)-1 by omega]at this;show hol vs (lM _ _ _)=true↔_;rw[this]
def DC(R:List Cl)(f:Int)(n:Nat)(vs:List Bool):List Bool:=(List.range n).map fun i:Nat=>hol vs (lM R 0 (2*(f+(i:Int))))
def PX(R:List Cl)(ni k:Nat)(vs:List Bool):List (List Bool):=(List.range k).map fun t:Nat=>(List.range ni).map fun i:Nat=>hol vs (lM R t (2*(1+(i:Int))))
theorem JG{v:List Bool}{f:Int}(hf:0<=f):lv v (2*(f+(i:Int)))=v.getD (f.toNat+i) false:=by rw[show 2*(f+(i:Int))=2*((f.toNat+i:Nat):Int) by omega,zy]
theorem xA(h:i<1+x.length+st.length):(g.vals st x).getD i false=([false]++x++st).getD i false:=by rw[qH];have:=zu (base:=[false]++x++st) (A:=[]) (B:=g.ands) (k:=i) (by simp;omega);rw[List.nil_append]at this;exact this
structure Runs(a b:Mo)(k:Nat)(pa pb:List Bool)(seq:List (List Bool)):Prop where
 la:pa.length=a.lat.length
 lb:pb.length=b.lat.length
 lk:seq.length=k
 lx:∀x∈seq,x.length=a.ins.length
theorem PY(c:CanOk a b)(big:JBig a b):∀p∈(mV a b).p,(0<=2*p.1/\2*p.1<(az a b).all)/\0<=2*p.2/\2*p.2<(az a b).all:=fun p hp=>by obtain⟨j,k,h1,h2,rfl⟩:=(JC _ _).1 hp;obtain⟨h3,_⟩:=lH h2;have wa:(az a b).all=2*((az a b).first+(az a b).ands.length):=rfl;rw[wa,qI c];unfold jf;dsimp only;omega
theorem qJ(c:CanOk a b):(mV a b).b.length=(az a b).next.length/\(∀x∈(mV a b).b,0<=x/\x<=2)/\(az a b).next.length=a.lat.length+b.lat.length:=by
 obtain⟨ga1,ga2,ga3,ga4⟩:=cO c.ca;obtain⟨gb1,gb2,gb3,gb4⟩:=cO c.cb;obtain⟨pa1,pa2,pa3,pa4⟩:=bZ (g:=a.g);obtain⟨pb1,pb2,pb3,pb4⟩:=bZ (g:=b.g);obtain⟨_,ra0,ra1,ra2,ra3,ra4,ra5⟩:=aW ga1;obtain⟨_,rb0,rb1,rb2,rb3,rb4,rb5⟩:=aW gb1;obtain⟨ta1,ta2,ta3,ta4⟩:=aN ra4;obtain⟨tb1,tb2,tb3,tb4⟩:=aN rb4;have nl:(az a b).next.length=a.lat.length+b.lat.length:=by show((aY a.g).next.map (mvX (jA a b).2)++(aY b.g).next.map (mvX (jB a b).2)).length=_;rw[zqa,zra,zra];omega
 refine⟨?_,Jy ta2 tb2 _,nl⟩;show(mN a b a.lat.length).b.length=_;rw[FI];omega
theorem PZ{b:Cl}(h:(bY g b k).rows.map (fun r=>r.map (hol vs))=SQ g st seq){t:Nat}(ht:t<k)(hs:seq.length=k):rwH g b k vs t=g.vals (pW g st (seq.take t)) (seq.getD t []):=by rw[<-JD (by omega),<-h];unfold rwH;rw[xy (d:=[]) (by rw[oN];exact ht)]
theorem UB(c:CanOk a b){g:Gr}{pa pb x:List Bool}(ha:pa.length=a.lat.length)(hb:pb.length=b.lat.length)(hx:x.length=a.ins.length) :
 (∀p∈(mV a b).p,lv (g.vals (pa++pb) x) (2*p.1)=lv (g.vals (pa++pb) x) (2*p.2))↔LW a b pa pb:=by
 have key:∀j k,j<a.lat.length->k<b.lat.length->(lv (g.vals (pa++pb) x) (2*(1+(a.ins.length:Int)+(j:Int)))=lv (g.vals (pa++pb) x) (2*(1+(a.ins.length:Int)+(a.lat.length:Int)+(k:Int)))↔pa.getD j false=pb.getD k false):=fun j k hj hk=>by
  rw[JG (by omega),JG (by omega),xA (by simp;omega),xA (by simp;omega)];rw[show(1+(a.ins.length:Int)).toNat+j=(x.length+j)+1 by omega,show(1+(a.ins.length:Int)+(a.lat.length:Int)).toNat+k=(x.length+(pa.length+k))+1 by omega];have e1:([false]++x++(pa++pb)).getD ((x.length+j)+1) false=pa.getD j false:=by
   show(false::(x++(pa++pb))).getD _ false=_;rw[List.getD_cons_succ,zqg,zsb (by omega),Nat.add_sub_cancel_left,zqj (by omega),<-zqg]
  have e2:([false]++x++(pa++pb)).getD ((x.length+(pa.length+k))+1) false=pb.getD k false:=by show(false::(x++(pa++pb))).getD _ false=_;rw[List.getD_cons_succ,zqg,zsb (by omega),Nat.add_sub_cancel_left,zsb (by omega),Nat.add_sub_cancel_left,<-zqg]
  rw[e1,e2]
 constructor
 ·intro h i k hi hk;exact(key i k hi (lH hk).1).1 (h _ ((JC _ _).2 ⟨i,k,hi,hk,rfl⟩))
 ·intro h p hp;obtain⟨j,k,h1,h2,rfl⟩:=(JC _ _).1 hp;exact(key j k h1 (lH h2).1).2 (h j k h1 h2)
theorem FW(c:CanOk a b)(big:JBig a b){k:Nat}(hk:0<k){vs:List Bool}(h:sat (Ae (az a b) (mV a b).b (mV a b).p k) vs=true) :
 ∃pa pb seq,Runs a b k pa pb seq/\qY a b pa pb/\DC (gQ (az a b) (mV a b).b k) (1+(a.ins.length:Int)) a.lat.length vs=pa/\DC (gQ (az a b) (mV a b).b k) (1+(a.ins.length:Int)+(a.lat.length:Int)) b.lat.length vs=pb /\
  PX (gQ (az a b) (mV a b).b k) a.ins.length k vs=seq/\(∀l∈(az a b).outs,hol vs (lM (gQ (az a b) (mV a b).b k) ((k:Int)-1) l)=lv ((az a b).vals (pW (az a b) (pa++pb) (seq.take (k-1))) (seq.getD (k-1) [])) l) /\
  ∃l∈(az a b).outs,lv ((az a b).vals (pW (az a b) (pa++pb) (seq.take (k-1))) (seq.getD (k-1) [])) l=true:=by
 obtain⟨b1,b2,b3⟩:=qJ c;have hg:=Dj c big;have hf:=qI c;obtain⟨_,i0,i1,i2,i3,i4,i5⟩:=aW hg;obtain⟨r1,r2,r3,r4⟩:=aN i4;obtain⟨s1,s2,s3⟩:=(PW hg b1 b2 (PY c big) hk).1 h;obtain⟨o1,o2,o3⟩:=Fj hg b1 b2 k s1;have ok:=wC hg b1 b2 k;obtain⟨st,hst⟩:∃st,st=(vk (mV a b).b).2.map (hol vs):=⟨_,rfl⟩;obtain⟨seq,hseq⟩:∃seq,seq=Uo (az a b) vs (bY (az a b) (mV a b).b k).rows:=⟨_,rfl⟩;rw[<-hst,<-hseq]at o2 o3;have hm:stM (mV a b).b st:=by have:=Fh o1 (mV a b).b (1,[]) [] b2 trivial;rw[hst];exact this
 have hsl:st.length=a.lat.length+b.lat.length:=by rw[<-(jM.1 hm).1,b1,b3]
 have hki:(az a b).ins.toNat=a.ins.length:=zsg _;have hql:seq.length=k:=by rw[hseq];unfold Uo;rw[zra,oN]
 have hqx:∀x∈seq,x.length=a.ins.length:=fun x hx=>by
  rw[hseq]at hx;obtain⟨r,hr,rfl⟩:=zrh.1 hx;have:=(ok.r r hr).2;have wv:SS (az a b)=1+(az a b).ins.toNat+(az a b).next.length+(az a b).ands.length:=rfl
  simp only[zrl,List.length_drop,zra,hki];omega
 have hrow:∀t,t<k->rwH (az a b) (mV a b).b k vs t=(az a b).vals (pW (az a b) st (seq.take t)) (seq.getD t []):=fun t ht=>PZ o2 ht hql;have hsplit:st=st.take a.lat.length++st.drop a.lat.length:=(List.take_append_drop _ _).symm;have hla:(st.take a.lat.length).length=a.lat.length:=by rw[zrl];omega
 have hlb:(st.drop a.lat.length).length=b.lat.length:=by rw[List.length_drop];omega
 obtain⟨pa,hpa⟩:∃pa,pa=st.take a.lat.length:=⟨_,rfl⟩;obtain⟨pb,hpb⟩:∃pb,pb=st.drop a.lat.length:=⟨_,rfl⟩;rw[<-hpa]at hla hsplit;rw[<-hpb]at hlb hsplit;have hx0:(seq.getD 0 []).length=a.ins.length:=hqx _ (by rw[aS (by omega)];exact zqu _);have hr0:rwH (az a b) (mV a b).b k vs 0=(az a b).vals (pa++pb) (seq.getD 0 []):=by rw[hrow 0 hk,<-hsplit];rfl
 rw[hr0]at s2;have hpo:=(UB c hla hlb hx0).1 s2;have hlit:∀(f:Int)(i:Nat),0<=f->f+(i:Int)<(az a b).first->hol vs (lM (gQ (az a b) (mV a b).b k) 0 (2*(f+(i:Int))))=([false]++seq.getD 0 []++(pa++pb)).getD (f.toNat+i) false:=fun f i h0 h1=>by
  have wa:(az a b).all=2*((az a b).first+(az a b).ands.length):=rfl;have:=(ql hg b1 b2 (t:=0) hk (a:=2*(f+(i:Int))) (by omega) (by omega)).2 vs;rw[show((0:Nat):Int)=0 from rfl]at this;rw[this,hr0,JG h0,xA];have:jf a b=1+(a.ins.length:Int)+((a.lat.length:Int)+(b.lat.length:Int)):=rfl;rw[zqa];omega
 refine⟨pa,pb,seq,⟨hla,hlb,hql,hqx⟩,(FQ c hla hlb).2 (by rw[<-hsplit];exact hm) hpo,?_,?_,?_,?_,?_⟩
 ·unfold DC;refine List.ext_getElem (by simp[hla]) fun i h1 h2=> ?_;simp only[List.getElem_map,List.getElem_range];rw[hlit _ _ (by omega) (by rw[hf];unfold jf;omega),show(1+(a.ins.length:Int)).toNat+i=((seq.getD 0 []).length+i)+1 by omega];show(false::(seq.getD 0 []++(pa++pb))).getD _ false=_;rw[List.getD_cons_succ,zqg,zsb (by omega),Nat.add_sub_cancel_left,zqj h2,zqk h2];rfl
 ·unfold DC;refine List.ext_getElem (by simp[hlb]) fun i h1 h2=> ?_;simp only[List.getElem_map,List.getElem_range];rw[hlit _ _ (by omega) (by rw[hf];unfold jf;omega),show(1+(a.ins.length:Int)+(a.lat.length:Int)).toNat+i=((seq.getD 0 []).length+(pa.length+i))+1 by omega];show(false::(seq.getD 0 []++(pa++pb))).getD _ false=_;rw[List.getD_cons_succ,zqg,zsb (by omega),Nat.add_sub_cancel_left,zsb (by omega),Nat.add_sub_cancel_left,zqk h2];rfl
 ·unfold PX;refine List.ext_getElem (by simp[hql]) fun t h1 h2=> ?_;simp only[List.getElem_map,List.getElem_range];have hx:=hqx _ (zqu h2);refine List.ext_getElem (by simp[hx]) fun i h3 h4=> ?_;simp only[List.getElem_map,List.getElem_range];have wa:(az a b).all=2*((az a b).first+(az a b).ands.length):=rfl;have hjf:jf a b=1+(a.ins.length:Int)+((a.lat.length:Int)+(b.lat.length:Int)):=rfl;have:=(ql hg b1 b2 (k:=k) (t:=t) (by omega) (a:=2*(1+(i:Int))) (by omega) (by omega)).2 vs;rw[this,hrow t (by omega),aS h2,JG (by omega),xA (by omega),show(1:Int).toNat+i=i+1 by omega];show(false::(seq[t]++_)).getD _ false=_;rw[List.getD_cons_succ,zqg,zqj h4,zqk h4];rfl
 ·intro l hl;have hr:=r4 l hl;have:=(ql hg b1 b2 (k:=k) (t:=k-1) (by omega) hr.1 hr.2).2 vs;rw[show((k-1:Nat):Int)=(k:Int)-1 by omega]at this;rw[this,hrow (k-1) (by omega),<-hsplit]
 ·obtain⟨l,h1,h2⟩:=s3;rw[hrow (k-1) (by omega),hsplit]at h2;exact⟨l,h1,h2⟩
theorem Tq(c:CanOk a b)(big:JBig a b){k:Nat}(hk:0<k){pa pb:List Bool}{seq:List (List Bool)}(hr:Runs a b k pa pb seq)(hm:qY a b pa pb)
 (hd:∃l∈(az a b).outs,lv ((az a b).vals (pW (az a b) (pa++pb) (seq.take (k-1))) (seq.getD (k-1) [])) l=true):∃vs,sat (Ae (az a b) (mV a b).b (mV a b).p k) vs=true:=by
 obtain⟨b1,b2,b3⟩:=qJ c;have hg:=Dj c big;have hki:(az a b).ins.toNat=a.ins.length:=zsg _;obtain⟨m1,m2⟩:=(FQ c hr.la hr.lb).1 hm;obtain⟨vs,v1,v2,v3,v4,v5,v6⟩:=wE hg b1 b2 m2 (seq:=seq) (fun x hx=>by rw[hki];exact hr.lx x hx) k (by rw[hr.lk];exact zrb _);have hlk:=hr.lk;rw[zqh (by omega)]at v5;have hrow:∀t,t<k->rwH (az a b) (mV a b).b k vs t=(az a b).vals (pW (az a b) (pa++pb) (seq.take t)) (seq.getD t []):=fun t ht=>PZ v5 ht hr.lk;have hx0:(seq.getD 0 []).length=a.ins.length:=hr.lx _ (by rw[aS (by omega)];exact zqu _);refine⟨vs,(PW hg b1 b2 (PY c big) hk).2 ⟨v3,?_,?_⟩⟩
 ·rw[hrow 0 hk];exact(UB c hr.la hr.lb hx0).2 hm.2.2
 ·rw[hrow (k-1) (by omega)];exact hd
def zG(a b:Mo)(pa pb:List Bool)(seq:List (List Bool))(j:Nat):Bool:=(vN a.g pa seq).getD j false != (vN b.g pb (seq.map (xB a b))).getD (atI b.out (a.out.getD j [])) false
theorem Dl(c:CanOk a b){k:Nat}(hk:0<k){pa pb:List Bool}{seq:List (List Bool)}(hr:Runs a b k pa pb seq) :
 (az a b).outs.map (lv ((az a b).vals (pW (az a b) (pa++pb) (seq.take (k-1))) (seq.getD (k-1) [])))=(List.range a.out.length).map (zG a b pa pb seq):=by
 have hlk:=hr.lk;have h:=LY c hr.la hr.lb hr.lx (by omega);unfold vN oV at h;rw[hr.lk]at h;rw[h];unfold zG vN oV;rw[zra,hr.lk]
def JH(n:Nat):List V:=(List.range n).map fun i:Nat=>vi (i:Int)
theorem P5(n:Nat):JH (n+1)=JH n++[vi (n:Int)]:=by unfold JH;rw[List.range_succ,zql];rfl
theorem uy{n:Nat}(h:i<n)(d:V):(JH n).getD i d=vi (i:Int):=by simp[JH,zqg,h]
abbrev plV(l:List S):V:= .im (l.map V.str) (JH l.length)
theorem P6{n:Nat}:V.dats (JH n)=true:=by
 unfold JH;generalize List.range n=l
 induction l with
 |nil=>rfl
 |cons a l ih=>rw[zrd,V.dats,ih];rfl
theorem kU(l:List S)(hn:l.Nodup):Ev TE 27 [jq l] (plV l):=by
 refine Ev.bnd fun hb=> ?_;have hlen:=tY hb;refine aF Tryz.func27 rfl (by simp[nts]) (vm ?_);simp only[wq.1,seval,Tryz.results27];refine aC (fun m f h=>∃i,m+i=l.length/\f.t 3= .lm 0/\f.t 7=jq l/\f.t 8=vi l.length/\f.t 9=vi i/\f.d=[]/\h=[.map ((l.take i).map V.str) (JH i)]) l.length ⟨0,by simp,rfl,rfl,rfl,rfl,rfl,rfl⟩ ?_;rintro m f h ⟨i,hm,h3,h7,h8,h9,hd,rfl⟩;refine vm ?_;simp only[wq.1,seval,h8,h9];refine vcB.mk (fun hc=> ?_) (fun hc=> ?_)
 ·simp only[zqb,zqi]at hc;have hsucc:l.take (i+1)=l.take i++[l[i]]:=by rw[zrg];simp[hc]
  have hat:at? (l.take i) l[i]=none:=SK fun h=>by obtain⟨k,hk,he⟩:=List.getElem_of_mem h;rw[List.getElem_take]at he;have:=(List.getElem_inj hn).1 he;simp at hk;omega
  simp only[wq.1,seval,h3,h7,h9,Gq hc,Iw,dR,K.keyOk,hat];refine⟨⟨by omega,by omega⟩,.inl ⟨m-1,by omega,i+1,by omega,h3,h7,h8,by rw[aA (by omega)];rfl,hd,?_⟩⟩;rw[hsucc,zql,P5];rfl
 ·simp only[zqd,zqi]at hc;simp only[wq.1,seval,h3,hd];have:i=l.length:=by omega
  subst this;rw[zrx];exact aH.lm rfl (aj.dat ji) (aj.dat P6)
theorem LZ(b:List S)(s:S):Ev TE 80 [.str s,.ip (plV b)] (.bool (!(at? b s).isSome)):=by
 refine aF Tryz.func80 rfl (by simp[nts]) (vm ?_);simp only[wq.1,seval,Tryz.results80];cases hat:at? b s with
 |none=>simp only[wq.1,seval,qp,dR,hat];exact aH.dat rfl
 |some n=>simp only[wq.1,seval,qp,dR,hat];exact aH.dat rfl
theorem FX(a b:List S)(hn:b.Nodup):Ev TE 48 [jq a,jq b] (.bool (qh a b)):=by
 have hp:=kU b hn;have hc:=Ul a 80 [.ip (plV b)] (fun s=> !(at? b s).isSome) rfl (by simp only[V.dats,V.dat,zre]) (fun x _=>LZ b x);have e:qh a b=(((a.length:Int)==(b.length:Int))&& !(a.any fun s=> !(at? b s).isSome)):=by
  unfold qh;rw[List.all_eq_not_any_not]
  congr 1
  rw[Bool.eq_iff_iff,zqb,beq_iff_eq];omega
 rw[e];refine aF Tryz.func48 rfl (by simp[nts]) (vm ?_);simp only[wq.1,seval,Tryz.results48];refine ag.ev hp (by simp only[V.dats,V.dat,ji,zre]) ?_;simp only[wq.1,seval];cases hl:((a.length:Int)==(b.length:Int))with
 |false=>simp only[wq.1,seval];exact⟨.bool true,trivial,aH.dat rfl⟩
 |true=>simp only[wq.1,seval];refine ag.lend hc (aj.cons (aH.dat (by simp only[V.dat,ji])) (aj.cons (aH.fn aj.nil (aj.cons (aH.lp rfl (aj.dat (by simp only[V.dats,V.dat,zre])) rfl rfl (by simp[V.vc]) rfl) aj.nil)) aj.nil)) rfl ?_;simp only[wq.1,↓reduceIte,Nat.reduceEqDiff,Nat.reduceLT,reduceCtorEq];exact aH.dat rfl
abbrev cCM(m:Mo):List V:=[vi m.g.ins,ay m.g.next,ay m.g.init,prs m.g.ands,ay m.g.outs,jq m.ins,jq m.lat,jq m.out]
theorem Tt(a b:Mo)(ha:a.g.Sm)(hb:b.g.Sm):Ev TE 25 [a.v,b.v] (vi (qj a b)):=by
 have h1:=Ff a ha;have h2:=Ff b hb;unfold Mo.v at h1 h2 ⊢;refine aF Tryz.func25 rfl (by simp[nts]) (vm ?_);simp only[wq.1,↓reduceIte,Nat.reduceEqDiff,Nat.reduceLT,Nat.reduceAdd,reduceCtorEq,Nat.reduceMul,Tryz.results25];refine⟨⟨rfl,by decide⟩,?_⟩;refine aC (fun m f h=>∃(i:Nat)(X:H),m+i=2/\f.t 2= .lp 0 0/\f.t 3= .lp 1 0/\f.t 10= .is true 8 [.agg (cCM a),.agg (cCM b)]/\f.t 11=vi 2/\f.t 12=vi i/\f.d=[]/\(1<=i->a.chk=0)/\(2<=i->b.chk=0)/\h=[.cells (cCM a),.cells (cCM b)]++X) 2 ⟨0,[],by omega,rfl,rfl,rfl,rfl,rfl,rfl,by omega,by omega,rfl⟩ ?_;rintro m f h ⟨i,X,hm,t2,t3,t10,t11,t12,hd,hca,hcb,rfl⟩;refine gp (by rw[hd];simp) ?_;have hcl:([.cells (cCM a),.cells (cCM b)]:H).map (O.drop (aJ ([.cells (cCM a),.cells (cCM b)]:H).length))=[.cells (cCM a),.cells (cCM b)]:=rfl;rw[hcl];have hi:i=0\/i=1\/i=2:=by omega
 rcases hi with rfl|rfl|rfl
 ·have t12:f.t 12=vi 0:=t12;refine vm ?_;simp only[wq.1,seval,-Int.reduceNatCast,-Int.reduceNatCast',aG,Tryz.results25,t2,t3,t10,t11,t12,hd,aJ];refine⟨by omega,ag.ev h1 (by simp only[V.dats,V.dat,zre]) ?_⟩;simp only[wq.1,↓reduceIte,Nat.reduceLT];refine vcB.mk (fun hc=> ?_) (fun hc=> ?_)
  ·simp only[wq.1,seval,hd,aJ];exact aH.eq rfl (by unfold qj;rw[if_pos (by simpa using hc)])
  ·simp only[wq.1,seval,t12];exact .inl ⟨m-1,by omega,1,[.cells (cCM a)],by omega,by simp only[wq.1,seval,t2,aJ],by simp only[wq.1,seval,t3,aJ],by simp only[wq.1,seval,t10],by simp only[wq.1,seval,t11],rfl,hd,fun _=>by simpa using hc,fun h=>by omega,rfl⟩
 ·have t12:f.t 12=vi 1:=t12;have hca:=hca (zrb _);refine vm ?_;simp only[wq.1,seval,-Int.reduceNatCast,-Int.reduceNatCast',aG,Tryz.results25,t2,t3,t10,t11,t12,hd,aJ];refine⟨by omega,ag.ev h2 (by simp only[V.dats,V.dat,zre]) ?_⟩;simp only[wq.1,↓reduceIte,Nat.reduceLT];refine vcB.mk (fun hc=> ?_) (fun hc=> ?_)
  ·simp only[wq.1,seval,hd,aJ];exact aH.eq rfl (by unfold qj;rw[if_neg (by omega),if_pos (by simpa using hc)])
  ·simp only[wq.1,seval,t12];exact .inl ⟨m-1,by omega,2,[.cells (cCM b)],by omega,by simp only[wq.1,seval,t2,aJ],by simp only[wq.1,seval,t3,aJ],by simp only[wq.1,seval,t10],by simp only[wq.1,seval,t11],rfl,hd,fun _=>hca,fun _=>by simpa using hc,rfl⟩
 ·have t12:f.t 12=vi 2:=t12;have hca:=hca (by omega);have hcb:=hcb (zrb _);obtain⟨n1,n2,n3⟩:=kL hcb;have k1:=FX a.ins b.ins n1;have k2:=FX a.out b.out n3;have ce:qj a b=if(qh a.ins b.ins&&qh a.out b.out)=true then 0 else 12:=by unfold qj;rw[if_neg (by omega),if_neg (by omega)]
  rw[ce];refine vm ?_;simp only[wq.1,seval,t2,t3,t11,t12,aJ];refine ag.ev k1 (by simp only[V.dats,V.dat,ji,zre]) ?_;simp only[wq.1,seval,t2,t3,aJ];cases qh a.ins b.ins with
  |false=>simp only[wq.1,seval];refine⟨.bool true,?_⟩;simp only[wq.1,seval,hd];exact aH.dat rfl
  |true =>
   simp only[wq.1,seval];refine ag.ev k2 (by simp only[V.dats,V.dat,ji,zre]) ?_;simp only[wq.1,seval];cases qh a.out b.out with
   |false=>simp only[wq.1,seval,hd,aJ];exact aH.dat rfl
   |true=>simp only[wq.1,seval,hd,aJ];exact aH.dat rfl
abbrev hJo(x0 x1 x2 jc:List V):H:=[.cells x0,.cells x1,.cells x2,.cells jc]
abbrev hM2(a b:Mo)(x0 x1 x2:List V)(iv:V)(s:MS):H :=
 [.cells x0,.cells x1,.cells x2,.cells [vi 0,.nils,.nils,.nils,.nils,.ls 6 1 0 s.b.length s.b.length,.ls 7 2 0 s.p.length s.p.length,iv,.bool false],.cells (cCM a),.cells (cCM b),.cells (s.b.map vi),.cells (fl s.p)]
theorem Ib{x0 x1 x2:List V}{iv:V}(hiv:iv.dat=true)(hio:iv.one=true)(d0:V.dats x0=true)(d1:V.dats x1=true)(d2:V.dats x2=true)(hn:b.lat.Nodup)
 (hla:a.lat.length=a.g.init.length) (hlb:b.lat.length=b.g.init.length) (hia:a.ins.length<=4000) (hl1:a.lat.length<=4000) (hl2:b.lat.length<=4000) {R:AEnd->H->(Nat->Bool)->Prop}
 (hr:R (.ret (.bool (mV a b).ok)) (hJo x0 x1 x2 [vi 0,.nils,.nils,.nils,.nils,ay (mV a b).b,prs (mV a b).p,iv,.bool false]) (fun _=>false)) :
 ag TE 28 [.lp 3 0,.agg (cCM a),.agg (cCM b)] (hJo x0 x1 x2 [vi 0,.nils,.nils,.nils,.nils,.nils,.nils,iv,.bool false]) R:=by
 have hM := mLx;have dd0 : ∀ p,V.drops p x0 = x0 := fun p => bi.dats_drops _ d0;have dd1 : ∀ p,V.drops p x1 = x1 := fun p => bi.dats_drops _ d1;have dd2 : ∀ p,V.drops p x2 = x2 := fun p => bi.dats_drops _ d2;have ddi : ∀ p,iv.drop p = iv := fun p => bi _ hiv;have hcc := ww [a.g.init,b.g.init] (by simp;omega) (by simp);rw [show ([a.g.init,b.g.init] : List Cl).flatten = a.g.init ++ b.g.init by simp] at hcc;obtain ⟨I,hI⟩ : ∃ I,I = (mN a b 0).b := ⟨_,rfl⟩;have hI2 : I = a.g.init ++ b.g.init := hI;rw [<- hI2] at hcc;have hpl := kU b.lat hn;refine ag.fresh ?_;refine ah Tryz.func28 rfl (by simp [nts]) ?_;refine vn ?_;simp only [wq.1,↓reduceIte,Nat.reduceEqDiff,Nat.reduceLT,Nat.reduceAdd,Tryz.results28];refine vn ?_;simp only [wq.1,↓reduceIte,Nat.reduceEqDiff,Nat.reduceLT,Nat.reduceLeDiff,Nat.reduceAdd,reduceCtorEq,Nat.reduceMul];refine ⟨⟨rfl,by decide⟩,jG hcc (by simp only [V.dats,V.dat,jH,zre]) (jH _) ?_⟩;simp only [wq.1,seval];refine vn ?_;simp only [wq.1,seval];refine ⟨by decide +kernel,Dz.mk hpl rfl (by simp only [V.dats,V.dat,ji,zre]) ?_⟩;simp only [wq.1,seval];refine fP ?_;refine kZ (h' := [.cells x0,.cells x1,.cells x2,.cells [vi 0,.nils,.nils,.nils,.nils,.ls 6 1 0 I.length I.length,.ls 7 2 0 0 0,iv,.bool false],.cells (cCM a),.cells (cCM b),.cells (I.map vi),.cells []])
  (HLe.set (h := [.cells x0,.cells x1,.cells x2,.cells [vi 0,.nils,.nils,.nils,.nils,.ls 6 1 0 I.length I.length,.nils,iv,.bool false],.cells (cCM a),.cells (cCM b),.cells (I.map vi),.cells []]) (i := 3) (o := .cells [vi 0,.nils,.nils,.nils,.nils,.ls 6 1 0 I.length I.length,.nils,iv,.bool false]) rfl
   (OLe.cells (zrb _) (eH.cons (VLe.refl _) (eH.cons (VLe.refl _) (eH.cons (VLe.refl _) (eH.cons (VLe.refl _) (eH.cons (VLe.refl _) (eH.cons (VLe.refl _) (eH.cons dC (eH.refl _)))))))))) ?_
 refine ak ?_;refine vn ?_;simp only[wq.1,seval];refine aB ?_;refine aC (fun m f h=>∃i,m+i=a.lat.length/\f.t 0= .lp 3 0/\f.t 4= .lp 4 0/\f.t 5= .lp 5 0/\f.t 7=plV b.lat/\f.t 8=vi a.lat.length/\f.t 9= .bool (mN a b i).ok/\f.t 35=jq a.lat/\f.t 36=vi a.lat.length/\f.t 37=vi i/\f.d=[]/\h=hM2 a b x0 x1 x2 iv (mN a b i)/\∀j,j<4->f.k j=false) a.lat.length ⟨0,by omega,rfl,rfl,rfl,rfl,rfl,rfl,rfl,rfl,rfl,rfl,by rw[hI];rfl,fun j hj=>rfl⟩ ?_;rintro m f h ⟨i,hm,t0,t4,t5,t7,t8,t9,t35,t36,t37,hd,rfl,hk⟩;have hln:=FI (a:=a) (b:=b) i;have hsucc:mN a b (i+1)=lS a.ins.length a.lat.length b.lat (mN a b i) i (a.lat.getD i []):=rfl;obtain⟨s,hs⟩:∃s,s=mN a b i:=⟨_,rfl⟩;rw[<-hs]at t9 hln hsucc ⊢;have hbl:(s.b.map vi).length=s.b.length*1:=by rw[zra];omega
 refine vn ?_;simp only[wq.1,Nat.reduceLT,t36,t37];refine ak (aV (b:=decide ((i:Int)<a.lat.length)) (by simp only[wq.1,↓reduceIte]) (by simp only[wq.1,↓reduceIte]) (fun hlt=> ?_) (fun hlt=> ?_))
 ·simp only[zqb,zqi]at hlt;have hw:=aA (show i<maxLen by omega);have hxe:a.lat.getD i []=a.lat[i]:=aS hlt;rw[hxe]at hsucc;refine vm ?_;simp only[wq.1];cases hat:at? b.lat a.lat[i]with
  |none =>
   have hs1:mN a b (i+1)=s:=by rw[hsucc];unfold lS;rw[hat]
   refine ak (aB ?_);refine vm ?_;simp only[wq.1,seval,t7,t35,t37,Gq hlt,qp,dR,K.keyOk,hat];refine⟨⟨by omega,by omega⟩,?_⟩;refine vm ?_;simp only[wq.1,seval,t37,hw];exact .inl ⟨m-1,by omega,i+1,by omega,t0,t4,t5,t7,t8,by simp only[wq.1,seval,t9,hs1],t35,t36,rfl,hd,by rw[hs1],fun j hj=>by simp only[wq.1];exact hk j hj⟩
  |some k =>
   obtain⟨hkl,_⟩:=lH hat;have hi1:i<s.b.length:=by omega
   have hi2:a.lat.length+k<s.b.length:=by omega
   have hkn:k<b.lat.length:=hkl;have hgp:(s.b.map vi).getD i .any=vi s.b[i]:=wU hi1 _;have hgq:(s.b.map vi).getD (a.lat.length+k) .any=vi s.b[a.lat.length+k]:=wU hi2 _;have wk:IntKind.i64.wrap ((a.lat.length:Int)+(k:Int))=((a.lat.length+k:Nat):Int):=by rw[aU (by omega) (by omega)];omega
   have hgk:(JH b.lat.length).getD k .any=vi k:=uy hkl _;refine ak (aB ?_);refine vn ?_;simp only[wq.1,seval,t35,t37,Gq hlt];refine⟨⟨by omega,by omega⟩,?_⟩;refine vn ?_;simp only[wq.1,seval,t7,qp,dR,K.keyOk,hat,hgk];refine vn ?_;simp only[wq.1,seval];refine vn ?_;simp only[wq.1,↓reduceIte,Nat.reduceEqDiff,Nat.reduceLT,Nat.reduceLeDiff,Nat.reduceAdd,reduceCtorEq,t0,t8,wk];refine⟨by decide +kernel,?_⟩;refine⟨⟨by omega,by omega⟩,⟨by omega,by omega⟩,?_⟩;have w1:IntKind.i64.wrap (1+(a.ins.length:Int))=1+(a.ins.length:Int):=aU (by omega) (by omega);have w2:IntKind.i64.wrap (1+(a.ins.length:Int)+(i:Int))=1+(a.ins.length:Int)+(i:Int):=aU (by omega) (by omega);have w3:IntKind.i64.wrap (1+(a.ins.length:Int)+(a.lat.length:Int))=1+(a.ins.length:Int)+(a.lat.length:Int):=aU (by omega) (by omega);have w4:IntKind.i64.wrap (1+(a.ins.length:Int)+(a.lat.length:Int)+(k:Int))=1+(a.ins.length:Int)+(a.lat.length:Int)+(k:Int):=aU (by omega) (by omega);have hfl:=AP s.p;have hfd:∀q:Nat->Bool,V.drops q (fl s.p)=fl s.p:=fun q=>y9 _;obtain⟨np,hnp⟩:∃np,np=s.p++[((1+(a.ins.length:Int)+(i:Int),1+(a.ins.length:Int)+(a.lat.length:Int)+(k:Int)):Pq)]:=⟨_,rfl⟩;refine ak (pK dV [0] [1,2,3,4,5,6,7,8,9,10,11,12,13,14,15,16,17,18,19,20,21] 22 (.one 22<| .take 23<| .take 24<| .take 25<| .one 26<| .fin) (fun f' h'=>f'.t 0= .lp 3 0/\f'.t 4= .lp 4 0/\f'.t 5= .lp 5 0/\f'.t 7=plV b.lat/\f'.t 8=vi a.lat.length/\f'.t 9= .bool s.ok/\f'.t 14= .lp 6 i/\f'.t 15= .lp 6 (a.lat.length+k)/\f'.t 35=jq a.lat/\f'.t 36=vi a.lat.length/\f'.t 37=vi i/\f'.d=[]/\(∀j,j<4->f'.k j=false)/\h'=hM2 a b x0 x1 x2 iv ⟨s.b,np,s.ok⟩) (by decide +kernel) ?_ ?_)
   ·intro K hK;simp only[rH,List.filterMap_cons,List.filterMap_nil];simp only[wq.1,↓reduceIte,Nat.reduceEqDiff,Nat.reduceLT,Nat.reduceLeDiff,Nat.reduceAdd,reduceCtorEq,Nat.reduceMul,lh,fQ,t0,t4,t8,w1,w2,w3,w4];refine⟨⟨rfl,by decide⟩,hK _ _ ?_⟩;simp only[wq.1,seval,t0,t4,t5,t7,t8,t9,t35,t36,t37,hd,hfl,hfd,ddi,dd0,dd1,dd2];have hnl:np.length=s.p.length+1:=by rw[hnp];simp
    have hnf:fl np=fl s.p++[vi (1+(a.ins.length:Int)+(i:Int)),vi (1+(a.ins.length:Int)+(a.lat.length:Int)+(k:Int))]:=by rw[hnp];simp only[fl,List.flatMap_append,List.flatMap_cons,List.flatMap_nil,zqp]
    have hpl1:s.p.length<=i:=by
     have:∀j,(mN a b j).p.length<=j:=fun j=>by
      induction j with
      |zero=>exact zrb _
      |succ j ih =>
       show(lS _ _ _ _ _ _).p.length<=_;unfold lS;split
       ·omega
       ·simp;omega
     rw[hs];exact this i
    refine⟨rfl,⟨rfl,by omega,by omega⟩,by rw[Nat.mul_one],by rw[Nat.mul_one],fun j hj=> ?_,?_⟩
    ·rw[hk j hj,Bool.false_or,beq_eq_false_iff_ne];omega
    ·rw[aI];unfold hM2;rw[hnl,hnf];rfl
   ·rintro f h ⟨t0,t4,t5,t7,t8,t9,t14,t15,t35,t36,t37,hd,hk,rfl⟩;show awp _ _ _ _ _ _ _;have hs1:mN a b (i+1)=⟨if s.b[i]=2 then s.b.set i s.b[a.lat.length+k]else if s.b[a.lat.length+k]=2 then s.b.set (a.lat.length+k) s.b[i]else s.b,np,s.ok&&(s.b[i]==2||s.b[a.lat.length+k]==2||s.b[i]==s.b[a.lat.length+k])⟩:=by
     rw[hsucc];unfold lS;rw[hat];simp only[aS hi1,aS hi2,hnp]
    generalize hp:s.b[i]=p at hs1 hgp;generalize hq:s.b[a.lat.length+k]=q at hs1 hgq;have fin:∀(B:Cl)(okk:Bool)(f:Fr),mN a b (i+1)=⟨B,np,okk⟩->f.t 0= .lp 3 0->f.t 4= .lp 4 0->f.t 5= .lp 5 0->f.t 7=plV b.lat->f.t 8=vi a.lat.length->f.t 9= .bool okk->f.t 35=jq a.lat->f.t 36=vi a.lat.length->f.t 37=vi i->f.d=[]->(∀j,j<4->f.k j=false)->True:=fun _ _ _ _ _ _ _ _ _ _ _ _ _ _ _=>trivial;refine aB ?_;refine vn ?_;simp only[wq.1,seval,t14,hgp];refine⟨by omega,?_⟩;have hsp:∀(j:Nat)(x:Int),j<s.b.length->(s.b.map vi).take j++[vi x]++(s.b.map vi).drop (j+1)=(s.b.set j x).map vi:=fun j x hj=>ui hj;have hlen:∀j x,(s.b.set j x).length=s.b.length:=fun j x=>zrn;refine aV (b:=p==2) (by simp only[wq.1,↓reduceIte]) (by simp only[wq.1,↓reduceIte]) (fun e1=> ?_) (fun e1=> ?_)
    ·rw[if_pos (by simpa using e1)]at hs1;have hs1:mN a b (i+1)=⟨s.b.set i q,np,s.ok⟩:=by rw[hs1,e1];simp
     refine vm ?_;simp only[wq.1,seval,t14,t15,hgq];refine⟨by omega,by omega,?_⟩;rw[hsp _ _ hi1];refine vm ?_;simp only[wq.1,seval,t37,hw];exact .inl ⟨m-1,by omega,i+1,by omega,t0,t4,t5,t7,t8,by simp only[wq.1,seval,t9,hs1],t35,t36,rfl,hd,by rw[hs1];unfold hM2;rw[hlen],fun j hj=>by simp only[wq.1];exact hk j hj⟩
    ·rw[if_neg (by simpa using e1)]at hs1;have e1':(p==2)=false:=by simpa using e1
     refine vn ?_;simp only[wq.1,seval,t15,hgq];refine⟨by omega,?_⟩;refine aV (b:=q==2) (by simp only[wq.1,↓reduceIte]) (by simp only[wq.1,↓reduceIte]) (fun e2=> ?_) (fun e2=> ?_)
     ·rw[if_pos (by simpa using e2)]at hs1;have hs1:mN a b (i+1)=⟨s.b.set (a.lat.length+k) p,np,s.ok⟩:=by rw[hs1,e2];simp
      refine vm ?_;simp only[wq.1,seval,t14,t15,hgp];refine⟨by omega,by omega,?_⟩;rw[hsp _ _ hi2];refine vm ?_;simp only[wq.1,seval,t37,hw];exact .inl ⟨m-1,by omega,i+1,by omega,t0,t4,t5,t7,t8,by simp only[wq.1,seval,t9,hs1],t35,t36,rfl,hd,by rw[hs1];unfold hM2;rw[hlen],fun j hj=>by simp only[wq.1];exact hk j hj⟩
     ·rw[if_neg (by simpa using e2)]at hs1;have e2':(q==2)=false:=by simpa using e2
      rw[e1',e2',Bool.false_or,Bool.false_or]at hs1;refine vn ?_;simp only[wq.1,seval,t14,t15,hgp,hgq];refine⟨by decide +kernel,by omega,by omega,?_⟩;refine aV (b:=p != q) (by simp only[wq.1,↓reduceIte]) (by simp only[wq.1,↓reduceIte]) (fun e3=> ?_) (fun e3=> ?_)
      ·have hs1:mN a b (i+1)=⟨s.b,np,false⟩:=by rw[hs1,show(p==q)=false by simpa using e3];simp
       refine vm ?_;simp only[wq.1,Nat.reduceLT];refine vm ?_;simp only[wq.1,seval,t37,hw];exact .inl ⟨m-1,by omega,i+1,by omega,t0,t4,t5,t7,t8,by simp only[wq.1,seval,hs1],t35,t36,rfl,hd,by rw[hs1],fun j hj=>by simp only[wq.1];exact hk j hj⟩
      ·have hs1:mN a b (i+1)=⟨s.b,np,s.ok⟩:=by rw[hs1,show(p==q)=true by simpa using e3];simp
       refine vm ?_;simp only[wq.1];refine vm ?_;simp only[wq.1,seval,t37,hw];exact .inl ⟨m-1,by omega,i+1,by omega,t0,t4,t5,t7,t8,by simp only[wq.1,seval,t9,hs1],t35,t36,rfl,hd,by rw[hs1],fun j hj=>by simp only[wq.1];exact hk j hj⟩
 ·simp only[zqd,zqi]at hlt;have:i=a.lat.length:=by omega
  subst this;refine vm ?_;simp only[wq.1];show awp _ _ _ _ _ _ _;have hmv:s=mV a b:=hs;refine sZ (h0:=hJo x0 x1 x2 [vi 0,.nils,.nils,.nils,.nils,.ls 6 1 0 s.b.length s.b.length,.ls 7 2 0 s.p.length s.p.length,iv,.bool false]) (Y:=[.cells (cCM a),.cells (cCM b),.cells (s.b.map vi),.cells (fl s.p)]) 3 _ [vi 0,.nils,.nils,.nils,.nils,ay s.b,prs s.p,iv,.bool false] rfl ?_ ?_ (fun i hi=>by have hi:i∈f.d:=hi;rw[hd]at hi;cases hi) ?_
  ·intro i o ho hne;rcases i with _|_|_|_|i
   ·obtain rfl:=Option.some.inj ho;rw[aZ,dd0]
   ·obtain rfl:=Option.some.inj ho;rw[aZ,dd1]
   ·obtain rfl:=Option.some.inj ho;rw[aZ,dd2]
   ·exact absurd rfl hne
   ·simp[hJo]at ho
  ·refine⟨.inl rfl,.inl rfl,.inl rfl,.inl rfl,.inl rfl,.inr ⟨rfl,dw ?_ rfl⟩,.inr ⟨rfl,l7 ?_ rfl⟩,.inl (ddi _).symm,.inl rfl,trivial⟩
   ·show some (O.cells (V.drops _ _))=_;rw[aI]
   ·show some (O.cells (V.drops _ _))=_;rw[y9]
  ·show awp _ _ _ _ _ _ _;refine vm ?_;simp only[wq.1,seval,t9,hd];rw[hmv];exact⟨fun i hi=>by rw[hk i hi];simp[aJ];omega,hr⟩
end Go.Proofs.YthdidjjecjhenaaGreat
