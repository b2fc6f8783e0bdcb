/- Lemmas for this claim, part F12: each holds under what it names. -/
import Derived.Test.YthaijohbpdabfaaGreatDoorRF11
import Derived.Test.YthaijohbpdabfaaGreatDoorRF03
import Derived.Test.YthaijohbpdabfaaGreatDoorRF10
set_option linter.all false
set_option maxRecDepth 20000
set_option maxHeartbeats 8000000
namespace Go.Proofs.YthaijohbpdabfaaGreatDoor
open Go Go.Proofs Go.Abs
open List renaming length → aa, replicate → ao
open Bool renaming true → ab, false → ac
open Option renaming some → al, none → aq
open Decidable renaming decide → ar
open Go.IntKind renaming wrap → aD
open Go.Result renaming andThen → aM
open Go.Abs.O renaming cells → am
open Go.Abs.V renaming drops → ap, dat → aE, dats → aL
def gaX(g:Ga):List V:=[.str g.name,vi g.op,aJ g.ins,aJ g.rows,.bool g.off]
theorem Hf{p:Nat->Bool}(q:Ga):ap p (gaX q)=gaX q:=rfl
theorem RD(l:List Ga):aa (l.flatMap gaX)=aa l*5:=by
 induction l with
 |nil=>rfl
 |cons g l ih=>rw[List.flatMap_cons,zqa,ih,zrt];show 5+_=_;omega
theorem kE{p:Nat->Bool}(l:List Ga):ap p (l.flatMap gaX)=l.flatMap gaX:=nO Hf l
structure XH(x:Xs)(h:H):Prop where
 a:h[4]? =al (am [.ls 5 5 0 (aa x.gates) (aa x.gates),.ls 2 1 0 (aa x.used) (aa x.used),.lm 3])
 u:h[2]? =al (am (x.used.map V.str))
 n:h[3]? =al (.map (x.nots.1.map V.str) (x.nots.2.map V.str))
 g:h[5]? =al (am (x.gates.flatMap gaX))
def XK(h h':H):Prop:=∀j cs,(j<2\/5<j)->h[j]? =al (am cs)->aL cs=ab->h'[j]? =al (am cs)
def XP(p:Nat->Bool):Prop:=∀j,p j=ab->j=2\/j=5
theorem XK.refl(h:H):XK h h:=λ_ _ _ hj _=>hj
theorem XK.trans{h h1 h2:H}(k1:XK h h1)(k2:XK h1 h2):XK h h2:=λj cs hj hc hd=>k2 j cs hj (k1 j cs hj hc hd) hd
theorem XK.app(h X:H):XK h (h++X):=λj cs _ hc _=>by rw[zqj (zqe hc).1];exact hc
theorem XK.set{h:H}{i:Nat}(o:O)(hi:¬(i<2\/5<i)\/aa h<=i):XK h (h.set i o):=λj cs hj hc hd=>by
 rcases hi with hi|hi
 ·rw[zqn (by rintro rfl;exact hi hj)];exact hc
 ·rw[List.set_eq_of_length_le hi];exact hc
theorem XK.drop(h:H)(p:Nat->Bool):XK h (h.map (O.drop p)):=λj cs hj hc hd=>by rw[zqo,hc];show al (am (ap p cs))=_;rw[iT.dats_drops _ hd]
theorem XH.app{x:Xs}{h:H}(k:XH x h)(X:H):XH x (h++X):=by
 have old:∀ {j:Nat} {y:O},h[j]? =al y->(h++X)[j]? =al y:=λhy=>by rw[zqj (zqe hy).1];exact hy
 exact⟨old k.a,old k.u,old k.n,old k.g⟩
theorem jY{p:Nat->Bool}(l m:List S):(O.map (l.map V.str) (m.map V.str)).drop p= .map (l.map V.str) (m.map V.str):=by show O.map (ap p _) (ap p _)=_;rw[aN,aN]
theorem XH.use{x:Xs}{h:H}(k:XH x h)(s:S) :
 XH ⟨x.gates,x.used++[s],x.nots⟩ (((h.map (O.drop (·==2))).set 2 (am (x.used.map V.str++[.str s]))).set 4 (am [.ls 5 5 0 (aa x.gates) (aa x.gates),.ls 2 1 0 (aa x.used+1) (aa x.used+1),.lm 3])):=by
 have lt:∀ {j y},h[j]? =al y->j<aa h:=λhx=>(zqe hx).1;have l4:=lt k.a;have l2:=lt k.u;refine⟨?_,?_,?_,?_⟩
 ·rw[zqt (by simpa using l4),zqa];rfl
 ·rw[zqn (by decide),zqt (by simpa using l2),zql];rfl
 ·rw[zqn (by decide),zqn (by decide),zqo,k.n,zrw,jY]
 ·rw[zqn (by decide),zqn (by decide),zqo,k.g,zrw];show al (am (ap _ _))=_;rw[kE]
theorem XH.gate{x:Xs}{h:H}(k:XH x h)(g:Ga) :
 XH ⟨x.gates++[g],x.used,x.nots⟩ (((h.map (O.drop (·==5))).set 5 (am (x.gates.flatMap gaX++gaX g))).set 4 (am [.ls 5 5 0 (aa x.gates+1) (aa x.gates+1),.ls 2 1 0 (aa x.used) (aa x.used),.lm 3])):=by
 have lt:∀ {j y},h[j]? =al y->j<aa h:=λhx=>(zqe hx).1;have l4:=lt k.a;have l5:=lt k.g;refine⟨?_,?_,?_,?_⟩
 ·rw[zqt (by simpa using l4),zqa];rfl
 ·rw[zqn (by decide),zqn (by decide),zqo,k.u,zrw];show al (am (ap _ _))=_;rw[aN]
 ·rw[zqn (by decide),zqn (by decide),zqo,k.n,zrw,jY]
 ·rw[zqn (by decide),zqt (by simpa using l5),List.flatMap_append];simp
def Lj:Plan:=tkZ [0,1,2,3,5]<| .alt 4 (onZ [6,7,8]<| .take 9<| .take 10<| .one 11<| .fin) (.one 6 (.alt 4 (.one 7<| .one 8<| .take 9<| .take 10<| .one 11<| .fin) (.one 7 (.one 4<| .one 8<| .take 9<| .take 10<| .one 11<| .fin))))
def Ll:Plan:=tkZ [0,1,2,3]<| .alt 4 (onZ [5,6,7]<| .take 8<| .take 9<| .one 10<| .fin) (.one 5 (.alt 4 (.one 6<| .one 7<| .take 8<| .take 9<| .one 10<| .fin) (.one 6 (.one 4<| .one 7<| .take 8<| .take 9<| .one 10<| .fin))))
theorem Hg[MO]{x:Xs}{h:H}(k:XH x h)(g:Ga)(hb:xsz x<=100000000){R:AEnd->H->(Nat->Bool)->Prop}
 (hr:∀h' p,XH (iI x g).1 h'->XK h h'->aa h<=aa h'->XP p->R (.ret (.str (iI x g).2)) h' p):ag TE 47 [.lp 4 0,g.v] h R:=by
 have hM:=mLx;have hgl:aa x.gates<=100000000:=by unfold xsz at hb;omega
 have hul:aa x.used<=100000000:=by unfold xsz at hb;omega
 obtain⟨B,hB⟩:∃B,B=aa h:=⟨_,rfl⟩;have l5:=(zqe k.g).1;have hgE:∀x:O,(h++[x])[B]? =al x:=λx=>by rw[hB];simp
 have hgS:∀x y:O,(h++[x]).set B y=h++[y]:=λx y=>by rw[hB];simp
 refine aj Tryz.func47 rfl (by simp[nts]) ?_;refine vn ?_;simp only[wq.1,↓reduceIte,Nat.reduceLT,Nat.reduceLeDiff,Tryz.results47,<-hB];refine ak (bf (Q:=λxe f' h'=>xe= .normal/\f'.t 0= .lp 4 0/\f'.t 3= .lp B 0/\f'.d=[]/\XP f'.k/\XH ⟨x.gates,(iI x g).1.used,x.nots⟩ h'/\h'[B]? =al (am (gaX {g with name:=(iI x g).2}))/\XK h h'/\aa h<=aa h') ?_ ?_)
 ·rintro xe f h' ⟨rfl,t0,t3,hd,hp,k',hBg,hk,hle⟩;show awp _ _ _ _ _ _ _;obtain⟨g',eg⟩:∃g':Ga,g'={g with name:=(iI x g).2}:=⟨_,rfl⟩;obtain⟨u',eu⟩:∃u',u'=(iI x g).1.used:=⟨_,rfl⟩;have hpx:(iI x g).1=⟨x.gates++[g'],u',x.nots⟩:=by
   rw[eg,eu];unfold iI;split<;>rfl
  have hn:g'.name=(iI x g).2:=by rw[eg]
  rw[hpx,<-hn]at hr;rw[<-eg]at hBg;rw[<-eu]at k';clear hn hpx eg eu;have k4:=k'.a;have k5:=k'.g;have kk:=k'.gate g';have h5l:=RD x.gates;have d5:∀q,ap q (x.gates.flatMap gaX)=x.gates.flatMap gaX:=λq=>kE _;have kX:=(XK.drop h' (·==5)).trans ((XK.set (h:=h'.map (O.drop (·==5))) (i:=5) (am (x.gates.flatMap gaX++gaX g')) (.inl (by omega))).trans (XK.set (i:=4) (am [.ls 5 5 0 (aa x.gates+1) (aa x.gates+1),.ls 2 1 0 (aa u') (aa u'),.lm 3]) (.inl (by omega))));obtain⟨hf,ehf⟩:∃hf,hf=(((h'.map (O.drop (·==5))).set 5 (am (x.gates.flatMap gaX++gaX g'))).set 4 (am [.ls 5 5 0 (aa x.gates+1) (aa x.gates+1),.ls 2 1 0 (aa u') (aa u'),.lm 3])):=⟨_,rfl⟩;have lB:=(zqe hBg).1;have l5':=(zqe k5).1;have hBf:hf[B]? =al (am (gaX g')):=by
   rw[ehf,zqn (by omega),zqn (by omega),zqo,hBg,zrw];rfl
  refine ak (dJ mixed Ll (λf' h2=>f'.t 3= .lp B 0/\f'.d=[]/\XP f'.k/\h2=hf) (by rw[TEP];decide +kernel) (by decide +kernel) ?_ ?_)
  ·have hgx:gaX g'=[.str g'.name,vi g'.op,aJ g'.ins,aJ g'.rows,.bool g'.off]:=rfl;rw[hgx]at hBg;have s4:∀X:O,((h'.map (O.drop λx=>x==5)).set 5 X)[4]? =al (am [.any,.ls 2 1 0 (aa u') (aa u'),.lm 3]):=λX=>by rw[zqn (by decide),zqo,k4];rfl
   have hB5:(B==5)=ac:=by rw[beq_eq_false_iff_ne];omega
   have hXP:XP λi=>f.k i||i==5:=λj hj=>by
    rcases Bool.or_eq_true _ _▸hj with h1|h1
    ·exact hp j h1
    ·exact .inr (by simpa using h1)
   simp only[wq.1,↓reduceIte,Nat.reduceEqDiff,Nat.reduceLT,Nat.reduceLeDiff,Nat.reduceAdd,Nat.reduceBEq,reduceCtorEq,Nat.reduceMul,Ll,t0,t3,hd,k4,k5,hBg,h5l,d5,s4,hB5];have hfin:((List.map (O.drop λx=>x==5) h').set 5 (am (List.flatMap gaX x.gates++ap (λx=>x==5) (List.flatMap V.vc [V.agg [V.str g'.name,vi g'.op,aJ g'.ins,aJ g'.rows,V.bool g'.off]])))).set 4 (am [V.ls 5 5 0 (aa x.gates+1) (aa x.gates+1),.ls 2 1 0 (aa u') (aa u'),.lm 3])=hf:=by rw[ehf];rfl
   exact⟨⟨rfl,by decide⟩,rfl,⟨rfl,by omega,by omega⟩,hXP,hfin⟩
  ·rintro f2 h2 ⟨u3,ud,up,rfl⟩;rw[ehf]at hBf;have hBf':=hBf;rw[<-ehf]at hBf hBf';show awp _ _ _ _ _ _ _;refine vm ?_;simp only[wq.1,seval,u3,ud,hBf];exact⟨by show 1<=5;decide,hr _ _ (by rw[ehf];exact kk) (hk.trans (by rw[ehf];exact kX)) (by rw[ehf];simpa using hle) up⟩
 ·unfold iI;by_cases hg0:g.name=[]
  ·have e0:(g.name==[])=ab:=by rw[hg0];rfl
   rw[if_pos hg0];have k2:=k.u;have k4:=k.a;have hfr:=Vq x.used (by omega);have a4:∀x':O,(h++[x'])[4]? =al (am [.ls 5 5 0 (aa x.gates) (aa x.gates),.ls 2 1 0 (aa x.used) (aa x.used),.lm 3]):=λx'=>by rw[zqj (zqe k4).1];exact k4
   have a2:∀x':O,(h++[x'])[2]? =al (am (x.used.map V.str)):=λx'=>by rw[zqj (zqe k2).1];exact k2
   refine vm ?_;simp only[wq.1,seval,hgE,e0,a4];refine ag.lend hfr (au.cons (aX (a2 _) rfl) (au.cons (aC.dat rfl) au.nil)) rfl ?_;simp only[wq.1,↓reduceIte,Nat.reduceEqDiff,Nat.reduceLT,Nat.reduceLeDiff,Nat.reduceAdd,hgE,hgS];obtain⟨F,eF⟩:∃F,F=oV x.used:=⟨_,rfl⟩;rw[<-eF];obtain⟨h1,eh1⟩:∃h1,h1=h++[am [V.str F,vi g.op,aJ g.ins,aJ g.rows,V.bool g.off]]:=⟨_,rfl⟩;have kx:=(k.app [am [V.str F,vi g.op,aJ g.ins,aJ g.rows,V.bool g.off]]);have b4:=kx.a;have b2:=kx.u;have bB:=hgE (am [V.str F,vi g.op,aJ g.ins,aJ g.rows,V.bool g.off]);have kxx:=XK.app h [am [V.str F,vi g.op,aJ g.ins,aJ g.rows,V.bool g.off]];rw[<-eh1]at kx b4 b2 bB kxx ⊢;have kk:=kx.use F;have lB:=(zqe bB).1;have d2:∀q,ap q (x.used.map V.str)=x.used.map V.str:=λq=>aN;have s4:∀X:O,((h1.map (O.drop λx=>x==2)).set 2 X)[4]? =al (am [.ls 5 5 0 (aa x.gates) (aa x.gates),.any,.lm 3]):=λX=>by
    rw[zqn (by decide),zqo,b4];rfl
   have hB2:(B==2)=ac:=by rw[beq_eq_false_iff_ne];omega
   have kX:=(XK.drop h1 (·==2)).trans ((XK.set (h:=h1.map (O.drop (·==2))) (i:=2) (am (x.used.map V.str++[.str F])) (.inl (by omega))).trans (XK.set (i:=4) (am [.ls 5 5 0 (aa x.gates) (aa x.gates),.ls 2 1 0 (aa x.used+1) (aa x.used+1),.lm 3]) (.inl (by omega))));obtain⟨hf,ehf⟩:∃hf,hf=(((h1.map (O.drop (·==2))).set 2 (am (x.used.map V.str++[.str F]))).set 4 (am [.ls 5 5 0 (aa x.gates) (aa x.gates),.ls 2 1 0 (aa x.used+1) (aa x.used+1),.lm 3])):=⟨_,rfl⟩;rw[<-ehf]at kk kX;have hBf:hf[B]? =al (am [V.str F,vi g.op,aJ g.ins,aJ g.rows,V.bool g.off]):=by rw[ehf,zqn (by omega),zqn (by omega),zqo,bB,zrw];rfl
   refine dJ mixed Lj (λf' h2=>f'.t 0= .lp 4 0/\f'.t 3= .lp B 0/\f'.d=[]/\XP f'.k/\h2=hf) (by rw[TEP];decide +kernel) (by decide +kernel) ?_ ?_
   ·simp only[wq.1,↓reduceIte,Nat.reduceEqDiff,Nat.reduceLT,Nat.reduceLeDiff,Nat.reduceAdd,Nat.reduceBEq,reduceCtorEq,Nat.reduceMul,Lj,b4,b2,bB,s4,hB2];exact⟨⟨rfl,by decide⟩,⟨by omega,by omega,by omega⟩,λj hj=> .inl (by simpa using hj),by rw[ehf]⟩
   ·rintro f2 h2 ⟨u0,u3,ud,up,rfl⟩;exact⟨rfl,u0,u3,ud,up,kk,hBf,kxx.trans kX,by rw[ehf,eh1];simp⟩
  ·have e0:(g.name==[])=ac:=by simpa using hg0
   rw[if_neg hg0];refine vm ?_;simp only[wq.1,seval,hgE,e0];exact⟨λ_ h=>(by cases h),k.app _,rfl,XK.app _ _,by simp⟩
theorem XH.turn{x:Xs}{h:H}(k:XH x h)(s t:S):XH ⟨x.gates,x.used,(x.nots.1++[s],x.nots.2++[t])⟩ (h.set 3 (.map (x.nots.1.map V.str++[.str s]) (x.nots.2.map V.str++[.str t]))):=by
 refine⟨?_,?_,?_,?_⟩
 ·rw[zqn (by decide)];exact k.a
 ·rw[zqn (by decide)];exact k.u
 ·rw[zqt (zqe k.n).1,zql,zql];rfl
 ·rw[zqn (by decide)];exact k.g
theorem yw{ks vs:List S}(hl:aa ks=aa vs)(s:S)(z:V)(b:Bool):rU .str (.str s) (ks.map V.str) (vs.map V.str) z b=match at? ks s with
 |some n=>(True,bif b then .tup [.str (vs.getD n []),.bool ab]else .str (vs.getD n []))
 |none=>(True,bif b then .tup [z,.bool ac]else z):=by
 unfold rU;rw[bF];cases hat:at? ks s with
 |none=>rfl
 |some n =>
  obtain⟨h1,_⟩:=lh hat;have hv:(vs.map V.str).getD n .any= .str (vs.getD n []):=by rw[zqg,zqg,zqo,zqk (by omega)];rfl
  dsimp only;rw[hv]
theorem Lm:∀ {l:List S} {s:S},at? l s=aq->at? (l++[s]) s=al (aa l)
 |[],s,_=>by simp[at?]
 |x::l,s,h=>by
  rw[at?]at h;split at h
  ·cases h
  ·rename_i hx;have hl:at? l s=aq:=by
    cases hh:at? l s with
    |none=>rfl
    |some n=>rw[hh]at h;cases h
   rw[List.cons_append,at?,if_neg hx,Lm hl];rfl
theorem XP.at{p:Nat->Bool}(h:XP p){j:Nat}(hj:j≠2/\j≠5):p j=ac:=by
 cases hp:p j with
 |false=>rfl
 | true => rcases h j hp with rfl | rfl
           ·exact absurd rfl hj.1
           ·exact absurd rfl hj.2
theorem Es(g:Ga){i r:V}(hi:VLe i (aJ g.ins))(hr:VLe r (aJ g.rows)):VLe (.agg [.str g.name,vi g.op,i,r,.bool g.off]) g.v :=
 VLe.agg (dm.cons (VLe.refl _) (dm.cons (VLe.refl _) (dm.cons hi (dm.cons hr (dm.cons (VLe.refl _) dm.nil)))))
def Hl:Plan:=tkZ [0,1,2,4,5,6]<| .alt 3 (onZ [7,8,9,10]<| .fin) (.one 7 (.alt 3 (onZ [8,9,10]<| .fin) (.one 8 (.alt 3 (.one 9<| .one 10<| .fin) (.one 9 (.one 3<| .one 10<| .fin))))))
theorem Hm[MO]{x:Xs}{h:H}(k:XH x h)(hnl:aa x.nots.1=aa x.nots.2)(s:S)(hb:xsz x<=100000000){R:AEnd->H->(Nat->Bool)->Prop}
 (hr:∀h' p,XH (dN x s).1 h'->XK h h'->aa h<=aa h'->XP p->R (.ret (.str (dN x s).2)) h' p):ag TE 221 [.lp 4 0,.str s] h R:=by
 have hM:=mLx;have k4:=k.a;have k3:=k.n;refine aj Tryz.func221 rfl (by simp[nts]) ?_;refine vn ?_;simp only[wq.1,seval,Tryz.results221];unfold dN at hr;cases hat:at? x.nots.1 s with
 |some n=>rw[hat]at hr;dsimp only at hr;have m1:=yw hnl s (.str []) ab;have m2:=yw hnl s (.str []) ac;rw[hat]at m1 m2;dsimp only[cond_true,cond_false]at m1 m2;refine vm ?_;simp only[wq.1,seval,k4,k3,m1,m2];exact hr _ _ k (XK.refl _) (zrb _) (λj h=>by cases h)
 |none =>
  rw[hat]at hr;dsimp only at hr;refine ak ?_;have m1:=yw hnl s (.str []) ab;rw[hat]at m1;dsimp only[cond_true,cond_false]at m1;have hput:=xA x ⟨[],3,[s],[],ac⟩;obtain⟨y,ey⟩:∃y,y=iI x ⟨[],3,[s],[],ac⟩:=⟨_,rfl⟩;rw[<-ey]at hput hr;refine vn ?_;simp only[wq.1,seval,k4,k3,m1];refine ak ?_;refine vm ?_;simp only[wq.1,seval];refine bH (b:=ab) (by simp only[wq.1,↓reduceIte]) (by simp only[wq.1,↓reduceIte]) (λ_=> ?_) (λh=>by cases h);refine dJ mixed Hl (λf' h2=>f'.t 0= .lp 4 0/\f'.t 1= .str s/\f'.d=[]/\XP f'.k/\XH ⟨y.1.gates,y.1.used,(x.nots.1++[s],x.nots.2++[y.2])⟩ h2/\XK h h2/\aa h<=aa h2) (by rw[TEP];decide +kernel) (by decide +kernel) ?_ ?_
  ·have hput2:∀ {R:AEnd->H->(Nat->Bool)->Prop},(∀h' p,XH y.1 h'->XK h h'->aa h<=aa h'->XP p->R (.ret (.str y.2)) h' p)->ag TE 47 [.lp 4 0,.agg [.str [],vi 3,.is ab 1 [.str s],.nils,.bool ac]] h R:=λ{R} hR=>by refine ig (dm.cons (VLe.refl _) (dm.cons (Es ⟨[],3,[s],[],ac⟩ dH dG) dm.nil)) (HLe.refl _) (Hg k ⟨[],3,[s],[],ac⟩ hb λh' p a b c d=> ?_);rw[<-ey]at a ⊢;exact hR h' p a b c d
   have hms:∀t:S,Ov .str (.str s) (.str t) (x.nots.1.map V.str) (x.nots.2.map V.str)=al (x.nots.1.map V.str++[.str s],x.nots.2.map V.str++[.str t]):=λt=>by unfold Ov;rw[bF,hat]
   simp only[wq.1,seval,Hl,k4]
   repeat' apply zsa
   all_goals first|exact rfl|exact(by decide)|skip
   all_goals refine hput2 λh' p kx kk hle kp=> ?_
   all_goals have p2:=kp.at (j:=3) (by decide)
   all_goals have p4:=kp.at (j:=4) (by decide)
   all_goals have k3':=kx.n
   all_goals rw[hput.2]at k3'
   all_goals have k4':=kx.a
   all_goals simp only[wq.1,seval,bC,p2,p4,k3',k4',hms]
   all_goals exact⟨kp,(by have:=kx.turn s y.2;rw[hput.2]at this;exact this),kk.trans (XK.set _ (.inl (by omega))),by simpa using hle⟩
  ·rintro f h2 ⟨t0,t1,hd,hp,kx,kk,hle⟩;have b4:=kx.a;have b3:=kx.n;have m3:=yw (ks:=x.nots.1++[s]) (vs:=x.nots.2++[y.2]) (by simp[hnl]) s (.str []) ac;have hat2:at? (x.nots.1++[s]) s=al (aa x.nots.1):=Lm hat;rw[hat2]at m3;dsimp only[cond_false]at m3;have hgd:(x.nots.2++[y.2]).getD (aa x.nots.1) []=y.2:=by rw[hnl];simp
   rw[hgd]at m3;simp only[zql,zrd,List.map_nil]at m3;dsimp only at b3;show awp _ _ _ _ _ _ _;refine vm ?_;simp only[wq.1,seval,t0,t1,hd,b4,b3,m3];exact hr _ _ kx kk hle hp
abbrev x25:Nat->Bool:=λi=>i==2||i==5
theorem rf{p:Nat->Bool}:∀ {h:H} {k:Nat},aa (jv p k h)=aa h
 |[],k=>rfl
 |o::h,k=>by rw[jv,zrt,zrt,rf]
theorem Yn{e:E}{n:Nat}{r:Option Nat}{c:Code}{Q:XE->Fr->H->Prop}{f:Fr}{h:H}(P:Fr->H->Prop)(h1:P f h\/∃f' h',P f' h'/\(awp e n r c Q f' h'->awp e n r c Q f h))(h2:∀f h,P f h->awp e n r c Q f h):awp e n r c Q f h:=by
 rcases h1 with h|⟨f',h',h,t⟩
 ·exact h2 _ _ h
 ·exact t (h2 _ _ h)
theorem qE:x25 0=ac/\x25 1=ac/\x25 3=ac/\x25 4=ac:=⟨rfl,rfl,rfl,rfl⟩
theorem k25{f:Fr}{n:Nat}(hk:∀j,j<n->f.k j=ab->j=2\/j=5)(j:Nat)(hj:j<n)(h:(f.k j||x25 j)=ab):j=2\/j=5:=by
 rcases(Bool.or_eq_true _ _).mp h with h|h
 ·exact hk j hj h
 ·rcases(Bool.or_eq_true _ _).mp h with h|h
  ·exact .inl (by simpa using h)
  ·exact .inr (by simpa using h)
theorem jB{e:E}{g:FuncId}{args:List V}{h:H}{R:AEnd->H->(Nat->Bool)->Prop}(hc:ag e g args h λae h' p=>(∀i,i<aa h->p i=ab->i=2\/i=5)/\R ae h' x25):ag e g args h R:=by
 intro ok pl w vs hs hl;refine(hc ok pl w vs hs hl).mono ?_;rintro en w' ⟨p,pl',h',ae,h1,h2,h3,h4,h5⟩;refine⟨x25,pl',h',ae,h1,⟨h2.os,h2.tape,h2.output,h2.size,h2.same,h2.loc,λi b hp hi=>h2.keep i b ?_ hi,h2.row⟩,h3,h5⟩;cases hpi:p i with
 |false=>rfl
 |true =>
  rcases h4 i (hs.pl_lt hi) hpi with rfl|rfl
  ·cases hp
  ·cases hp
theorem ZM[MO]{x:Xs}{h:H}(k:XH x h)(g:Ga)(hb:xsz x<=100000000){R:AEnd->H->(Nat->Bool)->Prop}
 (hr:∀h',XH (iI x g).1 h'->XK h h'->aa h<=aa h'->R (.ret (.str (iI x g).2)) h' x25):ag TE 47 [.lp 4 0,g.v] h R :=
 jB (Hg k g hb λh' p a b d c=>⟨λi _=>c i,hr h' a b d⟩)
theorem Vr[MO]{x:Xs}{h:H}(k:XH x h)(hnl:aa x.nots.1=aa x.nots.2)(s:S)(hb:xsz x<=100000000){R:AEnd->H->(Nat->Bool)->Prop}
 (hr:∀h',XH (dN x s).1 h'->XK h h'->aa h<=aa h'->R (.ret (.str (dN x s).2)) h' x25):ag TE 221 [.lp 4 0,.str s] h R :=
 jB (Hm k hnl s hb λh' p a b d c=>⟨λi _=>c i,hr h' a b d⟩)
theorem Ho[MO]{x:Xs}{h:H}(k:XH x h)(g:Ga){i r:V}(hi:VLe i (aJ g.ins))(hrr:VLe r (aJ g.rows))(hb:xsz x<=100000000){R:AEnd->H->(Nat->Bool)->Prop}
 (hr:∀h',XH (iI x g).1 h'->XK h h'->aa h<=aa h'->R (.ret (.str (iI x g).2)) h' x25):ag TE 47 [.lp 4 0,.agg [.str g.name,vi g.op,i,r,.bool g.off]] h R :=
 ig (dm.cons (VLe.refl _) (dm.cons (Es g hi hrr) dm.nil)) (HLe.refl _) (ZM k g hb hr)
theorem XH.dropD{x:Xs}{h:H}(k:XH x h){K:Nat}(hK:5<K):XH x (jv (λj=>j==K) 0 h):=by
 have ne:∀ {j:Nat},j<=5->(j==K)=ac:=λhj=>by rw[beq_eq_false_iff_ne];omega
 have old:∀ {j:Nat} {y:O},j<=5->h[j]? =al y->y.drop (λj=>j==K)=y->(jv (λj=>j==K) 0 h)[j]? =al y:=λ{j y} hj hy hd=>by rw[gZ,hy];simp only[Nat.zero_add,ne hj,if_neg (show ¬ac=ab by decide),zrw,hd,zrm,if_false]
 refine⟨old (by omega) k.a ?_,old (by omega) k.u ?_,old (by omega) k.n ?_,old (by omega) k.g ?_⟩
 ·simp only[O.drop,ap,V.drop,ne (show 5<=5 by omega),ne (show 2<=5 by omega),ne (show 3<=5 by omega),zrm,if_false]
 ·show am (ap _ _)=_;rw[aN]
 ·exact jY _ _
 ·show am (ap _ _)=_;rw[kE]
theorem XK.dropD{h0 h:H}(k:XK h0 h){K:Nat}(hK:aa h0<=K):XK h0 (jv (λj=>j==K) 0 h):=λj cs hj hc hd=>by
 have hl:=(zqe hc).1;have ne:(j==K)=ac:=by rw[beq_eq_false_iff_ne];omega
 rw[gZ,k j cs hj hc hd];simp only[Nat.zero_add,ne,zrm,if_false,zrw,O.drop,iT.dats_drops _ hd]
theorem wP[MO](c:List S)(hc:aa c<=1000000):Ev TE 48 [aJ c] (aJ c):=(qP c hc).ev (λ_ he=>by rw[show aJ c= .is ac 1 [] by rw[List.map_eq_nil_iff.1 he];rfl];exact VLe.nils) (λh' id cap _ hid=>aX hid rfl) (λ_ he _=>by rw[List.map_eq_nil_iff.1 he];exact aC.nils)
theorem BU[MO]{x:Xs}{h0:H}(k0:XH x h0)(name:S)(op last:Int)(l0:List S)(h1l:1<=aa l0)(hll:aa l0<=1000000)(hb0:xsz x+2*aa l0<=100000000){R:AEnd->H->(Nat->Bool)->Prop}
 (hr:∀h',XH (gU (aa l0) x name op last l0).1 h'->XK h0 h'->aa h0<=aa h'->R (.ret (.str (gU (aa l0) x name op last l0).2)) h' x25):ag TE 92 [.lp 4 0,.str name,vi op,vi last,aJ l0] h0 R:=by
 have hM:=mLx;have hl5:5<aa h0:=(zqe k0.g).1;obtain⟨Z,eZ⟩:∃Z,Z=gU (aa l0) x name op last l0:=⟨_,rfl⟩;rw[<-eZ]at hr;refine jB ?_;refine aj Tryz.func92 rfl (by simp[nts]) ?_;refine vn ?_;simp only[wq.1,seval,Tryz.results92];refine ak ?_;refine aB ?_;refine aF (λm f h=>∃y l F,m=aa l/\aa l<=F/\1<=aa l/\aa l<=1000000/\xsz y+2*aa l<=100000000/\gU F y name op last l=Z/\XH y h/\XK h0 h/\aa h0<=aa h/\f.t 0= .lp 4 0/\f.t 1= .str name/\f.t 2=vi op/\f.t 3=vi last/\(f.t 4=aJ l\/∃K,aa h0<=K/\f.t 4= .ls K 1 0 (aa l) (aa l)/\h[K]? =al (am (l.map V.str)))/\f.d=[]/\(∀j,j<aa h0->f.k j=ab->j=2\/j=5)) (aa l0) ⟨x,l0,aa l0,rfl,zrb _,h1l,hll,hb0,eZ.symm,k0,XK.refl _,zrb _,rfl,rfl,rfl,rfl,.inl rfl,rfl,λj _ hj=>by cases hj⟩ ?_;rintro m f h ⟨y,l,F,rfl,hlF,hl1,hl2,hb,hZ,k,kk,hle,t0,t1,t2,t3,hst,hd,hk⟩;refine Yn (λf h=>XH y h/\XK h0 h/\aa h0<=aa h/\f.t 0= .lp 4 0/\f.t 1= .str name/\f.t 2=vi op/\f.t 3=vi last/\f.t 4=aJ l/\f.d=[]/\(∀j,j<aa h0->f.k j=ab->j=2\/j=5)) ?_ ?_
 ·rcases hst with t4|⟨K,hK,t4,hKc⟩
  ·exact .inl ⟨k,kk,hle,t0,t1,t2,t3,t4,hd,hk⟩
  ·have n4:(4==K)=ac:=by rw[beq_eq_false_iff_ne];omega
   refine .inr ⟨_,_,?_,y7 K 4 (aJ l) ?_ ?_ hd⟩
   rotate_left
   ·rw[t4];simp[V.drop]
   ·rw[t4];refine aX ?_ rfl;rw[fV,hKc];simp only[Nat.zero_add,beq_self_eq_true,if_true,zrw,O.drop,aN]
   refine⟨k.dropD (K:=K) (by omega),kk.dropD hK,?_,?_,?_,?_,?_,?_,hd,λj hj hp=> ?_⟩
   ·rw[rf];exact hle
   ·show(if 0=4 then aJ l else(f.t 0).drop _)=_;rw[if_neg (by decide),t0];simp only[V.drop,n4,zrm,if_false]
   ·show(if 1=4 then aJ l else(f.t 1).drop _)=_;rw[if_neg (by decide),t1];rfl
   ·show(if 2=4 then aJ l else(f.t 2).drop _)=_;rw[if_neg (by decide),t2];rfl
   ·show(if 3=4 then aJ l else(f.t 3).drop _)=_;rw[if_neg (by decide),t3];rfl
   ·rfl
   ·have hp':(f.k j||(j==K))=ab:=hp;rcases(Bool.or_eq_true _ _).mp hp' with h|h
    ·exact hk j hj h
    ·have:j=K:=by simpa using h
     omega
 clear hst hd hk t0 t1 t2 t3 k kk hle f h;rintro f h ⟨k,kk,hle,t0,t1,t2,t3,t4,hd,hk⟩;refine vn ?_;simp only[wq.1,seval,t4];refine vcB.mk (λhc=> ?_) (λhc=> ?_)
 ·have h8:8<aa l:=by have:=zqs hc;omega
  obtain⟨n,hn⟩:∃n,F=n+1:=⟨F-1,by omega⟩;obtain⟨Y,eY⟩:∃Y,Y=iI y ⟨[],op,l.take 8,[],ac⟩:=⟨_,rfl⟩;have hYs:=xA y ⟨[],op,l.take 8,[],ac⟩;rw[<-eY]at hYs;rw[hn,gU,if_pos h8,<-eY]at hZ;have htk:(l.map V.str).take 8=(l.take 8).map V.str:=by rw[List.map_take]
  have hdr:(l.map V.str).drop 8=(l.drop 8).map V.str:=by rw[List.map_drop]
  have hcl:=wP (l.take 8) (by rw[zrl];omega);have hdl:aa (l.drop 8)=aa l-8:=List.length_drop ..;simp only[wq.1];show awp _ _ _ _ _ _ _;refine aB ?_;refine vn ?_;simp only[wq.1,seval,t0,t2,t4,htk];refine⟨by omega,ag.ev hcl (by simp only[aL,aE,ax,zre]) ?_⟩;simp only[wq.1,seval];refine Ho k ⟨[],op,l.take 8,[],ac⟩ (VLe.refl _) dG (by omega) λh2 k2 kk2 hle2=> ?_;rw[<-eY]at k2 ⊢;simp only[wq.1,seval,bC,hd];obtain⟨K,eK⟩:∃K,K=aa h2:=⟨_,rfl⟩;have hK5:5<K:=by omega
  refine fU (λf=>f.t 0= .lp 4 0/\f.t 1= .str name/\f.t 2=vi op/\f.t 3=vi last/\f.t 4=aJ l/\f.t 11= .str Y.2/\f.d=[]/\(∀j,j<aa h0->f.k j=ab->j=2\/j=5)) ⟨by simp only[wq.1,seval,t0,qE],by simp only[wq.1,seval,t1],by simp only[wq.1,seval,t2],by simp only[wq.1,seval,t3],by simp only[wq.1,seval,t4],by simp only[wq.1,↓reduceIte],by simp only[wq.1,hd],λj hj h=>k25 hk j hj h⟩ ?_;clear t0 t1 t2 t3 t4 hd hk f;rintro f ⟨t0,t1,t2,t3,t4,t11,hd,hk⟩;refine vm ?_;simp only[wq.1,↓reduceIte,Nat.reduceEqDiff,Nat.reduceLT,Int.reduceToNat,Int.reduceLE,reduceCtorEq,Nat.reduceMul,t4,t11,hdr];refine⟨⟨rfl,by decide⟩,by omega,oq _,⟨.inr (by omega),by omega,by omega⟩,.inl ⟨aa (Y.2::l.drop 8),by simp only[zrt];omega,Y.1,Y.2::l.drop 8,n,rfl,by simp only[zrt];omega,by simp,by simp only[zrt];omega,by simp only[zrt];omega,hZ,k2.app _,(kk.trans kk2).trans (XK.app _ _),by rw[zqa];omega,by simp only[wq.1,↓reduceIte,Nat.reduceEqDiff,Nat.reduceLT,Nat.reduceLeDiff,Nat.reduceAdd,Nat.reduceSub,Int.reduceToNat,Nat.reduceDiv,Int.reduceLT,Int.reduceLE,Int.reduceNeg,Int.reduceBEq,Int.reduceBNe,Int.reduceAdd,Int.reduceSub,Nat.reduceBEq,reduceCtorEq,Nat.reduceMul,ay,Tryz.results92,t0],by simp only[wq.1,↓reduceIte,Nat.reduceEqDiff,Nat.reduceLT,Nat.reduceLeDiff,Nat.reduceAdd,Nat.reduceSub,Int.reduceToNat,Nat.reduceDiv,Int.reduceLT,Int.reduceLE,Int.reduceNeg,Int.reduceBEq,Int.reduceBNe,Int.reduceAdd,Int.reduceSub,Nat.reduceBEq,reduceCtorEq,Nat.reduceMul,ay,Tryz.results92,t1],by simp only[wq.1,↓reduceIte,Nat.reduceEqDiff,Nat.reduceLT,Nat.reduceLeDiff,Nat.reduceAdd,Nat.reduceSub,Int.reduceToNat,Nat.reduceDiv,Int.reduceLT,Int.reduceLE,Int.reduceNeg,Int.reduceBEq,Int.reduceBNe,Int.reduceAdd,Int.reduceSub,Nat.reduceBEq,reduceCtorEq,Nat.reduceMul,ay,Tryz.results92,t2],by simp only[wq.1,↓reduceIte,Nat.reduceEqDiff,Nat.reduceLT,Nat.reduceLeDiff,Nat.reduceAdd,Nat.reduceSub,Int.reduceToNat,Nat.reduceDiv,Int.reduceLT,Int.reduceLE,Int.reduceNeg,Int.reduceBEq,Int.reduceBNe,Int.reduceAdd,Int.reduceSub,Nat.reduceBEq,reduceCtorEq,Nat.reduceMul,ay,Tryz.results92,t3],.inr ⟨aa h2,by omega,by simp only[wq.1,↓reduceIte,Nat.reduceEqDiff,Nat.reduceLT,Nat.reduceLeDiff,Nat.reduceAdd,Nat.reduceSub,Int.reduceToNat,Nat.reduceDiv,Int.reduceLT,Int.reduceLE,Int.reduceNeg,Int.reduceBEq,Int.reduceBNe,Int.reduceAdd,Int.reduceSub,Nat.reduceBEq,reduceCtorEq,Nat.reduceMul,ay,Tryz.results92,Nat.add_comm,zrt],by simp⟩,by simp only[wq.1,↓reduceIte,Nat.reduceEqDiff,Nat.reduceLT,Nat.reduceLeDiff,Nat.reduceAdd,Nat.reduceSub,Int.reduceToNat,Nat.reduceDiv,Int.reduceLT,Int.reduceLE,Int.reduceNeg,Int.reduceBEq,Int.reduceBNe,Int.reduceAdd,Int.reduceSub,Nat.reduceBEq,reduceCtorEq,Nat.reduceMul,ay,Tryz.results92,hd],λj hj h=>hk j hj h⟩⟩
 ·have h8:¬8<aa l:=by have:=of_decide_eq_false hc;omega
  obtain⟨n,hn⟩:∃n,F=n+1:=⟨F-1,by omega⟩;rw[hn,gU,if_neg h8]at hZ;simp only[wq.1];show awp _ _ _ _ _ _ _;refine vn ?_;simp only[wq.1,seval,t0,t1,t3,t4];refine Ho k ⟨name,last,l,[],ac⟩ (VLe.refl _) dG (by omega) λh' a b c=> ?_;rw[hZ]at a ⊢;simp only[wq.1,seval,bC,hd];refine vm ?_;simp only[wq.1,↓reduceIte,hd];exact⟨λj hj hp=>k25 hk j hj hp,hr _ a (kk.trans b) (by omega)⟩
def Wu[MO](ins:List S)(l:List Fo):Prop :=
 ∀(x:Xs)(h:H)(fo:Fo)(j:Nat),XH x h->nlX x->WF (aa ins) (fo.kids+j) l->xsz x+5*aa l<=90000000->∀(R:AEnd->H->(Nat->Bool)->Prop),
  (∀h',XH (aO ins (aa l+1) fo.kids x l).1 h'->XK h h'->aa h<=aa h'->R (.ret (.tup [aJ (aO ins (aa l+1) fo.kids x l).2.1,oJ (aO ins (aa l+1) fo.kids x l).2.2])) h' x25) ->
  ag TE 91 [.lp 4 0,oJ (fo::l),aJ ins] h R
theorem RI{j:Nat}(h:x25 j=ab):j=2\/j=5:=by
 rcases(Bool.or_eq_true _ _).mp h with h|h
 ·exact .inl (by simpa using h)
 ·exact .inr (by simpa using h)
theorem RJ:∀n:Nat,n<16->((n:Nat):Int).fdiv (2^(min 1 IntKind.i64.bits))=((n/2:Nat):Int):=by decide +kernel
theorem RP:∀n:Nat,n<16->(aD .i64 ((BitVec.ofInt IntKind.i64.bits (n:Int) &&& BitVec.ofInt IntKind.i64.bits 1).toNat:Int)==1)=ar (n%2=1):=by decide +kernel
theorem Yo[MO]{ins:List S}(hil:aa ins<=8){l:List Fo}(hll:aa l<=1000000)(hK:Wu ins l){x:Xs}{h:H}{fo:Fo}{j:Nat}(k:XH x h)(hnl:nlX x)(hw:WF (aa ins) (1+j) (fo::l))(hb:xsz x+5*(aa l+1)<=90000000)
 {R:AEnd->H->(Nat->Bool)->Prop} (hr:∀h',XH (nK ins x fo l).1 h'->XK h h'->aa h<=aa h'->R (.ret (.tup [.str (nK ins x fo l).2.1,oJ (nK ins x fo l).2.2])) h' x25) :
 ag TE 158 [.lp 4 0,oJ (fo::l),aJ ins] h R:=by
 have hM:=mLx;have hg0:((fo::l).map foV).getD 0 .any=foV fo:=rfl;have hl5:5<aa h:=(zqe k.g).1;obtain⟨B,hB⟩:∃B,B=aa h:=⟨_,rfl⟩;have hgE:∀x:O,(h++[x])[B]? =al x:=λx=>by rw[hB];simp
 have hgS:∀x y:O,(h++[x]).set B y=h++[y]:=λx y=>by rw[hB];simp
 have ek2:((fo.kind:Int)==2)=ar (fo.kind=2):=by rw[Bool.eq_iff_iff,beq_iff_eq,zqb];omega
 have hdrop:((fo::l).map foV).drop 1=l.map foV:=rfl;rw[Nat.add_comm]at hw;unfold WF at hw;refine jB ?_;refine aj Tryz.func158 rfl (by simp[nts]) ?_;refine vn ?_;simp only[wq.1,seval,Tryz.results158];refine ak ?_;refine vn ?_;simp only[wq.1,seval,<-hB,hgE,hgS];refine⟨by omega,?_⟩;rcases hw with⟨w1,w2,w3⟩|⟨w1,w2,w3⟩
 ·rw[decide_eq_true w1]at ek2;have hi:fo.lit/2<aa ins:=by omega
  have hgi:=Bz hi .any;unfold nK vK at hr;rw[if_pos w1]at hr;have es:=RJ fo.lit (by omega);have ea:=RP fo.lit (by omega);obtain⟨s,hs⟩:∃s,s=ins.getD (fo.lit/2) []:=⟨_,rfl⟩;have hgs:(ins.map V.str).getD (fo.lit/2) .any= .str s:=by rw[hgi,hs,zqg,zqk hi];rfl
  rw[<-hs]at hr;by_cases ho:fo.lit%2=1
  ·rw[if_pos ho]at hr;rw[decide_eq_true ho]at ea;refine vm ?_;simp only[wq.1,seval,hgE,ek2,es,ea,hgs];refine⟨⟨by omega,by omega⟩,?_⟩;refine Vr (k.app _) hnl s (by omega) λh2 k2 kk2 hle2=> ?_;simp only[wq.1,seval,bC];refine⟨by decide +kernel,by omega,λj _ hj=> ?_,hr _ k2 ((XK.app _ _).trans kk2) (by rw[zqa]at hle2;omega)⟩;exact RI hj
  ·rw[if_neg ho]at hr;rw[decide_eq_false ho]at ea;refine vm ?_;simp only[wq.1,seval,hgE,ek2,es,ea,hgs];exact⟨⟨by omega,by omega⟩,by decide +kernel,by omega,hr _ (k.app _) (XK.app _ _) (by simp)⟩
 ·have hn:¬fo.kind=2:=by rcases w1 with h|h<;>rw[h]<;>decide
  rw[decide_eq_false hn]at ek2;unfold nK at hr;rw[if_neg hn]at hr;refine vm ?_;simp only[wq.1,seval,hgE,ek2];show awp _ _ _ _ _ _ _;have ek3:((fo.kind:Int)==3)=ar (fo.kind=3):=by rw[Bool.eq_iff_iff,beq_iff_eq,zqb];omega
  obtain⟨a1,a2,a3⟩:=jE (n:=aa ins) (ins:=ins) (aa l+1) fo.kids (0+j) x l (by rw[Nat.zero_add];exact w3) (by omega);have a4:=oI (n:=aa ins) (ins:=ins) (aa l+1) fo.kids (0+j) x l (by rw[Nat.zero_add];exact w3) (by omega);obtain⟨q,hq⟩:∃q,q=aO ins (aa l+1) fo.kids x l:=⟨_,rfl⟩;rw[<-hq]at a1 a2 a3 a4 hr;refine vn ?_;simp only[wq.1,Nat.reduceLT];refine ak (bf (Q:=λxe f h'=>xe= .normal/\h'=h++[am [vi fo.kind,vi fo.lit,vi fo.kids]]/\f.t 0= .lp 4 0/\f.t 1=oJ (fo::l)/\f.t 2=aJ ins/\f.t 10=vi (opF fo)/\f.d=[]/\f.k=λ_=>ac) ?_ ?_)
  ·rintro xe f h' ⟨rfl,rfl,t0,t1,t2,t10,hd,hk⟩;show awp _ _ _ _ _ _ _;refine vn ?_;simp only[wq.1,seval,t0,t1,t2];refine hK x _ fo j (k.app _) hnl (by rw[Nat.zero_add]at a2;exact w3) (by omega) _ λh2 k2 kk2 hle2=> ?_;rw[<-hq]at k2 ⊢;simp only[wq.1,seval,bC,hd];refine vn ?_;simp only[wq.1,seval,t0,t10,qE];refine BU k2 [] (opF fo) (opF fo) q.2.1 (by omega) (by omega) (by omega) λh3 k3 kk3 hle3=> ?_;simp only[wq.1,seval,bC,hd];refine vm ?_;simp only[wq.1,seval,hd];refine⟨λj hj hp=>(by have hp':(f.k j||x25 j||x25 j)=ab:=hp;rw[hk,Bool.false_or,Bool.or_self]at hp';exact RI hp'),hr _ k3 (((XK.app _ _).trans kk2).trans kk3) (by rw[zqa]at hle2;omega)⟩
  ·refine vm ?_;simp only[wq.1,seval,ek3];refine⟨by omega,vcB.mk (λh3=> ?_) (λh3=> ?_)⟩
   ·have ho:opF fo=4:=by unfold opF;rw[if_pos (zqs h3)]
    simp only[wq.1,seval,ho]
   ·have ho:opF fo=6:=by unfold opF;rw[if_neg (of_decide_eq_false h3)]
    simp only[wq.1,seval,ho]
theorem XH.mapD{x:Xs}{h:H}(k:XH x h){K:Nat}(hK:5<K)(o:O):XH x ((h.map (O.drop λj=>j==K)).set K o):=by
 have ne:∀ {j:Nat},j<=5->(j==K)=ac:=λhj=>by rw[beq_eq_false_iff_ne];omega
 have old:∀ {j:Nat} {y:O},j<=5->h[j]? =al y->y.drop (λj=>j==K)=y->((h.map (O.drop λj=>j==K)).set K o)[j]? =al y:=λ{j y} hj hy hd=>by rw[zqn (by omega),zqo,hy,zrw,hd]
 refine⟨old (by omega) k.a ?_,old (by omega) k.u ?_,old (by omega) k.n ?_,old (by omega) k.g ?_⟩
 ·simp only[O.drop,ap,V.drop,ne (show 5<=5 by omega),ne (show 2<=5 by omega),ne (show 3<=5 by omega),zrm,if_false]
 ·show am (ap _ _)=_;rw[aN]
 ·exact jY _ _
 ·show am (ap _ _)=_;rw[kE]
theorem XK.mapD{h0 h:H}(k:XK h0 h){K:Nat}(hK:aa h0<=K)(o:O):XK h0 ((h.map (O.drop λj=>j==K)).set K o):=λj cs hj hc hd=>by have hl:=(zqe hc).1;exact(by rw[zqn (by omega)];exact XK.drop h _ j cs hj (k j cs hj hc hd) hd)
theorem RQ{n k:Nat}:∀ {l:List Fo},WF n (k+1) l->∃fo r,l=fo::r
 |[],h=>(KW h).elim
 |fo::r,_=>⟨fo,r,rfl⟩
theorem RS[MO]{ins:List S}(hil:aa ins<=8):∀(N:Nat)(l:List Fo),aa l<N->aa l<=1000000->Wu ins l
 |0,_,h,_=>by omega
 |N+1,l,hlN,hll=>by
  intro x h0 fo j k0 hnl0 hw0 hb0 R hr;have hM:=mLx;have hl5:5<aa h0:=(zqe k0.g).1;obtain⟨F,eF⟩:∃F,F=aa l+1:=⟨_,rfl⟩;have hkl:fo.kids<=aa l:=by
   have:=(jE (n:=aa ins) (ins:=ins) (aa l+1) fo.kids j x l hw0 (by omega)).2.2;omega
  rw[<-eF]at hr;obtain⟨Z,eZ⟩:∃Z,Z=aO ins F fo.kids x l:=⟨_,rfl⟩;rw[<-eZ]at hr;obtain⟨B,hB⟩:∃B,B=aa h0:=⟨_,rfl⟩;have hg0:((fo::l).map foV).getD 0 .any=foV fo:=rfl;have hdrop:((fo::l).map foV).drop 1=l.map foV:=rfl;refine jB ?_;refine aj Tryz.func91 rfl (by simp[nts]) ?_;refine vn ?_;simp only[wq.1,Nat.reduceLT,Tryz.results91];refine vn ?_;simp only[wq.1,seval];refine⟨by decide +kernel,by omega,by omega,?_⟩;refine vn ?_;simp only[wq.1,seval];refine vn ?_;simp only[wq.1,Nat.reduceLT];refine iF 11 1 (by simp only[wq.1,↓reduceIte]) ?_;refine vn ?_;simp only[wq.1,seval];refine aF (λm f h=>∃i y rest out,m+i=fo.kids/\i<=fo.kids/\WF (aa ins) (fo.kids-i+j) rest/\aa rest<=aa l/\nlX y/\xsz y+5*aa rest<=xsz x+5*aa l/\aa out=i/\Z=((aO ins F (fo.kids-i) y rest).1,out++(aO ins F (fo.kids-i) y rest).2.1,(aO ins F (fo.kids-i) y rest).2.2)/\XH y h/\XK h0 h/\B<aa h/\h[B]? =al (am (out.map V.str))/\f.t 0= .lp 4 0/\f.t 2=aJ ins/\f.t 9=oJ rest/\f.t 10= .fn (.func 158) [.lp 4 0] []/\f.t 11= .ls B 1 0 i i/\f.t 21=vi fo.kids/\f.t 22=vi i/\f.d=[]/\(∀j,j<aa h0->f.k j=ab->j=2\/j=5)) fo.kids ⟨0,x,l,[],by omega,by omega,hw0,zrb _,hnl0,zrb _,rfl,by rw[eZ];rfl,k0.app _,XK.app _ _,by rw[hB];simp,by rw[hB];simp,by simp only[wq.1,seval],by simp only[wq.1,seval],by simp only[wq.1,seval],by simp only[wq.1,seval],by simp only[wq.1,seval,hB],by simp only[wq.1,seval],by rfl,by simp only[wq.1],λj _ hj=>by cases hj⟩ ?_;rintro m f h ⟨i,y,rest,out,hm,hik,hw,hrl,hnl,hsz,hol,hZ,k,kk,hBl,hBo,t0,t2,t9,t10,t11,t21,t22,hd,hk⟩;have hwi:=aA (show i<maxLen by omega);refine vn ?_;simp only[wq.1,Nat.reduceLT,t21,t22];refine vn ?_;simp only[wq.1,↓reduceIte];refine vcB.mk (λhlt=> ?_) (λhlt=> ?_)
  ·have hlt:i<fo.kids:=by have:=zqs hlt;omega
   obtain⟨q,hq⟩:∃q,fo.kids-i=q+1:=⟨fo.kids-i-1,by omega⟩;have hq1:fo.kids-(i+1)=q:=by omega
   rw[hq]at hw hZ;obtain⟨f1,r1,rfl⟩:=RQ (n:=aa ins) (k:=q+j) (l:=rest) (by rw[show q+j+1=q+1+j by omega];exact hw);rw[zrt]at hrl hsz;obtain⟨s1,s2,s3⟩:=BQ (ins:=ins) (F:=F) (x:=y) (k:=q) (j:=j) hw (by omega);have hsz2:=X9 (ins:=ins) (x:=y) (fo:=f1) (l:=r1) (j:=q+j) (n:=aa ins) (by rw[show 1+(q+j)=q+1+j by omega];exact hw);have hnl2:=Ya (ins:=ins) f1 r1 hnl;have hkn:=λR=>Yo (R:=R) hil (by omega) (RS hil N r1 (by omega) (by omega)) (fo:=f1) (j:=q+j) k hnl (by rw[show 1+(q+j)=q+1+j by omega];exact hw) (by omega);obtain⟨A,eA⟩:∃A,A=nK ins y f1 r1:=⟨_,rfl⟩;rw[<-eA]at s1 s2 s3 hsz2 hnl2 hkn;rw[s1]at hZ;have dO:∀p,ap p (out.map V.str)=out.map V.str:=λp=>aN;simp only[wq.1];refine ak ?_;refine aB ?_;refine vn ?_;simp only[wq.1,seval];refine vn ?_;simp only[wq.1,seval,t2,t9,t10];refine hkn _ λh2 k2 kk2 hle2=> ?_;have hBo2:=kk2 B _ (.inr (by omega)) hBo ax;simp only[wq.1,seval,bC,hd];refine fU (λf=>f.t 0= .lp 4 0/\f.t 2=aJ ins/\f.t 9=oJ A.2.2/\f.t 12= .str A.2.1/\f.t 10= .fn (.func 158) [.lp 4 0] []/\f.t 11= .ls B 1 0 i i/\f.t 21=vi fo.kids/\f.t 22=vi i/\f.d=[]/\(∀j,j<aa h0->f.k j=ab->j=2\/j=5)) ⟨by simp only[wq.1,seval,t0,qE],by simp only[wq.1,seval,t2],by simp only[wq.1,↓reduceIte],by simp only[wq.1,seval],by simp only[wq.1,seval,t10,qE],?_,by simp only[wq.1,seval,t21],by simp only[wq.1,seval,t22],by simp only[wq.1,hd],λj hj h=>k25 hk j hj h⟩ ?_
   ·have hxB:x25 B=ac:=by
     cases hx:x25 B with
     |false=>rfl
     |true=>rcases RI hx with h|h<;>omega
    simp only[wq.1,↓reduceIte,Nat.reduceEqDiff,t11,hxB]
   clear t0 t2 t9 t10 t11 t21 t22 hd hk f;rintro f ⟨t0,t2,t9,t12,t10,t11,t21,t22,hd,hk⟩;refine vm ?_;simp only[wq.1,↓reduceIte,Nat.reduceEqDiff,Nat.reduceLT,reduceCtorEq,Nat.reduceMul,t11,t12,hd,hBo2];have n4:(4==B)=ac:=by rw[beq_eq_false_iff_ne];omega
   have hoA:(out++[A.2.1]).map V.str=out.map V.str++[V.str A.2.1]:=by rw[zql];rfl
   refine⟨⟨rfl,by decide⟩,⟨by omega,by omega,by omega⟩,?_⟩;refine vm ?_;simp only[wq.1,seval,t22,hwi];refine .inl ⟨m-1,by omega,i+1,A.1,A.2.2,out++[A.2.1],by omega,by omega,by rw[hq1];exact s2,by omega,hnl2,by omega,by rw[zqa,hol];rfl,?_,k2.mapD (by omega) _,(kk.trans kk2).mapD (by omega) _,by simp;omega,?_,by simp only[wq.1,seval,t0,n4],by simp only[wq.1,seval,t2],by simp only[wq.1,seval,t9],by simp only[wq.1,seval,t10,n4],by simp only[wq.1,seval],by simp only[wq.1,seval,t21],by simp only[wq.1,↓reduceIte],by simp only[wq.1,hd],λj hj h=> ?_⟩
   ·rw[hq1,hZ,zqc];rfl
   ·rw[zqt (by simp;omega),hoA]
   ·have hp':(f.k j||(j==B))=ab:=h;rcases(Bool.or_eq_true _ _).mp hp' with h|h
    ·exact hk j hj h
    ·have:j=B:=by simpa using h
     omega
  ·have hi:i=fo.kids:=by have:=of_decide_eq_false hlt;omega
   subst hi;have hZ2:Z=(y,out,rest):=by
    rw[hZ,Nat.sub_self,eF,aO];simp
   subst hZ2;have nB:(4==B)=ac:=by rw[beq_eq_false_iff_ne];omega
   simp only[wq.1];show awp _ _ _ _ _ _ _;refine fU (λf=>f.t 9=oJ rest/\f.t 11= .ls B 1 0 (aa out) (aa out)/\f.d=[]/\(∀j,j<aa h0->f.k j=ab->j=2\/j=5)) ⟨by simp only[wq.1,seval,t9],by simp only[wq.1,seval,t11,hol],by simp only[wq.1,hd],λj hj h=>hk j hj h⟩ ?_;clear t0 t2 t9 t10 t11 t21 t22 hd hk f;rintro f ⟨t9,t11,hd,hk⟩;refine y7 B 11 (aJ out) (by rw[t11];simp[V.drop]) ?_ hd ?_
   ·rw[t11];refine aX ?_ rfl;rw[fV,hBo];simp only[Nat.zero_add,beq_self_eq_true,if_true,zrw,O.drop,aN]
   refine fU (λf=>f.t 9=oJ rest/\f.t 11=aJ out/\f.d=[]/\(∀j,j<aa h0->f.k j=ab->j=2\/j=5)) ⟨?_,rfl,hd,λj hj h=> ?_⟩ ?_
   ·show(if 9=11 then aJ out else(f.t 9).drop _)=_;rw[if_neg (by decide),t9];rfl
   ·have hp':(f.k j||(j==B))=ab:=h;rcases(Bool.or_eq_true _ _).mp hp' with h|h
    ·exact hk j hj h
    ·have:j=B:=by simpa using h
     omega
   clear t9 t11 hd hk f;rintro f ⟨t9,t11,hd,hk⟩;refine vm ?_;simp only[wq.1,seval,t9,t11,hd];exact⟨λj hj h=>hk j hj h,hr _ (k.dropD (by omega)) (kk.dropD (by omega)) (by rw[rf];omega)⟩
theorem Et[MO](g:Ga)(op:Int):Ev TE 89 [vi op,.ip g.v] (vi (fM g.off op)):=by
 have ho:=MO.other op (vi 0);refine ai Tryz.func89 rfl (by simp[nts]) (vm ?_);cases hoff:g.off with
 |true =>
  simp only[wq.1,seval,Tryz.results89,hoff,gl4,jh,ho];have e:(if op=0 then V.int .i64 1 else if op=1 then V.int .i64 0 else if op=2 then V.int .i64 3 else if op=3 then V.int .i64 2 else if op=4 then V.int .i64 5 else if op=6 then V.int .i64 7 else vi 0)=vi (fM ab op):=by
   unfold fM We;rw[if_pos rfl];by_cases a0:op=0
   ·simp only[a0,if_true]
   by_cases a1:op=1
   ·simp only[a1,if_true];rfl
   by_cases a2:op=2
   ·simp only[a2,if_true];rfl
   by_cases a3:op=3
   ·simp only[a3,if_true];rfl
   by_cases a4:op=4
   ·simp only[a4,if_true];rfl
   by_cases a6:op=6
   ·simp only[a6,if_true];rfl
   simp only[a0,a1,a2,a3,a4,a6,if_false]
  rw[e];exact aC.dat rfl
 |false=>simp only[wq.1,seval,Tryz.results89,hoff];exact aC.dat rfl
theorem Jp[MO]{x:Xs}{h0:H}(k0:XH x h0)(hnl:nlX x)(g:Ga)(hil:aa g.ins<=8)(hrl:aa g.rows<=128)(hro:∀r∈g.rows,mQ (aa g.ins) r=ab)(hb:xsz x<=80000000){R:AEnd->H->(Nat->Bool)->Prop}
 (hr:∀h',XH (jT x g) h'->XK h0 h'->aa h0<=aa h'->R (.ret (.tup [])) h' x25):ag TE 46 [.lp 4 0,g.v] h0 R:=by
 have hM:=mLx;have hl5:5<aa h0:=(zqe k0.g).1;obtain⟨B,hB⟩:∃B,B=aa h0:=⟨_,rfl⟩;have hrn:∀r∈g.rows,aa r=aa g.ins:=λr h=>by have:=hro r h;unfold mQ at this;simp only[zqf,beq_iff_eq]at this;exact this.1
 have hfl:=KY (rows:=g.rows) hrl λr hr=>by rw[hrn r hr];exact hil
 have hwf:=zK (n:=aa g.ins) (bK (bM g.rows)+1) (bM g.rows) (λr hr=>by
  rcases lZ g.rows [] r hr with h|h
  ·cases h
  ·exact hrn r h) (by omega)
 have hfac:=Rx g.rows (aa g.ins) hil hrl hro;have hne:∃fo l,Qz (bM g.rows)=fo::l:=by
  have e:Qz (bM g.rows)=wF (bK (bM g.rows)+1) (bM g.rows):=rfl;rw[e];rcases hwf with⟨_,h⟩|⟨_,fo',h,h'⟩|⟨_,_,h⟩
  ·exact⟨_,_,h⟩
  ·exact⟨_,_,h'⟩
  ·exact RQ (k:=0) h
 obtain⟨fo,l,hfo⟩:=hne;have hk2:fo.kind≠0->fo.kind≠1->WF (aa g.ins) 1 (fo::l):=λh0 h1=>by
  have e:wF (bK (bM g.rows)+1) (bM g.rows)=fo::l:=hfo;rw[e]at hwf;rcases hwf with⟨_,h⟩|⟨_,fo',h,h'⟩|⟨_,_,h⟩
  ·injection h with h _;rw[h]at h0;exact absurd rfl h0
  ·injection h' with h' _;rw[h']at h1;exact absurd h h1
  ·exact h
 clear hwf;unfold jT at hr;rw[hfo]at hr hfac hfl;rw[zrt]at hfl;dsimp only at hr;refine jB ?_;refine aj Tryz.func46 rfl (by simp[nts]) ?_;refine vn ?_;simp only[wq.1,Nat.reduceLT,Tryz.results46,<-hB];refine vn ?_;simp only[wq.1,seval];refine fU (λf=>f.t 0= .lp 4 0/\f.t 3= .lp B 0/\f.t 4= .fn (.func 89) [] [.lp B 0]/\f.d=[]/\f.k=λ_=>ac) ⟨rfl,rfl,rfl,rfl,rfl⟩ ?_;rintro f ⟨t0,t3,t4,hd,hk⟩;have hgB:(h0++[am [V.str g.name,vi g.op,aJ g.ins,aJ g.rows,V.bool g.off]])[B]? =al (am (gaX g)):=by rw[hB];simp[gaX]
 have nB:(4==B)=ac:=by rw[beq_eq_false_iff_ne];omega
 have hgd:aE g.v=ab:=by simp only[aE,aL,ax,zre]
 refine x8 (λj=>j==B) (λi=>if i=3 then .ip g.v else if i=4 then .fn (.func 89) [] [.ip g.v]else(f.t i).drop (λj=>j==B)) (λi=> ?_) (by rw[hd];simp) ?_
 ·have hlp:aC TE (sH (λj=>j==B) 0 (h0++[am [V.str g.name,vi g.op,aJ g.ins,aJ g.rows,V.bool g.off]])) (.lp B 0) (.ip g.v):=by
   refine aC.lp (cs:=gaX g) ?_ (au.dat (by show(aE _&&(aE _&&(aE (aJ g.ins)&&(aE (aJ g.rows)&&(aE _&&ab)))))=ab;simp only[aE,ax,zre])) ?_ ?_ ?_ ?_
   rotate_left
   ·rfl
   ·exact hgd
   ·show 0<5;decide
   ·rfl
   ·rw[fV,hgB];simp only[Nat.zero_add,beq_self_eq_true,if_true,zrw,O.drop,Hf]
  by_cases h3:i=3
  ·subst h3;refine .inr ⟨?_,?_⟩
   ·rw[t3];simp[V.drop]
   ·rw[t3];exact hlp
  ·rw[if_neg h3];by_cases h4:i=4
   ·subst h4;refine .inr ⟨?_,?_⟩
    ·rw[t4];simp[V.drop,ap]
    ·rw[t4];exact aC.fn au.nil (au.cons hlp au.nil)
   ·rw[if_neg h4];exact .inl rfl
 have k1:=(k0.app [am [V.str g.name,vi g.op,aJ g.ins,aJ g.rows,V.bool g.off]]).dropD (K:=B) (by omega);have kk1:=(XK.app h0 [am [V.str g.name,vi g.op,aJ g.ins,aJ g.rows,V.bool g.off]]).dropD (K:=B) (by omega);have hle1:aa h0<=aa (jv (λj=>j==B) 0 (h0++[am [V.str g.name,vi g.op,aJ g.ins,aJ g.rows,V.bool g.off]])):=by rw[rf];simp
 refine fU (λf=>f.t 0= .lp 4 0/\f.t 3= .ip g.v/\f.t 4= .fn (.func 89) [] [.ip g.v]/\f.d=[]/\(∀j,j<aa h0->f.k j=ab->j=2\/j=5)) ⟨?_,rfl,rfl,hd,λj hj h=> ?_⟩ ?_
 ·show(f.t 0).drop _=_;rw[t0];simp only[V.drop,nB,zrm,if_false]
 ·have h':(f.k j||(j==B))=ab:=h;rw[hk,Bool.false_or]at h';have:j=B:=by simpa using h'
  omega
 obtain⟨h1,eh1⟩:∃h1,h1=jv (λj=>j==B) 0 (h0++[am [V.str g.name,vi g.op,aJ g.ins,aJ g.rows,V.bool g.off]]):=⟨_,rfl⟩;rw[<-eh1]at k1 kk1 hle1 ⊢;clear eh1 hgB t0 t3 t4 hd hk f;rintro f ⟨t0,t3,t4,hd,hk⟩;obtain⟨C,hC⟩:∃C,C=aa h1:=⟨_,rfl⟩;have hg0:((fo::l).map foV).getD 0 .any=foV fo:=rfl;have hgE:∀x:O,(h1++[x])[C]? =al x:=λx=>by rw[hC];simp
 have hgS:∀x y:O,(h1++[x]).set C y=h1++[y]:=λx y=>by rw[hC];simp
 refine vn ?_;simp only[wq.1,seval,t3];refine ag.ev hfac (by simp only[aL,aE,ax,zre]) ?_;simp only[wq.1,seval];refine vn ?_;simp only[wq.1,seval,<-hC,hgE,hgS];refine⟨by omega,?_⟩;refine vn ?_;simp only[wq.1,seval,hgE];refine fU (λf=>f.t 0= .lp 4 0/\f.t 3= .ip g.v/\f.t 4= .fn (.func 89) [] [.ip g.v]/\f.t 5=oJ (fo::l)/\f.t 7= .lp C 0/\f.t 26=vi fo.kind/\f.d=[]/\(∀j,j<aa h0->f.k j=ab->j=2\/j=5)) ⟨by simp only[wq.1,seval,t0],by simp only[wq.1,seval,t3],by simp only[wq.1,seval,t4],by simp only[wq.1,seval],by simp only[wq.1,seval],by simp only[wq.1,↓reduceIte],by simp only[wq.1,hd],λj hj h=>hk j hj h⟩ ?_;clear t0 t3 t4 hd hk f;rintro f ⟨t0,t3,t4,t5,t7,t26,hd,hk⟩;refine aB ?_;have e0:((fo.kind:Int)==0)=ar (fo.kind=0):=by rw[Bool.eq_iff_iff,beq_iff_eq,zqb];omega
 have e1:((fo.kind:Int)==1)=ar (fo.kind=1):=by rw[Bool.eq_iff_iff,beq_iff_eq,zqb];omega
 have e2:((fo.kind:Int)==2)=ar (fo.kind=2):=by rw[Bool.eq_iff_iff,beq_iff_eq,zqb];omega
 have e3:((fo.kind:Int)==3)=ar (fo.kind=3):=by rw[Bool.eq_iff_iff,beq_iff_eq,zqb];omega
 have kC:=k1.app [am (foF fo)];have kkC:=kk1.trans (XK.app h1 [am (foF fo)]);have hCgE:(h1++[am [vi fo.kind,vi fo.lit,vi fo.kids]])[C]? =al (am [vi fo.kind,vi fo.lit,vi fo.kids]):=hgE _;obtain⟨h2,eh2⟩:∃h2,h2=h1++[am [vi fo.kind,vi fo.lit,vi fo.kids]]:=⟨_,rfl⟩;have hle2:aa h0<=aa h2:=by rw[eh2,zqa];omega
 rw[<-eh2]at hCgE ⊢;rw[show h1++[am (foF fo)]=h2 from eh2.symm]at kC kkC;have hC5:5<C:=by omega
 refine vn ?_;simp only[wq.1,seval,t26,e0];refine bH (b:=ar (fo.kind=0)) (by simp only[wq.1,↓reduceIte]) (by simp only[wq.1,↓reduceIte]) (λh=> ?_) (λhf0=> ?_)
 ·rw[if_pos (zqs h)]at hr;refine lT mixed (by decide +kernel) ?_;simp only[nts,List.size_toArray,zrt,List.length_nil,Nat.reduceAdd,Nat.reduceSub,List.take_succ_cons,List.take_zero];simp only[wq.1,seval,bJ,bT,t0,t3,t4];refine uh.mk (Et g 0) rfl (by simp only[aL,aE,zre]) ?_;simp only[wq.1,seval];refine Ho kC ⟨g.name,fM g.off 0,[],[],ac⟩ dG dG (by omega) λh' a b c=> ?_;simp only[wq.1,bC,hd];exact⟨λj hj hp=>k25 hk j (by omega) hp,hr _ a (kkC.trans b) (by omega)⟩
 rw[if_neg (of_decide_eq_false hf0)]at hr;have hf0':=of_decide_eq_false hf0;refine vn ?_;simp only[wq.1,seval,t26,e1];refine bH (b:=ar (fo.kind=1)) (by simp only[wq.1,↓reduceIte]) (by simp only[wq.1,↓reduceIte]) (λh=> ?_) (λhf1=> ?_)
 ·rw[if_pos (zqs h)]at hr;refine lT mixed (by decide +kernel) ?_;simp only[nts,List.size_toArray,zrt,List.length_nil,Nat.reduceAdd,Nat.reduceSub,List.take_succ_cons,List.take_zero];simp only[wq.1,seval,bJ,bT,t0,t3,t4];refine uh.mk (Et g 1) rfl (by simp only[aL,aE,zre]) ?_;simp only[wq.1,seval];refine Ho kC ⟨g.name,fM g.off 1,[],[],ac⟩ dG dG (by omega) λh' a b c=> ?_;simp only[wq.1,bC,hd];exact⟨λj hj hp=>k25 hk j (by omega) hp,hr _ a (kkC.trans b) (by omega)⟩
 rw[if_neg (of_decide_eq_false hf1)]at hr;have hw:=hk2 hf0' (of_decide_eq_false hf1);refine vn ?_;simp only[wq.1,seval,t26,e2];refine bH (b:=ar (fo.kind=2)) (by simp only[wq.1,↓reduceIte]) (by simp only[wq.1,↓reduceIte]) (λh=> ?_) (λhf2=> ?_)
 ·rw[if_pos (zqs h)]at hr;have hlit:fo.lit<2*aa g.ins:=by
   unfold WF at hw;rcases hw with⟨_,w2,_⟩|⟨w1,_⟩
   ·exact w2
   ·have:=zqs h;omega
  have es:=RJ fo.lit (by omega);have ea:=RP fo.lit (by omega);have hi:fo.lit/2<aa g.ins:=by omega
  have hgs:(g.ins.map V.str).getD (fo.lit/2) .any= .str (g.ins.getD (fo.lit/2) []):=by rw[Bz hi .any,zqg,zqk hi];rfl
  obtain⟨s,hs⟩:∃s,s=g.ins.getD (fo.lit/2) []:=⟨_,rfl⟩;rw[<-hs]at hgs hr;obtain⟨op,hop⟩:∃op:Int,op=if fo.lit%2=1 then 3 else 2:=⟨_,rfl⟩
  rw[<-hop]at hr;refine vn ?_;simp only[wq.1,Nat.reduceLT];refine ak (bf (Q:=λxe f' h'=>xe= .normal/\h'=h2/\f'.t 0= .lp 4 0/\f'.t 3= .ip g.v/\f'.t 4= .fn (.func 89) [] [.ip g.v]/\f'.t 7= .lp C 0/\f'.t 8=vi op/\f'.d=[]/\(∀j,j<aa h0->f'.k j=ab->j=2\/j=5)) ?_ ?_)
  ·clear t0 t3 t4 t5 t7 t26 hd hk;rintro xe f h' ⟨rfl,rfl,t0,t3,t4,t7,t8,hd,hk⟩;show awp _ _ _ _ _ _ _;refine lT mixed (by decide +kernel) ?_;simp only[nts,List.size_toArray,zrt,List.length_nil,Nat.reduceAdd,Nat.reduceSub,List.take_succ_cons,List.take_zero];simp only[wq.1,↓reduceIte,Nat.reduceEqDiff,Nat.reduceLT,Nat.reduceLeDiff,Nat.reduceAdd,reduceCtorEq,Nat.reduceMul,bJ,bT,t0,t3,t4,t8];refine uh.mk (Et g op) rfl (by simp only[aL,aE,zre]) ?_;simp only[wq.1,↓reduceIte,Nat.reduceEqDiff,Nat.reduceLT,Nat.reduceLeDiff,Nat.reduceAdd,Int.reduceToNat,Int.reduceLE,t3,t7,hCgE,es,hgs];refine⟨⟨by omega,by omega⟩,⟨rfl,by decide⟩,?_⟩;refine Ho kC ⟨g.name,fM g.off op,[s],[],ac⟩ dH dG (by omega) λh' a b c=> ?_;simp only[wq.1,bC,hd];exact⟨λj hj hp=>k25 hk j (by omega) hp,hr _ a (kkC.trans b) (by omega)⟩
  ·refine vm ?_;simp only[wq.1,seval,t7,hCgE,ea];refine vcB.mk (λh3=> ?_) (λh3=> ?_)
   ·have hop3:op=3:=by rw[hop,if_pos (zqs h3)]
    simp only[wq.1,seval,t0,t3,t4,t7,hd,hop3];exact λj hj hp=>hk j hj hp
   ·have hop2:op=2:=by rw[hop,if_neg (of_decide_eq_false h3)]
    simp only[wq.1,seval,t0,t3,t4,t7,hd,hop2];exact λj hj hp=>hk j hj hp
 rw[if_neg (of_decide_eq_false hf2)]at hr;have hn2:=of_decide_eq_false hf2;have hw':=hw;unfold WF at hw';rcases hw' with⟨w1,_⟩|⟨w1,w2,w3⟩
 ·exact absurd w1 hn2
 obtain⟨a1,a2,a3⟩:=jE (n:=aa g.ins) (ins:=g.ins) (aa l+1) fo.kids 0 x l w3 (by omega);have a4:=oI (n:=aa g.ins) (ins:=g.ins) (aa l+1) fo.kids 0 x l w3 (by omega);have a5:=qY (ins:=g.ins) (aa l+1) fo.kids l hnl;have hkk:=RS hil (aa l+1) l (by omega) (by omega);obtain⟨q,hq⟩:∃q,q=aO g.ins (aa l+1) fo.kids x l:=⟨_,rfl⟩;rw[<-hq]at a1 a2 a3 a4 a5 hr;refine vn ?_;simp only[wq.1,Nat.reduceLT];refine ak (bf (Q:=λxe f' h'=>xe= .normal/\h'=h2/\f'.t 0= .lp 4 0/\f'.t 3= .ip g.v/\f'.t 4= .fn (.func 89) [] [.ip g.v]/\f'.t 5=oJ (fo::l)/\f'.t 9=vi (opF fo)/\f'.d=[]/\(∀j,j<aa h0->f'.k j=ab->j=2\/j=5)) ?_ ?_)
 ·clear t0 t3 t4 t5 t7 t26 hd hk;rintro xe f h' ⟨rfl,rfl,t0,t3,t4,t5,t9,hd,hk⟩;show awp _ _ _ _ _ _ _;refine vn ?_;simp only[wq.1,seval,t0,t3,t5];refine hkk x _ fo 0 kC hnl w3 (by omega) _ λh3 k3 kk3 hle3=> ?_;rw[<-hq]at k3 ⊢;simp only[wq.1,seval,bC,hd];refine fU (λf=>f.t 0= .lp 4 0/\f.t 3= .ip g.v/\f.t 4= .fn (.func 89) [] [.ip g.v]/\f.t 9=vi (opF fo)/\f.t 10=aJ q.2.1/\f.d=[]/\(∀j,j<aa h0->f.k j=ab->j=2\/j=5)) ⟨by simp only[wq.1,seval,t0,qE],by simp only[wq.1,seval,t3],by simp only[wq.1,seval,t4],by simp only[wq.1,seval,t9],by simp only[wq.1,seval],by simp only[wq.1,hd],λj hj h=>k25 hk j hj h⟩ ?_;clear t0 t3 t4 t5 t9 hd hk f;rintro f ⟨t0,t3,t4,t9,t10,hd,hk⟩;refine lT mixed (by decide +kernel) ?_;simp only[nts,List.size_toArray,zrt,List.length_nil,Nat.reduceAdd,Nat.reduceSub,List.take_succ_cons,List.take_zero];simp only[wq.1,seval,bJ,bT,t0,t3,t4,t9];refine uh.mk (Et g (opF fo)) rfl (by simp only[aL,aE,zre]) ?_;simp only[wq.1,seval,t10];refine BU k3 g.name (opF fo) (fM g.off (opF fo)) q.2.1 (by omega) (by omega) (by omega) λh4 k4 kk4 hle4=> ?_;simp only[wq.1,bC,hd];exact⟨λj hj hp=>k25 hk j (by omega) hp,hr _ k4 ((kkC.trans kk3).trans kk4) (by omega)⟩
 ·refine vm ?_;simp only[wq.1,seval,t7,hCgE,e3];refine vcB.mk (λh3=> ?_) (λh3=> ?_)
  ·have ho:opF fo=4:=by unfold opF;rw[if_pos (zqs h3)]
   simp only[wq.1,seval,t0,t3,t4,t5,hd,ho];exact λj hj hp=>hk j hj hp
  ·have ho:opF fo=6:=by unfold opF;rw[if_neg (of_decide_eq_false h3)]
   simp only[wq.1,seval,t0,t3,t4,t5,hd,ho];exact λj hj hp=>hk j hj hp
end Go.Proofs.YthaijohbpdabfaaGreatDoor
