/- Lemmas for this claim, part A9: each holds under what it names. -/
import Derived.Test.YthaijohbpdabfaaGreatDoorRA8
import Derived.Test.YthaijohbpdabfaaGreatDoorRA7
import Derived.Lib.SlBytesConst
set_option linter.all false
namespace Go.Abs
open Go Go.RowKit
open List renaming length → aa, replicate → ao
open Bool renaming true → ab, false → ac
open Option renaming some → al, none → aq
open Decidable renaming decide → ar
open Go.IntKind renaming wrap → aD
open Go.Result renaming andThen → aM
open Go.Abs.V renaming drops → ap, dat → aE, dats → aL
section
variable{e:E}{n:Nat}{r:Option Nat}{ops:Array Oper}{Q:XE->Fr->H->Prop}{ok:Nat->Prop}{pl0:Nat->Option Nat}{w0:World}{h:H}
def Y3(ops:Array Oper)(last:Nat):List Nat->Array Bool->Bool
 |[],listed=>Region.ready .any ops listed==[last]
 |k::ks,listed=>(Region.ready .any ops listed).contains k&&k != last&&Region.free .any ops listed k&&Y3 ops last ks (listed.setIfInBounds k ab)
def yX(ops:Array Oper)(ks:List Nat):List Oper:=ks.filterMap λk=>ops[k]?
theorem sO{last:Nat}{Q:Fr->Prop}:∀(ks:List Nat)(listed:Array Bool)(f:Fr),Y3 ops last ks listed=ab->qL e n ops h Q (yX ops ks) f->xf e n ops h last Q (aa ks) listed f
 |[],_,_,hB,h=>⟨by simpa [Y3]using hB,h⟩
 |k::ks,listed,f,hB,hh=>by
  simp only[Y3,zqf]at hB;obtain⟨⟨⟨hr,hne⟩,hf⟩,hB'⟩:=hB;obtain⟨_,o,h0,_⟩:=mem_ready.1 (show k∈Region.ready .any ops listed by simpa using hr);have e1:yX ops (k::ks)=o::yX ops ks:=by simp[yX,h0]
  rw[e1]at hh;obtain⟨v,hy,hK⟩:=hh;exact xg h0 (by simpa using hne) (aa ks) listed f (Region.free_spec h0 hf) (by simpa using hr) hy (sO ks _ _ hB' hK)
def dep(ops:Array Oper)(i j:Nat):Bool:=match ops[i]? with
 |some o=>o.after.any λe=>Region.binds .any e&&e.on==j
 |none=>ac
theorem Dv{i j:Nat}(h:dep ops i j=ab):∃o,ops[i]? =al o/\∃e∈o.after,Region.binds .any e=ab/\e.on=j:=by
 unfold dep at h;split at h
 ·rename_i o ho;rw[Array.any_eq_true]at h;obtain⟨q,hq,h3⟩:=h;rw[zqf,beq_iff_eq]at h3;exact⟨o,ho,_,Array.getElem_mem hq,h3.1,h3.2⟩
 ·cases h
def Dw(ops:Array Oper)(tk pre:List Nat)(last:Nat):Bool :=
 (pre.all λi=>(last::pre).any λj=>ar (i<j)&&dep ops j i)&&(List.range ops.size).all λi=>tk.contains i||pre.contains i||i==last||dep ops i last
structure LI(ops:Array Oper)(tk pre:List Nat)(last:Nat)(listed:Array Bool):Prop where
 clos:xJ ops listed
 size:listed.size=ops.size
 took:∀i∈tk,i<ops.size->listed.getD i ac=ab
 tail:∀i,i∉tk->i∉pre->listed.getD i ac=ac
theorem LI.all{tk pre:List Nat}{last:Nat}{listed:Array Bool}(k:LI ops tk pre last listed)(hB:Dw ops tk pre last=ab)(hr:last∈Region.ready .any ops listed):∀(m i:Nat),m=ops.size-i->i∈pre->listed.getD i ac=ab:=by
 intro m
 induction m using Nat.strongRecOn with
 |_ m ih =>
  intro i hm hi;unfold Dw at hB;rw[zqf]at hB;have h1:=zrs.1 hB.1 i hi;obtain⟨j,hj,h2⟩:=List.any_eq_true.1 h1;rw[zqf,zqb]at h2;obtain⟨hij,h2⟩:=h2;obtain⟨o,ho,e,he,hb,hon⟩:=Dv h2;have hjs:=(Array.getElem?_eq_some_iff.1 ho).1;rw[<-hon];rcases zrj.1 hj with rfl|hj
  ·obtain⟨_,o',ho',hall⟩:=mem_ready.1 hr;rw[ho]at ho';cases ho';exact hall e he hb
  ·exact k.clos j o ho (ih (ops.size-j) (by omega) j rfl hj) e he hb
theorem Pi{listed:Array Bool}{i:Nat}(hi:i<listed.size)(d d':Bool):listed.getD i d=listed.getD i d':=by simp[hi]
theorem LI.one{tk pre:List Nat}{last:Nat}{listed:Array Bool}(k:LI ops tk pre last listed)(hB:Dw ops tk pre last=ab)(hl:last∉tk/\last∉pre)(hr:last∈Region.ready .any ops listed):Region.ready .any ops listed=[last]:=by
 have hall:∀j∈Region.ready .any ops listed,j=last:=by
  intro j hj;obtain⟨h0,o,ho,hdep⟩:=mem_ready.1 hj;have hlt:=(Array.getElem?_eq_some_iff.1 ho).1;have hun:listed.getD j ac=ac:=by rw[Pi (by rw[k.size];exact hlt) ac ab];exact h0
  have hB2:=hB;unfold Dw at hB2;rw[zqf]at hB2;have h2:=zrs.1 hB2.2 j (by simpa using hlt);simp only[Bool.or_eq_true,List.contains_iff_mem,beq_iff_eq]at h2;rcases h2 with((h2|h2)|h2)|h2
  ·rw[k.took j h2 hlt]at hun;cases hun
  ·rw[k.all hB hr _ j rfl h2]at hun;cases hun
  ·exact h2
  ·obtain⟨o',ho',e,he,hb,hon⟩:=Dv h2;rw[ho]at ho';cases ho';have:=hdep e he hb;rw[hon,k.tail last hl.1 hl.2]at this;cases this
 have hnd:(Region.ready .any ops listed).Nodup:=by unfold Region.ready;exact List.Pairwise.filter _ List.nodup_range
 match hm:Region.ready .any ops listed with
 |[]=>rw[hm]at hr;cases hr
 |[x]=>rw[hall x (by rw[hm];simp)]
 |x::y::l=>exfalso;rw[hm]at hnd;have h1:=hall x (by rw[hm];simp);have h2:=hall y (by rw[hm];simp);simp[h1,h2]at hnd
def YD(ops:Array Oper)(tk pre:List Nat):Array Bool:=((List.range ops.size).map λi=>tk.contains i||pre.contains i).toArray
theorem LI.mid{tk pre:List Nat}{last:Nat}{listed:Array Bool}(k:LI ops tk pre last listed)(hB:Dw ops tk pre last=ab)(hr:last∈Region.ready .any ops listed):listed=YD ops tk pre:=by
 apply Array.ext
 ·simp[YD,k.size]
 ·intro i h1 h2;have hi:i<ops.size:=by rw[<-k.size];exact h1
  have e1:(YD ops tk pre)[i]=(tk.contains i||pre.contains i):=by simp[YD]
  have e2:listed[i]=listed.getD i ac:=by simp[h1]
  rw[e1,e2];by_cases ht:i∈tk
  ·rw[k.took i ht hi];simp[ht]
  ·by_cases hp:i∈pre
   ·rw[k.all hB hr _ i rfl hp];simp[hp]
   ·rw[k.tail i ht hp];simp[ht,hp]
theorem iq{P:Program}:∀(p:Plan)(fuel k:Nat)(listed:Array Bool),(dY P ops p fuel listed=ab->dY P ops p (fuel+k) listed=ab)/\(dY.planAlts P ops p fuel listed=ab->dY.planAlts P ops p (fuel+k) listed=ab)
 | .fin,fuel,k,listed=>by
  refine⟨λh=> ?_,λh=> ?_⟩
  ·simpa [dY]using h
  ·simp[dY.planAlts]at h
 | .take i p,fuel,k,listed=>by
  refine⟨λh=> ?_,λh=> ?_⟩
  ·cases fuel with
   |zero=>simp[dY]at h
   |succ fuel =>
    rw[show fuel+1+k=(fuel+k)+1 by omega];simp only[dY]at h ⊢;cases ho:ops[i]? with
    |none=>rw[ho]at h;simp at h
    |some o=>rw[ho]at h;dsimp only at h ⊢;rw[zqf]at h ⊢;exact⟨h.1,(iq p fuel k _).1 h.2⟩
  ·simp[dY.planAlts]at h
 | .one i p,fuel,k,listed=>by
  refine⟨λh=> ?_,λh=> ?_⟩
  ·cases fuel with
   |zero=>simp[dY]at h
   |succ fuel=>rw[show fuel+1+k=(fuel+k)+1 by omega];simp only[dY]at h ⊢;rw[zqf]at h ⊢;exact⟨h.1,(iq p fuel k _).1 h.2⟩
  ·simp only[dY.planAlts]at h ⊢;exact(iq p fuel k _).1 h
 | .alt i p q,fuel,k,listed=>by
  refine⟨λh=> ?_,λh=> ?_⟩
  ·cases fuel with
   |zero=>simp[dY]at h
   |succ fuel=>rw[show fuel+1+k=(fuel+k)+1 by omega];simp only[dY]at h ⊢;rw[zqf,zqf]at h ⊢;exact⟨⟨h.1.1,(iq p fuel k _).1 h.1.2⟩,(iq q fuel k _).2 h.2⟩
  ·simp only[dY.planAlts]at h ⊢;rw[zqf]at h ⊢;exact⟨(iq p fuel k _).1 h.1,(iq q fuel k _).2 h.2⟩
theorem LI.step{tk pre:List Nat}{last:Nat}{listed:Array Bool}(k:LI ops tk pre last listed)(hB:Dw ops tk pre last=ab)(hl:last∉tk/\last∉pre){i:Nat}(hi:i∈Region.ready .any ops listed)(hil:i≠last):LI ops tk pre last (listed.setIfInBounds i ab):=by
 obtain⟨h0,o,ho,hdep⟩:=mem_ready.1 hi;have hlt:=(Array.getElem?_eq_some_iff.1 ho).1;refine⟨k.clos.set hi,by simpa using k.size,λj hj hjs=>getD_set_true (k.took j hj hjs),λj h1 h2=> ?_⟩;by_cases hji:i=j
 ·subst hji;exfalso;have hB2:=hB;unfold Dw at hB2;rw[zqf]at hB2;have h3:=zrs.1 hB2.2 i (by simpa using hlt);simp only[Bool.or_eq_true,List.contains_iff_mem,beq_iff_eq]at h3;rcases h3 with((h3|h3)|h3)|h3
  ·exact h1 h3
  ·exact h2 h3
  ·exact hil h3
  ·obtain⟨o',ho',e,he,hb,hon⟩:=Dv h3;rw[ho]at ho';cases ho';have:=hdep e he hb;rw[hon,k.tail last hl.1 hl.2]at this;cases this
 ·rw[getD_set_ne ac hji];exact k.tail j h1 h2
theorem VW(hna:∀(j:Nat)(o:Oper),ops[j]? =al o->bT o=ac)(hQ:∀v f h,¬Q (.pan v) f h)(hpl:nZ ops=ab){tk pre:List Nat}{last fp:Nat}{p:Plan}(hB:Dw ops tk pre last=ab)(hl:last∉tk/\last∉pre)(hp:dY e.P ops p fp (YD ops tk pre)=ab):∀(fuel:Nat)(listed:Array Bool)(f:Fr),
 xf e n ops h last (λf1=>gY e n ops Q p f1 h) fuel listed f->LI ops tk pre last listed->∀pl w a,SSim e n ok pl0 w0 f h pl w a->wpAnyIn (RF r) 0 e.P .any ops (iM e n ok pl0 w0 Q) (fp+fuel) listed a w:=by
 have lastly:∀(fuel:Nat)(listed:Array Bool)(f:Fr),gY e n ops Q p f h->LI ops tk pre last listed->last∈Region.ready .any ops listed->∀pl w a,SSim e n ok pl0 w0 f h pl w a->wpAnyIn (RF r) 0 e.P .any ops (iM e n ok pl0 w0 Q) (fp+fuel) listed a w:=by intro fuel listed f hv k hr pl w a s;have e1:=k.mid hB hr;subst e1;exact(ji hQ hpl p).1 (fp+fuel) _ f h ((iq p fp fuel _).1 hp) hv pl w a s
 intro fuel
 induction fuel with
 |zero=>intro listed f hL k pl w a s;exact lastly 0 listed f hL.2 k (by rw[hL.1];simp) pl w a s
 |succ fuel ih =>
  intro listed f hL k pl w a s;by_cases hlr:last∈Region.ready .any ops listed
  ·exact lastly (fuel+1) listed f (hL.2.1 (k.one hB hl hlr)) k hlr pl w a s
  ·rw[show fp+(fuel+1)=(fp+fuel)+1 by omega];refine⟨λh0=>absurd h0 hL.1,λi hi=> ?_⟩;have hil:i≠last:=λhh=>hlr (hh▸hi);have h1:=hL.2.2 i hi hil;obtain⟨hun,o,ho,_⟩:=mem_ready.1 hi;unfold xI at h1;rw[ho]at h1;obtain⟨v,hy,hn⟩:=h1;have k':=k.step hB hl hi hil;rcases hy with⟨h2,_⟩|⟨_,hd,g,v',hg,hv,rfl⟩
   ·rw[hna i o ho]at h2;cases h2
   ·unfold wpOpIn;rw[ho];dsimp only;have hw:=rZ s.val hg;cases g with
    |true=>rw[if_pos hw];exact(hv rfl).wpIn s λx w' hx hr=>ih _ _ hn k' pl w' _ ((s.next0 (s.hs.wext hx) (hx.keeps s.hs)).put hd hr)
    |false=>rw[if_neg (by rw[hw];simp)];exact⟨λg _=>iD r g,ih _ _ hn k' pl w _ (s.put hd (jg (λhf=>by cases hf) (λ_=>rfl)))⟩
def vX(P:Program)(ops:Array Oper):List Nat->Array Bool->Bool
 |[],_=>ab
 |i::is,listed=>(match ops[i]? with|some o=>rO P o.op|none=>ac)&&(Region.ready .any ops listed).contains i&&Region.free .any ops listed i&&vX P ops is (listed.setIfInBounds i ab)
def pR(listed:Array Bool):List Nat->Array Bool
 |[]=>listed
 |i::is=>pR (listed.setIfInBounds i ab) is
def pU(e:E)(n:Nat)(ops:Array Oper)(Q:XE->Fr->H->Prop)(K:Fr->H->Prop):List Nat->Fr->H->Prop
 |[],f,h=>K f h
 |i::is,f,h=>E8 e n ops i (pU e n ops Q K is) Q f h
theorem Dx(hQ:∀v f h,¬Q (.pan v) f h)(hpl:nZ ops=ab){K:Fr->H->Prop}{fuel:Nat}:∀(tk:List Nat)(listed:Array Bool)(f:Fr)(h:H),vX e.P ops tk listed=ab->pU e n ops Q K tk f h ->
 (∀f h pl w a,K f h->SSim e n ok pl0 w0 f h pl w a->wpAnyIn (RF r) 0 e.P .any ops (iM e n ok pl0 w0 Q) fuel (pR listed tk) a w)->∀pl w a,SSim e n ok pl0 w0 f h pl w a->wpAnyIn (RF r) 0 e.P .any ops (iM e n ok pl0 w0 Q) (fuel+aa tk) listed a w
 |[],listed,f,h,_,hv,hk,pl,w,a,s=>hk f h pl w a hv s
 |i::is,listed,f,h,ht,hv,hk,pl,w,a,s=>by
  simp only[vX,zqf]at ht;obtain⟨⟨⟨h1,h2⟩,h3⟩,h4⟩:=ht;cases ho:ops[i]? with
  |none=>rw[ho]at h1;cases h1
  |some o=>rw[ho]at h1;obtain⟨x,f',hy,s',hk'⟩:=yR ho h1 hv s;refine rP h1 ho hpl ?_ (fuel+aa is) listed a w (Region.free_spec ho h3) (by simpa using h2) hy (Dx hQ hpl is _ f' h h4 hk' hk pl w _ s');rintro c a w ⟨pl',f',h',xe,_,hx,hq⟩;cases xe<;>first|exact hx.elim|exact(hQ _ _ _ hq).elim
def pV(P:Program)(ops:Array Oper)(tk pre:List Nat)(last:Nat)(p:Plan):Bool :=
 (ops.all λo=> !bT o)&&nZ ops&&vX P ops tk (Array.replicate ops.size ac)&&Y3 ops last pre (pR (Array.replicate ops.size ac) tk)&&Dw ops tk pre last &&
 (!tk.contains last&& !pre.contains last)&&dY P ops p (ops.size-aa tk-aa pre) (YD ops tk pre)&&ar (aa tk+aa pre<=ops.size)
theorem yY{tk:List Nat}{P:Program}:∀(is:List Nat)(listed:Array Bool),vX P ops is listed=ab->xJ ops listed->listed.size=ops.size->(∀i∈tk,i∉is->i<ops.size->listed.getD i ac=ab)->(∀i,i∉tk->listed.getD i ac=ac)->(∀i∈is,i∈tk) ->
 xJ ops (pR listed is)/\(pR listed is).size=ops.size/\(∀i∈tk,i<ops.size->(pR listed is).getD i ac=ab)/\(∀i,i∉tk->(pR listed is).getD i ac=ac)
 |[],listed,_,hc,hs,ht,hn,_=>⟨hc,hs,λi hi hl=>ht i hi (by simp) hl,hn⟩
 |i::is,listed,hk,hc,hs,ht,hn,hm=>by
  simp only[vX,zqf]at hk;obtain⟨⟨⟨_,h2⟩,_⟩,h4⟩:=hk;refine yY is _ h4 (hc.set (by simpa using h2)) (by simpa using hs) (λj hj hji hjs=> ?_) (λj hj=> ?_) (λj hj=>hm j (by simp[hj]))
  ·by_cases hij:i=j
   ·subst hij;have:i<listed.size:=by omega
    simp[this]
   ·exact getD_set_true (ht j hj (by simp[hji,Ne.symm hij]) hjs)
  ·have hij:i≠j:=λhh=>by subst hh;exact hj (hm i (by simp))
   rw[getD_set_ne ac hij];exact hn j hj
theorem yZ(hm:e.P.follows .mixedOrders=ab){id:Nat}{f:Fr}(tk pre:List Nat)(last:Nat)(p:Plan)(R:Fr->H->Prop)(hB:pV e.P ops tk pre last p=ab)
 (hv:pU e n ops (ry R) (λf h=>bJ e n ops h (λf1=>gY e n ops (ry R) p f1 h) (yX ops pre) f) tk f h) (hk:∀f h,R f h->Q .normal f h):awp e n r (.region id ops ab) Q f h:=by
 intro ok pl0 w0 pl w a s;unfold pV at hB;simp only[zqf,Bool.not_eq_true',zqb]at hB;obtain⟨⟨⟨⟨⟨⟨⟨b1,b2⟩,b3⟩,b4⟩,b5⟩,b6⟩,b7⟩,b8⟩:=hB;have hna:∀(j:Nat)(o:Oper),ops[j]? =al o->bT o=ac:=λj o ho=>by
  have h1:=Array.all_eq_true.1 b1;obtain⟨hl,rfl⟩:=Array.getElem?_eq_some_iff.1 ho;simpa using h1 j hl
 have hl:last∉tk/\last∉pre:=⟨by simpa using b6.1,by simpa using b6.2⟩;have x:WExt w {w with drawn:=w.drawn+1}:=WExt.drew w;obtain⟨c1,c2,c3,c4⟩:=yY (ops:=ops) (tk:=tk) tk (Array.replicate ops.size ac) b3 xJ.none (by simp) (λi hi hni=>absurd hi hni) (λi hi=>by
  rcases Nat.lt_or_ge i ops.size with h'|h'<;>simp[h']) (λi hi=>hi)
 have li:LI ops tk pre last (pR (Array.replicate ops.size ac) tk):=⟨c1,c2,c3,λi h1 _=>c4 i h1⟩;have hQ:∀v f h,¬ry R (.pan v) f h:=λv f h hh=>hh;have:=Dx (r:=r) (ok:=ok) (pl0:=pl0) (w0:=w0) (n:=n) (e:=e) (Q:=ry R) (fuel:=ops.size-aa tk-aa pre+aa pre) hQ b2 tk (Array.replicate ops.size ac) f h b3 hv (λf h pl w a hK s=>by
  have hL:=sO (e:=e) (n:=n) (h:=h) pre (pR (Array.replicate ops.size ac) tk) f b4 (gq _ _ hK);exact VW (r:=r) hna hQ b2 b5 hl b7 _ _ _ hL li pl w a s) pl _ a (s.next0 (s.hs.wext x) (x.keeps s.hs))
 rw [show ops.size - aa tk - aa pre + aa pre + aa tk = ops.size by omega] at this;refine wpIn_mono (wpIn_region_any hm this) ?_;rintro ex a' w' ⟨pl',f',h',xe,s',hx,hq⟩;cases xe <;> first
  |exact⟨pl',f',h',_,s',hx,hk _ _ hq⟩
  |exact hq.elim
end
section
variable{e:E}{n:Nat}{r:Option Nat}{ops:Array Oper}{h:H}{Q:XE->Fr->H->Prop}
theorem sQ(ops:Array Oper):∀k:Nat,yX ops (List.range k)=ops.toList.take k
 |0=>rfl
 |k+1=>by
  have ih:=sQ ops k;unfold yX at ih ⊢;rw[List.range_succ,List.filterMap_append,ih,zrg]
  congr 1
  rw[List.filterMap_cons,List.filterMap_nil,Array.getElem?_toList];cases ops[k]? <;>rfl
theorem y5{K:Fr->Prop}:∀(l:List Oper)(f:Fr),(∀o∈l,bT o=ac)->gX e n ops h K l f->bJ e n ops h K l f
 |[],_,_,hv=>hv
 |o::rest,f,ha,hv=>by
  have h0:=ha o (by simp);have hr:=λf'=>y5 (K:=K) rest f' λo' ho'=>ha o' (by simp[ho']);simp only[bJ,h0];simp only[gX]at hv;cases hg:gd ops f o with
  |none=>rw[hg]at hv;exact hv.elim
  |some g =>
   rw[hg]at hv;refine⟨hv.1,?_⟩;have hv:=hv.2;cases he:kL o.op with
   |false=>rw[he]at hv;exact⟨hv.1,hr _ hv.2⟩
   |true =>
    rw[he]at hv;simp only at hv ⊢;split at hv
    ·rename_i fx args ats heq;split at hv
     ·rename_i q vs hc;obtain⟨rv,h1,h2⟩:=hv;simp only[heq,hc];exact⟨rv,h1,hr _ h2⟩
     ·exact hv.elim
    ·exact hv.elim
theorem Fp(hm:e.P.follows .mixedOrders=ab){id:Nat}{f:Fr}(k:Nat)(p:Plan)(R:Fr->H->Prop)(hB:pV e.P ops [] (List.range k) k p=ab)
 (hv:∀K:Fr->Prop,(∀f1,gY e n ops (ry R) p f1 h->K f1)->gX e n ops h K (ops.toList.take k) f) (hk:∀f h,R f h->Q .normal f h):awp e n r (.region id ops ab) Q f h:=by
 refine yZ hm [] (List.range k) k p R hB ?_ hk;simp only[pU];rw[sQ];refine y5 _ _ (λo ho=> ?_) (hv _ λf1 h=>h);unfold pV at hB;simp only[zqf]at hB;have b1:=Array.all_eq_true.1 hB.1.1.1.1.1.1.1;obtain⟨i,hi,rfl⟩:=List.getElem_of_mem (zsh ho);have:=b1 i (by simpa using hi);simpa using this
end
section
variable{e:E}{h:H}
theorem ag.fresh{g:FuncId}{args:List V}{R:AEnd->H->(Nat->Bool)->Prop}(hc:ag e g args h λae h' p=>(∀i,i<aa h->p i=ac)/\R ae h' (λ_=>ac)):ag e g args h R :=
 λok pl w vs hs hl=>(hc ok pl w vs hs hl).mono λen w' ⟨p,pl',h',ae,h1,h2,h3,h4,h5⟩ =>
  ⟨λ_=>ac,pl',h',ae,h1,⟨h2.os,h2.tape,h2.output,h2.size,h2.same,h2.loc,λi b _ hi=>h2.keep i b (h4 i (hs.pl_lt hi)) hi,h2.row⟩,h3,h5⟩
end
section
variable{e:E}{n:Nat}{r:Option Nat}{o:Oper}{f:Fr}{h:H}{Kn:Fr->H->Prop}{Q:XE->Fr->H->Prop}
def YE(kd:K)(key:V)(ks vs:List V):Option (List V×List V) :=
 match jm kd key ks with
 |some (al n)=>al (ks.eraseIdx n,vs.eraseIdx n)
 |some aq=>al (ks,vs)
 |none=>aq
theorem fC{α β:Type}(g:α->β):∀(l:List α)(i:Nat),(l.eraseIdx i).map g=(l.map g).eraseIdx i
 |[],i=>rfl
 |a::l,0=>rfl
 |a::l,i+1=>by simp only[List.eraseIdx_cons_succ,zrd,fC g l i]
theorem Bq{t kt':TypeId}{m k:Operand}{ts:Array TypeId}(hop:o.op= .call {callee:= .builtin .delete,args:=#[m,k],argTypes:=ts})(h0:ts[0]? =al t){id:Nat}(hm:(f.ev e m).sv= .lm id)(hmc:(f.ev e m).sc)(hkc:(f.ev e k).sc)
 {q:TI} (hq:ti e.P t=al q) {kt et:TypeId} (hkd:q.kind= .map kt et) {rk:TI} (hrk:ti e.P kt=al rk) (hko:rk.kind.keyOk (f.ev e k).sv=ab)
 {ks vs:List V} (hc:h[id]? =al (.map ks vs)) {ks' vs':List V} (hp:YE rk.kind (f.ev e k).sv ks vs=al (ks',vs'))
 (hK:Kn (f.put o.dst jR) (h.set id (.map ks' vs'))):Eff e n r o f h Kn Q:=by
 refine aV ?_ (λc=>by rw[hop];exact λh=>by cases h);intro ok pl w ev hs hr;obtain⟨i,d,z,hT⟩:=aG hq;obtain⟨ik,dk,zk,hKT⟩:=aG hrk;have hd:=hT.map hkd;subst hd;have hmv:=(hr m (by simp[hop,Op.operands,Call.operands])).sv hmc;rw[hm]at hmv;simp only[VRel]at hmv;obtain⟨b,hb,hmb⟩:=hmv;have hkv:=(hr k (by simp[hop,Op.operands,Call.operands])).sv hkc;obtain⟨ob,ho',hat⟩:=hs.obj id b hb;rw[hc]at ho';cases ho';obtain⟨es,clk,h2,h3,h4,hmo⟩:=hat;simp only[cx]at h2;have fin:∀(es':Array MapEntry)(clk':Nat) ,(Builtin.delete_ ts o.type #[ev m,ev k]).run e.P w= .ok (.tuple #[]) {w with heap:=w.heap.setIfInBounds b (.map es' clk')} ->
  VList (cx ok pl w) ks' (es'.toList.map (·.key))->VList (cx ok pl w) vs' (es'.toList.map (·.val))->yz es' clk' ->
  ∃p v h' pl' w' x,((execOp ev o).run e.P w= .ok (.value x) w'\/((execOp ev o).run e.P w= .ok .skip w'/\x=undef)) /\
   HSim e ok pl' h' w'/\Keeps p pl w pl' w'/\VRel (cx ok pl' w') v x/\(∀i∈f.d,p i=ac)/\Kn ((f.drop p).put o.dst v) h':=by
  intro es' clk' hrun g1 g2 g3;have hlt:=aW h2;have hh:({w with heap:=w.heap.setIfInBounds b (.map es' clk')}:World).heap[b]? =al (.map es' clk'):=by simp[hlt]
  obtain ⟨hs',kk⟩ := hs.upd hb (.map ks' vs') (w' := { w with heap := w.heap.setIfInBounds b (.map es' clk') }) rfl rfl rfl (by simp) (λi hi => by simp [Ne.symm hi]) (λarr el fz ha => by rw [h2] at ha;cases ha)
   (λkx=>⟨es',clk',hh,VList.mono kx _ _ g1,VList.mono kx _ _ g2,g3⟩)
  refine⟨λ_=>ac,jR,_,pl,_,undef,.inl ?_,hs',kk,pG _,λ_ _=>rfl,by simpa using hK⟩;have h5:execOp ev o=(do pure (Next.value (<-Builtin.delete_ ts o.type #[ev m,ev k]))):=by
   simp[execOp,hop,resolve,invoke,builtin]
  rw[h5];simp only[Sem.run_bind,hrun,aM];rfl
 have hck:=mZ hKT hkv hko es.isEmpty w;unfold YE at hp;split at hp
 ·rename_i j hj;cases hp;obtain⟨a,h5,en,h6,rfl⟩:=qH (w:=w) hKT hkv ks es.toList _ h3 hj;have hje:es[j]? =al en:=by simpa using h6
  have hjl:j<es.size:=(Array.getElem?_eq_some_iff.1 hje).1;have hel:(es.eraseIdxIfInBounds j).toList=es.toList.eraseIdx j:=by rw[Array.eraseIdxIfInBounds,dif_pos hjl,Array.toList_eraseIdx]
  refine fin (es.eraseIdxIfInBounds j) clk ?_ ?_ ?_ ?_
  ·simp only[Builtin.delete_,h0,show(#[Value.map (al b),ev k]:Array Value)[0]? =al (Value.map (al b))from rfl,show(#[Value.map (al b),ev k]:Array Value)[1]? =al (ev k)from rfl,Sem.run_bind,hT.run_und,aM,hmb,MapKept.run_getObj_map h2,hck,h5,Nat.zero_add];rw[MapKept.run_setObj_map _ h2];rfl
  ·rw[hel,fC];exact h3.eraseIdx j
  ·rw[hel,fC];exact h4.eraseIdx j
  ·refine⟨λy hy=>hmo.1 y ?_,?_⟩
   ·rw[hel]at hy;exact List.mem_of_mem_eraseIdx hy
   ·rw[hel,fC];exact hmo.2.sublist (List.eraseIdx_sublist _ _)
 ·rename_i hj;cases hp;obtain⟨a,h5,rfl⟩:=qH (w:=w) hKT hkv ks es.toList _ h3 hj;refine fin es clk ?_ h3 h4 hmo;simp only[Builtin.delete_,h0,show(#[Value.map (al b),ev k]:Array Value)[0]? =al (Value.map (al b))from rfl,show(#[Value.map (al b),ev k]:Array Value)[1]? =al (ev k)from rfl,Sem.run_bind,hT.run_und,aM,hmb,MapKept.run_getObj_map h2,hck,h5];rw[MapKept.run_setObj_map _ h2];simp only[Sem.run_pure,World.mk.injEq,Result.ok.injEq,and_true,true_and]
 ·cases hp
end
section
variable{e:E}{n:Nat}
def DRs(c:C):List Deferred->List (FuncId×List V)->Prop
 |[],[]=>True
 |d::ds,x::l=>(∃(cs azs:Array Value),d={target:= .fn (.func x.1) cs,args:=azs}/\VList c x.2 (azs++cs).toList)/\DRs c ds l
 |_,_=>False
theorem DRs.keeps{ok:Nat->Prop}{p:Nat->Bool}{pl pl':Nat->Option Nat}{w w':World}(k:Keeps p pl w pl' w'):∀ {ds:List Deferred} {l:List (FuncId×List V)},DRs (cx ok pl w) ds l->(∀x∈l,ap p x.2=x.2)->DRs (cx ok pl' w') ds l
 |[],[],_,_=>trivial
 |[],_::_,h,_=>h.elim
 |_::_,[],h,_=>h.elim
 |d::ds,x::l,⟨⟨cs,azs,h1,h2⟩,h3⟩,hd=>by
  refine⟨⟨cs,azs,h1,?_⟩,h3.keeps k λy hy=>hd y (by simp[hy])⟩;have:=VList.mdrop k.cext _ _ h2
  rwa [hd x (by simp)]at this
theorem VList.app{c:C}:∀ {l m:List V} {x y:List Value},VList c l x->VList c m y->VList c (l++m) (x++y):=λh1 h2=>VList.append h1 h2
end
section
variable{e:E}{n:Nat}{r:Option Nat}{o:Oper}{f:Fr}{h:H}{K:Fr->H->Prop}{Q:XE->Fr->H->Prop}
end
noncomputable def Fq : Code -> Nat -> List (Array Oper)
 | .region i ops _,k=>if i==k then [ops]else []
 | .seq a b,k=>Fq a k++Fq b k
 | .cond _ a b,k=>Fq a k++Fq b k
 | .loop a,k=>Fq a k
 | .block _ a,k=>Fq a k
 |_,_=>[]
noncomputable def Y4(f:Func)(k:Nat):Array Oper:=match f.body with
 |some c=>(Fq c k).headD #[]
 |none=>#[]
section
variable{P:Program}{ops:Array Oper}{i k:Nat}{p q:Plan}{L L':Array Bool}
end
section
variable{e:E}{n:Nat}
end
def Y5(ops:Array Oper):Bool:=(List.range ops.size).all λi=>match ops[i]? with
 |some o=>o.after.all λq=> !(Region.binds .any q)||ar (q.on<i)
 |none=>ab
section
variable{e:E}{n:Nat}{r:Option Nat}{ops:Array Oper}{Q:XE->Fr->H->Prop}{ok:Nat->Prop}{pl0:Nat->Option Nat}{w0:World}
theorem Pj(hB:Y5 ops=ab){listed:Array Bool}(hs:listed.size=ops.size)(hr:Region.ready .any ops listed=[]):∀(k i:Nat),i<k->i<ops.size->listed.getD i ac=ab:=by
 intro k
 induction k with
 |zero=>intro i hi;exact absurd hi (Nat.not_lt_zero _)
 |succ k ih =>
  intro i hik hi;apply Classical.byContradiction;intro hn;have hn:listed.getD i ac=ac:=by simpa using hn
  have:i∈Region.ready .any ops listed:=by
   refine mem_ready.2 ⟨?_,ops[i],by simp[hi],λq hq hb=> ?_⟩
   ·have:i<listed.size:=by omega
    simpa [Array.getD,this]using hn
   ·have h1:=zrs.1 hB i (by simpa using hi);have hio:ops[i]? =al ops[i]:=by simp[hi]
    rw[hio]at h1;dsimp only at h1;have h2:=(Array.all_eq_true_iff_forall_mem.1 h1) q hq;rw[hb]at h2;simp only[Bool.not_true,Bool.false_or,zqb]at h2;exact ih q.on (by omega) (by omega)
  rw[hr]at this;cases this
def Fz(L:Array Bool):Nat:=L.toList.countP (!·)
theorem Bv{L:Array Bool}{i:Nat}(h:i<L.size)(hl:L.getD i ab=ac):Fz L=Fz (L.setIfInBounds i ab)+1:=by
 have hi:i<aa L.toList:=by simpa using h
 have hg:L.toList[i]=ac:=by simpa [Array.getD,h]using hl
 unfold Fz;rw[Array.toList_setIfInBounds,List.countP_set hi,hg];have:0<L.toList.countP (!·):=List.countP_pos_iff.2 ⟨L.toList[i],zqu hi,by rw[hg];rfl⟩;rw[if_pos (show(!false)=ab from rfl),if_neg (show ¬(!true)=ab by decide)];omega
theorem Y6(I:Array Bool->Fr->H->Prop)
 (hstep:∀L f h i,xJ ops L->I L f h->i∈Region.ready .any ops L->E8 e n ops i (λf' h'=>I (L.setIfInBounds i ab) f' h') Q f h)
 (hend:∀L f h,L.size=ops.size->I L f h->Region.ready .any ops L=[]->Q .normal f h) :
 ∀(fuel:Nat)(L:Array Bool)(f:Fr)(h:H),L.size=ops.size->xJ ops L->Fz L<=fuel->I L f h->∀pl w a,SSim e n ok pl0 w0 f h pl w a->wpAnyIn (RF r) 0 e.P .any ops (iM e n ok pl0 w0 Q) fuel L a w:=by
 intro fuel
 induction fuel with
 |zero =>
  intro L f h hs hc hu hI pl w a s;have hr:Region.ready .any ops L=[]:=by
   match hm:Region.ready .any ops L with
   |[]=>rfl
   |i::_=>obtain⟨h0,o,ho,_⟩:=mem_ready.1 (show i∈Region.ready .any ops L by rw[hm];simp);have hlt:=(Array.getElem?_eq_some_iff.1 ho).1;have:=Bv (L:=L) (i:=i) (by omega) h0;omega
  exact wpAnyIn_done hr ⟨pl,f,h,.normal,s,trivial,hend L f h hs hI hr⟩ 0
 |succ fuel ih =>
  intro L f h hs hc hu hI pl w a s;by_cases hr:Region.ready .any ops L=[]
  ·exact wpAnyIn_done hr ⟨pl,f,h,.normal,s,trivial,hend L f h hs hI hr⟩ (fuel+1)
  ·refine⟨λh0=>absurd h0 hr,λi hi=> ?_⟩;obtain⟨h0,o,ho,_⟩:=mem_ready.1 hi;have hlt:=(Array.getElem?_eq_some_iff.1 ho).1;have hun:=Bv (L:=L) (i:=i) (by omega) h0;exact vT (hstep L f h i hc hI hi) (λf h pl w a s hk=>ih _ f h (by simpa using hs) (hc.set hi) (by omega) hk pl w a s) s
def Y7(ops:Array Oper)(i:Nat)(l:List Nat):Bool:=match ops[i]? with
 |some o=>l.all λj=>o.after.any λq=>Region.binds .any q&&(q.on==j)
 |none=>ac
theorem jH{L:Array Bool}{i:Nat}(hi:i∈Region.ready .any ops L){l:List Nat}(hl:Y7 ops i l=ab):∀j∈l,L.getD j ac=ab:=by intro j hj;obtain⟨_,o,ho,hall⟩:=mem_ready.1 hi;unfold Y7 at hl;rw[ho]at hl;have h1:=zrs.1 hl j hj;rw[Array.any_eq_true]at h1;obtain⟨q,hq,h3⟩:=h1;rw[zqf,beq_iff_eq]at h3;rw[<-h3.2];have hmem:o.after[q]∈o.after:=Array.getElem_mem hq;have:=hall _ hmem h3.1;simpa using this
theorem Pm{L:Array Bool}{i:Nat}(hi:i∈Region.ready .any ops L):L.getD i ac=ac:=by
 obtain⟨h0,o,ho,_⟩:=mem_ready.1 hi;rcases Nat.lt_or_ge i L.size with h|h
 ·simpa [Array.getD,h]using h0
 ·simp[Array.getD,Nat.not_lt.2 h]
theorem Uf{L:Array Bool}{i:Nat}(hi:i∈Region.ready .any ops L):i<ops.size:=by obtain⟨_,o,ho,_⟩:=mem_ready.1 hi;exact(Array.getElem?_eq_some_iff.1 ho).1
theorem MV{L:Array Bool}{i:Nat}(hi:i∈Region.ready .any ops L):i<L.size:=by
 obtain⟨h0,o,ho,_⟩:=mem_ready.1 hi;rcases Nat.lt_or_ge i L.size with h|h
 ·exact h
 ·simp[Array.getD,Nat.not_lt.2 h]at h0
theorem Ug(hm:e.P.follows .mixedOrders=ab){id:Nat}(I:Array Bool->Fr->H->Prop){f:Fr}{h:H}(hB:Y5 ops=ab)
 (h0:I (Array.replicate ops.size ac) f h)
 (hstep:∀L f h i,xJ ops L->I L f h->i∈Region.ready .any ops L->E8 e n ops i (λf' h'=>I (L.setIfInBounds i ab) f' h') Q f h)
 (hend:∀L f h,(∀i,i<ops.size->L.getD i ac=ab)->I L f h->Q .normal f h):awp e n r (.region id ops ab) Q f h:=by
 intro ok pl0 w0 pl w a s;have x : WExt w { w with drawn := w.drawn + 1 } := WExt.drew w;have := Y6 (e := e) (n := n) (r := r) (ops := ops) (Q := Q) (ok := ok) (pl0 := pl0) (w0 := w0) I hstep
  (λL f h hs hI hr=>hend L f h (λi hi=>Pj hB hs hr (i+1) i (Nat.lt_succ_self i) hi) hI)
  ops.size (Array.replicate ops.size ac) f h (by simp) xJ.none (by unfold Fz;exact Nat.le_trans (List.countP_le_length) (by simp)) h0 pl _ a (s.next0 (s.hs.wext x) (x.keeps s.hs))
 exact wpIn_region_any hm this
def FA(L:Array Bool)(f:Fr)(l:List (Nat×Nat×V)):Prop:=∀q∈l,L.getD q.1 ac=ab->f.t q.2.1=q.2.2
theorem FA.put{L:Array Bool}{f:Fr}{l:List (Nat×Nat×V)}{i d:Nat}{v:V}(hf:FA L f l)
 (h1:∀q∈l,q.1=i->q.2.1=d/\q.2.2=v) (h2:∀q∈l,q.2.1=d->q.1=i):FA (L.setIfInBounds i ab) (f.put (al d) v) l:=by
 intro q hq hl;by_cases hqi:q.1=i
 ·obtain⟨e1,e2⟩:=h1 q hq hqi;rw[e1,e2];simp[Fr.put]
 ·have hqd:q.2.1≠d:=λh=>hqi (h2 q hq h);rw[getD_set_ne ac (Ne.symm hqi)]at hl;have:=hf q hq hl;simpa [Fr.put,hqd]using this
theorem FA.skip{L:Array Bool}{f:Fr}{l:List (Nat×Nat×V)}{i:Nat}(hf:FA L f l)(h1:∀q∈l,q.1≠i):FA (L.setIfInBounds i ab) f l:=by intro q hq hl;rw[getD_set_ne ac (Ne.symm (h1 q hq))]at hl;exact hf q hq hl
theorem FA.none{m:Nat}{f:Fr}{l:List (Nat×Nat×V)}:FA (Array.replicate m ac) f l:=by
 intro q _ hl;exfalso;rcases Nat.lt_or_ge q.1 m with h|h
 ·simp[h]at hl
 ·simp[h]at hl
end
theorem FAz{L:Array Bool}{f:Fr}{l:List (Nat×Nat×V)}(h:FA L f l)(i d:Nat)(v:V)(hm:(i,d,v)∈l)(hl:L.getD i ac=ab):f.t d=v:=h (i,d,v) hm hl
section
variable{e:E}{n:Nat}{r:Option Nat}{o:Oper}{f:Fr}{h:H}{Kn:Fr->H->Prop}{Q:XE->Fr->H->Prop}
end
section
variable{e:E}{n:Nat}{r:Option Nat}{o:Oper}{f:Fr}{h:H}{Kn:Fr->H->Prop}{Q:XE->Fr->H->Prop}
theorem _root_.Go.Abs.Dy{id k len cap:Nat}{cs ex cs' es:List V}(hc:h[id]? =al (.cells (cs++ex)))(hr:au e h cs cs')(hf:bV k es=ab)(hflat:es.flatMap V.vc=cs')(hlen:len=aa es) :
 aC e h (.ls id k 0 len cap) (.is ac k es):=by
 intro ok pl w x hs hv;simp only[VRel]at hv ⊢;obtain⟨a,cp,rfl,h1,h2,h3,h4⟩:=hv;refine⟨a,cp,by rw[hlen],by omega,h3,λhf=>(by cases hf),?_⟩;rcases h4 with h4|⟨b,arr,el,fz,h5,h6,h7,h8⟩
 ·exact .inl (zse (by omega))
 ·refine .inr ⟨b,0,h6,?_⟩;obtain⟨o,ho,hat⟩:=hs.obj id b h5;rw[hc]at ho;cases ho;obtain⟨arr',el',fz',h9,h10,h11,h12⟩:=hat;have h13:w.heap[b]? =al (.cells arr' el' fz'):=h9;have h14:=h12.take (aa cs);rw[List.take_left]at h14;have:=hr ok pl w _ hs h14;rw[<-hflat]at this;exact nX (hs.okl id b h5) h13 es 0 _ hf this λj y hy=>by
   rw[List.getElem?_take]at hy;split at hy
   ·rw[List.getElem?_take]at hy;split at hy
    ·simpa using hy
    ·cases hy
   ·cases hy
end
section
variable{e:E}{n:Nat}{r:Option Nat}{ops:Array Oper}{h:H}{Q:XE->Fr->H->Prop}
theorem AQ.lend{o:Oper}{fx:Operand}{args:Array Operand}{ts:Array TypeId}(hop:o.op= .call {callee:= .value fx,args:=args,argTypes:=ts}){ρ:Operand->V}{g:FuncId}{vs vs':List V}{rv:V}
 (hon:ni e ρ fx args=al (g,vs)) (hsc:dX ρ fx args) (hen:ah e.P g=ab) (hr:au e h vs vs') (hv:Ev e g vs' rv) (hp:rv.plain=ab):AQ e o ρ h rv:=by
 intro ok pl w ev hs hre;obtain⟨xs,hrun,hl⟩:=yM (e:=e) hop hre hon hsc hen;rw[hrun];exact(hv ok w xs hs.lend (hr ok pl w xs hs hl)).mono λen w' ⟨x,h1,h2,h3⟩=>⟨x,h1,h2,h3.plain hp⟩
def Xa(e:E)(h:H)(g:Bool)(q:FuncId)(vs:List V)(sc:Prop)(dst:Option Tmp)(Kn:Fr->Prop)(f:Fr):Prop :=
 ∃rv,(g=ab->sc/\ah e.P q=ab/\((aL vs=ab/\Ev e q vs rv)\/∃vs',au e h vs vs'/\Ev e q vs' rv/\rv.plain=ab))/\Kn (f.put dst (V.guard g rv))
theorem Xa.mk{q:FuncId}{vs vs':List V}{dst:Option Tmp}{Kn:Fr->Prop}{f:Fr}{rv:V}(hv:Ev e q vs' rv)(h2:ah e.P q=ab)(hr:au e h vs vs')(hp:rv.plain=ab)(hk:Kn (f.put dst rv)):Xa e h ab q vs True dst Kn f :=
 ⟨rv,λ_=>⟨trivial,h2,.inr ⟨vs',hr,hv,hp⟩⟩,hk⟩
def qM(e:E)(n:Nat)(ops:Array Oper)(h:H)(Q:Fr->Prop):List Oper->Fr->Prop
 |[],f=>Q f
 |o::rest,f =>
  match gd ops f o with
  |none=>False
  |some g=>jF n o.dst=ab /\
   match kL o.op with
   |true=>match o.op with
    | .call {callee:= .value fx,args,..}=>match ni e (f.ev e) fx args with
     |some (q,vs)=>Xa e h g q vs (dX (f.ev e) fx args) o.dst (qM e n ops h Q rest) f
     |none=>False
    |_=>False
   |false=>goQ g (xX e.P o (f.ev e) h) o.dst (qM e n ops h Q rest) f
theorem pW{Q Q':Fr->Prop}{tl:List Oper}(hq:∀f,Q f->qL e n ops h Q' tl f):∀(l:List Oper)(f:Fr),(∀o∈l,bT o=ac)->qM e n ops h Q l f->qL e n ops h Q' (l++tl) f
 |[],f,_,hv=>hq f hv
 |o::rest,f,ha,hv=>by
  have hal:=ha o (by simp);have hr:=λf'=>pW hq rest f' λo' ho'=>ha o' (by simp[ho']);simp only[qM]at hv;cases hg:gd ops f o with
  |none=>rw[hg]at hv;exact hv.elim
  |some g =>
   rw[hg]at hv;obtain⟨hd,hv⟩:=hv;cases he:kL o.op with
   |true =>
    rw[he]at hv;dsimp only at hv;split at hv
    ·rename_i fx args ts hop;split at hv
     ·rename_i q vs hon;obtain⟨rv,h1,h2⟩:=hv;exact⟨_,.inr ⟨hal,hd,g,rv,hg,λhgt=>by
       obtain⟨c1,c2,c3⟩:=h1 hgt;rcases c3 with⟨c3,c4⟩|⟨vs',c3,c4,c5⟩
       ·exact AQ.call hop hon c1 c2 c3 c4
       ·exact AQ.lend hop hon c1 c2 c3 c4 c5,rfl⟩,hr _ h2⟩
     ·exact hv.elim
    ·exact hv.elim
   |false=>rw[he]at hv;dsimp only at hv;obtain⟨h1,h2⟩:=hv;exact⟨_,.inr ⟨hal,hd,g,_,hg,λhgt=>pz (h1 hgt),rfl⟩,hr _ h2⟩
theorem Pn(hm:e.P.follows .mixedOrders=ab){id:Nat}{f:Fr}(tk:List Nat)(last:Nat)(p:Plan)(R:Fr->H->Prop)(hB:pV e.P ops tk (List.range last) last p=ab)
 (hv:∀K:H->Fr->Prop,(∀h' f1,gY e n ops (ry R) p f1 h'->K h' f1)->pU e n ops (ry R) (λf h'=>qM e n ops h' (K h') (ops.toList.take last) f) tk f h) (hk:∀f h,R f h->Q .normal f h):awp e n r (.region id ops ab) Q f h:=by
 intro ok pl0 w0 pl w a s;obtain⟨pre,hpre⟩:∃pre,pre=List.range last:=⟨_,rfl⟩;have hv:=hv _ λh' f1 h=>h;rw[<-sQ]at hv;rw[<-hpre]at hB hv;unfold pV at hB;simp only[zqf,Bool.not_eq_true',zqb]at hB;obtain⟨⟨⟨⟨⟨⟨⟨b1,b2⟩,b3⟩,b4⟩,b5⟩,b6⟩,b7⟩,b8⟩:=hB;have hna:∀(j:Nat)(o:Oper),ops[j]? =al o->bT o=ac:=λj o ho=>by
  have h1:=Array.all_eq_true.1 b1;obtain⟨hl,rfl⟩:=Array.getElem?_eq_some_iff.1 ho;simpa using h1 j hl
 have hl:last∉tk/\last∉pre:=⟨by simpa using b6.1,by simpa using b6.2⟩;have x:WExt w {w with drawn:=w.drawn+1}:=WExt.drew w;obtain⟨c1,c2,c3,c4⟩:=yY (ops:=ops) (tk:=tk) tk (Array.replicate ops.size ac) b3 xJ.none (by simp) (λi hi hni=>absurd hi hni) (λi hi=>by
  rcases Nat.lt_or_ge i ops.size with h'|h'<;>simp[h']) (λi hi=>hi)
 have li:LI ops tk pre last (pR (Array.replicate ops.size ac) tk):=⟨c1,c2,c3,λi h1 _=>c4 i h1⟩;have hQ:∀v f h,¬ry R (.pan v) f h:=λv f h hh=>hh;have:=Dx (r:=r) (ok:=ok) (pl0:=pl0) (w0:=w0) (n:=n) (e:=e) (Q:=ry R) (fuel:=ops.size-aa tk-aa pre+aa pre) hQ b2 tk (Array.replicate ops.size ac) f h b3 hv (λf h pl w a hK s=>by
  have hL:=sO (e:=e) (n:=n) (h:=h) pre (pR (Array.replicate ops.size ac) tk) f b4 (by
   have:=pW (tl:=[]) (λf hf=>hf) _ _ (λo ho=> ?_) hK
   ·rw[zqp]at this;exact this
   ·unfold yX at ho;obtain⟨j,_,hj⟩:=List.mem_filterMap.1 ho;exact hna j o hj)
  exact VW (r:=r) hna hQ b2 b5 hl b7 _ _ _ hL li pl w a s) pl _ a (s.next0 (s.hs.wext x) (x.keeps s.hs))
 rw [show ops.size - aa tk - aa pre + aa pre + aa tk = ops.size by omega] at this;refine wpIn_mono (wpIn_region_any hm this) ?_;rintro ex a' w' ⟨pl',f',h',xe,s',hx,hq⟩;cases xe <;> first
  |exact⟨pl',f',h',_,s',hx,hk _ _ hq⟩
  |exact hq.elim
theorem awp_late4(hm:e.P.follows .mixedOrders=ab){id:Nat}{f:Fr}(last:Nat)(p:Plan)(R:Fr->H->Prop)(hB:pV e.P ops [] (List.range last) last p=ab)
 (hv:∀K:Fr->Prop,(∀f1,gY e n ops (ry R) p f1 h->K f1)->qM e n ops h K (ops.toList.take last) f) (hk:∀f h,R f h->Q .normal f h):awp e n r (.region id ops ab) Q f h :=
 Pn hm [] last p R hB (λK hK=>hv _ λf1 h=>hK _ f1 h) hk
theorem y7{c:Code}{f:Fr}(id j:Nat)(v:V)(hj:(f.t j).drop (λi=> !(i==id))=f.t j)(hr:aC e (sH (·==id) 0 h) (f.t j) v)(hd:f.d=[])
 (hw:awp e n r c Q {f with t:=λi=>if i=j then v else(f.t i).drop (·==id),k:=λi=>f.k i||(i==id)} (jv (·==id) 0 h)):awp e n r c Q f h:=by
 refine x8 (·==id) _ (λi=> ?_) (by rw[hd];simp) hw;by_cases hi:i=j
 ·subst hi;exact .inr ⟨hj,by rw[if_pos rfl];exact hr⟩
 ·exact .inl (by rw[if_neg hi])
end
section
variable{P:Program}{w:World}
end
section
variable{e:E}{n:Nat}{r:Option Nat}{o:Oper}{f:Fr}{h:H}{Kn:Fr->H->Prop}{Q:XE->Fr->H->Prop}
end
section
variable{e:E}{n:Nat}{r:Option Nat}{ops:Array Oper}{Q:XE->Fr->H->Prop}{ok:Nat->Prop}{pl0:Nat->Option Nat}{w0:World}
end
section
variable{e:E}{n:Nat}{r:Option Nat}{o:Oper}{f:Fr}{h:H}{Kn:Fr->H->Prop}{Q:XE->Fr->H->Prop}
def Po(e:E)(h:H)(k:Nat)(s:V)(m n':Nat)(cs:List V):Prop :=
 ∀ok pl w xv,HSim e ok pl h w->VRel (cx ok pl w) s xv->(Builtin.lenOf xv).run e.P w= .ok m w/\∃news:Array Value,(Builtin.firstCells k n' xv).run e.P w= .ok news w/\VList (cx ok pl w) cs news.toList/\aa cs=n'*k
theorem Po.all{k m:Nat}{s:V}{cs:List V}(he:jS h k s=al (m,cs))(hf:oP k s=ab):Po e h k s m m cs:=λok pl w xv hs hv=>by obtain⟨news,h1,h2,h3,h4⟩:=mi (e:=e) hs hv he hf;exact⟨h1 w,news,h2 w (λ_=>rfl),h3,h4⟩
end
def GA(f:Fr)(l:List (Nat×V)):Prop:=∀q∈l,f.t q.1=q.2
theorem GA.put{f:Fr}{l:List (Nat×V)}{d:Nat}{v:V}(h:GA f l)(hd:(l.all λq=>q.1 != d)=ab):GA (f.put (al d) v) l:=λq hq=>by
 have h1:=zrs.1 hd q hq;have h2:q.1≠d:=by simpa using h1
 have:=h q hq;simpa [Fr.put,h2]using this
def HN(L:Array Bool)(B:H)(ia is:Nat)(zc uc:List V):H:=if L.getD ia ac=ab then B++[.cells (if L.getD is ac=ab then uc else zc)]else B
theorem HN.get{L:Array Bool}{B:H}{ia is:Nat}{zc uc:List V}{k:Nat}{o:O}(h:B[k]? =al o):(HN L B ia is zc uc)[k]? =al o:=by
 unfold HN;split
 ·rw[zqj (zqe h).1];exact h
 ·exact h
theorem HN.skip{L:Array Bool}{B:H}{ia is i:Nat}{zc uc:List V}(h1:i≠ia)(h2:i≠is):HN (L.setIfInBounds i ab) B ia is zc uc=HN L B ia is zc uc:=by unfold HN;rw[getD_set_ne ac h1,getD_set_ne ac h2]
theorem uy{L:Array Bool}{i:Nat}(h:i<L.size):(L.setIfInBounds i ab).getD i ac=ab:=by simp[Array.getD,h]
theorem HN.new{L:Array Bool}{B:H}{ia is:Nat}{zc uc:List V}(hs:ia<L.size)(hne:ia≠is)(h:L.getD is ac=ac):HN (L.setIfInBounds ia ab) B ia is zc uc=B++[.cells zc]:=by unfold HN;rw[uy hs,getD_set_ne ac hne,h];rfl
theorem HN.at{L:Array Bool}{B:H}{ia is:Nat}{zc uc:List V}(h:L.getD ia ac=ab)(h2:L.getD is ac=ac):HN L B ia is zc uc=B++[.cells zc]:=by unfold HN;rw[h,h2];rfl
theorem HN.fill{L:Array Bool}{B:H}{ia is:Nat}{zc uc:List V}(h:L.getD ia ac=ab)(hs:is<L.size)(hne:is≠ia):HN (L.setIfInBounds is ab) B ia is zc uc=B++[.cells uc]:=by unfold HN;rw[uy hs,getD_set_ne ac hne,h];rfl
theorem HN.done{L:Array Bool}{B:H}{ia is:Nat}{zc uc:List V}(h:L.getD ia ac=ab)(h2:L.getD is ac=ab):HN L B ia is zc uc=B++[.cells uc]:=by unfold HN;rw[h,h2];rfl
theorem y8{ops:Array Oper}{L:Array Bool}(hc:xJ ops L){i:Nat}(hi:L.getD i ac=ab){l:List Nat}(hl:Y7 ops i l=ab):∀j∈l,L.getD j ac=ab:=by
 intro j hj;unfold Y7 at hl;split at hl
 ·rename_i o ho;have h1:=zrs.1 hl j hj;rw[Array.any_eq_true]at h1;obtain⟨q,hq,h3⟩:=h1;rw[zqf,beq_iff_eq]at h3;rw[<-h3.2];exact hc i o ho hi _ (Array.getElem_mem hq) h3.1
 ·cases hl
theorem pX{ops:Array Oper}{L:Array Bool}(hc:xJ ops L){i j:Nat}(hj:L.getD j ac=ac)(hl:Y7 ops i [j]=ab):L.getD i ac=ac:=by
 cases h:L.getD i ac with
 |false=>rfl
 |true=>rw[y8 hc h hl j (by simp)]at hj;cases hj
theorem JS{B:H}{o:O}:(B++[o])[aa B]? =al o:=by simp
theorem iT{p:Nat->Bool}:∀v:V,v.dat=ab->v.drop p=v
 | .any,_ | .bool _,_ | .int _ _,_ | .str _,_ | .nilp,_ | .ip _,_ | .nils,_ | .is _ _ _,_ | .nilm,_ | .im _ _,_ | .nilf,_ | .nili,_=>by simp[V.drop]
 | .lp _ _,h | .ls _ _ _ _ _,h | .lm _,h | .yd _,h | .row _ _,h=>by simp[aE]at h
 | .fn f a b,h=>by simp only[aE,zqf]at h;rw[V.drop,dats_drops a h.1,dats_drops b h.2]
 | .iface t e,h=>by rw[V.drop,iT e (by simpa [aE]using h)]
 | .agg vs,h=>by rw[V.drop,dats_drops vs (by simpa [aE]using h)]
 | .tup vs,h=>by rw[V.drop,dats_drops vs (by simpa [aE]using h)]
 | .grd g e,h=>by rw[V.drop,iT e (by simpa [aE]using h)]
where dats_drops : ∀ vs : List V,aL vs = ab -> ap p vs = vs
 |[],_=>by rw[ap]
 |v::vs,h=>by simp only[aL,zqf]at h;rw[ap,iT v h.1,dats_drops vs h.2]
theorem FA.drop{L:Array Bool}{f:Fr}{l:List (Nat×Nat×V)}{p:Nat->Bool}(h:FA L f l)(hd:∀q∈l,q.2.2.drop p=q.2.2):FA L (f.drop p) l:=λq hq hl=>by show(f.t q.2.1).drop p=q.2.2;rw[h q hq hl,hd q hq]
theorem GA.drop{f:Fr}{l:List (Nat×V)}{p:Nat->Bool}(h:GA f l)(hd:∀q∈l,q.2.drop p=q.2):GA (f.drop p) l:=λq hq=>by show(f.t q.1).drop p=q.2;rw[h q hq,hd q hq]
section
variable{e:E}{n:Nat}{r:Option Nat}{ops:Array Oper}{h:H}{Q:XE->Fr->H->Prop}
end
section
variable{e:E}
theorem ag.frame{g:FuncId}{args:List V}{h Y:H}{R:AEnd->H->(Nat->Bool)->Prop}
 (hc:ag e g args h λae h' p=>aa h'=aa h/\Y.map (O.drop λi=>p i&&ar (i<aa h))=Y/\R ae (h'++Y) (λi=>p i&&ar (i<aa h)))
 (ha:ap (fK (aa h)) args=args) (hh:h.map (O.drop (fK (aa h)))=h):ag e g args (h++Y) R:=by
 intro ok pl w vs hs hl;obtain⟨n,hn⟩:∃n,n=aa h:=⟨_,rfl⟩;obtain⟨q,hq⟩:∃q:Nat->Bool,q=λi=>ar (i<n):=⟨_,rfl⟩;have hqf:(λj=> !q j)=fK n:=by
  funext j
  rw[hq];show(!ar (j<n))=ar (n<=j);by_cases hj:j<n
  ·simp[hj]
  ·simp[hj];omega
 have hl2:=VList.mdrop (oh q ok pl w) _ _ hl;rw[hqf,hn,ha]at hl2;have hs2:=hs.sub q;have get2:∀i,i<n->(sH q 0 (h++Y))[i]? =h[i]? :=λi hi=>by
  rw[fV,zqj (by omega),Nat.zero_add,hqf];have hqi:q i=ab:=by rw[hq];simpa using hi
  simp only[hqi,if_true]
  conv=>rhs;rw[<-hh]
  rw[zqo,hn]
 have hs3:HSim e (λb=>ok b/\∀i,q i=ac->pl i≠al b) (λi=>if q i=ab then pl i else aq) h w :=
  {hs2 with
   obj:=λi b hi=>by
    have hi':=hi
    try dsimp only at hi'
    split at hi'
    ·rename_i hqi;have hin:i<n:=by rw[hq]at hqi;simpa using hqi
     obtain⟨o,h1,h2⟩:=hs2.obj i b hi;exact⟨o,by rw[<-get2 i hin];exact h1,h2⟩
    ·cases hi'
   bare:=λi o ho hi=>hs2.bare i o (by rw[get2 i (by have:=(zqe ho).1;omega)];exact ho) hi}
 refine(hc _ _ w vs hs3 hl2).mono ?_;rintro en w' ⟨p,pl',h',ae,hs',kp,hen,hlen,hY,hR⟩;rw[<-hn]at hlen hY hR;have plge:∀i b,pl' i=al b->i<n:=λi b hi=>by
  obtain⟨o,ho,_⟩:=hs'.obj i b hi;have:=(zqe ho).1;omega
 have qi:∀ {i},i<n->q i=ab:=λ{i} hi=>by rw[hq];simpa using hi
 have qn:∀ {i},¬i<n->q i=ac:=λ{i} hi=>by rw[hq];simpa using hi
 obtain⟨pl2,hpl2⟩:∃pl2:Nat->Option Nat,pl2=λi=>if i<n then pl' i else pl i:=⟨_,rfl⟩
 have p2l:∀ {i},i<n->pl2 i=pl' i:=λ{i} hi=>by rw[hpl2];exact if_pos hi
 have p2g:∀ {i},¬i<n->pl2 i=pl i:=λ{i} hi=>by rw[hpl2];exact if_neg hi
 have kloc:∀i b,pl' i=al b->(∃j,pl j=al b/\j<n)\/w.heap.size<=b:=λi b hi=>by
  rcases kp.loc i b hi with⟨j,hj⟩|hj
  ·try dsimp only at hj
   split at hj
   ·rename_i hqj;exact .inl ⟨j,hj,by rw[hq]at hqj;simpa using hqj⟩
   ·cases hj
  ·exact .inr hj
 have ksame:∀b,b<w.heap.size->(∀i,i<n->pl i≠al b)->w'.heap[b]? =w.heap[b]? :=λb hb hno=>kp.same b hb λi hi=>by
  try dsimp only at hi
  split at hi
  ·rename_i hqi;exact hno i (by rw[hq]at hqi;simpa using hqi) hi
  ·cases hi
 have c1:CExt (λ_=>ac) (cx (λb=>ok b/\∀i,q i=ac->pl i≠al b) pl' w') (cx ok pl2 w') :=
  ⟨λb hb hok=>⟨⟨hok.1.1,λi hi=>by
   by_cases hin:i<n
   ·rw[p2l hin]at hi;exact hok.2 i hi
   ·rw[p2g hin]at hi;exact hok.1.2 i (qn hin) hi⟩,rfl⟩,
   λi b _ hi=>by
    have hin:=plge i b hi;show pl2 i=al b;rw[p2l hin];exact hi,
   λb arr el fz hb=>⟨arr,fz,hb,rfl⟩⟩
 have kk:Keeps (λi=>p i&&ar (i<n)) pl w pl2 w' :=
  {
   os:=kp.os,tape:=kp.tape,output:=kp.output,size:=kp.size,row:=kp.row
   same:=λb hb hno=>ksame b hb λi _=>hno i
   loc:=λi b hi=>by
    by_cases hin:i<n
    ·rw[p2l hin]at hi;rcases kloc i b hi with⟨j,hj,_⟩|hj
     ·exact .inl ⟨j,hj⟩
     ·exact .inr hj
    ·rw[p2g hin]at hi;exact .inl ⟨i,hi⟩
   keep:=λi b hp hi=>by
    by_cases hin:i<n
    ·rw[p2l hin];refine kp.keep i b ?_ ?_
     ·simpa [hin]using hp
     ·show(if q i=ab then pl i else aq)=al b;rw[if_pos (qi hin)];exact hi
    ·rw[p2g hin];exact hi}
 have c2:=kk.cext (ok:=ok);refine⟨_,pl2,h'++Y,ae,?_,kk,?_,hR⟩
 ·exact
  {
   fresh:=λb hb=>hs.fresh b (Nat.le_trans kp.size hb)
   lt:=λi b hi=>by
    by_cases hin:i<n
    ·rw[p2l hin]at hi;exact hs'.lt i b hi
    ·rw[p2g hin]at hi;exact Nat.lt_of_lt_of_le (hs.lt i b hi) kp.size
   okl:=λi b hi=>by
    by_cases hin:i<n
    ·rw[p2l hin]at hi;exact(hs'.okl i b hi).1
    ·rw[p2g hin]at hi;exact hs.okl i b hi
   inj:=λi j b hi hj=>by
    by_cases hin:i<n
    ·rw[p2l hin]at hi;by_cases hjn:j<n
     ·rw[p2l hjn]at hj;exact hs'.inj i j b hi hj
     ·rw[p2g hjn]at hj;exact absurd hj ((hs'.okl i b hi).2 j (qn hjn))
    ·rw[p2g hin]at hi;by_cases hjn:j<n
     ·rw[p2l hjn]at hj;exact absurd hi ((hs'.okl j b hj).2 i (qn hin))
     ·rw[p2g hjn]at hj;exact hs.inj i j b hi hj
   obj:=λi b hi=>by
    by_cases hin:i<n
    ·rw[p2l hin]at hi;obtain⟨o,ho,hat⟩:=hs'.obj i b hi;exact⟨o,by rw[zqj (by omega)];exact ho,OAt.mono c1 rfl hat⟩
    ·rw[p2g hin]at hi;obtain⟨o,ho,hat⟩:=hs.obj i b hi;rw[zsb (by omega)]at ho;have hb:=hs.lt i b hi;have hsm:w'.heap[b]? =w.heap[b]? :=ksame b hb λj hj hjb=>by have:=hs.inj i j b hi hjb;omega
     have hat2:=tZ c2 hsm hat;refine⟨o.drop (λi=>p i&&ar (i<n)),?_,hat2⟩;rw[zsb (by omega),hlen]
     conv=>lhs;rw[<-hY]
     rw[zqo,show i-n=i-aa h by omega,ho];rfl
   bare:=λi o ho hi=>by
    by_cases hin:i<n
    ·rw[p2l hin]at hi;rw[zqj (by omega)]at ho;exact hs'.bare i o ho hi
    ·rw[p2g hin]at hi;rw[zsb (by omega),hlen]at ho;exact hs.bare i o (by rw[zsb (by omega),show i-aa h=i-n by omega];exact ho) hi
   glob:=λg v hg=>(hs.glob g v hg).glob_next c2
   exa:=λg cs hg=>(hs.exa g cs hg).next c2}
 ·revert hen
  cases ae with
  |ret v =>
   cases en <;> first
    |exact λhen=>VRel.mono c1 _ _ hen
    |exact id
  |pan v =>
   cases en <;> first
    |exact λ⟨x,h1,h2⟩=>⟨x,h1,VRel.mono c1 _ _ h2⟩
    |exact id
end
section
variable{e:E}
def Brw(k:Nat)(v v':V):Prop:=(v.dat=ab/\v'=v)\/∃off,v= .lp k off/\v'= .lp 0 off
def Z7(k:Nat):List V->List V->Prop
 |[],[]=>True
 |v::vs,v'::vs'=>Brw k v v'/\Z7 k vs vs'
 |_,_=>False
theorem Z7.rel{k:Nat}{c c':C}(hd:CExt (λ_=>ac) c.data c'.data)(hp:∀b,c.pl k=al b->c'.pl 0=al b):∀ {vs vs':List V} {xs:List Value},Z7 k vs vs'->VList c vs xs->VList c' vs' xs
 |[],[],xs,_,hl=>by simpa only[VList]using hl
 |v::vs,v'::vs',xs,⟨h1,h2⟩,hl=>by
  simp only[VList]at hl ⊢;obtain⟨y,ys,rfl,hy,hys⟩:=hl;refine⟨y,ys,rfl,?_,Z7.rel hd hp h2 hys⟩;rcases h1 with⟨h1,rfl⟩|⟨off,rfl,rfl⟩
  ·exact VRel.ofdata _ _ (VRel.mono hd _ _ (VRel.todata _ _ h1 hy))
  ·simp only[VRel]at hy ⊢;obtain⟨b,hb,rfl⟩:=hy;exact⟨b,hp b hb,rfl⟩
end
section
variable{e:E}{n:Nat}{r:Option Nat}{f:Fr}{h:H}{Q:XE->Fr->H->Prop}{ops:Array Oper}
theorem FB{ok:Nat->Prop}{pl:Nat->Option Nat}{w:World}(hs:HSim e ok pl h w){cs:List V}{arr:Array Value}(hl:aa cs=arr.size)(hc:VList (cx ok pl w) cs arr.toList)(el:TypeId) :
 HSim e ok (bz pl (aa h) w.heap.size) (h++[.cells cs]) (w.alloc (.cells arr el (arr.size,arr.size+1)))/\Keeps (λ_=>ac) pl w (bz pl (aa h) w.heap.size) (w.alloc (.cells arr el (arr.size,arr.size+1))):=by
 have x2:=WExt.alloc w (.cells arr el (arr.size,arr.size+1));have hb:(w.alloc (.cells arr el (arr.size,arr.size+1))).heap[w.heap.size]? =al (.cells arr el (arr.size,arr.size+1)):=by rw[World.alloc];simp
 have key:∀(c':C),CExt (λ_=>ac) (cx ok pl w) c'->c'.w=w.alloc (.cells arr el (arr.size,arr.size+1))->OAt c' w.heap.size (.cells cs):=by intro c' hx hw;refine⟨arr,el,(arr.size,arr.size+1),by rw[hw];exact hb,λj hj=>by show ¬(arr.size<=j/\_);omega,by omega,?_⟩;have:=VList.mono hx cs _ hc;rw[zqh (by simp;omega)];exact this
 have k:CExt (λ_=>ac) (cx ok pl w) (cx ok (bz pl (aa h) w.heap.size) (w.alloc (.cells arr el (arr.size,arr.size+1)))):=by
  refine⟨λb hb' hok=>⟨⟨hok.1,λi hi=> ?_⟩,x2.same b hb'⟩,λi b _ hi=> ?_,λb arr' el' fz hb'=>⟨arr',fz,(x2.same b (aW hb')).trans hb',rfl⟩⟩
  ·simp only[bz]at hi;split at hi
   ·cases hi;simp only[cx]at hb';omega
   ·exact hok.2 i hi
  ·have:=hs.pl_lt hi;simp only[cx,bz];rw[if_neg (by omega)];exact hi
 exact hs.new x2 (.cells arr el (arr.size,arr.size+1)) (.cells cs) (zrb _) (by simp) (key _ k rfl)
theorem IM{o1 o2:Oper}{rest:List Oper}{t el:TypeId}{a0 a1 a2:Int}{d1 d2:Tmp}{q re:TI}
 (g1:o1.guard=aq) (e1:o1.dst=al d1) (op1:o1.op= .buildSlice t 3 #[(0,.const (.int .u8 a0)),(1,.const (.int .u8 a1)),(2,.const (.int .u8 a2))])
 (g2:o2.guard=aq) (e2:o2.dst=al d2) (op2:o2.op= .convert t t (.tmp d1)) (hd1:d1<n)
 (hd2:d2<n) (hq:ti e.P t=al q) (hk0:q.kind= .slice el) (hre:ti e.P el=al re) (hku:re.kind= .int .u8) (hz1:re.size=1)
 (hk:O9 e n r ops Q rest ((f.put (al d1) .any).put (al d2) (.ls (aa h) 1 0 3 3)) (h++[.cells [.int .u8 a0,.int .u8 a1,.int .u8 a2]])):O9 e n r ops Q (o1::o2::rest) f h:=by
 intro ok pl0 w0 pl w a s;obtain⟨i,d,z,hT⟩:=aG hq;have hd:=hT.slice hk0;subst hd;obtain⟨ie,de,ze,hE⟩:=aG hre;have hde:=hE.int hku;subst hde;obtain⟨res,hr1,hr2⟩:=CW (k:=1) [Value.int .u8 a0,Value.int .u8 a1,Value.int .u8 a2] 0 ((Array.range (3*1)).map (ze.cells[·%ze.cells.size]!)) (by simp) (by simp[Value.cells]);have hres:res.toList=[.int .u8 a0,.int .u8 a1,.int .u8 a2]:=by rw[hr2];simp[Value.cells]
 have hsz:res.size=3:=by rw[<-Array.length_toList,hres];rfl
 have hrun1:(execOp a.eval o1).run e.P w= .ok (.value (.slice (al ⟨w.heap.size,0,aq⟩) 3 3)) (w.alloc (.cells res el)):=by
  have h2:(Instr.buildSlice t 3 #[(0,.int .u8 a0),(1,.int .u8 a1),(2,.int .u8 a2)]).run e.P w= .ok (.slice (al ⟨w.heap.size,0,aq⟩) 3 3) (w.alloc (.cells res el)):=by unfold Instr.buildSlice;simp only[Sem.run_bind,hT.run_und,aM,hE.run_size];rw[hz1,if_neg (by decide),if_neg (by decide)];simp only[Sem.run_bind,hE.run_zero,Sem.run_pure,aM];have h3:Instr.fill (λi=>al (i*1,1)) ((Array.range (3*1)).map (ze.cells[·%ze.cells.size]!)) [(0,.int .u8 a0),(1,.int .u8 a1),(2,.int .u8 a2)]=al res:=hr1;simp only[h3];rfl
  have h4:execOp a.eval o1=(do pure (Next.value (<-Instr.buildSlice t 3 #[(0,.int .u8 a0),(1,.int .u8 a1),(2,.int .u8 a2)]))):=by simp[execOp,op1,Act.eval]
  rw[h4];exact gJ h2
 have hev:(a.put o1.dst (.slice (al ⟨w.heap.size,0,aq⟩) 3 3)).eval (.tmp d1)= .slice (al ⟨w.heap.size,0,aq⟩) 3 3:=by rw[e1];have:=s.size;simp[Act.put,Act.eval,Array.getD,this,hd1]
 have hrun2:(execOp (a.put o1.dst (.slice (al ⟨w.heap.size,0,aq⟩) 3 3)).eval o2).run e.P (w.alloc (.cells res el))= .ok (.value (.slice (al ⟨w.heap.size,0,aq⟩) 3 3)) (w.alloc (.cells res el (res.size,res.size+1))):=by
  have h4:execOp (a.put o1.dst (.slice (al ⟨w.heap.size,0,aq⟩) 3 3)).eval o2=(do pure (Next.value (<-convert t t (.slice (al ⟨w.heap.size,0,aq⟩) 3 3)))):=by simp only[execOp,op2];rw[hev]
  rw[h4];exact gJ (Lib.run_convert_bytes_const w t el res 3 3 hT.und hE.und)
 obtain⟨h1',h2'⟩:=FB s.hs (cs:=[.int .u8 a0,.int .u8 a1,.int .u8 a2]) (arr:=res) (by rw[hsz];rfl) (by rw[hres];simp[VList,VRel]) el;have hgd1:gd ops f o1=al ab:=by unfold gd;rw[g1]
 have hw1:=rZ s.val hgd1;unfold wpListIn;rw[if_pos hw1];refine⟨λg _=>iD r g,?_⟩;rw[eP,Oper.semAt_eq r a.eval o1 (λc=>by rw[op1];exact λh=>by cases h),hrun1];show wpListIn (RF r) 0 e.P ops (iM e n ok pl0 w0 Q) (o2::rest) (a.put o1.dst (.slice (al ⟨w.heap.size,0,aq⟩) 3 3)) (w.alloc (.cells res el));have hw2:Region.wanted o2 (yielded ops (a.put o1.dst (.slice (al ⟨w.heap.size,0,aq⟩) 3 3)).tmps)=ab:=by unfold Region.wanted;rw[g2]
 unfold wpListIn;rw[if_pos hw2];refine⟨λg _=>iD r g,?_⟩;rw[eP,Oper.semAt_eq r _ o2 (λc=>by rw[op2];exact λh=>by cases h),hrun2];have s1:=s.next0 h1' h2';have hv1:VRel (cx ok (bz pl (aa h) w.heap.size) (w.alloc (.cells res el (res.size,res.size+1)))) .any (.slice (al ⟨w.heap.size,0,aq⟩) 3 3):=by simp only[VRel]
 have s2:=s1.put (d:=o1.dst) (by rw[e1];simp[jF,hd1]) hv1;have hv2:VRel (cx ok (bz pl (aa h) w.heap.size) (w.alloc (.cells res el (res.size,res.size+1)))) (.ls (aa h) 1 0 3 3) (.slice (al ⟨w.heap.size,0,aq⟩) 3 3):=by simp only[VRel];exact⟨_,3,rfl,zrb _,zrb _,by decide,.inr ⟨w.heap.size,res,el,(res.size,res.size+1),by simp[cx,bz],rfl,World.alloc_heap_new w _,by omega⟩⟩
 have s3:=s2.put (d:=o2.dst) (by rw[e2];simp[jF,hd2]) hv2;show wpListIn (RF r) 0 e.P ops (iM e n ok pl0 w0 Q) rest ((a.put o1.dst (.slice (al ⟨w.heap.size,0,aq⟩) 3 3)).put o2.dst (.slice (al ⟨w.heap.size,0,aq⟩) 3 3)) _;rw[e1,e2]at s3 ⊢;exact hk ok pl0 w0 _ _ _ s3
end
mutual
def V.sh(b:Nat):V->V
 | .lp id off=> .lp (b+id) off
 | .ls id k off len cap=> .ls (b+id) k off len cap
 | .lm id=> .lm (b+id)
 | .yd id=> .yd (b+id)
 | .fn f first captured=> .fn f (V.shs b first) (V.shs b captured)
 | .iface t e=> .iface t (e.sh b)
 | .agg vs=> .agg (V.shs b vs)
 | .tup vs=> .tup (V.shs b vs)
 | .grd g e=> .grd g (e.sh b)
 | .row k es=> .row k (V.shs b es)
 |v=>v
def V.shs(b:Nat):List V->List V
 |[]=>[]
 |v::vs=>v.sh b::V.shs b vs
end
structure SExt(b:Nat)(c c':C):Prop where
 w:c'.w=c.w
 ok:∀x,c.ok x->c'.ok x
 pl:∀i x,c.pl i=al x->c'.pl (b+i)=al x
theorem SExt.data{b:Nat}{c c':C}(h:SExt b c c'):CExt (λ_=>ac) c.data c'.data :=
 ⟨λx hx hok=>⟨h.ok x hok,by show c'.w.heap[x]? =c.w.heap[x]?;rw[h.w]⟩,λi x _ hi=>by simp[C.data]at hi,λx arr el fz hb=>⟨arr,fz,by show c'.w.heap[x]? =_;rw[h.w];exact hb,rfl⟩⟩
theorem rq.sh{b:Nat}{c c':C}(h:SExt b c c'){x off:Nat}{ev:Value}(hr:rq c x off ev):rq c' x off ev:=λj hj=>by obtain⟨h1,h2⟩:=hr j hj;exact⟨h.ok x h1,by rw[h.w];exact h2⟩
theorem nC{b:Nat}:∀vs:List V,aa (V.shs b vs)=aa vs
 |[]=>rfl
 |v::vs=>by rw[V.shs,zrt,nC vs,zrt]
mutual
theorem VRel.sh{b:Nat}{c c':C}(h:SExt b c c'):∀(v:V)(x:Value),VRel c v x->VRel c' (v.sh b) x
 | .any,_,_=>by simp[VRel,V.sh]
 | .bool _,_,hv | .int _ _,_,hv | .str _,_,hv | .nilp,_,hv | .nils,_,hv | .nilm,_,hv | .nilf,_,hv | .nili,_,hv=>by simpa only[VRel,V.sh]using hv
 | .lp id off,x,hv=>by simp only[VRel,V.sh]at hv ⊢;obtain⟨q,h1,h2⟩:=hv;exact⟨q,h.pl _ _ h1,h2⟩
 | .ip e,x,hv=>by simp only[VRel,V.sh]at hv ⊢;obtain⟨q,off,ev,h1,h2,h3,h4⟩:=hv;exact⟨q,off,ev,h1,h2.sh h,h3,VRel.mono h.data e ev h4⟩
 | .ls id k off len cap,x,hv=>by
  simp only[VRel,V.sh]at hv ⊢;obtain⟨a,cp,h1,h2,h3,h4,h5⟩:=hv;refine⟨a,cp,h1,h2,h3,h4,?_⟩;rcases h5 with h5|⟨q,arr,el,fz,h5,h6,h7,h8⟩
  ·exact .inl h5
  ·exact .inr ⟨q,arr,el,fz,h.pl _ _ h5,h6,by rw[h.w];exact h7,h8⟩
 | .is ex k es,x,hv=>by
  simp only[VRel,V.sh]at hv ⊢;obtain⟨a,cp,h1,h2,h3,h4,h5⟩:=hv;refine⟨a,cp,h1,h2,h3,h4,?_⟩;rcases h5 with h5|⟨q,off,h5,h6⟩
  ·exact .inl h5
  ·exact .inr ⟨q,off,h5,VElems.mono h.data k es q off h6⟩
 | .lm id,x,hv=>by simp only[VRel,V.sh]at hv ⊢;obtain⟨q,h1,h2⟩:=hv;exact⟨q,h.pl _ _ h1,h2⟩
 | .im ks vs,x,hv=>by simp only[VRel,V.sh]at hv ⊢;obtain⟨r,es,clk,h1,h2,h3,h4,h5⟩:=hv;exact⟨r,es,clk,h1,h.ok r h2,by rw[h.w];exact h3,VList.mono h.data ks _ h4,VList.mono h.data vs _ h5.1,h5.2⟩
 | .fn f first captured,x,hv=>by simp only[VRel,V.sh]at hv ⊢;obtain⟨fs,cs,h1,h2,h3⟩:=hv;exact⟨fs,cs,h1,VList.sh h first _ h2,VList.sh h captured _ h3⟩
 | .yd id,x,hv=>by simp only[VRel,V.sh]at hv ⊢;obtain⟨q,h1,h2⟩:=hv;exact⟨q,h.pl _ _ h1,h2⟩
 | .iface t e,x,hv=>by simp only[VRel,V.sh]at hv ⊢;obtain⟨ev,h1,h2⟩:=hv;exact⟨ev,h1,VRel.sh h e _ h2⟩
 | .agg vs,x,hv=>by simp only[VRel,V.sh]at hv ⊢;obtain⟨cs,h1,h2⟩:=hv;exact⟨cs,h1,VList.sh h vs _ h2⟩
 | .tup vs,x,hv=>by simp only[VRel,V.sh]at hv ⊢;obtain⟨cs,h1,h2⟩:=hv;exact⟨cs,h1,VList.sh h vs _ h2⟩
 | .grd g e,x,hv=>by simp only[VRel,V.sh]at hv ⊢;exact⟨λhg=>VRel.sh h e _ (hv.1 hg),hv.2⟩
 | .row k es,x,hv=>by simp only[VRel,V.sh]at hv ⊢;obtain⟨q,h1,h2,h3⟩:=hv;rw[nC];exact⟨q,h1,h2,VElems.sh h k es q 0 h3⟩
theorem VList.sh{b:Nat}{c c':C}(h:SExt b c c'):∀(vs:List V)(xs:List Value),VList c vs xs->VList c' (V.shs b vs) xs
 |[],_,hv=>by simpa only[VList,V.shs]using hv
 |v::vs,xs,hv=>by simp only[VList,V.shs]at hv ⊢;obtain⟨y,ys,h1,h2,h3⟩:=hv;exact⟨y,ys,h1,VRel.sh h v y h2,VList.sh h vs ys h3⟩
theorem VElems.sh{b:Nat}{c c':C}(h:SExt b c c'):∀(k:Nat)(es:List V)(q off:Nat),VElems c k es q off->VElems c' k (V.shs b es) q off
 |_,[],_,_,_=>by simp only[VElems,V.shs]
 |k,e::es,q,off,hv=>by simp only[VElems,V.shs]at hv ⊢;obtain⟨⟨ev,h1,h2,h3⟩,h4⟩:=hv;exact⟨⟨ev,h1,h2.sh h,VRel.sh h e ev h3⟩,VElems.sh h k es q (off+k) h4⟩
end
def O.sh(b:Nat):O->O
 | .cells cs=> .cells (V.shs b cs)
 | .typed T cs=> .typed T (V.shs b cs)
 | .map ks vs=> .map (V.shs b ks) (V.shs b vs)
 | .loop t n ps asg body st pend=> .loop (λi=>(t i).sh b) n ps asg body st pend
 |o=>o
theorem OAt.sh{b:Nat}{c c':C}(h:SExt b c c'){q:Nat}:∀ {o:O},OAt c q o->OAt c' q (o.sh b)
 | .dead,ho=>ho
 | .cells cs,ho=>by obtain⟨arr,el,fz,h1,h2,h3,h4⟩:=ho;refine⟨arr,el,fz,by rw[h.w];exact h1,h2,by rw[nC];exact h3,?_⟩;rw[nC];exact VList.sh h cs _ h4
 | .typed T cs,ho=>by obtain⟨arr,fz,h1,h2,h3,h4⟩:=ho;refine⟨arr,fz,by rw[h.w];exact h1,h2,by rw[nC];exact h3,?_⟩;rw[nC];exact VList.sh h cs _ h4
 | .map ks vs,ho=>by obtain⟨es,clk,h1,h2,h3⟩:=ho;exact⟨es,clk,by rw[h.w];exact h1,VList.sh h ks _ h2,VList.sh h vs _ h3.1,h3.2⟩
 | .loop t n ps asg body st pend,ho=>by obtain⟨r,h1,h2,h3,h4,h5,h6,h7,h8⟩:=ho;exact⟨r,by rw[h.w];exact h1,h2,h3,h4,h5,h6,h7,λi=>VRel.sh h _ _ (h8 i)⟩
 | .misc .dfd,ho=>by show c'.w.heap[q]? =_;rw[h.w];exact ho
 | .misc .shut,ho=>by show c'.w.heap[q]? =_;rw[h.w];exact ho
 | .misc (.siter l pos),ho=>by obtain⟨s,h1,h2,h3⟩:=ho;exact⟨s,h1,h2,by rw[h.w];exact h3⟩
 | .misc (.miter ks vs cur),ho=>by
  obtain⟨m,seen,es,clk,h1,h2,h3,h4,h5,h6,h7⟩:=ho;exact⟨m,seen,es,clk,by rw[h.w];exact h1,h.ok m h2,by rw[h.w];exact h3,h4,VList.mono h.data ks _ h5,VList.mono h.data vs _ h6,λk v hc=>by
   obtain⟨x,g1,g2,g3,g4⟩:=h7 k v hc;exact⟨x,g1,g2,VRel.mono h.data _ _ g3,VRel.mono h.data _ _ g4⟩⟩
def AEnd.sh(b:Nat):AEnd->AEnd
 | .ret v=> .ret (v.sh b)
 | .pan v=> .pan (v.sh b)
theorem qN{e:E}{g:FuncId}{args:List V}{h:H}{R0 R:AEnd->H->(Nat->Bool)->Prop}(hc:ag e g args [] R0)(hd:aL args=ab)
 (hr:∀ae h' p,R0 ae h' p->R (ae.sh (aa h)) (h++h'.map (O.sh (aa h))) (λ_=>ac)):ag e g args h R:=by
 intro ok pl w vs hs hl;refine(hc _ _ w vs hs.toData (VList.mono (ng ok pl w) _ _ (VList.todata _ _ hd hl))).mono ?_;rintro en w' ⟨p,pl',h',ae,hs',k',he,hq⟩;obtain⟨pl2,hpl2⟩:∃pl2:Nat->Option Nat,pl2=λi=>if i<aa h then pl i else pl' (i-aa h):=⟨_,rfl⟩
 have p1:∀i,i<aa h->pl2 i=pl i:=λi hi=>by rw[hpl2];exact if_pos hi
 have p2:∀i,pl2 (aa h+i)=pl' i:=λi=>by rw[hpl2];show(if _ then _ else _)=_;rw[if_neg (by omega),Nat.add_sub_cancel_left]
 have same:∀b,b<w.heap.size->w'.heap[b]? =w.heap[b]? :=λb hb=>k'.same b hb (λi hi=>by cases hi);have loc:∀i b,pl' i=al b->w.heap.size<=b:=λi b hi=>by
  rcases k'.loc i b hi with⟨j,hj⟩|hlt
  ·cases hj
  ·exact hlt
 have K:Keeps (λ_=>ac) pl w pl2 w':=by
  refine⟨k'.os,k'.tape,k'.output,k'.size,λb hb _=>same b hb,λi b hi=> ?_,λi b _ hi=>by rw[p1 i (hs.pl_lt hi)];exact hi,λb arr el fz hb=>⟨arr,fz,(same b (aW hb)).trans hb,rfl⟩⟩;by_cases hlt:i<aa h
  ·exact .inl ⟨i,by rw[<-p1 i hlt];exact hi⟩
  ·rw[show i=aa h+(i-aa h) by omega,p2]at hi;exact .inr (loc _ _ hi)
 have S:SExt (aa h) (cx (λb=>ok b/\∀i,pl i≠al b) pl' w') (cx ok pl2 w'):=by
  refine⟨rfl,λx hx=>⟨hx.1.1,λi hi=> ?_⟩,λi x hi=>by simp only[cx]at hi ⊢;rw[p2];exact hi⟩;by_cases hlt:i<aa h
  ·exact hx.1.2 i (by rw[<-p1 i hlt];exact hi)
  ·rw[show i=aa h+(i-aa h) by omega,p2]at hi;exact hx.2 _ hi
 have HS:HSim e ok pl2 (h++h'.map (O.sh (aa h))) w':=by
  refine hs.next K (λi b hi=> ?_) (λi j b hi hj=> ?_) (λi b hi=> ?_) (λi o ho hi=> ?_)
  ·by_cases hlt:i<aa h
   ·have:=hs.lt i b (by rw[<-p1 i hlt];exact hi);have:=k'.size;omega
   ·rw[show i=aa h+(i-aa h) by omega,p2]at hi;exact hs'.lt _ _ hi
  ·by_cases hl1:i<aa h
   ·by_cases hl2:j<aa h
    ·exact hs.inj i j b (by rw[<-p1 i hl1];exact hi) (by rw[<-p1 j hl2];exact hj)
    ·exfalso;rw[show j=aa h+(j-aa h) by omega,p2]at hj;have h1:=loc _ _ hj;have h2:=hs.lt i b (by rw[<-p1 i hl1];exact hi);omega
   ·by_cases hl2:j<aa h
    ·exfalso;rw[show i=aa h+(i-aa h) by omega,p2]at hi;have h1:=loc _ _ hi;have h2:=hs.lt j b (by rw[<-p1 j hl2];exact hj);omega
    ·rw[show i=aa h+(i-aa h) by omega,p2]at hi;rw[show j=aa h+(j-aa h) by omega,p2]at hj;have:=hs'.inj _ _ b hi hj;omega
  ·by_cases hlt:i<aa h
   ·have hi':pl i=al b:=by rw[<-p1 i hlt];exact hi
    refine .inl ⟨hi',same b (hs.lt i b hi'),?_⟩;rw[zqj hlt];cases h[i]? <;>simp[kF]
   ·have hi':=hi;rw[show i=aa h+(i-aa h) by omega,p2]at hi';obtain⟨o,h1,h2⟩:=hs'.obj _ b hi';exact .inr ⟨o.sh (aa h),by rw[zsb (by omega),zqo,h1];rfl,OAt.sh S h2⟩
  ·by_cases hlt:i<aa h
   ·rw[zqj hlt]at ho;exact hs.bare i o ho (by rw[<-p1 i hlt];exact hi)
   ·rw[zsb (by omega),zqo]at ho;rw[show i=aa h+(i-aa h) by omega,p2]at hi;cases ho':h'[i-aa h]? with
    |none=>rw[ho']at ho;cases ho
    |some o' =>
     rw[ho']at ho;cases ho;rcases hs'.bare _ o' ho' hi with rfl|rfl
     ·exact .inl rfl
     ·exact .inr rfl
 refine⟨λ_=>ac,pl2,_,ae.sh (aa h),HS,K,?_,hr ae h' p hq⟩;cases ae with
 |ret v =>
  cases en with
  |returned x=>exact VRel.sh S v x he
  |panicked ch=>exact he.elim
  |outgrown=>exact he.elim
 |pan v =>
  cases en with
  |returned x=>exact he.elim
  |panicked ch=>obtain⟨x,h1,h2⟩:=he;exact⟨x,h1,VRel.sh S v x h2⟩
  |outgrown=>exact he.elim
end Go.Abs
