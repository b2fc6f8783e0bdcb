/- Lemmas for this claim, part A10: each holds under what it names. -/
import Derived.Test.YthdidjjecjhenaaGreatAA9
set_option linter.all false
namespace Go.Abs
open Go Go.RowKit
open List renaming length → aa, replicate → aD
open Bool renaming true → ab, false → am
open Option renaming some → ar, none → aL
open Decidable renaming decide → aM
open Go.IntKind renaming wrap → a5
open Go.Result renaming andThen → a8
open Go.Abs.V renaming drops → aE, dat → a6, dats → a7
def XD(e:E)(n:Nat)(ops:Array Oper)(Q:XE->Fr->H->Prop)(i:Nat)(Kn:Fr->H->Prop)(f:Fr)(h:H):Prop :=
 ∃o,ops[i]? =ar o/\o.guard=aL/\ku n o.dst=ab/\∀r,Eff e n r o f h Kn Q
variable{ops:Array Oper}{i d:Nat}{Kn:Fr->H->Prop}{f:Fr}{h:H}
theorem SI{e:E}{n:Nat}{Q:XE->Fr->H->Prop}{o':Oper}(ho:ops[i]? =ar o')(hg:o'.guard=aL)(hd:o'.dst=ar d)(hk:ku n (ar d)=ab)
 (hE:∀r o,o=o'->o.dst=ar d->Eff e n r o f h Kn Q):XD e n ops Q i Kn f h:=⟨o',ho,hg,by rw[hd];exact hk,λr=>hE r o' rfl hd⟩
def OY(e:E)(n:Nat)(ops:Array Oper)(Q:XE->Fr->H->Prop)(s i:Nat)(Ks Kn:Fr->H->Prop)(f:Fr)(h:H):Prop :=
 if i=s then XD e n ops Q i Ks f h else GX e n ops i Kn Q f h
def qc(e:E)(n:Nat)(ops:Array Oper)(Q:XE->Fr->H->Prop)(K:Plan->Fr->H->Prop)(s:Nat):Plan->Fr->H->Prop
 | .fin,f,h=>Q .normal f h
 | .take i p,f,h=>GX e n ops i (qc e n ops Q K s p) Q f h
 | .one i p,f,h=>OY e n ops Q s i (K p) (qc e n ops Q K s p) f h
 | .alt i p q,f,h=>OY e n ops Q s i (K p) (qc e n ops Q K s p) f h/\qc e n ops Q K s q f h
section
variable{e:E}{n:Nat}{r:Option Nat}{ops:Array Oper}{Q:XE->Fr->H->Prop}{ok:Nat->Prop}{pl0:Nat->Option Nat}{w0:World}
theorem xH{s0:Nat}{Ks:Fr->H->Prop}(hv:OY e n ops Q s0 i Ks Kn f h){K':Act->World->Prop}
 (hks:∀f h pl w a,SSim e n ok pl0 w0 f h pl w a->Ks f h->K' a w) (hk:∀f h pl w a,SSim e n ok pl0 w0 f h pl w a->Kn f h->K' a w) {pl:Nat->Option Nat} {w:World} {a:Act} (s:SSim e n ok pl0 w0 f h pl w a) :
 wpOpIn (RF r) 0 e.P ops (iR e n ok pl0 w0 Q) i K' a w:=by
 unfold OY at hv;split at hv
 ·obtain⟨o,ho,hg,hd,hv⟩:=hv;have hgd:gd ops f o=ar ab:=by unfold gd;rw[hg]
  have hw:=uZ s.val hgd;unfold wpOpIn;simp only[ho];rw[if_pos hw];exact Oper.wpIn_mono (λa' w' ⟨pl',f',h',s',hk'⟩=>hks _ _ _ _ _ s' hk') (hv r ok pl0 w0 pl w a s hd)
 ·exact vg hv hk s
theorem jv{s0:Nat}(hQ:∀v f h,¬Q (.pan v) f h)(hpl:kP ops=ab):∀(p:Plan),
 (∀(fuel:Nat)(listed:Array Bool)(f:Fr)(h:H),bZ e.P ops p fuel listed=ab->qc e n ops Q (iD e n ops Q) s0 p f h->∀pl w a,SSim e n ok pl0 w0 f h pl w a->wpAnyIn (RF r) 0 e.P .any ops (iR e n ok pl0 w0 Q) fuel listed a w) /\
 (∀(fuel:Nat)(listed:Array Bool)(f:Fr)(h:H),bZ.planAlts e.P ops p fuel listed=ab->qc e n ops Q (iD e n ops Q) s0 p f h->∀pl w a,SSim e n ok pl0 w0 f h pl w a ->
  ∀i∈p.heads,wpOpIn (RF r) 0 e.P ops (iR e n ok pl0 w0 Q) i (wpAnyIn (RF r) 0 e.P .any ops (iR e n ok pl0 w0 Q) fuel (listed.setIfInBounds i ab)) a w)
 | .fin=>by refine⟨λfuel listed f h hp hv pl w a s=> ?_,λfuel listed f h hp hv pl w a s i hi=>(by simp[Plan.heads]at hi)⟩;simp only[bZ,List.isEmpty_iff]at hp;exact wpAnyIn_done hp ⟨pl,f,h,.normal,s,trivial,hv⟩ fuel
 | .take i p=>by
  refine⟨λfuel listed f h hp hv pl w a s=> ?_,λfuel listed f h hp hv pl w a s i hi=>(by simp[Plan.heads]at hi)⟩;simp only[bZ]at hp;split at hp
  ·rename_i fuel o ho;simp only[zqf]at hp;obtain⟨⟨⟨h1,h2⟩,h3⟩,h4⟩:=hp;obtain⟨x,f',hy,s',hk⟩:=rW ho h1 hv s;refine mQ h1 ho hpl ?_ fuel listed a w (Region.free_spec ho h3) (by simpa using h2) hy ((jv hQ hpl p).1 fuel _ f' h h4 hk pl w _ s');rintro c a w ⟨pl',f',h',xe,_,hx,hq⟩;cases xe<;>first|exact hx.elim|exact(hQ _ _ _ hq).elim
  ·cases hp
 | .one i p=>by
  refine⟨λfuel listed f h hp hv pl w a s=> ?_,λfuel listed f h hp hv pl w a s j hj=> ?_⟩
  ·simp only[bZ]at hp;split at hp
   ·rename_i fuel;simp only[zqf,beq_iff_eq]at hp;refine⟨λh0=>(by rw[hp.1]at h0;cases h0),λj hj=> ?_⟩;rw[hp.1]at hj;simp only[zrc]at hj;subst hj;exact xH hv (λf h pl w a s hk=>(gK hQ hpl p).1 fuel _ f h hp.2 hk pl w a s) (λf h pl w a s hk=>(jv hQ hpl p).1 fuel _ f h hp.2 hk pl w a s) s
   ·cases hp
  ·simp only[bZ.planAlts]at hp;simp only[Plan.heads,zrc]at hj;subst hj;exact xH hv (λf h pl w a s hk=>(gK hQ hpl p).1 fuel _ f h hp hk pl w a s) (λf h pl w a s hk=>(jv hQ hpl p).1 fuel _ f h hp hk pl w a s) s
 | .alt i p q=>by
  refine⟨λfuel listed f h hp hv pl w a s=> ?_,λfuel listed f h hp hv pl w a s j hj=> ?_⟩
  ·simp only[bZ]at hp;split at hp
   ·rename_i fuel;simp only[zqf,beq_iff_eq]at hp;obtain⟨⟨h1,h2⟩,h3⟩:=hp;refine⟨λh0=>(by rw[h1]at h0;cases h0),λj hj=> ?_⟩;rw[h1]at hj;rcases zrj.1 hj with rfl|hj
    ·exact xH hv.1 (λf h pl w a s hk=>(gK hQ hpl p).1 fuel _ f h h2 hk pl w a s) (λf h pl w a s hk=>(jv hQ hpl p).1 fuel _ f h h2 hk pl w a s) s
    ·exact(jv hQ hpl q).2 fuel listed f h h3 hv.2 pl w a s j hj
   ·cases hp
  ·simp only[bZ.planAlts,zqf]at hp;rcases zrj.1 hj with rfl|hj
   ·exact xH hv.1 (λf h pl w a s hk=>(gK hQ hpl p).1 fuel _ f h hp.1 hk pl w a s) (λf h pl w a s hk=>(jv hQ hpl p).1 fuel _ f h hp.1 hk pl w a s) s
   ·exact(jv hQ hpl q).2 fuel listed f h hp.2 hv.2 pl w a s j hj
theorem OZ(hm:e.P.follows .mixedOrders=ab){id:Nat}(s0:Nat)(p:Plan)(R:Fr->H->Prop){f:Fr}{h:H}(hp:bZ e.P ops p ops.size (Array.replicate ops.size am)=ab)(hpl:kP ops=ab)
 (hv:∀K:Plan->Fr->H->Prop,(∀p f h,iD e n ops (nC R) p f h->K p f h)->qc e n ops (nC R) K s0 p f h) (hk:∀f h,R f h->Q .normal f h):awp e n r (.region id ops ab) Q f h:=by
 intro ok pl0 w0 pl w a s;have hv := hv _ λp f h hh => hh;have x : WExt w { w with drawn := w.drawn + 1 } := WExt.drew w;have := (jv (e := e) (n := n) (r := r) (ops := ops) (Q := nC R) (ok := ok) (pl0 := pl0) (w0 := w0) (λv f h hh => hh) hpl p).1 ops.size _ f h hp hv pl _ a (s.next0 (s.hs.wext x) (x.keeps s.hs));refine wpIn_mono (wpIn_region_any hm this) ?_;rintro ex a' w' ⟨pl',f',h',xe,s',hx,hq⟩;cases xe <;> first
  |exact⟨pl',f',h',_,s',hx,hk _ _ hq⟩
  |exact hq.elim
end
section
variable{e:E}{n:Nat}{r:Option Nat}{o:Oper}{f:Fr}{h:H}{Kn:Fr->H->Prop}{Q:XE->Fr->H->Prop}
def O0(e:E)(h:H)(k:Nat)(s:V)(m n':Nat)(cs:List V):Prop :=
 ∀ok pl w xv,HSim e ok pl h w->VRel (cx ok pl w) s xv->(Builtin.lenOf xv).run e.P w= .ok m w/\∃news:Array Value,(Builtin.firstCells k n' xv).run e.P w= .ok news w/\VList (cx ok pl w) cs news.toList/\aa cs=n'*k
variable{k:Nat}{cs:List V}
theorem O0.all{m:Nat}{s:V}(he:lu h k s=ar (m,cs))(hf:pK k s=ab):O0 e h k s m m cs:=λok pl w xv hs hv=>by obtain⟨news,h1,h2,h3,h4⟩:=pM (e:=e) hs hv he hf;exact⟨h1 w,news,h2 w (λ_=>rfl),h3,h4⟩
end
def GA(f:Fr)(l:List (Nat×V)):Prop:=∀q∈l,f.t q.1=q.2
theorem GA.put{l:List (Nat×V)}{v:V}(h:GA f l)(hd:(l.all λq=>q.1 != d)=ab):GA (f.put (ar d) v) l:=λq hq=>by
 have h1:=zrs.1 hd q hq;have h2:q.1≠d:=by simpa using h1
 have:=h q hq;simpa [Fr.put,h2]using this
variable{L:Array Bool}{l:List (Nat×Nat×V)}
theorem FA.put'{v:V}(hf:FA L f l)(h1:(l.all λq=>q.1 != i&&q.2.1 != d)=ab):FA (L.setIfInBounds i ab) (f.put (ar d) v) l :=
 hf.put (λq hq hqi=>by have:=zrs.1 h1 q hq;simp[hqi]at this) (λq hq hqd=>by have:=zrs.1 h1 q hq;simp[hqd]at this)
def HN(L:Array Bool)(B:H)(ia is:Nat)(zc uc:List V):H:=if L.getD ia am=ab then B++[.cells (if L.getD is am=ab then uc else zc)]else B
variable{B:H}{ia is k:Nat}{zc uc:List V}{o:O}
theorem HN.get(h:B[k]? =ar o):(HN L B ia is zc uc)[k]? =ar o:=by
 unfold HN;split
 ·rw[zqj (zqe h).1];exact h
 ·exact h
theorem HN.none{m:Nat}:HN (Array.replicate m am) B ia is zc uc=B:=by
 unfold HN;rw[if_neg];intro h;rcases Nat.lt_or_ge ia m with h2|h2
 ·simp[h2]at h
 ·simp[Array.getD,Nat.not_lt.2 h2]at h
theorem HN.skip(h1:i≠ia)(h2:i≠is):HN (L.setIfInBounds i ab) B ia is zc uc=HN L B ia is zc uc:=by unfold HN;rw[getD_set_ne am h1,getD_set_ne am h2]
theorem HN.old(h:L.getD ia am=am):HN L B ia is zc uc=B:=by unfold HN;rw[if_neg (by rw[h];decide)]
theorem kQ(h:i<L.size):(L.setIfInBounds i ab).getD i am=ab:=by simp[Array.getD,h]
theorem HN.new(hs:ia<L.size)(hne:ia≠is)(h:L.getD is am=am):HN (L.setIfInBounds ia ab) B ia is zc uc=B++[.cells zc]:=by unfold HN;rw[kQ hs,getD_set_ne am hne,h];rfl
theorem HN.at(h:L.getD ia am=ab)(h2:L.getD is am=am):HN L B ia is zc uc=B++[.cells zc]:=by unfold HN;rw[h,h2];rfl
theorem HN.fill(h:L.getD ia am=ab)(hs:is<L.size)(hne:is≠ia):HN (L.setIfInBounds is ab) B ia is zc uc=B++[.cells uc]:=by unfold HN;rw[kQ hs,getD_set_ne am hne,h];rfl
theorem HN.done(h:L.getD ia am=ab)(h2:L.getD is am=ab):HN L B ia is zc uc=B++[.cells uc]:=by unfold HN;rw[h,h2];rfl
theorem ER(hc:EP ops L){i:Nat}(hi:L.getD i am=ab){l:List Nat}(hl:XB ops i l=ab):∀j∈l,L.getD j am=ab:=by
 intro j hj;unfold XB at hl;split at hl
 ·rename_i o ho;have h1:=zrs.1 hl j hj;rw[Array.any_eq_true]at h1;obtain⟨q,hq,h3⟩:=h1;rw[zqf,beq_iff_eq]at h3;rw[<-h3.2];exact hc i o ho hi _ (Array.getElem_mem hq) h3.1
 ·cases hl
theorem fE(hc:EP ops L){i j:Nat}(hj:L.getD j am=am)(hl:XB ops i [j]=ab):L.getD i am=am:=by
 cases h:L.getD i am with
 |false=>rfl
 |true=>rw[ER hc h hl j (by simp)]at hj;cases hj
theorem Di{o':O}:(B++[o]).set (aa B) o'=B++[o']:=by rw[List.set_append_right _ _ (zrb _),Nat.sub_self];rfl
theorem ug:(B++[o])[aa B]? =ar o:=by simp
theorem bF{p:Nat->Bool}:∀v:V,v.dat=ab->v.drop p=v
 | .any,_ | .bool _,_ | .int _ _,_ | .str _,_ | .nilp,_ | .ip _,_ | .nils,_ | .is _ _ _,_ | .nilm,_ | .im _ _,_ | .nilf,_ | .nili,_=>by simp[V.drop]
 | .lp _ _,h | .ls _ _ _ _ _,h | .lm _,h | .yd _,h | .row _ _,h=>by simp[a6]at h
 | .fn f a b,h=>by simp only[a6,zqf]at h;rw[V.drop,dats_drops a h.1,dats_drops b h.2]
 | .iface t e,h=>by rw[V.drop,bF e (by simpa [a6]using h)]
 | .agg vs,h=>by rw[V.drop,dats_drops vs (by simpa [a6]using h)]
 | .tup vs,h=>by rw[V.drop,dats_drops vs (by simpa [a6]using h)]
 | .grd g e,h=>by rw[V.drop,bF e (by simpa [a6]using h)]
where dats_drops : ∀ vs : List V,a7 vs = ab -> aE p vs = vs
 |[],_=>by rw[aE]
 |v::vs,h=>by simp only[a7,zqf]at h;rw[aE,bF v h.1,dats_drops vs h.2]
variable{p:Nat->Bool}
theorem FA.drop(h:FA L f l)(hd:∀q∈l,q.2.2.drop p=q.2.2):FA L (f.drop p) l:=λq hq hl=>by show(f.t q.2.1).drop p=q.2.2;rw[h q hq hl,hd q hq]
theorem GA.drop{l:List (Nat×V)}(h:GA f l)(hd:∀q∈l,q.2.drop p=q.2):GA (f.drop p) l:=λq hq=>by show(f.t q.1).drop p=q.2;rw[h q hq,hd q hq]
section
variable{e:E}{n:Nat}{r:Option Nat}{ops:Array Oper}{h:H}{Q:XE->Fr->H->Prop}
theorem qf(hm:e.P.follows .mixedOrders=ab){id:Nat}{f:Fr}(tk pre:List Nat)(last:Nat)(p:Plan)(R:Fr->H->Prop)(hB:oK e.P ops tk pre last p=ab)
 (hv:∀K:H->Fr->Prop,(∀h' f1,iD e n ops (nC R) p f1 h'->K h' f1)->lI e n ops (nC R) (λf h'=>gB e n ops h' (K h') (rY ops pre) f) tk f h) (hk:∀f h,R f h->Q .normal f h):awp e n r (.region id ops ab) Q f h:=by
 intro ok pl0 w0 pl w a s;have hv:=hv _ λh' f1 h=>h;unfold oK at hB;simp only[zqf,Bool.not_eq_true',zqb]at hB;obtain⟨⟨⟨⟨⟨⟨⟨b1,b2⟩,b3⟩,b4⟩,b5⟩,b6⟩,b7⟩,b8⟩:=hB;have hna:∀(j:Nat)(o:Oper),ops[j]? =ar o->kH o=am:=λj o ho=>by
  have h1:=Array.all_eq_true.1 b1;obtain⟨hl,rfl⟩:=Array.getElem?_eq_some_iff.1 ho;simpa using h1 j hl
 have hl:last∉tk/\last∉pre:=⟨by simpa using b6.1,by simpa using b6.2⟩;have x:WExt w {w with drawn:=w.drawn+1}:=WExt.drew w;obtain⟨c1,c2,c3,c4⟩:=tZ (ops:=ops) (tk:=tk) tk (Array.replicate ops.size am) b3 EP.none (by simp) (λi hi hni=>absurd hi hni) (λi hi=>by
  rcases Nat.lt_or_ge i ops.size with h'|h'<;>simp[h']) (λi hi=>hi)
 have li:LI ops tk pre last (nH (Array.replicate ops.size am) tk):=⟨c1,c2,c3,λi h1 _=>c4 i h1⟩;have hQ:∀v f h,¬nC R (.pan v) f h:=λv f h hh=>hh;have:=xG (r:=r) (ok:=ok) (pl0:=pl0) (w0:=w0) (n:=n) (e:=e) (Q:=nC R) (fuel:=ops.size-aa tk-aa pre+aa pre) hQ b2 tk (Array.replicate ops.size am) f h b3 hv (λf h pl w a hK s=>by
  have hL:=oJ (e:=e) (n:=n) (h:=h) pre (nH (Array.replicate ops.size am) tk) f b4 (by
   have:=lJ (tl:=[]) (λf hf=>hf) _ _ (λo ho=> ?_) hK
   ·rw[zqp]at this;exact this
   ·unfold rY at ho;obtain⟨j,_,hj⟩:=List.mem_filterMap.1 ho;exact hna j o hj)
  exact OU (r:=r) hna hQ b2 b5 hl b7 _ _ _ hL li pl w a s) pl _ a (s.next0 (s.hs.wext x) (x.keeps s.hs))
 rw [show ops.size - aa tk - aa pre + aa pre + aa tk = ops.size by omega] at this;refine wpIn_mono (wpIn_region_any hm this) ?_;rintro ex a' w' ⟨pl',f',h',xe,s',hx,hq⟩;cases xe <;> first
  |exact⟨pl',f',h',_,s',hx,hk _ _ hq⟩
  |exact hq.elim
theorem uh{c:Code}{h0 Y:H}(J:Nat)(cs cs':List V)(hJ:h0[J]? =ar (.cells cs))(ho:∀i o,h0[i]? =ar o->i≠J->o.drop (aQ (aa h0))=o)
 (hg:GVs e (aQ (aa h0)) (h0++Y) cs cs') (hd:∀i∈f.d,i<aa h0)
 (hw:awp e n r c Q {f with t:=λi=>(f.t i).drop (aQ (aa h0)),k:=λi=>f.k i||aQ (aa h0) i} (h0.set J (.cells cs'))):awp e n r c Q f (h0++Y):=by
 refine EJ (aQ (aa h0)) (h0.set J (.cells cs')) (λi hi=> ?_) (λi o hi ho'=> ?_) (λi hi=> ?_) hw
 ·have hi:i<aa h0:=by simpa [aQ]using hi
  by_cases e:i=J
  ·subst e;exact .inr ⟨cs,cs',by rw[zqj hi];exact hJ,by rw[zqt hi],hg⟩
  ·refine .inl ?_;rw[zqn (Ne.symm e),zqj hi];cases h1:h0[i]? with
   |none=>rfl
   |some o=>rw[zrw,ho i o h1 e]
 ·have hi:aa h0<=i:=by simpa [aQ]using hi
  rw[zsj (by simpa using hi)]at ho';cases ho'
 ·have:=hd i hi;simp[aQ];omega
end
section
variable{e:E}
variable{g:FuncId}{args:List V}{R:AEnd->H->(Nat->Bool)->Prop}
theorem ag.frame{Y:H}
 (hc:ag e g args h λae h' p=>aa h'=aa h/\Y.map (O.drop λi=>p i&&aM (i<aa h))=Y/\R ae (h'++Y) (λi=>p i&&aM (i<aa h)))
 (ha:aE (aQ (aa h)) args=args) (hh:h.map (O.drop (aQ (aa h)))=h):ag e g args (h++Y) R:=by
 intro ok pl w vs hs hl;obtain⟨n,hn⟩:∃n,n=aa h:=⟨_,rfl⟩;obtain⟨q,hq⟩:∃q:Nat->Bool,q=λi=>aM (i<n):=⟨_,rfl⟩;have hqf:(λj=> !q j)=aQ n:=by
  funext j
  rw[hq];show(!aM (j<n))=aM (n<=j);by_cases hj:j<n
  ·simp[hj]
  ·simp[hj];omega
 have hl2:=VList.mdrop (qI q ok pl w) _ _ hl;rw[hqf,hn,ha]at hl2;have hs2:=hs.sub q;have get2:∀i,i<n->(vw q 0 (h++Y))[i]? =h[i]? :=λi hi=>by
  rw[tV,zqj (by omega),Nat.zero_add,hqf];have hqi:q i=ab:=by rw[hq];simpa using hi
  simp only[hqi,if_true]
  conv=>rhs;rw[<-hh]
  rw[zqo,hn]
 have hs3:HSim e (λb=>ok b/\∀i,q i=am->pl i≠ar b) (λi=>if q i=ab then pl i else aL) h w :=
  {hs2 with
   obj:=λi b hi=>by
    have hi':=hi
    try dsimp only at hi'
    split at hi'
    ·rename_i hqi;have hin:i<n:=by rw[hq]at hqi;simpa using hqi
     obtain⟨o,h1,h2⟩:=hs2.obj i b hi;exact⟨o,by rw[<-get2 i hin];exact h1,h2⟩
    ·cases hi'
   bare:=λi o ho hi=>hs2.bare i o (by rw[get2 i (by have:=(zqe ho).1;omega)];exact ho) hi}
 refine(hc _ _ w vs hs3 hl2).mono ?_;rintro en w' ⟨p,pl',h',ae,hs',kp,hen,hlen,hY,hR⟩;rw[<-hn]at hlen hY hR;have plge:∀i b,pl' i=ar b->i<n:=λi b hi=>by
  obtain⟨o,ho,_⟩:=hs'.obj i b hi;have:=(zqe ho).1;omega
 have qi:∀ {i},i<n->q i=ab:=λ{i} hi=>by rw[hq];simpa using hi
 have qn:∀ {i},¬i<n->q i=am:=λ{i} hi=>by rw[hq];simpa using hi
 obtain⟨pl2,hpl2⟩:∃pl2:Nat->Option Nat,pl2=λi=>if i<n then pl' i else pl i:=⟨_,rfl⟩
 have p2l:∀ {i},i<n->pl2 i=pl' i:=λ{i} hi=>by rw[hpl2];exact if_pos hi
 have p2g:∀ {i},¬i<n->pl2 i=pl i:=λ{i} hi=>by rw[hpl2];exact if_neg hi
 have kloc:∀i b,pl' i=ar b->(∃j,pl j=ar b/\j<n)\/w.heap.size<=b:=λi b hi=>by
  rcases kp.loc i b hi with⟨j,hj⟩|hj
  ·try dsimp only at hj
   split at hj
   ·rename_i hqj;exact .inl ⟨j,hj,by rw[hq]at hqj;simpa using hqj⟩
   ·cases hj
  ·exact .inr hj
 have ksame:∀b,b<w.heap.size->(∀i,i<n->pl i≠ar b)->w'.heap[b]? =w.heap[b]? :=λb hb hno=>kp.same b hb λi hi=>by
  try dsimp only at hi
  split at hi
  ·rename_i hqi;exact hno i (by rw[hq]at hqi;simpa using hqi) hi
  ·cases hi
 have c1:CExt (λ_=>am) (cx (λb=>ok b/\∀i,q i=am->pl i≠ar b) pl' w') (cx ok pl2 w') :=
  ⟨λb hb hok=>⟨⟨hok.1.1,λi hi=>by
   by_cases hin:i<n
   ·rw[p2l hin]at hi;exact hok.2 i hi
   ·rw[p2g hin]at hi;exact hok.1.2 i (qn hin) hi⟩,rfl⟩,
   λi b _ hi=>by
    have hin:=plge i b hi;show pl2 i=ar b;rw[p2l hin];exact hi,
   λb arr el fz hb=>⟨arr,fz,hb,rfl⟩⟩
 have kk:Keeps (λi=>p i&&aM (i<n)) pl w pl2 w' :=
  {
   os:=kp.os,tape:=kp.tape,output:=kp.output,size:=kp.size,row:=kp.row
   same:=λb hb hno=>ksame b hb λi _=>hno i
   loc:=λi b hi=>by
    by_cases hin:i<n
    ·rw[p2l hin]at hi;rcases kloc i b hi with⟨j,hj,_⟩|hj
     ·exact .inl ⟨j,hj⟩
     ·exact .inr hj
    ·rw[p2g hin]at hi;exact .inl ⟨i,hi⟩
   keep:=λi b hp hi=>by
    by_cases hin:i<n
    ·rw[p2l hin];refine kp.keep i b ?_ ?_
     ·simpa [hin]using hp
     ·show(if q i=ab then pl i else aL)=ar b;rw[if_pos (qi hin)];exact hi
    ·rw[p2g hin];exact hi}
 have c2:=kk.cext (ok:=ok);refine⟨_,pl2,h'++Y,ae,?_,kk,?_,hR⟩
 ·exact
  {
   fresh:=λb hb=>hs.fresh b (Nat.le_trans kp.size hb)
   lt:=λi b hi=>by
    by_cases hin:i<n
    ·rw[p2l hin]at hi;exact hs'.lt i b hi
    ·rw[p2g hin]at hi;exact Nat.lt_of_lt_of_le (hs.lt i b hi) kp.size
   okl:=λi b hi=>by
    by_cases hin:i<n
    ·rw[p2l hin]at hi;exact(hs'.okl i b hi).1
    ·rw[p2g hin]at hi;exact hs.okl i b hi
   inj:=λi j b hi hj=>by
    by_cases hin:i<n
    ·rw[p2l hin]at hi;by_cases hjn:j<n
     ·rw[p2l hjn]at hj;exact hs'.inj i j b hi hj
     ·rw[p2g hjn]at hj;exact absurd hj ((hs'.okl i b hi).2 j (qn hjn))
    ·rw[p2g hin]at hi;by_cases hjn:j<n
     ·rw[p2l hjn]at hj;exact absurd hi ((hs'.okl j b hj).2 i (qn hin))
     ·rw[p2g hjn]at hj;exact hs.inj i j b hi hj
   obj:=λi b hi=>by
    by_cases hin:i<n
    ·rw[p2l hin]at hi;obtain⟨o,ho,hat⟩:=hs'.obj i b hi;exact⟨o,by rw[zqj (by omega)];exact ho,OAt.mono c1 rfl hat⟩
    ·rw[p2g hin]at hi;obtain⟨o,ho,hat⟩:=hs.obj i b hi;rw[zsb (by omega)]at ho;have hb:=hs.lt i b hi;have hsm:w'.heap[b]? =w.heap[b]? :=ksame b hb λj hj hjb=>by have:=hs.inj i j b hi hjb;omega
     have hat2:=sW c2 hsm hat;refine⟨o.drop (λi=>p i&&aM (i<n)),?_,hat2⟩;rw[zsb (by omega),hlen]
     conv=>lhs;rw[<-hY]
     rw[zqo,show i-n=i-aa h by omega,ho];rfl
   bare:=λi o ho hi=>by
    by_cases hin:i<n
    ·rw[p2l hin]at hi;rw[zqj (by omega)]at ho;exact hs'.bare i o ho hi
    ·rw[p2g hin]at hi;rw[zsb (by omega),hlen]at ho;exact hs.bare i o (by rw[zsb (by omega),show i-aa h=i-n by omega];exact ho) hi
   glob:=λg v hg=>(hs.glob g v hg).glob_next c2
   exa:=λg cs hg=>(hs.exa g cs hg).next c2}
 ·revert hen
  cases ae with
  |ret v =>
   cases en <;> first
    |exact λhen=>VRel.mono c1 _ _ hen
    |exact id
  |pan v =>
   cases en <;> first
    |exact λ⟨x,h1,h2⟩=>⟨x,h1,VRel.mono c1 _ _ h2⟩
    |exact id
end
section
variable{e:E}
def Brw(k:Nat)(v v':V):Prop:=(v.dat=ab/\v'=v)\/∃off,v= .lp k off/\v'= .lp 0 off
def WP(k:Nat):List V->List V->Prop
 |[],[]=>True
 |v::vs,v'::vs'=>Brw k v v'/\WP k vs vs'
 |_,_=>False
theorem WP.rel{k:Nat}{c c':C}(hd:CExt (λ_=>am) c.data c'.data)(hp:∀b,c.pl k=ar b->c'.pl 0=ar b):∀ {vs vs':List V} {xs:List Value},WP k vs vs'->VList c vs xs->VList c' vs' xs
 |[],[],xs,_,hl=>by simpa only[VList]using hl
 |v::vs,v'::vs',xs,⟨h1,h2⟩,hl=>by
  simp only[VList]at hl ⊢;obtain⟨y,ys,rfl,hy,hys⟩:=hl;refine⟨y,ys,rfl,?_,WP.rel hd hp h2 hys⟩;rcases h1 with⟨h1,rfl⟩|⟨off,rfl,rfl⟩
  ·exact VRel.ofdata _ _ (VRel.mono hd _ _ (VRel.todata _ _ h1 hy))
  ·simp only[VRel]at hy ⊢;obtain⟨b,hb,rfl⟩:=hy;exact⟨b,hp b hb,rfl⟩
variable{g:FuncId}{args cs:List V}{R:AEnd->H->(Nat->Bool)->Prop}
theorem ui{args':List V}{r:V}
 (hc:ag e g args' [.cells cs] λae h' p=>ae= .ret r/\h'[0]? =ar (.cells cs)/\p 0=am) (hr:r.dat=ab) (hcs:a7 cs=ab) (hk:h[k]? =ar (.cells cs)) (ha:WP k args args')
 (hR:R (.ret r) h (λ_=>am)):ag e g args h R:=by
 intro ok pl w vs hs hl;obtain⟨ok2,hok2⟩:∃ok2:Nat->Prop,ok2=λb=>ok b/\∀i,i≠k->pl i≠ar b:=⟨_,rfl⟩;obtain⟨pl2,hpl2⟩:∃pl2:Nat->Option Nat,pl2=λi=>if i=0 then pl k else aL:=⟨_,rfl⟩
 have p20:pl2 0=pl k:=by rw[hpl2];rfl
 have p2n:∀ {i},i≠0->pl2 i=aL:=λ{i} hi=>by rw[hpl2];exact if_neg hi
 have p2:∀i b,pl2 i=ar b->i=0/\pl k=ar b:=λi b hi=>by
  by_cases h0:i=0
  ·subst h0;rw[p20]at hi;exact⟨rfl,hi⟩
  ·rw[p2n h0]at hi;cases hi
 have cd:CExt (λ_=>am) (cx ok pl w).data (cx ok2 pl2 w).data :=
  {
   dat:=λb hb hok=>by
    have hok':ok2 b:=by rw[hok2];exact⟨hok.1,λi _=>hok.2 i⟩
    exact⟨⟨hok',λi hi=>hok.2 k (p2 i b hi).2⟩,rfl⟩
   pl:=λi b _ hi=>by cases hi
   row:=λb arr el fz hb=>⟨arr,fz,hb,rfl⟩}
 have hl2:=WP.rel (c:=cx ok pl w) (c':=cx ok2 pl2 w) cd (λb hb=>by show pl2 0=ar b;rw[p20];exact hb) ha hl;have hs3:HSim e ok2 pl2 [.cells cs] w :=
  {
   fresh:=λb hb=>by rw[hok2];exact⟨hs.fresh b hb,λi _ hi=>by have:=hs.lt i b hi;omega⟩
   lt:=λi b hi=>hs.lt k b (p2 i b hi).2
   okl:=λi b hi=>by
    rw[hok2];refine⟨hs.okl k b (p2 i b hi).2,λj hj hjb=>hj (hs.inj j k b hjb (p2 i b hi).2)⟩
   inj:=λi j b hi hj=>by rw[(p2 i b hi).1,(p2 j b hj).1]
   obj:=λi b hi=>by
    obtain⟨h0,hb⟩:=p2 i b hi;subst h0;obtain⟨o,ho,hat⟩:=hs.obj k b hb;rw[hk]at ho;cases ho;obtain⟨arr,el,fz,h1,h2,h3,h4⟩:=hat;exact⟨_,rfl,arr,el,fz,h1,h2,h3,VList.ofdata _ _ (VList.mono cd _ _ (VList.todata _ _ hcs h4))⟩
   bare:=λi o ho hi=>by
    rcases i with _|i
    ·rw[p20]at hi;cases ho;exact hs.bare k _ hk hi
    ·simp at ho
   glob:=λg v hg=>by
    have:=hs.glob g v hg;exact VRel.ofdata _ _ (VRel.mono cd _ _ (VRel.todata _ _ rfl this))
   exa:=λg q hg=>by
    obtain⟨h1,cs',ty,fz,h2,h3⟩:=hs.exa g q hg;exact⟨⟨by rw[hok2];exact⟨h1.1,λi _=>h1.2 i⟩,λi hi=>h1.2 k (p2 i _ hi).2⟩,cs',ty,fz,h2,h3⟩}
 refine(hc _ _ w vs hs3 hl2).mono ?_;rintro en w' ⟨p,pl',h',ae,hs',kp,hen,rfl,hh0,hp0⟩;have p'0:∀b,pl k=ar b->pl' 0=ar b:=λb hb=>kp.keep 0 b hp0 (by rw[p20];exact hb);have ksame:∀b,b<w.heap.size->pl k≠ar b->w'.heap[b]? =w.heap[b]? :=λb hb hno=>kp.same b hb λi hi=>hno (p2 i b hi).2;have hdat:CExt (λ_=>am) (cx ok2 pl' w').data (cx ok pl w').data :=
  {
   dat:=λb hb hok=>by
    have h1:ok2 b:=hok.1;rw[hok2]at h1;have h2:∀i,pl i≠ar b:=λi hi=>by
     by_cases hik:i=k
     ·subst hik;exact hok.2 0 (p'0 b hi)
     ·exact h1.2 i hik hi
    exact⟨⟨h1.1,h2⟩,rfl⟩
   pl:=λi b _ hi=>by cases hi
   row:=λb arr el fz hb=>⟨arr,fz,hb,rfl⟩}
 have kk:Keeps (λ_=>am) pl w pl w' :=
  {
   os:=kp.os,tape:=kp.tape,output:=kp.output,size:=kp.size,row:=kp.row
   same:=λb hb hno=>ksame b hb (hno k)
   loc:=λi b hi=> .inl ⟨i,hi⟩
   keep:=λi b _ hi=>hi}
 have c2:=kk.cext (ok:=ok);refine⟨_,pl,h,.ret r,?_,kk,?_,hR⟩
 ·exact
  {
   fresh:=λb hb=>hs.fresh b (Nat.le_trans kp.size hb)
   lt:=λi b hi=>Nat.lt_of_lt_of_le (hs.lt i b hi) kp.size
   okl:=hs.okl
   inj:=hs.inj
   obj:=λi b hi=>by
    by_cases hik:i=k
    ·subst hik;obtain⟨o,ho,hat⟩:=hs'.obj 0 b (p'0 b hi);rw[hh0]at ho;cases ho;obtain⟨arr,el,fz,h1,h2,h3,h4⟩:=hat;exact⟨_,hk,arr,el,fz,h1,h2,h3,VList.ofdata _ _ (VList.mono hdat _ _ (VList.todata _ _ hcs h4))⟩
    ·obtain⟨o,ho,hat⟩:=hs.obj i b hi;exact⟨o,ho,OAt.mono c2 (ksame b (hs.lt i b hi) λhkb=>hik (hs.inj i k b hi hkb)) hat⟩
   bare:=hs.bare
   glob:=λg v hg=>(hs.glob g v hg).glob_next c2
   exa:=λg cs hg=>(hs.exa g cs hg).next c2}
 ·revert hen
  cases en <;> first
   |exact λhen=>VRel.ofdata _ _ (VRel.mono hdat _ _ (VRel.todata _ _ hr hen))
   |exact id
end
end Go.Abs
