/- Lemmas for this claim, part F07: each holds under what it names. -/
import Derived.Test.YthaijohbpdabfaaGreatDoorRF06
import Derived.Test.YthaijohbpdabfaaGreatDoorRA10
import Derived.Test.YthaijohbpdabfaaGreatDoorRF01
import Derived.Test.YthaijohbpdabfaaGreatDoorRF03
set_option linter.all false
set_option maxRecDepth 20000
set_option maxHeartbeats 4000000
namespace Go.Proofs.YthaijohbpdabfaaGreatDoor
open Go Go.Proofs Go.Abs
open List renaming length → aa, replicate → ao
open Bool renaming true → ab, false → ac
open Option renaming some → al, none → aq
open Decidable renaming decide → ar
open Go.IntKind renaming wrap → aD
open Go.Result renaming andThen → aM
open Go.Abs.O renaming cells → am
open Go.Abs.V renaming drops → ap, dat → aE, dats → aL
structure Wt(n:Nat)(N B:List (List Nat)):Prop where
 lN:aa N=n
 lB:aa B=n
 iff:∀j k,k∈N.getD j []↔j∈B.getD k []
 nN:∀j,(N.getD j []).Nodup
 nB:∀k,(B.getD k []).Nodup
 lt:∀j k,k∈N.getD j []->j<n/\k<n
theorem BK{l:List Nat}{x:Nat}(h:l.Nodup)(hx:x∉l):(l++[x]).Nodup :=
 List.nodup_append.2 ⟨h,by simp,λa ha b hb hab=>by rw[zrc.1 hb]at hab;exact hx (hab▸ha)⟩
theorem Wt.add{n:Nat}{N B:List (List Nat)}(w:Wt n N B){i k:Nat}(hi:i<n)(hk:k<n)(hc:k∉N.getD i []):Wt n (N.set i (N.getD i []++[k])) (B.set k (B.getD k []++[i])):=by
 have lN:=w.lN;have lB:=w.lB;have hb:i∉B.getD k []:=λh=>hc ((w.iff i k).2 h);have gN:∀j,(N.set i (N.getD i []++[k])).getD j []=if i=j then N.getD i []++[k]else N.getD j []:=λj=>lX (by omega)
 have gB:∀j,(B.set k (B.getD k []++[i])).getD j []=if k=j then B.getD k []++[i]else B.getD j []:=λj=>lX (by omega)
 refine⟨by rw[zrn];exact lN,by rw[zrn];exact lB,λj q=> ?_,λj=> ?_,λq=> ?_,λj q hq=> ?_⟩
 ·rw[gN,gB];have h0:=w.iff j q;by_cases h1:i=j<;>by_cases h2:k=q
  ·subst h1;subst h2;simp
  ·subst h1;rw[if_pos rfl,if_neg h2,zrf,zrc,<-h0];exact⟨λh=>h.elim id (λe=>absurd e.symm h2),.inl⟩
  ·subst h2;rw[if_neg h1,if_pos rfl,zrf,zrc,h0];exact⟨.inl,λh=>h.elim id (λe=>absurd e.symm h1)⟩
  ·rw[if_neg h1,if_neg h2];exact h0
 ·rw[gN];split
  ·exact BK (w.nN i) hc
  ·exact w.nN j
 ·rw[gB];split
  ·exact BK (w.nB k) hb
  ·exact w.nB q
 ·rw[gN]at hq;split at hq
  ·rename_i h1;subst h1;rcases zrf.1 hq with h|h
   ·exact w.lt i q h
   ·rw[zrc.1 h];exact⟨hi,hk⟩
  ·exact w.lt j q hq
theorem uM{names:List S}{i n:Nat}(hi:i<n)(hn:aa names=n):∀(l:List S)(N B:List (List Nat)),Wt n N B->Wt n (fZ names i l (N,B)).1 (fZ names i l (N,B)).2
 |[],N,B,w=>w
 |s::l,N,B,w=>by
  rw[fZ];cases h:iQ names s with
  |none=>exact uM hi hn l N B w
  |some k =>
   dsimp only;split
   ·exact uM hi hn l N B w
   ·rename_i hc;exact uM hi hn l _ _ (w.add hi (by have:=zC h;omega) (by simpa using hc))
theorem BL{names:List S}{n:Nat}(hn:aa names=n):∀(r:List (List S))(i:Nat)(N B:List (List Nat)),i+aa r<=n->Wt n N B->Wt n (jy names i r (N,B)).1 (jy names i r (N,B)).2
 |[],i,N,B,_,w=>w
 |l::r,i,N,B,hi,w=>by rw[jy];have:=uM (i:=i) (by simp at hi;omega) hn l N B w;exact BL hn r (i+1) _ _ (by simp at hi;omega) this
theorem yh{names:List S}{ins:List (List S)}(h:aa names=aa ins):Wt (aa ins) (oC names ins).1 (oC names ins).2:=by
 have hr:∀j,(ao (aa ins) ([]:List Nat)).getD j []=[]:=λj=>by rw[zqg,List.getElem?_replicate];split<;>rfl
 refine BL h ins 0 _ _ (by omega) ⟨by simp,by simp,λj k=> ?_,λj=> ?_,λj=> ?_,λj k hk=> ?_⟩
 ·rw[hr,hr];simp
 ·rw[hr];exact List.nodup_nil
 ·rw[hr];exact List.nodup_nil
 ·rw[hr]at hk;cases hk
theorem uN(N:List (List Nat)):∀(l Q:List Nat),(xN N l Q).Perm (Q++l.filter λi=>(N.getD i []).isEmpty)
 |[],Q=>by rw[xN];simp
 |i::l,Q=>by
  rw[xN];by_cases h:(N.getD i []).isEmpty=ab
  ·rw[if_pos h,List.filter_cons_of_pos (by exact h)];refine(uN N l _).trans ?_;refine((qg Q i).append_right _).trans ?_;rw[zqc];rfl
  ·rw[if_neg h,List.filter_cons_of_neg (by exact h)];exact uN N l Q
structure Cv(n:Nat)(N0:List (List Nat))(D:List Nat)(N:List (List Nat))(Q:List Nat):Prop where
 lN:aa N=n
 nn:∀j,N.getD j []=(N0.getD j []).filter λk=> !D.contains k
 nd:(Q++D).Nodup
 mem:∀j,j∈Q\/j∈D↔j<n/\N.getD j []=[]
theorem Cv.born{n:Nat}{N B:List (List Nat)}(w:Wt n N B):Cv n N [] N (xN N (List.range n) []):=by
 have hp:=uN N (List.range n) [];rw[List.nil_append]at hp;refine⟨w.lN,λj=> ?_,?_,λj=> ?_⟩
 ·rw[List.filter_eq_self.2];intro a _;simp
 ·rw[zqp];exact hp.nodup_iff.2 (List.nodup_range.sublist List.filter_sublist)
 ·rw[hp.mem_iff,List.mem_filter,List.mem_range,List.isEmpty_iff];simp
structure Fv(n:Nat)(N0:List (List Nat))(D:List Nat)(a:Nat)(r:List Nat)(N:List (List Nat))(Q:List Nat):Prop where
 lN:aa N=n
 nn:∀j,N.getD j []=(N0.getD j []).filter λk=> !D.contains k&&(k != a||r.contains j)
 nd:(Q++(D++[a])).Nodup
 mem:∀j,j∈Q\/j∈D++[a]↔j<n/\N.getD j []=[]
theorem wC{Q:List Nat}(h:Q≠[]):Q.Perm ((oz Q).dropLast++[(oz Q).getLastD 0]):=by
 have hl:=PN h;have hne:oz Q≠[]:=λe=>by rw[e]at hl;exact h (List.eq_nil_of_length_eq_zero (by simpa using hl.symm))
 have e:(oz Q).getLastD 0=(oz Q).getLast hne:=by rw[List.getLastD_eq_getLast?,List.getLast?_eq_getLast hne];rfl
 rw[e,List.dropLast_concat_getLast hne];exact(JX h).symm
theorem Cv.pop{n:Nat}{N0 B:List (List Nat)}(w:Wt n N0 B){D Q:List Nat}{N:List (List Nat)}(c:Cv n N0 D N Q)(h:Q≠[]) :
 Fv n N0 D ((oz Q).getLastD 0) (B.getD ((oz Q).getLastD 0) []) N (oz Q).dropLast:=by
 have hp:=wC h;refine⟨c.lN,λj=> ?_,?_,λj=> ?_⟩
 ·rw[c.nn];refine List.filter_congr λk hk=> ?_;by_cases hka:k=(oz Q).getLastD 0
  ·have:=(w.iff j k).1 hk;rw[hka]at this;have h1:(B.getD ((oz Q).getLastD 0) []).contains j=ab:=List.contains_iff_mem.2 this;rw[h1,Bool.or_true,Bool.and_true]
  ·have:(k != (oz Q).getLastD 0)=ab:=by simpa using hka
   rw[this,Bool.true_or,Bool.and_true]
 ·have:=(hp.append_right D).nodup_iff.1 c.nd;refine List.Perm.nodup_iff ?_ |>.1 this;rw[zqc];exact List.Perm.append_left _ List.perm_append_comm
 ·rw[<-c.mem j,hp.mem_iff];simp only[zrf,zrc];constructor
  ·rintro(h|h|h)
   ·exact .inl (.inl h)
   ·exact .inr h
   ·exact .inl (.inr h)
  ·rintro((h|h)|h)
   ·exact .inl h
   ·exact .inr (.inr h)
   ·exact .inr (.inl h)
theorem Fv.step{n:Nat}{N0 B:List (List Nat)}(w:Wt n N0 B){D Q r:List Nat}{a i:Nat}{N:List (List Nat)}(c:Fv n N0 D a (i::r) N Q)(hi:i∈B.getD a [])(hr:i∉r) :
 Fv n N0 D a r (N.set i ((N.getD i []).filter (· != a))) (if((N.getD i []).filter (· != a)).isEmpty=ab then FO Q i else Q):=by
 have ha:a∈N0.getD i []:=(w.iff i a).2 hi;have hin:=(w.lt i a ha).1;have lN:=c.lN;have had:a∉D:=λh=>by have:=(List.nodup_append.1 c.nd).2.1;exact(List.nodup_append.1 this).2.2 a h a (by simp) rfl
 have hai:a∈N.getD i []:=by rw[c.nn,List.mem_filter];refine⟨ha,?_⟩;simp[had]
 have hni:¬(i∈Q\/i∈D++[a]):=λh=>by rw[((c.mem i).1 h).2]at hai;cases hai
 have g:∀j,(N.set i ((N.getD i []).filter (· != a))).getD j []=if i=j then(N.getD i []).filter (· != a)else N.getD j []:=λj=>lX (by omega)
 refine⟨by rw[zrn];exact lN,λj=> ?_,?_,λj=> ?_⟩
 ·rw[g];split
  ·rename_i hij;subst hij;rw[c.nn,List.filter_filter];refine List.filter_congr λk _=> ?_;have h1:(i::r).contains i=ab:=by simp
   have h2:r.contains i=ac:=by simpa using hr
   rw[h1,h2];cases(k != a)<;>simp
  ·rename_i hij;rw[c.nn];refine List.filter_congr λk _=> ?_;have:(i::r).contains j=r.contains j:=by
    rw[List.contains_cons,beq_eq_false_iff_ne.2 (λe=>hij e.symm),Bool.false_or]
   rw[this]
 ·split
  ·refine((qg Q i).append_right _).nodup_iff.2 ?_;rw[zqc];refine List.nodup_append.2 ⟨(List.nodup_append.1 c.nd).1,List.nodup_cons.2 ⟨λh=>hni (.inr h),(List.nodup_append.1 c.nd).2.1⟩,λx hx y hy hxy=> ?_⟩;subst hxy;rcases zrj.1 hy with h|h
   ·exact hni (.inl (h▸hx))
   ·exact(List.nodup_append.1 c.nd).2.2 x hx x h rfl
  ·exact c.nd
 ·rw[g];by_cases he:((N.getD i []).filter (· != a)).isEmpty=ab
  ·rw[if_pos he,(qg Q i).mem_iff,zrf,zrc];by_cases hij:i=j
   ·subst hij;rw[if_pos rfl];exact⟨λ_=>⟨hin,List.isEmpty_iff.1 he⟩,λ_=> .inl (.inr rfl)⟩
   ·rw[if_neg hij,<-c.mem j];exact⟨λh=>h.elim (λh=>h.elim .inl λe=>absurd e.symm hij) .inr,λh=>h.elim (λh=> .inl (.inl h)) .inr⟩
  ·rw[if_neg he];by_cases hij:i=j
   ·subst hij;rw[if_pos rfl];exact⟨λh=>absurd h hni,λh=>absurd (List.isEmpty_iff.2 h.2) he⟩
   ·rw[if_neg hij,<-c.mem j]
theorem Fv.done{n:Nat}{N0:List (List Nat)}{D Q:List Nat}{a:Nat}{N:List (List Nat)}(c:Fv n N0 D a [] N Q):Cv n N0 (D++[a]) N Q:=by
 refine⟨c.lN,λj=> ?_,c.nd,c.mem⟩;rw[c.nn];refine List.filter_congr λk _=> ?_;by_cases h:k=a
 ·subst h;simp
 ·have:(k != a)=ab:=by simpa using h
  rw[this];simp[h]
theorem uO:∀ {n:Nat} {l:List Nat},l.Nodup->(∀x∈l,x<n)->aa l<=n
 |0,l,_,hl=>by
  cases l with
  |nil=>exact zrb _
  |cons x l=>exact absurd (hl x (by simp)) (Nat.not_lt_zero _)
 |n+1,l,h,hl=>by
  by_cases hn:n∈l
  ·have:=uO (n:=n) (h.erase n) (λx hx=>by
    have h1:=hl x (List.mem_of_mem_erase hx);have h2:x≠n:=λe=>by subst e;exact(List.Nodup.mem_erase_iff h).1 hx |>.1 rfl
    omega)
   rw[List.length_erase_of_mem hn]at this;omega
  ·have:=uO (n:=n) h (λx hx=>by
    have h1:=hl x hx;have h2:x≠n:=λe=>hn (e▸hx);omega)
   omega
theorem Cv.len{n:Nat}{N0:List (List Nat)}{D Q:List Nat}{N:List (List Nat)}(c:Cv n N0 D N Q):aa Q+aa D<=n:=by have:=uO c.nd (λx hx=>((c.mem x).1 (zrf.1 hx)).1);simpa using this
theorem Fv.len{n:Nat}{N0:List (List Nat)}{D Q r:List Nat}{a:Nat}{N:List (List Nat)}(c:Fv n N0 D a r N Q):aa Q+aa D+1<=n:=by have:=uO c.nd (λx hx=>((c.mem x).1 (zrf.1 hx)).1);simp at this;omega
def DN(b n:Nat):List V:=(List.range n).map λj=> .lm (b+(7+n+2*j+1))
theorem Gq{b n:Nat}:aa (DN b n)=n:=by simp[DN]
theorem Gs{b n j:Nat}(h:j<n)(d:V):(DN b n).getD (j*1) d= .lm (b+(7+n+2*j+1)):=by unfold DN;rw[Nat.mul_one,zqg,zqo,List.getElem?_range h];rfl
theorem UR(b n:Nat):V.shs b (jO n n)=DN b n:=by
 have:∀l:List Nat,(∀j∈l,j<n)->V.shs b (l.map λj=>if j<n then V.lm (7+n+2*j+1)else .nilm)=l.map λj=> .lm (b+(7+n+2*j+1)):=by
  intro l
  induction l with
  |nil=>intro _;rfl
  |cons a l ih=>intro h;rw[zrd,V.shs,if_pos (h a (by simp)),ih λj hj=>h j (by simp[hj])];rfl
 exact this _ λj hj=>List.mem_range.1 hj
theorem Jb{p:Nat->Bool}{b n:Nat}(hp:∀j,j<n->p (b+(7+n+2*j+1))=ac):ap p (DN b n)=DN b n:=nI λv hv=>by obtain⟨j,hj,rfl⟩:=zrh.1 hv;rw[V.drop,hp j (List.mem_range.1 hj)];rfl
def UT(B:List (List Nat)):List V:=B.map λl=> .is ac 1 (dh l)
structure CS(Hp:List Nat->H->Prop)(b n K nr:Nat)(B:List (List Nat))(out:List Nat)(M:List (List Nat))(Q:List Nat)(h:H):Prop where
 hp:Hp out (h.take b)
 xn:h[b+nr]? =al (am (DN b n))
 xm:∀j,j<n->h[b+(7+n+2*j+1)]? =al (Tf (M.getD j []))
 xw:h[K]? =al (am [.ls (b+nr) 1 0 n n,.is ac 1 (UT B)])
 pi:HPi (K+1) (K+2) Q h
 r:nr<7/\4<=nr/\b+nr<K/\∀j,j<n->b+(7+n+2*j+1)<K
 lM:aa M=n
theorem CS.next{Hp:List Nat->H->Prop}{b n K nr:Nat}{B:List (List Nat)}{out out':List Nat}{M:List (List Nat)}{Q Q':List Nat}{h h':H}(s:CS Hp b n K nr B out M Q h)(hp:Hp out' (h'.take b)){p:Nat->Bool}
 (hd:∀j,b<=j->j<=K->h'[j]? =(h[j]?).map (O.drop p)\/h'[j]? =h[j]?) (hpp:∀j,b<=j->j<=K->p j=ac) (pi:HPi (K+1) (K+2) Q' h'):CS Hp b n K nr B out' M Q' h':=by
 obtain⟨r1,r2,r3,r4⟩:=s.r;have key:∀(j:Nat)(o:O),b<=j->j<=K->h[j]? =al o->o.drop p=o->h'[j]? =al o:=λj o h1 h2 h3 h4=>by
  rcases hd j h1 h2 with h5|h5
  ·rw[h5,h3,zrw,h4]
  ·rw[h5,h3]
 refine⟨hp,key _ _ (by omega) (by omega) s.xn ?_,λj hj=>key _ _ (by omega) (by have:=r4 j hj;omega) (s.xm j hj) ?_,key _ _ (by omega) (by omega) s.xw ?_,pi,s.r,s.lM⟩
 ·show am (ap p _)=_;rw[Jb λj hj=>hpp _ (by omega) (by have:=r4 j hj;omega)]
 ·show O.map (ap p _) (ap p _)=_;rw[nG,bG]
 ·show am [V.drop p _,V.drop p _]=_;rw[V.drop,hpp _ (by omega) (by omega)];rfl
theorem CS.push{Hp:List Nat->H->Prop}{b n K nr:Nat}{B:List (List Nat)}{out:List Nat}{M:List (List Nat)}{Q:List Nat}{h:H}(s:CS Hp b n K nr B out M Q h)
 (hdrop:∀out h0 (p:Nat->Bool),Hp out h0->(∀i,i<b->p i=ac)->Hp out (h0.map (O.drop p))) (Q':List Nat):CS Hp b n K nr B out M Q' (sW (K+1) (K+2) h Q'):=by
 obtain⟨r1,r2,r3,r4⟩:=s.r;refine s.next (p:=λx=>x==K+2) ?_ (λj h1 h2=> .inl ?_) (λj h1 h2=>by rw[beq_eq_false_iff_ne];omega) (s.pi.push Q')
 ·unfold sW;rw[List.take_set_of_le (by omega),List.take_set_of_le (by omega),<-List.map_take];exact hdrop _ _ _ s.hp λi hi=>by rw[beq_eq_false_iff_ne];omega
 ·unfold sW;rw[zqn (by omega),zqn (by omega),zqo]
theorem CS.pop{Hp:List Nat->H->Prop}{b n K nr:Nat}{B:List (List Nat)}{out:List Nat}{M:List (List Nat)}{Q:List Nat}{h:H}(s:CS Hp b n K nr B out M Q h)(Q':List Nat):CS Hp b n K nr B out M Q' (I9 (K+1) (K+2) h Q'):=by
 obtain⟨r1,r2,r3,r4⟩:=s.r;refine s.next (p:=λ_=>ac) ?_ (λj h1 h2=> .inr ?_) (λj h1 h2=>rfl) (s.pi.pop Q')
 ·unfold I9;rw[List.take_set_of_le (by omega),List.take_set_of_le (by omega)];exact s.hp
 ·unfold I9;rw[zqn (by omega),zqn (by omega)]
theorem CS.told{Hp:List Nat->H->Prop}{b n K nr:Nat}{B:List (List Nat)}{out out':List Nat}{M:List (List Nat)}{Q:List Nat}{h h':H}(s:CS Hp b n K nr B out M Q h)(hp:Hp out' (h'.take b)){p:Nat->Bool}
 (hd:∀j,b<=j->h'[j]? =(h[j]?).map (O.drop p)) (hpp:∀j,b<=j->p j=ac):CS Hp b n K nr B out' M Q h':=by
 obtain⟨r1,r2,r3,r4⟩:=s.r;refine s.next hp (λj h1 _=> .inl (hd j h1)) (λj h1 _=>hpp j h1) ⟨?_,?_,s.pi.ne⟩
 ·rw[hd _ (by omega),s.pi.p];show al (am [V.drop p _])=_;rw[V.drop,hpp _ (by omega)];rfl
 ·rw[hd _ (by omega),s.pi.q];show al (am (ap p _))=_;rw[bG]
theorem CS.del{Hp:List Nat->H->Prop}{b n K nr:Nat}{B:List (List Nat)}{out:List Nat}{M:List (List Nat)}{Q:List Nat}{h:H}(s:CS Hp b n K nr B out M Q h){i:Nat}(hi:i<n)(l:List Nat) :
 CS Hp b n K nr B out (M.set i l) Q (h.set (b+(7+n+2*i+1)) (Tf l)):=by
 obtain⟨r1,r2,r3,r4⟩:=s.r;have hk:=r4 i hi;have hlt:=(zqe (s.xm i hi)).1;have lM:=s.lM;refine⟨?_,?_,λj hj=> ?_,?_,⟨?_,?_,s.pi.ne⟩,s.r,by rw[zrn];exact lM⟩
 ·rw[List.take_set_of_le (by omega)];exact s.hp
 ·rw[zqn (by omega)];exact s.xn
 ·rw[lX (by omega)];by_cases hij:i=j
  ·subst hij;rw[if_pos rfl,zqt hlt]
  ·rw[if_neg hij,zqn (by omega)];exact s.xm j hj
 ·rw[zqn (by omega)];exact s.xw
 ·rw[zqn (by omega)];exact s.pi.p
 ·rw[zqn (by omega)];exact s.pi.q
theorem wE{α:Type}[BEq α][LawfulBEq α]:∀(l:List α)(k:Nat)(h:k<aa l),l.Nodup->l.filter (· != l[k])=l.eraseIdx k
 |x::l,0,_,hn=>by have hx:=(List.nodup_cons.1 hn).1;rw[List.eraseIdx_cons_zero,List.getElem_cons_zero,List.filter_cons_of_neg (by simp)];exact List.filter_eq_self.2 λy hy=>by simpa using λe:y=x=>hx (e▸hy)
 |x::l,k+1,h,hn=>by
  have hx:=(List.nodup_cons.1 hn).1;have hk:k<aa l:=by simpa using h
  rw[List.eraseIdx_cons_succ,List.getElem_cons_succ,List.filter_cons_of_pos (by simpa using λe:x=l[k]=>hx (e▸zqu hk)),wE l k hk (List.nodup_cons.1 hn).2]
theorem Qo{l:List Nat}(hl:l.Nodup)(a:Nat):YE (.int .i64) (nv a) (dh l) (uK (aa l))=al (dh (l.filter (· != a)),uK (aa (l.filter (· != a)))):=by
 unfold YE;rw[nH];cases h:Gj l a with
 |none =>
  have h1:a∉l:=by have:=yg.1 h;simpa using this
  have:l.filter (· != a)=l:=List.filter_eq_self.2 λx hx=>by simpa using λe:x=a=>h1 (e▸hx)
  rw[this]
 |some k =>
  obtain⟨h1,h2⟩:=Gl h;have e:l.filter (· != a)=l.eraseIdx k:=by rw[<-h2];exact wE l k h1 hl
  rw[e];show al ((dh l).eraseIdx k,(uK (aa l)).eraseIdx k)=_;rw[List.eraseIdx_replicate,if_pos h1,List.length_eraseIdx,if_pos h1,dh,<-fC]
theorem BM:∀m:Nat,aL (uK m)=ab
 |0=>rfl
 |m+1=>by show(_&&aL (uK m))=ab;rw[BM m];rfl
theorem Qp{B:List (List Nat)}{f:Nat}{N:List (List Nat)}{Q:List Nat}(h:Q≠[]):lI B (f+1) N Q=(oz Q).getLastD 0::lI B f (o8 ((oz Q).getLastD 0) (B.getD ((oz Q).getLastD 0) []) (N,(oz Q).dropLast)).1 (o8 ((oz Q).getLastD 0) (B.getD ((oz Q).getLastD 0) []) (N,(oz Q).dropLast)).2:=by rw[lI,if_neg (by rw[List.isEmpty_iff];exact h)]
theorem UU{B:List (List Nat)}{N:List (List Nat)}:∀ {f:Nat},lI B f N []=[]
 |0=>rfl
 |f+1=>by rw[lI];rfl
theorem DR[MO](c:Ci)(hn:(aQ c).Nodup)(hl:aa c.gates<=900000)(hin:∀g∈c.gates,aa g.ins<=1000000){b y:Nat}(Hp:List Nat->H->Prop)(kp:Nat->Prop)(hky:kp y)(hkb:∀i,kp i->i<b)
 (hdrop:∀out h0 (p:Nat->Bool),Hp out h0->(∀i,i<b->p i=ac)->Hp out (h0.map (O.drop p)))
 (step:∀out a h,Hp out (h.take b)->b<=aa h->aa out<aa c.gates->a<aa c.gates->a∉out->YC TE y [nv a] h λj h'' p=>j=aq/\(∀i,kp i\/b<=i->p i=ac)/\Hp (out++[a]) (h''.take b)/\∀j,b<=j->h''[j]? =(h[j]?).map (O.drop p))
 (h:H) (h0:Hp [] (h.take b)) (hb:aa h=b) :
 ag TE 171 ([]++[.yd y]++[.ip c.v]) h λae h' p=>(∀i,kp i->p i=ac)/\match ae with
  | .ret _=>Hp (oD (aQ c) (gins c)) (h'.take b)/\b<=aa h'
  | .pan _=>False:=by
 have hM:=mLx;obtain⟨n,hnn⟩:∃n,n=aa c.gates:=⟨_,rfl⟩;refine aj Tryz.func171 rfl (by simp[nts]) (vm ?_);simp only[wq.1,↓reduceIte,Nat.reduceLT,Nat.reduceAdd,Tryz.results171];refine qN (Nv c hn (by omega) hin) (by simp[aL,xk]) ?_;rintro ae h' p ⟨nr,N,B,hWV,hNl,hBl,r1,r2,rfl,xn,xm⟩;obtain⟨X,hX⟩:∃X,X=h++h'.map (O.sh (aa h)):=⟨_,rfl⟩;obtain⟨K,hK⟩:∃K,K=aa X:=⟨_,rfl⟩;obtain⟨BV,hBV⟩:∃BV,BV=UT B:=⟨_,rfl⟩;rw[<-hnn]at xn xm hNl hBl ⊢;have e1:(V.agg [.ls nr 1 0 n n,byV B]).sh (aa h)= .agg [.ls (b+nr) 1 0 n n,.is ac 1 BV]:=by rw[hBV,<-hb];rfl
 have hw0:∀(o:O) j,h'[j]? =al o->X[b+j]? =al (o.sh b):=λo j ho=>by rw[hX,zsb (by omega),hb,Nat.add_sub_cancel_left,zqo,ho];rfl
 have xn0:=hw0 _ _ xn;have hKl:∀(j:Nat)(o:O),X[j]? =al o->j<K:=λj o ho=>by rw[hK];exact(zqe ho).1
 have xn1:X[b+nr]? =al (am (DN b n)):=by rw[xn0];show al (am (V.shs b _))=_;rw[UR]
 have xm1:∀j,j<n->X[b+(7+n+2*j+1)]? =al (Tf (N.getD j [])):=λj hj=>by rw[hw0 _ _ (xm j hj)];show al (O.map (V.shs b _) (V.shs b _))=_;rw[V.shs_dats b _ (lC _),V.shs_dats b _ (BM _)]
 have htk:X.take b=h:=by rw[hX,List.take_left' hb]
 have hbK:b<=K:=by rw[hK,hX,zqa];omega
 rw[<-hX];have g1:∀x:O,(X++[x])[K]? =al x:=λx=>by rw[hK];simp
 have g2:∀x y:O,(X++[x]).set K y=X++[y]:=λx y=>by rw[hK];simp
 have g3:∀x:O,aa (X++[x])=K+1:=λx=>by rw[hK];simp
 simp only[wq.1,↓reduceIte,Nat.reduceEqDiff,Nat.reduceLT,Nat.reduceAdd,Nat.reduceMul,AEnd.sh,e1,<-hK,g1,g2];refine⟨⟨rfl,by decide⟩,?_⟩;obtain⟨h1,hh1⟩:∃h1:H,h1=X++[am [.ls (b+nr) 1 0 n n,.is ac 1 BV],am [.ls (K+2) 1 0 0 0],am []]:=⟨_,rfl⟩;refine gI ?_;refine mF (h':=h1) ?_ ?_
 ·have:=HLe.set (h:=X++[am [V.ls (b+nr) 1 0 n n,V.is ac 1 BV]]++[am [V.is ab 1 []]]++[am []]) (i:=K+1) (o:=am [.is ab 1 []]) (o':=am [.ls (K+2) 1 0 0 0]) (by rw[hK];simp) (OLe.cells (zrb _) (dm.cons (Gg (x:=ab)) dm.nil));have e:(X++[am [V.ls (b+nr) 1 0 n n,V.is ac 1 BV]]++[am [V.is ab 1 []]]++[am []]).set (K+1) (am [V.ls (K+2) 1 0 0 0])=h1:=by rw[hh1,hK];simp
  rw[e]at this;exact this
 have old:∀j o,X[j]? =al o->h1[j]? =al o:=λj o ho=>by rw[hh1,zqj (zqe ho).1];exact ho
 have w:=yh (names:=aQ c) (ins:=gins c) (by simp);rw[hWV,show aa (gins c)=n by rw[hnn];simp]at w;have cs:CS Hp b n K nr B [] N [] h1:=by
  refine⟨?_,old _ _ xn1,λj hj=>old _ _ (xm1 j hj),?_,⟨?_,?_,by omega⟩,⟨r1,r2,hKl _ _ xn1,λj hj=>hKl _ _ (xm1 j hj)⟩,hNl⟩
  ·rw[hh1,List.take_append_of_le_length (by omega),htk,zqh (by omega)]at *;exact h0
  ·rw[hh1,hK,hBV];simp
  ·rw[hh1,hK];simp
  ·rw[hh1,hK];simp
 have hS:oD (aQ c) (gins c)=lI B n N (xN N ((List.range n).drop 0) []):=by unfold oD;rw[hWV,show aa (gins c)=n by rw[hnn];simp];rfl
 obtain⟨S,hSS⟩:∃S,S=oD (aQ c) (gins c):=⟨_,rfl⟩;rw[<-hSS]at hS ⊢;have hb1:b<=aa h1:=by rw[hh1];simp;omega
 have hbo := Cv.born w;obtain ⟨Q1,hQ1⟩ : ∃ Q1,Q1 = xN N (List.range n) [] := ⟨_,rfl⟩;rw [List.drop_zero,<- hQ1] at hS;rw [<- hQ1] at hbo;refine aF (λm f h => ∃ (i : Nat) (Q : List Nat),m + i = n /\ i <= n /\ aa Q <= i /\ CS Hp b n K nr B [] N Q h /\ b <= aa h /\ Q1 = xN N ((List.range n).drop i) Q /\ f.t 0 = .yd y /\ f.t 1 = .ip c.v /\ f.t 3 = .lp K 0 /\ f.t 4 = .lp (K + 1) 0 /\ f.t 15 = vi n /\ f.t 16 = vi i /\ f.d = [] /\ (∀ j,kp j -> f.k j = ac)) n
  ⟨0,[],by omega,by omega,zrb _,cs,hb1,hQ1,by simp only[wq.1,seval],by simp only[wq.1,seval],by simp only[wq.1,seval],by simp only[wq.1,seval],by simp only[wq.1,seval];rw[hnn],by simp only[wq.1,↓reduceIte];rfl,by simp only[wq.1],λ_ _=>rfl⟩ ?_
 clear hb1 cs old hh1 h1 xn1 xm1 hw0 xn0 htk g1 g2 g3 e1 hKl;rintro m f h1 ⟨i,Q,hm,hil,hQl,cs,hb1,hQi,t0,t1,t3,t4,t15,t16,hd,hk⟩;have hw:=aA (show i<maxLen by omega);have xw:=cs.xw;have xn:=cs.xn;have lnn:aa c.gates=n:=hnn.symm;refine vn ?_;simp only[wq.1,Nat.reduceLT,t15,t16];refine vn ?_;simp only[wq.1,↓reduceIte];refine vcB.mk (λhlt=> ?_) (λhlt=> ?_)
 ·have hlt:i<n:=by have:=zqs hlt;omega
  have hdr:(List.range n).drop i=i::(List.range n).drop (i+1):=by rw[List.drop_eq_getElem_cons (by simpa using hlt),List.getElem_range]
  rw[hdr,xN]at hQi;have hng:=Gs (b:=b) hlt .any;have hnl:=Gq (b:=b) (n:=n);have xm:=cs.xm i hlt;simp only[wq.1];refine vn ?_;simp only[wq.1,seval,t3,t16,xw,xn,hng,xm];refine⟨⟨by omega,by omega⟩,by omega,?_⟩;refine vcB.mk (λhe=> ?_) (λhe=> ?_)
  ·have he:(N.getD i []).isEmpty=ab:=by rw[beq_iff_eq]at he;rw[List.isEmpty_iff];exact List.eq_nil_of_length_eq_zero (by omega)
   rw[if_pos he]at hQi;simp only[wq.1,seval,t4];refine⟨by decide,by decide,?_⟩;refine zB cs.pi (by omega) i ?_;have y1:(y==K+2)=ac:=by rw[beq_eq_false_iff_ne];have:=hkb y hky;omega
   have y2:(K==K+2)=ac:=by rw[beq_eq_false_iff_ne];omega
   have y3:(K+1==K+2)=ac:=by rw[beq_eq_false_iff_ne];omega
   simp only[wq.1,bC,hd];refine vm ?_;simp only[wq.1,seval,t16,hw];have hql:=JY Q i;refine .inl ⟨m-1,by omega,i+1,FO Q i,by omega,by omega,by omega,cs.push hdrop _,by unfold sW;simp;exact hb1,hQi,by simp only[wq.1,seval,t0,y1],by simp only[wq.1,seval,t1],by simp only[wq.1,seval,t3,y2],by simp only[wq.1,seval,t4,y3],by simp only[wq.1,seval,t15],by simp only[wq.1,↓reduceIte],by simp only[wq.1,hd],λj hj=> ?_⟩;have y4:(j==K+2)=ac:=by rw[beq_eq_false_iff_ne];have:=hkb j hj;omega
   simp only[wq.1,hk j hj,y4]
  ·have he:¬(N.getD i []).isEmpty=ab:=λh=>by rw[List.isEmpty_iff]at h;rw[h]at he;cases he
   rw[if_neg he]at hQi;simp only[wq.1];refine vm ?_;simp only[wq.1,seval,t16,hw];exact .inl ⟨m-1,by omega,i+1,Q,by omega,by omega,by omega,cs,hb1,hQi,by simp only[wq.1,seval,t0],by simp only[wq.1,seval,t1],by simp only[wq.1,seval,t3],by simp only[wq.1,seval,t4],by simp only[wq.1,seval,t15],by simp only[wq.1,↓reduceIte],by simp only[wq.1,hd],λj hj=>by simp only[wq.1,hk j hj]⟩
 ·have hi:i=n:=by have:=of_decide_eq_false hlt;omega
  subst hi;rw [List.drop_eq_nil_of_le (by simp),xN] at hQi;subst hQi;simp only [wq.1];refine aF (λm f h => ∃ (out : List Nat) (M : List (List Nat)) (Q : List Nat),m = i - aa out /\ CS Hp b i K nr B out M Q h /\ b <= aa h /\ Cv i N out M Q /\ S = out ++ lI B (i - aa out) M Q /\ f.t 0 = .yd y /\ f.t 3 = .lp K 0 /\ f.t 4 = .lp (K + 1) 0 /\ f.d = [] /\ (∀ j,kp j -> f.k j = ac)) i
   ⟨[],N,Q1,rfl,cs,hb1,hbo,hS,by simp only[wq.1,seval,t0],by simp only[wq.1,seval,t3],by simp only[wq.1,seval,t4],by simp only[wq.1,hd],λj hj=>by simp only[wq.1,hk j hj]⟩ ?_
  clear t0 t1 t3 t4 t15 t16 hd hk cs hb1 xw xn hw hQl hil hbo hS hm;clear h1 f m;rintro m f h1 ⟨out,M,Q,hm,cs,hb1,cv,hS,t0,t3,t4,hd,hk⟩;have xw:=cs.xw;have xn:=cs.xn;have xp:=cs.pi.p;have hlen:=cv.len;refine vn ?_;simp only[wq.1,seval,t4,xp];refine ww ?_;simp only[wq.1,seval];refine vcB.mk (λhq=> ?_) (λhq=> ?_)
  ·have hq:0<aa Q:=by have:=zqs hq;omega
   have hQ0:Q≠[]:=List.length_pos_iff.1 hq;have fv:=cv.pop w hQ0;obtain⟨fu,hfu⟩:∃fu,i-aa out=fu+1:=⟨i-aa out-1,by omega⟩;rw[hfu,Qp hQ0]at hS;obtain⟨a,ha⟩:∃a,a=(oz Q).getLastD 0:=⟨_,rfl⟩;obtain⟨Q2,hQ2⟩:∃Q2,Q2=(oz Q).dropLast:=⟨_,rfl⟩;rw[<-ha,<-hQ2]at hS fv;have haD:a∈out++[a]:=by simp
   have hai:a<i:=((fv.mem a).1 (.inr haD)).1;have hao:a∉out:=λh=>(List.nodup_append.1 (List.nodup_append.1 fv.nd).2.1).2.2 a h a (by simp) rfl;simp only[wq.1];refine aB ?_;refine vn ?_;simp only[wq.1,seval,t4];refine⟨by decide,?_⟩;refine Nu cs.pi (by omega) hQ0 ?_;rw[<-ha,<-hQ2];have cs2:=cs.pop Q2;obtain⟨h2,hh2⟩:∃h2,h2=I9 (K+1) (K+2) h1 Q2:=⟨_,rfl⟩;have hb2:b<=aa h2:=by rw[hh2];unfold I9;simp;exact hb1
   rw[<-hh2]at cs2 ⊢;simp only[wq.1,seval];refine⟨by decide,?_⟩;obtain⟨t2,n',ps,asg,body,pend,hLL,hsz,hps2,hwy⟩:=step out a h2 cs2.hp hb2 (by omega) (by omega) hao;refine vn ?_;simp only[wq.1,seval,t0,hLL];refine⟨⟨by simpa using hsz,hps2⟩,pJ hwy ?_⟩;rintro j h3 p hp ⟨rfl,hpk,hHp,hh3⟩;refine⟨by simp[ui,hd],?_⟩;obtain⟨r1,r2,r3,r4⟩:=cs2.r;have pK:p K=ac:=hpk _ (.inr hbK);have pK1:p (K+1)=ac:=hpk _ (.inr (by omega));have cs3:=cs2.told hHp hh3 (λj hj=>hpk j (.inr hj));have hb3:b<=aa h3:=by
    have:=(zqe cs3.xw).1;omega
   have xw:=cs3.xw;rw[<-hBV]at xw;have hBVl:aa BV=i:=by rw[hBV];unfold UT;rw[zra];exact hBl
   have hBVg:BV.getD a .any= .is ac 1 (dh (B.getD a [])):=by rw[hBV];unfold UT;rw[fG (by omega),zqg,zqk (by omega)];rfl
   simp only[wq.1,seval,Option.isNone_none];refine vn ?_;simp only[wq.1,seval,t3,pK,xw,hBVl,hBVg];refine⟨⟨by omega,by omega⟩,?_⟩;refine aB ?_;obtain⟨Ba,hBa⟩:∃Ba,Ba=B.getD a []:=⟨_,rfl⟩;have hBn:Ba.Nodup:=by rw[hBa];exact w.nB a
   have hBi : ∀ j,j ∈ Ba -> j ∈ B.getD a [] := λj hj => hBa ▸ hj;have hBm : ∀ j,j ∈ Ba -> j < i := λj hj => (w.lt j a ((w.iff j a).2 (hBi j hj))).1;have hBl2 : aa Ba <= i := uO hBn hBm;rw [<- hBa] at hS fv ⊢;obtain ⟨F,hF⟩ : ∃ F,F = o8 a Ba (M,Q2) := ⟨_,rfl⟩;rw [<- hF] at hS;have hF0 : F = o8 a (Ba.drop 0) (M,Q2) := hF;have fv0 : Fv i N out a (Ba.drop 0) M Q2 := fv;refine aF (λm f h => ∃ (k : Nat) (M : List (List Nat)) (Q : List Nat),m + k = aa Ba /\ k <= aa Ba /\ CS Hp b i K nr B (out ++ [a]) M Q h /\ b <= aa h /\ Fv i N out a (Ba.drop k) M Q /\ F = o8 a (Ba.drop k) (M,Q) /\ f.t 0 = .yd y /\ f.t 3 = .lp K 0 /\ f.t 4 = .lp (K + 1) 0 /\ f.t 6 = nv a /\ f.t 49 = .is ac 1 (dh Ba) /\ f.t 50 = vi (aa Ba) /\ f.t 51 = vi k /\ f.d = [] /\ (∀ j,kp j -> f.k j = ac)) (aa Ba)
    ⟨0,M,Q2,by omega,by omega,cs3,hb3,fv0,hF0,by simp only[wq.1,seval,t0,hp],by simp only[wq.1,seval,t3,pK],by simp only[wq.1,seval,t4,pK1],by simp only[wq.1,seval],by simp only[wq.1,seval],by simp only[wq.1,seval],by simp only[wq.1,↓reduceIte];rfl,by simp only[wq.1,hd],λj hj=>by simp only[wq.1,hk j hj,hpk j (.inl hj)]⟩ ?_
   clear fv fv0 hF0 hF cs3 hb3 xw t0 t3 t4 hd hk hHp hh3 hpk pK pK1 hp hLL hwy cs2 hb2 hh2 cs hb1 xn xp cv hBVg hBVl hsz hps2;rintro m1 f h1 ⟨k,M,Q,hm1,hkl,cs,hb1,fv,hF,t0,t3,t4,t6,t49,t50,t51,hd,hk⟩;have hwk:=aA (show k<maxLen by omega);have xw:=cs.xw;have xn:=cs.xn;refine vn ?_;simp only[wq.1,Nat.reduceLT,t50,t51];refine vn ?_;simp only[wq.1,↓reduceIte];refine vcB.mk (λhkt=> ?_) (λhkt=> ?_)
   ·have hkt:k<aa Ba:=by have:=zqs hkt;omega
    obtain⟨g,hg⟩:∃g,g=Ba[k]:=⟨_,rfl⟩;have hgm:g∈Ba:=hg▸zqu hkt;have hgi:=hBm g hgm;have hbg:(dh Ba).getD k .any=nv g:=by rw[Zx hkt,zqg,zqk hkt,<-hg];rfl
    rw[List.drop_eq_getElem_cons hkt,<-hg]at fv hF;rw[o8]at hF;have hgr:g∉Ba.drop (k+1):=by
     have h1:(Ba.drop k).Nodup:=hBn.sublist (List.drop_sublist _ _);rw[List.drop_eq_getElem_cons hkt,<-hg]at h1;exact(List.nodup_cons.1 h1).1
    have fv2:=fv.step w (hBi g hgm) hgr;have hfl:=fv2.len;have xm:=cs.xm g hgi;obtain⟨Mg,hMg⟩:∃Mg,Mg=M.getD g []:=⟨_,rfl⟩;rw[<-hMg]at fv2 hF xm;have hMn:Mg.Nodup:=by rw[hMg,fv.nn];exact(w.nN g).sublist List.filter_sublist
    have hmd:=Qo hMn a;obtain⟨Mf,hMf⟩:∃Mf,Mf=Mg.filter (· != a):=⟨_,rfl⟩;rw[<-hMf]at fv2 hF hmd;have cs2:=cs.del hgi Mf;have hng:=Gs (b:=b) hgi .any;have hnl:=Gq (b:=b) (n:=i);simp only[wq.1];refine ak ?_;refine aB ?_;refine vn ?_;simp only[wq.1,seval,t49,t51,hbg];refine⟨⟨by omega,by omega⟩,?_⟩;refine ak (iE ?_);refine az rfl rfl ?_;simp only[wq.1,seval,t3];refine az rfl rfl ?_;simp only[wq.1,seval,xw];refine az rfl rfl ?_;simp only[wq.1,seval];refine az rfl rfl ?_;simp only[wq.1,seval];refine⟨⟨by omega,by omega⟩,?_⟩;refine az rfl rfl ?_;simp only[wq.1,↓reduceIte,xn,hng];refine⟨by omega,?_⟩;refine az rfl rfl ?_;simp only[wq.1,seval,t6];have hq1:ti TE.P 248=al ⟨.map 3 4,1,8,.nilm⟩:=by simp only[wq.1]
    have hqi:ti TE.P 3=al ⟨.int .i64,1,8,.int .i64 0⟩:=by simp only[wq.1]
    refine dM rfl rfl ?_;refine Bq (kt':=0) (t:=248) rfl rfl (id:=b+(7+i+2*g+1)) (by simp only[wq.1,seval]) (by simp only[wq.1,seval]) (by simp only[wq.1,↓reduceIte]) hq1 rfl hqi (by simp only[wq.1,↓reduceIte,Abs.K.keyOk]) (ks:=dh Mg) (vs:=uK (aa Mg)) xm (by simp only[wq.1,↓reduceIte];exact hmd) ?_;refine dL ?_;obtain⟨h2,hh2⟩:∃h2,h2=h1.set (b+(7+i+2*g+1)) (Tf Mf):=⟨_,rfl⟩;have hb2:b<=aa h2:=by rw[hh2,zrn];exact hb1
    rw[<-hh2]at cs2 ⊢;have zw:=cs2.xw;have zn:=cs2.xn;have zm:=cs2.xm g hgi;rw[lX (by have:=cs.lM;omega),if_pos rfl]at zm;obtain⟨M2,hM2⟩:∃M2,M2=M.set g Mf:=⟨_,rfl⟩;rw[<-hM2]at cs2 fv2 hF;clear hh2 xw xn xm;simp only[wq.1];refine vn ?_;simp only[wq.1,seval,t3,zw,zn,zm,hng];refine⟨⟨by omega,by omega⟩,by omega,?_⟩;refine vm ?_;simp only[wq.1,↓reduceIte];refine vcB.mk (λhe=> ?_) (λhe=> ?_)
    ·have he:Mf.isEmpty=ab:=by rw[beq_iff_eq]at he;rw[List.isEmpty_iff];exact List.eq_nil_of_length_eq_zero (by omega)
     rw[if_pos he]at fv2 hF;simp only[wq.1,seval,t4];refine⟨by decide,by decide,?_⟩;have hql:=JY Q g;have hql2:=fv2.len;refine zB cs2.pi (by omega) g ?_;have y1:(y==K+2)=ac:=by rw[beq_eq_false_iff_ne];have:=hkb y hky;omega
     have y2:(K==K+2)=ac:=by rw[beq_eq_false_iff_ne];omega
     have y3:(K+1==K+2)=ac:=by rw[beq_eq_false_iff_ne];omega
     simp only[wq.1,bC,hd];refine vm ?_;simp only[wq.1,seval,t51,hwk];refine .inl ⟨m1-1,by omega,k+1,M2,FO Q g,by omega,by omega,cs2.push hdrop _,by unfold sW;simp;exact hb2,fv2,hF,by simp only[wq.1,seval,t0,y1],by simp only[wq.1,seval,t3,y2],by simp only[wq.1,seval,t4,y3],by simp only[wq.1,seval,t6],by simp only[wq.1,seval,t49],by simp only[wq.1,seval,t50],by simp only[wq.1,↓reduceIte],by simp only[wq.1,hd],λj hj=> ?_⟩;have y4:(j==K+2)=ac:=by rw[beq_eq_false_iff_ne];have:=hkb j hj;omega
     simp only[wq.1,hk j hj,y4]
    ·have he:¬Mf.isEmpty=ab:=λh=>by rw[List.isEmpty_iff]at h;rw[h]at he;cases he
     rw[if_neg he]at fv2 hF;simp only[wq.1];refine vm ?_;simp only[wq.1,seval,t51,hwk];exact .inl ⟨m1-1,by omega,k+1,M2,Q,by omega,by omega,cs2,hb2,fv2,hF,by simp only[wq.1,seval,t0],by simp only[wq.1,seval,t3],by simp only[wq.1,seval,t4],by simp only[wq.1,seval,t6],by simp only[wq.1,seval,t49],by simp only[wq.1,seval,t50],by simp only[wq.1,↓reduceIte],by simp only[wq.1,hd],λj hj=>by simp only[wq.1,hk j hj]⟩
   ·have hke:k=aa Ba:=by have:=of_decide_eq_false hkt;omega
    subst hke;rw[List.drop_length]at fv hF;rw[o8]at hF;subst hF;have cv2:=fv.done;have hln:=cv2.len;simp only[wq.1];have hol:aa (out++[a])=aa out+1:=by simp
    rw[hol]at hln;refine .inl ⟨i-(aa out+1),by omega,out++[a],M,Q,by rw[hol],cs,hb1,cv2,?_,by simp only[wq.1,seval,t0],by simp only[wq.1,seval,t3],by simp only[wq.1,seval,t4],by simp only[wq.1,hd],λj hj=>by simp only[wq.1,hk j hj]⟩;rw[hS,hol,zqc,show i-(aa out+1)=fu by omega];rfl
  ·have hq:Q=[]:=by have:=of_decide_eq_false hq;exact List.eq_nil_of_length_eq_zero (by omega)
   subst hq;rw[UU,zqp]at hS;subst hS;simp only[wq.1,hd];exact⟨hk,cs.hp,hb1⟩
abbrev Sum(c:Ci):Prop:=aa c.ins+aa c.lat+aa c.gates<=9000000000000000000
theorem lY(c:Ci):aL [c.v]=ab:=by show(aE c.v&&ab)=ab;rw[xk];rfl
theorem UV[MO]{c:Ci}(h:Sum c):Ev TE 109 [c.v] (.bool (ar ((ou c).1=0))):=by
 have hN:=Gf c h;have e:((ou c).1==0)=ar ((ou c).1=0):=by rw[Bool.eq_iff_iff,beq_iff_eq,zqb]
 refine ai Tryz.func109 rfl (by simp[nts]) (vm ?_);simp only[wq.1,seval,Tryz.results109];refine ag.ev hN (lY c) ?_;simp only[wq.1,seval,e];exact aC.dat rfl
theorem Qq[MO](c:Ci):Ev TE 111 [c.v] (.fn (.func 171) [] [.ip c.v]):=by refine ai Tryz.func111 rfl (by simp[nts]) (vm ?_);simp only[wq.1,seval,Tryz.results111];exact aC.fn au.nil (au.cons (aC.lp rfl (au.dat (by have:=xk c;unfold Ci.v at this;simpa only[aE]using this)) rfl (xk c) (by simp[V.vc,Ci.v]) rfl) au.nil)
def jV(n:Nat)(out:List Nat):List Nat:=(List.range n).filter λi=> !out.contains i
def uP(l:List S)(out:List Nat):List S:=(jV (aa l) out).map λi=>l.getD i []
def qj(l:List S)(out:List Nat):O:= .map ((uP l out).map V.str) (dh (jV (aa l) out))
theorem Qr{n:Nat}{out:List Nat}{a:Nat}:jV n (out++[a])=(jV n out).filter (· != a):=by unfold jV;rw[List.filter_filter];refine List.filter_congr λi _=> ?_;rw[List.contains_eq_mem,List.contains_eq_mem,Bool.eq_iff_iff];simp[and_comm]
theorem XL{l:List S}(hl:l.Nodup){out:List Nat}{a:Nat}(ha:a<aa l):(at? (uP l out) (l.getD a [])).isSome= !out.contains a:=by
 rw[sV];rw[Bool.eq_iff_iff,List.contains_iff_mem];unfold uP jV;rw[zrh];constructor
 ·rintro⟨i,hi,he⟩;rw[List.mem_filter,List.mem_range]at hi;have:i=a:=by
   rw[zqg,zqg,zqk hi.1,zqk ha]at he;exact(List.getElem_inj hl).1 he
  subst this;exact hi.2
 ·intro h;exact⟨a,List.mem_filter.2 ⟨List.mem_range.2 ha,h⟩,rfl⟩
structure NS(l:List S)(out:List Nat)(NR:Nat)(nvs:List S)(h:H):Prop where
 s1:h[1]? =al (am [.ls 5 1 0 (aa out) (aa out)])
 s3:h[3]? =al (qj l out)
 s4:h[4]? =al (am [.lm 3])
 s5:h[5]? =al (am (dh out))
 s6:h[6]? =al (.misc .dfd)
 sN:h[NR]? =al (am (nvs.map V.str))
 r:8<=NR
theorem NS.more{l:List S}{out:List Nat}{NR:Nat}{nvs:List S}{h:H}(k:NS l out NR nvs h)(o:O):NS l out NR nvs (h++[o]):=by
 have old:∀j x,h[j]? =al x->(h++[o])[j]? =al x:=λj x hx=>by rw[zqj (zqe hx).1];exact hx
 exact⟨old _ _ k.s1,old _ _ k.s3,old _ _ k.s4,old _ _ k.s5,old _ _ k.s6,old _ _ k.sN,k.r⟩
theorem NS.app{l:List S}{out:List Nat}{NR:Nat}{nvs:List S}{h:H}(k:NS l out NR nvs h)(nvs':List S):NS l out NR nvs' ((h.map (O.drop λx=>x==NR)).set NR (am (nvs'.map V.str))):=by
 have r:=k.r;have hlt:=(zqe k.sN).1;have b:∀j,j<8->(j==NR)=ac:=λj hj=>by rw[beq_eq_false_iff_ne];omega
 have old:∀j x,j<8->h[j]? =al x->x.drop (λx=>x==NR)=x->((h.map (O.drop λx=>x==NR)).set NR (am (nvs'.map V.str)))[j]? =al x:=λj x hj hx hd=>by rw[zqn (by omega),zqo,hx,zrw,hd]
 refine⟨old _ _ (by omega) k.s1 ?_,old _ _ (by omega) k.s3 ?_,old _ _ (by omega) k.s4 ?_,old _ _ (by omega) k.s5 ?_,old _ _ (by omega) k.s6 rfl,zqt (by simpa using hlt),r⟩
 ·show am [V.drop _ _]=_;rw[V.drop,b 5 (by omega)];rfl
 ·show O.map (ap _ _) (ap _ _)=_;rw[aN,bG];rfl
 ·show am [V.drop _ _]=_;rw[V.drop,b 3 (by omega)];rfl
 ·show am (ap _ _)=_;rw[bG]
def EG(l:List S)(out:List Nat)(i:Nat):List S:=((List.range i).filter λj=> !out.contains j).map λj=>l.getD j []
theorem Qs{l:List S}{out:List Nat}{i:Nat}:EG l out (i+1)=if(!out.contains i)=ab then EG l out i++[l.getD i []]else EG l out i:=by
 unfold EG;rw[List.range_succ,List.filter_append,zql];split
 ·rename_i h;rw[List.filter_cons_of_pos (p:=λj=> !out.contains j) h];rfl
 ·rename_i h;rw[List.filter_cons_of_neg (p:=λj=> !out.contains j) h];simp
theorem UW{l:List S}{out:List Nat}{i:Nat}:aa (EG l out i)<=i:=by unfold EG;rw[zra];exact Nat.le_trans (List.length_filter_le _ _) (by rw[List.length_range];exact zrb _)
theorem Qu{l:List S}(hl:l.Nodup){out:List Nat}{a:Nat}(ha:a<aa l)(ho:a∉out):YE .str (.str (l.getD a [])) ((uP l out).map V.str) (dh (jV (aa l) out))=al ((uP l (out++[a])).map V.str,dh (jV (aa l) (out++[a]))):=by
 have hn:(jV (aa l) out).Nodup:=List.nodup_range.sublist List.filter_sublist;have hm:a∈jV (aa l) out:=by unfold jV;rw[List.mem_filter];exact⟨List.mem_range.2 ha,by simpa using ho⟩
 have hs:l.getD a []∈uP l out:=zrh.2 ⟨a,hm,rfl⟩;obtain⟨k,hk⟩:=IZ hs;obtain⟨h1,h2⟩:=lh hk;have h1':k<aa (jV (aa l) out):=by unfold uP at h1;simpa using h1
 have hka:(jV (aa l) out)[k]=a:=by
  have h3:(jV (aa l) out)[k]<aa l:=by have:=zqu h1';unfold jV at this;exact List.mem_range.1 (List.mem_filter.1 this).1
  have h4:l.getD (jV (aa l) out)[k] []=l.getD a []:=by rw[<-h2];simp[uP]
  rw[zqg,zqg,zqk h3,zqk ha]at h4;exact(List.getElem_inj hl).1 h4
 unfold YE;rw[bF,hk];have e:=wE (jV (aa l) out) k h1' hn;rw[hka,<-Qr]at e;show al (((uP l out).map V.str).eraseIdx k,(dh (jV (aa l) out)).eraseIdx k)=_;unfold uP;have e3:dh ((jV (aa l) out).eraseIdx k)=(dh (jV (aa l) out)).eraseIdx k:=fC ..;rw[e,fC,fC,e3]
def zG(L:(Nat->V)->LoopState->Option Code->O)(c:Ci)(out:List Nat)(t:Nat->V):H:=[ciO c,am [.ls 5 1 0 (aa out) (aa out)],ciO c,qj (aQ c) out,am [.lm 3],am (dh out),.misc .dfd,L t .ready aq]
def sHp(L:(Nat->V)->LoopState->Option Code->O)(c:Ci)(out:List Nat)(h0:H):Prop:=∃t,t 1= .lp 0 0/\t 4= .lp 1 0/\t 5= .lp 4 0/\h0=zG L c out t
theorem Qv[MO](c:Ci)(hs:Sum c):Ev TE 59 [c.v] (.tup [.is ac 1 (dh (jA c).1),aJ (jA c).2]):=by
 have hM:=mLx;have hR:=UV hs;have hC:=Qq c;unfold jA;refine ai Tryz.func59 rfl (by simp[nts]) ?_;refine vn ?_;simp only[wq.1,Nat.reduceLT,Tryz.results59];refine vn ?_;simp only[wq.1,seval];refine ag.ev hR (lY c) ?_;simp only[wq.1,seval];by_cases h0:(ou c).1=0
 ·rw[if_pos h0];have ok:=(zg c).1 h0;have lm:=P9 ok.lim;have hnd:=lV ok.nets;have hg:=lm.gates;simp only[wq.1,h0];refine vn ?_;simp only[wq.1,Nat.reduceLT];refine vn ?_;simp only[wq.1,seval];refine qN (xq c hnd (by omega)) (lY c) ?_;rintro ae h' p ⟨rfl,rfl⟩;have hsh:O.sh 2 (ciO c)=ciO c:=by
   show am (V.shs 2 _)=_;rw[V.shs_dats 2 _ (by have:=xk c;unfold Ci.v at this;simpa only[aE]using this)]
  have hsp:O.sh 2 (plO (aQ c))=plO (aQ c):=by show O.map (V.shs 2 _) (V.shs 2 _)=_;rw[V.shs_dats 2 _ ax,V.shs_dats 2 _ (lC _)];rfl
  simp only[wq.1,seval,AEnd.sh,V.sh,hsh,hsp];have hpl:plO (aQ c)=qj (aQ c) []:=by
   have e:jV (aa (aQ c)) []=List.range (aa (aQ c)):=by unfold jV;rw[List.filter_eq_self.2];intro a _;rfl
   unfold plO qj;rw[e];unfold uP;rw[e,Kv (aQ c) [] (λs=>s),List.map_id']
  rw[hpl];refine gI ?_;refine mF (h':=[ciO c,am [.ls 5 1 0 0 0],ciO c,qj (aQ c) [],am [.lm 3],am []]) (HLe.set (i:=1) (o':=am [.ls 5 1 0 0 0]) rfl (OLe.cells (zrb _) (dm.cons dV dm.nil))) ?_;refine ak ?_;refine vn ?_;simp only[wq.1,seval];refine ag.ev hC (lY c) ?_;simp only[wq.1];refine aB ?_;refine jr (n:=54) (q:=171) (first:=[]) (captured:=[.ip c.v]) (by simp only[wq.1,↓reduceIte]) (by simp only[wq.1,↓reduceIte]) rfl (by decide) ?_;intro L hLd gets;have hgd:aa c.gates=aa (aQ c):=by simp
  refine ag.mono (DR c hnd (by omega) (λg hg=>by have:=lm.gins g hg;omega) (b:=8) (y:=7) (sHp L c) (λi=>i<8/\i≠5) (by decide) (λi hi=>hi.1) ?_ ?_ _ ⟨_,?_,?_,?_,rfl⟩ rfl) ?_
  ·rintro out h0 p ⟨t,t1,t4,t5,rfl⟩ hp;refine⟨λi=>(t i).drop p,?_,?_,?_,?_⟩
   ·show(t 1).drop p=_;rw[t1,V.drop,hp 0 (by omega)];rfl
   ·show(t 4).drop p=_;rw[t4,V.drop,hp 1 (by omega)];rfl
   ·show(t 5).drop p=_;rw[t5,V.drop,hp 4 (by omega)];rfl
   ·unfold zG;simp only[zrd,List.map_nil,hLd];have e5:V.drop p (.ls 5 1 0 (aa out) (aa out))= .ls 5 1 0 (aa out) (aa out):=by rw[V.drop,hp 5 (by omega)];rfl
    have e3:V.drop p (.lm 3)= .lm 3:=by rw[V.drop,hp 3 (by omega)];rfl
    have el:O.drop p (qj (aQ c) out)=qj (aQ c) out:=by show O.map (ap p _) (ap p _)=_;rw[aN,bG];rfl
    have ei:O.drop p (ciO c)=ciO c:=rfl;rw[el,ei];simp only[O.drop,ap,e5,e3,bG]
  ·rintro out a h ⟨t,t1,t4,t5,he⟩ hbl hol ha hao;obtain⟨X,hX⟩:∃X,X=h.drop 8:=⟨_,rfl⟩;have hh:h=zG L c out t++X:=by rw[hX,<-he,List.take_append_drop]
   clear he hX hbl;subst hh;refine gets _ _ _ t rfl rfl (λlb=> ?_);obtain⟨HC,hHC⟩:∃HC,HC=[ciO c,am [.ls 5 1 0 (aa out) (aa out)],ciO c,qj (aQ c) out,am [.lm 3],am (dh out),.misc .dfd,L t .busy aq]++X:=⟨_,rfl⟩;obtain⟨X3,hX3⟩:∃X3,X3=dh (out++[a]):=⟨_,rfl⟩;have e7:(zG L c out t++X).set 7 (L t .busy aq)=HC:=by rw[hHC];rfl
   have e70:(zG L c out t++X)[7]? =al (L t .ready aq):=rfl;have g0:HC[0]? =al (am [aJ c.ins,aJ c.outs,kY c.lat,iU c.gates]):=by rw[hHC];rfl
   have g1:HC[1]? =al (am [.ls 5 1 0 (aa out) (aa out)]):=by rw[hHC];rfl
   have g5:HC[5]? =al (am (dh out)):=by rw[hHC];rfl
   have hnx:dh out++[V.int .i64 (a:Int)]=X3:=by rw[hX3,dh,dh,zql];rfl
   have hd3:ap (λx=>x==5) X3=X3:=by rw[hX3,bG]
   have hgg:=uH ha .any;obtain⟨g,hg⟩:∃g,g=c.gates[a]:=⟨_,rfl⟩;rw[<-hg]at hgg;refine vm ?_;simp only[wq.1,↓reduceIte,Nat.reduceLT,Nat.reduceAdd,uq];refine⟨t,e70,?_⟩;rw[e7];refine aB ?_;refine vn ?_;have g1':((HC.map (O.drop λx=>x==5)).set 5 (am X3))[1]? =al (am [.any]):=by rw[hHC];rfl
   simp only[wq.1,↓reduceIte,Nat.reduceEqDiff,Nat.reduceLT,Nat.reduceBEq,reduceCtorEq,Nat.reduceMul,t4,g1,g5,hnx,hd3,g1'];obtain⟨t',ht'⟩:∃t':Nat->V,t'=λi=>(t i).drop λx=>x==5:=⟨_,rfl⟩;have t1':t' 1= .lp 0 0:=by rw[ht'];show(t 1).drop _=_;rw[t1];rfl
   have t4':t' 4= .lp 1 0:=by rw[ht'];show(t 4).drop _=_;rw[t4];rfl
   have t5':t' 5= .lp 4 0:=by rw[ht'];show(t 5).drop _=_;rw[t5];rfl
   obtain⟨HD,hHD⟩:∃HD,HD=[ciO c,am [.ls 5 1 0 (aa out+1) (aa out+1)],ciO c,qj (aQ c) out,am [.lm 3],am X3,.misc .dfd,L t' .busy aq]++X.map (O.drop λx=>x==5):=⟨_,rfl⟩;have e8:((HC.map (O.drop λx=>x==5)).set 5 (am X3)).set 1 (am [.ls 5 1 0 (aa out+1) (aa out+1)])=HD:=by
    have el:O.drop (λx=>x==5) (qj (aQ c) out)=qj (aQ c) out:=by show O.map (ap _ _) (ap _ _)=_;rw[aN,bG];rfl
    have ei:O.drop (λx=>x==5) (ciO c)=ciO c:=rfl;rw[hHC,hHD,zql];simp only[zrd,List.map_nil,hLd,el,ei,<-ht'];rfl
   have f0:HD[0]? =al (am [aJ c.ins,aJ c.outs,kY c.lat,iU c.gates]):=by rw[hHD];rfl
   have f4:HD[4]? =al (am [.lm 3]):=by rw[hHD];rfl
   have f3:HD[3]? =al (qj (aQ c) out):=by rw[hHD];rfl
   rw[e8];refine⟨⟨rfl,by decide⟩,⟨by omega,by omega,by omega⟩,?_⟩;refine Pq mixed (by decide +kernel) ?_;simp only[nts,List.size_toArray,zrt,List.length_nil,Nat.reduceAdd,Nat.reduceSub,List.take_succ_cons,List.take_zero];simp only[wq.1,seval,bJ,bT,t1,t5,f0,f4,hgg];refine⟨⟨by omega,by omega⟩,?_⟩;have hgn:(aQ c).getD a []=g.name:=by
    rw[hg,zqg,zqo,zqk ha];rfl
   have hmd:=Qu hnd (out:=out) (a:=a) (by omega) hao;rw[hgn]at hmd;have hq1:ti TE.P 178=al ⟨.map 9 3,1,8,.nilm⟩:=by simp only[wq.1]
   have hqs:ti TE.P 9=al ⟨.str,1,16,.str []⟩:=by simp only[wq.1]
   refine⟨_,rfl,rfl,rfl,?_⟩;refine Bq (kt':=0) (t:=178) rfl rfl (id:=3) (by simp only[wq.1,seval]) (by simp only[wq.1,seval]) (by simp only[wq.1,↓reduceIte]) hq1 rfl hqs (by simp only[wq.1,↓reduceIte,K.keyOk]) f3 (by simp only[wq.1,↓reduceIte];rw[hgd];exact hmd) ?_;obtain⟨HE,hHE⟩:∃HE,HE=HD.set 3 (qj (aQ c) (out++[a])):=⟨_,rfl⟩;have hlo:O.map ((uP (aQ c) (out++[a])).map V.str) (dh (jV (aa (aQ c)) (out++[a])))=qj (aQ c) (out++[a]):=rfl;rw[hlo,<-hHE];have h7:HE[7]? =al (L t' .busy aq):=by rw[hHE,hHD];rfl
   simp only[wq.1,Nat.reduceBEq,oQ,XE.jump,h7];have hf:HE.set 7 (L t' .ready aq)=zG L c (out++[a]) t'++X.map (O.drop λx=>x==5):=by
    have hol:aa (out++[a])=aa out+1:=by simp
    unfold zG;rw[hHE,hHD,hX3,hol];rfl
   refine⟨t',.busy,rfl,λi hi=>by rw[beq_eq_false_iff_ne];omega,⟨t',t1',t4',t5',?_⟩,λj hj=> ?_⟩
   ·show List.take 8 (HE.set 7 (L t' .ready aq))=_;rw[hf];rfl
   ·show(HE.set 7 (L t' .ready aq))[j]? =_;have b8:∀o tt,aa (zG L c o tt)=8:=λ_ _=>rfl;rw[hf,zsb (by rw[b8];exact hj),zsb (by rw[b8];exact hj),zqo,b8,b8]
  ·simp only[wq.1,seval]
  ·simp only[wq.1,seval]
  ·simp only[wq.1,seval]
  ·rintro ae h' p ⟨hp4,hr⟩;cases ae with
   |pan v=>exact hr.elim
   |ret v =>
    obtain⟨⟨t,t1,t4,t5,he⟩,hl8⟩:=hr;obtain⟨X,hX⟩:∃X,X=h'.drop 8:=⟨_,rfl⟩;obtain⟨out,hout⟩:∃out,out=oD (aQ c) (gins c):=⟨_,rfl⟩;rw[<-hout]at he;have hh:h'=zG L c out t++X:=by rw[hX,<-he,List.take_append_drop]
    clear he hX hl8;subst hh;refine⟨?_,hp4 7 (by decide),t,_,aq,(by decide),rfl,?_⟩
    ·intro i hi;have hi:i=6:=by simpa [ui,uj]using hi
     subst hi;exact hp4 6 (by decide)
    ·have k0:=hp4 0 (by decide);have k1:=hp4 1 (by decide);have k3:=hp4 3 (by decide);have k4:=hp4 4 (by decide);have k6:=hp4 6 (by decide);have k7:=hp4 7 (by decide);obtain⟨HS,hHS⟩:∃HS,HS=(zG L c out t++X).set 7 (L t .exhausted aq):=⟨_,rfl⟩;obtain⟨NR,hNR⟩:∃NR,NR=aa HS:=⟨_,rfl⟩;have hN8:8<=NR:=by rw[hNR,hHS];simp[zG]
     have s1:HS[1]? =al (am [.ls 5 1 0 (aa out) (aa out)]):=by rw[hHS];rfl
     have s0:HS[0]? =al (am [aJ c.ins,aJ c.outs,kY c.lat,iU c.gates]):=by rw[hHS];rfl
     have s3:HS[3]? =al (qj (aQ c) out):=by rw[hHS];rfl
     have s4:HS[4]? =al (am [.lm 3]):=by rw[hHS];rfl
     have s5:HS[5]? =al (am (dh out)):=by rw[hHS];rfl
     have s6:HS[6]? =al (.misc .dfd):=by rw[hHS];rfl
     simp only[wq.1,Nat.reduceAdd,AC];rw[<-hHS];clear hHS;refine vn ?_;simp only[wq.1,Nat.reduceLT];refine vn ?_;simp only[wq.1,seval,k0,s0];refine iF 7 1 (by simp only[wq.1,seval]) ?_;have ns:NS (aQ c) out NR [] (HS++[am []]):=by
      have old:∀j x,HS[j]? =al x->(HS++[am []])[j]? =al x:=λj x hx=>by rw[zqj (zqe hx).1];exact hx
      exact⟨old _ _ s1,old _ _ s3,old _ _ s4,old _ _ s5,old _ _ s6,by rw[hNR];simp,hN8⟩
     have hfin:kV (aQ c) (gins c)=EG (aQ c) out (aa c.gates):=by unfold kV EG;rw[<-hout,hgd]
     rw [show oD (List.map (λx => x.name) c.gates) (List.map (λx => x.ins) c.gates) = out from hout.symm,show kV (List.map (λx => x.name) c.gates) (List.map (λx => x.ins) c.gates) = EG (aQ c) out (aa c.gates) from hfin];refine aF (λm f h => ∃ i,m + i = aa c.gates /\ i <= aa c.gates /\ NS (aQ c) out NR (EG (aQ c) out i) h /\ f.t 4 = .lp 1 0 /\ f.t 5 = .lp 4 0 /\ f.t 7 = .ls NR 1 0 (aa (EG (aQ c) out i)) (aa (EG (aQ c) out i)) /\ f.t 32 = iU c.gates /\ f.t 33 = vi (aa c.gates) /\ f.t 34 = vi i /\ f.d = [6]) (aa c.gates)
      ⟨0,by omega,by omega,ns,by simp only[wq.1,seval,k1],by simp only[wq.1,seval,k4],by(simp only[wq.1,↓reduceIte];rw[hNR];rfl),by simp only[wq.1,seval],by simp only[wq.1,seval],by simp only[wq.1,↓reduceIte,Nat.reduceEqDiff];rfl,by simp only[wq.1]⟩ ?_
     clear ns s0 s1 s3 s4 s5 s6 k0 k1 k3 k4 k6 k7 hp4;rintro m f h ⟨i,hm,hil,ns,t4,t5,t7,t32,t33,t34,hd⟩;have hw:=aA (show i<maxLen by omega);have n4:=ns.s4;have n3:=ns.s3;have n6:=ns.s6;have nN:=ns.sN;have n1:=ns.s1;have nl:=UW (l:=aQ c) (out:=out) (i:=i);refine vn ?_;simp only[wq.1,Nat.reduceLT,t33,t34];refine vn ?_;simp only[wq.1,↓reduceIte];refine vcB.mk (λhlt=> ?_) (λhlt=> ?_)
     ·have hlt:i<aa c.gates:=by have:=zqs hlt;omega
      obtain⟨g,hg⟩:∃g,g=c.gates[i]:=⟨_,rfl⟩;have hgg:=uH hlt .any;rw[<-hg]at hgg;have hgn:(aQ c).getD i []=g.name:=by rw[hg,zqg,zqo,zqk hlt];rfl
      have hla:=XL hnd (out:=out) (a:=i) (by omega);have hsu:=Qs (l:=aQ c) (out:=out) (i:=i);rw[hgn]at hla hsu;obtain⟨cp,hcp⟩:∃cp:O,cp=am [.str g.name,vi g.op,aJ g.ins,aJ g.rows,.bool g.off]:=⟨_,rfl⟩;have ns2:=ns.more cp;have hgE:∀x:O,(h++[x])[aa h]? =al x:=λx=>by simp
      have hgS:∀y:O,(h++[y]).set (aa h) (am [.str g.name,vi g.op,aJ g.ins,aJ g.rows,.bool g.off])=h++[am [.str g.name,vi g.op,aJ g.ins,aJ g.rows,.bool g.off]]:=λy=>by simp
      have m4:∀o:O,(h++[o])[4]? =al (am [.lm 3]):=λo=>(ns.more o).s4;have m3:∀o:O,(h++[o])[3]? =al (qj (aQ c) out):=λo=>(ns.more o).s3;unfold qj at m3;cases hat:at? (uP (aQ c) out) g.name with
      |none=>rw[hat]at hla;rw[<-hla,if_neg (by decide)]at hsu;simp only[wq.1];refine vm ?_;simp only[wq.1,seval,t5,t32,t34,hgg,hgE,hgS,m4,m3,rU,bF,hat,hw];refine⟨⟨by omega,by omega⟩,?_⟩;refine .inl ⟨m-1,by omega,i+1,by omega,by omega,by rw[hsu,<-hcp];exact ns2,by simp only[wq.1,seval,t4],by simp only[wq.1,seval,t5],by(simp only[wq.1,seval,t7,hsu]),by simp only[wq.1,seval,t32],by simp only[wq.1,seval,t33],by simp only[wq.1,↓reduceIte],by simp only[wq.1,hd]⟩
      |some k =>
       rw[hat]at hla;rw[<-hla,if_pos (show(al k).isSome=ab from rfl)]at hsu;have hkl:k<aa (jV (aa c.gates) out):=by
        have:=(lh hat).1;unfold uP at this;rw[zra,<-hgd]at this;exact this
       have hkv:=Zx hkl .any;obtain⟨X3,hX3⟩:∃X3,X3=(EG (aQ c) out (i+1)).map V.str:=⟨_,rfl⟩;have hnx:(EG (aQ c) out i).map V.str++[.str g.name]=X3:=by rw[hX3,hsu,zql];rfl
       have hd3:ap (λx=>x==NR) X3=X3:=by rw[hX3,aN]
       have mN:∀o:O,(h++[o])[NR]? =al (am ((EG (aQ c) out i).map V.str)):=λo=>(ns.more o).sN;have b6:(6==NR)=ac:=by rw[beq_eq_false_iff_ne];omega
       have b1:(1==NR)=ac:=by rw[beq_eq_false_iff_ne];omega
       have b4:(4==NR)=ac:=by rw[beq_eq_false_iff_ne];omega
       simp only[wq.1];refine vm ?_;simp only[wq.1,↓reduceIte,Nat.reduceEqDiff,Nat.reduceLT,Nat.reduceLeDiff,Nat.reduceAdd,reduceCtorEq,Nat.reduceMul,t5,t7,t32,t34,hd,hgg,hgE,hgS,m4,m3,mN,rU,bF,hat,hkv,hnx,hd3,b6,hw];refine⟨⟨by omega,by omega⟩,⟨rfl,by decide⟩,⟨by omega,by omega,by omega⟩,?_⟩;have hln:aa (EG (aQ c) out (i+1))=aa (EG (aQ c) out i)+1:=by rw[hsu];simp
       have ns3:=ns2.app (EG (aQ c) out (i+1));rw[zql,<-hX3,hcp]at ns3;refine .inl ⟨m-1,by omega,i+1,by omega,by omega,ns3,by simp only[wq.1,seval,t4,b1],by simp only[wq.1,seval,t5,b4],by(simp only[wq.1,seval,hln]),by simp only[wq.1,seval,t32],by simp only[wq.1,seval,t33],by simp only[wq.1,↓reduceIte],by simp only[wq.1,hd]⟩
     ·have hi:i=aa c.gates:=by have:=of_decide_eq_false hlt;omega
      rw[hi]at ns t7;simp only[wq.1];refine vm ?_;simp only[wq.1,seval,t4,t7,n1,hd,mD,n6];have nr:=ns.r;refine aC.tup (au.cons (xu ?_) (au.cons (aX (id:=NR) ?_ rfl) au.nil))
      ·rw[zqn (by omega)];exact ns.s5
      ·rw[zqn (by omega)];exact ns.sN
 ·rw[if_neg h0];simp only[wq.1,seval,h0];exact aC.tup (au.cons aC.nils (au.cons aC.nils au.nil))
theorem zH[MO](c:Ci)(hs:Sum c):Ev TE 18 [c.v] (.tup [vi (kW c).1,.str (kW c).2]):=by
 have hM:=mLx;have hN:=Gf c hs;have hS:=Qv c hs;have hnd:aL (dh (jA c).1)=ab:=lC _;unfold kW;by_cases h0:(ou c).1=0
 ·have e0:((ou c).1 != 0)=ac:=by simp[h0]
  rw[if_neg (by simpa using h0)];refine ai Tryz.func18 rfl (by simp[nts]) (vm ?_);simp only[wq.1,seval,Tryz.results18];refine ag.ev hN (lY c) ?_;simp only[wq.1,↓reduceIte,Nat.reduceEqDiff,Nat.reduceLT,Nat.reduceAdd,reduceCtorEq,e0];obtain⟨nl,hnl⟩:∃nl,nl=(jA c).2:=⟨_,rfl⟩;rw[<-hnl]at hS ⊢;cases nl with
  |nil=>refine ag.ev hS (lY c) ?_;simp only[wq.1,↓reduceIte,Nat.reduceEqDiff,Nat.reduceLT,Nat.reduceAdd];rw[show ar (0<((0:Nat):Int))=ac from rfl];simp only[wq.1,seval];exact aC.tup (au.cons (aC.dat rfl) (au.cons (aC.dat rfl) au.nil))
  |cons s nl =>
   refine ag.ev hS (lY c) ?_;have hg:((s::nl).map V.str).getD 0 .any= .str s:=rfl;have hpos:ar (0<((aa nl+1:Nat):Int))=ab:=by rw[zqb];omega
   simp only[wq.1,seval,hpos];exact⟨by decide +kernel,by omega,aC.tup (au.cons (aC.dat rfl) (au.cons (aC.dat rfl) au.nil))⟩
 ·have e0:((ou c).1 != 0)=ab:=by simpa using h0
  rw[if_pos h0];refine ai Tryz.func18 rfl (by simp[nts]) (vm ?_);simp only[wq.1,seval,Tryz.results18];refine ag.ev hN (lY c) ?_;simp only[wq.1,seval,e0];exact aC.tup (au.cons (aC.dat rfl) (au.cons (aC.dat rfl) au.nil))
def rE:S->List Bool->Bool
 |_,[]=>ab
 |r,v::vs=>(r.headD 0==45||((r.headD 0==49)==v))&&rE r.tail vs
def opB(op:Nat)(l:List Bool):Bool :=
 if op<=1 then ac else if op<=5 then l.count ab==aa l else if op<=7 then ar (0<l.count ab)else l.count ab%2==1
def Qw(op:Nat):Bool:=op==1||op==3||op==5||op==7||op==9
def rF(g:Ga)(l:List Bool):Bool:=if g.op=10 then(g.rows.any λr=>rE r l) != g.off else opB g.op.toNat l != Qw g.op.toNat
def Gt:Nat->List (List Bool)
 |0=>[[]]
 |n+1=>(Gt n).flatMap λl=>[ac::l,ab::l]
theorem Gu:∀l:List Bool,l∈Gt (aa l)
 |[]=>by simp[Gt]
 |b::l=>by
  show b::l∈(Gt (aa l)).flatMap λl=>[ac::l,ab::l]
  refine List.mem_flatMap.2 ⟨l,Gu l,?_⟩;cases b<;>simp
theorem UX:∀n,n<9->∀op,op<10->JV op n=ab->((Gt n).all λl=>(((sS op n).1.any λr=>rE r l) != (sS op n).2)==(opB op l != Qw op))=ab:=by decide +kernel
theorem XM{n op:Nat}(h:JV op n=ab)(ho:op<10){l:List Bool}(hl:aa l=n):(((sS op n).1.any λr=>rE r l) != (sS op n).2)=(opB op l != Qw op):=by have h1:=zrs.1 (UX n (PK h) op ho h) l (hl▸Gu l);exact eq_of_beq h1
theorem uQ{g:Ga}(h:GOk g):jJ g=g:=by
 unfold jJ;split
 ·rename_i h1;have hh:=h.h;rw[h1.1]at hh;split
  ·rename_i h2;rcases h2 with e|e|e<;>rw[e]at hh<;>exact absurd hh (by decide)
  ·split
   ·rename_i h2;rcases h2 with e|e|e<;>rw[e]at hh<;>exact absurd hh (by decide)
   ·rfl
 ·rfl
theorem Qx{g:Ga}(h:GOk g){l:List Bool}(hl:aa l=aa g.ins):rF (aZ g) l=rF g l:=by
 unfold aZ;rw[uQ h];split
 ·rfl
 ·rename_i h1;have h1:g.op=10:=Decidable.not_not.1 h1;cases hf:jI (aa g.ins) g.rows g.off with
  |none=>rfl
  |some op=>obtain⟨f1,f2,f3⟩:=qc hf;have h2:=XM f2 f1 hl;rw[f3]at h2;unfold rF;rw[if_pos h1,h2];dsimp only;rw[if_neg (by omega),zsg]
def xO(g:Ga)(l:List Bool):Bool×Int:=if(gQ g&&aa l==aa g.ins)=ab then(rF g l,0)else(ac,1)
theorem Kw(a:Nat):∀(l:List Nat)(N:List (List Nat))(Q:List Nat)(x:Nat),x∈(o8 a l (N,Q)).2->x∈Q\/x∈l
 |[],_,_,_,h=> .inl h
 |i::l,N,Q,x,h=>by
  rw[o8]at h;rcases Kw a l _ _ x h with h|h
  ·split at h
   ·rcases zrf.1 ((qg Q i).mem_iff.1 h)with h|h
    ·exact .inl h
    ·exact .inr (by rw[zrc.1 h];simp)
   ·exact .inl h
  ·exact .inr (List.mem_cons_of_mem _ h)
theorem Ky{B:List (List Nat)}{n:Nat}(hB:∀k j,j∈B.getD k []->j<n):∀(f:Nat)(N:List (List Nat))(Q:List Nat),(∀x∈Q,x<n)->∀x∈lI B f N Q,x<n
 |0,_,_,_,x,h=>by rw[lI]at h;cases h
 |f+1,N,Q,hQ,x,h=>by
  rw[lI]at h;split at h
  ·cases h
  ·rename_i he;have hne:Q≠[]:=λe=>he (by rw[e];rfl);have hp:=wC hne;rcases zrj.1 h with rfl|h
   ·exact hQ _ (hp.mem_iff.2 (by simp))
   ·refine Ky hB f _ _ (λy hy=> ?_) x h;rcases Kw _ _ _ _ y hy with hy|hy
    ·exact hQ y (hp.mem_iff.2 (List.mem_append_left _ hy))
    ·exact hB _ _ hy
theorem yj(c:Ci):∀x∈(jA c).1,x<aa c.gates:=by
 intro x hx;unfold jA at hx;split at hx
 ·have w:=yh (names:=c.gates.map (·.name)) (ins:=c.gates.map (·.ins)) (by simp);have hb:=uN (oC (c.gates.map (·.name)) (c.gates.map (·.ins))).1 (List.range (aa (c.gates.map (·.ins)))) [];have:=Ky (n:=(c.gates.map (·.ins)).length) (λk j hj=>(w.lt j k ((w.iff j k).2 hj)).1) _ _ _ (λy hy=>by
   have:=hb.mem_iff.1 hy;rw[List.nil_append,List.mem_filter,List.mem_range]at this;exact this.1) x hx
  simpa using this
 ·cases hx
abbrev Env:=List S×List Bool
def lkE(m:Env)(s:S):Bool:=match at? m.1 s with
 |some n=>m.2.getD n ac
 |none=>ac
def ptE(m:Env)(s:S)(b:Bool):Env:=match at? m.1 s with
 |some n=>(m.1.set n s,m.2.set n b)
 |none=>(m.1++[s],m.2++[b])
def okE(m:Env):Prop:=aa m.1=aa m.2
abbrev UY(m:Env):O:= .map (m.1.map V.str) (m.2.map V.bool)
theorem Jc{m:Env}(h:okE m)(s:S)(b:Bool):okE (ptE m s b):=by
 unfold okE at h ⊢;unfold ptE;split
 ·simp only[zrn];exact h
 ·simp only[zqa,zrt,List.length_nil,h]
theorem DT{m:Env}(h:okE m)(s:S):rU .str (.str s) (m.1.map V.str) (m.2.map V.bool) (.bool ac) ac=(True,.bool (lkE m s)):=by
 unfold rU;rw[bF];unfold lkE;cases ha:at? m.1 s with
 |none=>rfl
 |some n =>
  obtain⟨h1,_⟩:=lh ha;unfold okE at h;have h2:n<aa m.2:=by omega
  show(True,(m.2.map V.bool).getD n .any)=_;rw[zqg,zqo,zqk h2];show(True,V.bool m.2[n])=(True,V.bool (m.2.getD n ac));rw[zqg,zqk h2];rfl
theorem Kz(m:Env)(s:S)(b:Bool):Ov .str (.str s) (.bool b) (m.1.map V.str) (m.2.map V.bool)=al ((ptE m s b).1.map V.str,(ptE m s b).2.map V.bool):=by
 unfold Ov;rw[bF];unfold ptE;cases ha:at? m.1 s with
 |none=>simp
 |some n=>simp[List.map_set]
def xP(ns:List S)(l:List Bool):Env:=(ns.zip l).foldl (λm p=>ptE m p.1 p.2) ([],[])
theorem DU(ns:List S)(l:List Bool):okE (xP ns l):=by
 have:∀(z:List (S×Bool))(m:Env),okE m->okE (z.foldl (λm p=>ptE m p.1 p.2) m):=λz=>by
  induction z with
  |nil=>exact λm h=>h
  |cons p z ih=>exact λm h=>ih _ (Jc h _ _)
 exact this _ _ rfl
theorem Nw{ns:List S}{l:List Bool}{i:Nat}(h1:i<aa ns)(h2:i<aa l):xP (ns.take (i+1)) (l.take (i+1))=ptE (xP (ns.take i) (l.take i)) ns[i] l[i]:=by unfold xP;rw[List.take_succ_eq_append_getElem h1,List.take_succ_eq_append_getElem h2,List.zip_append (by rw[zrl,zrl];omega),List.foldl_append];rfl
def ga0:Ga:=⟨[],0,[],[],ac⟩
def sZ(gs:List Ga)(m:Env)(a:Nat):Env:=ptE m (gs.getD a ga0).name (xO (gs.getD a ga0) ((gs.getD a ga0).ins.map (lkE m))).1
theorem DV{gs:List Ga}:∀(l:List Nat) {m:Env},okE m->okE (l.foldl (sZ gs) m)
 |[],_,h=>h
 |a::l,_,h=>DV l (Jc h _ _)
def rG(c:Ci)(st ins:List Bool):Env:=(jA c).1.foldl (sZ c.gates) (xP ((aT c).take (aa (ins++st))) (ins++st))
def ql(c:Ci)(st ins:List Bool):List Bool×List Bool×Int :=
 if(kW c).1≠0 then([],[],1)
 else if aa st≠aa c.lat\/aa ins≠aa c.ins then([],[],11)
 else(c.outs.map (lkE (rG c st ins)),c.lat.map (λq=>lkE (rG c st ins) q.next),0)
structure Fo where
 kind:Nat
 lit:Nat
 kids:Nat
abbrev Li:=Nat×UInt8
def bg:Nat->S->List Li
 |_,[]=>[]
 |i,c::r=>if c=45 then bg (i+1) r else(i,c)::bg (i+1) r
def aY(row:S):List Li:=bg 0 row
def jd(x:Li)(row:S):Bool:=(aY row).contains x
def iZ(rows:List S)(x:Li):Nat:=rows.countP (jd x)
def jP(row:S)(l:List Li):S:=l.foldl (λb x=>b.set x.1 45) row
def aS(rows:List S)(l:List Li):List S:=rows.map λr=>jP r l
def jQ(x:Li):Fo:=⟨2,if x.2=48 then 2*x.1+1 else 2*x.1,0⟩
def rH:List Fo->List Fo
 |[f]=>if f.kind=1 then []else [f]
 |l=>l
def Qy(l:List Li)(rest:List Fo):Nat:=aa l+min (aa (rH rest)) 1
def zI(l:List Li)(rest:List Fo):List Fo:=(if 1<Qy l rest then [⟨3,0,Qy l rest⟩]else [])++l.map jQ++rH rest
def fQ(rows:List S)(b:Li×Nat)(x:Li):Li×Nat:=if b.2<iZ rows x then(x,iZ rows x)else b
def xQ(n:Nat):List Li:=(List.range n).flatMap λi=>[(i,49),(i,48)]
def jW(rows:List S):Li×Nat:=(xQ (aa (rows.headD []))).foldl (fQ rows) ((0,0),0)
def jX(row:S):Bool:=row.all (·==45)
def bD(rows:List S):List Li:=(aY (rows.headD [])).filter λx=>iZ rows x==aa rows
def bK(rows:List S):Nat:=(rows.map λr=>aa (aY r)+1).sum
def wF:Nat->List S->List Fo
 |0,_=>[]
 |f+1,rows =>
  if rows=[]then [⟨0,0,0⟩]
  else if rows.any jX=ab then [⟨1,0,0⟩]
  else if bD rows≠[]then zI (bD rows) (wF f (aS rows (bD rows)))
  else if(jW rows).2<2 then⟨4,0,aa rows⟩::rows.flatMap λr=>zI (aY r) []
  else⟨4,0,2⟩::(zI [(jW rows).1] (wF f (aS (rows.filter (jd (jW rows).1)) [(jW rows).1]))++wF f (rows.filter λr=> !jd (jW rows).1 r))
def Qz(rows:List S):List Fo:=wF (bK rows+1) rows
def WF(n:Nat):Nat->List Fo->Prop
 |0,[]=>True
 |k+1,f::l=>(f.kind=2/\f.lit<2*n/\WF n k l)\/((f.kind=3\/f.kind=4)/\2<=f.kids/\WF n (f.kids+k) l)
 |_,_=>False
theorem WF.app{n:Nat}:∀ {l m:List Fo} {j k:Nat},WF n j l->WF n k m->WF n (j+k) (l++m)
 |[],m,0,k,_,h=>by rw[Nat.zero_add];exact h
 |[],_,j+1,_,h,_=>by unfold WF at h;exact h.elim
 |f::l,_,0,_,h,_=>by unfold WF at h;exact h.elim
 |f::l,m,j+1,k,h,h2=>by
  rw[Nat.add_right_comm,List.cons_append];unfold WF at h ⊢;rcases h with⟨a,b,c⟩|⟨a,b,c⟩
  ·exact .inl ⟨a,b,c.app h2⟩
  ·refine .inr ⟨a,b,?_⟩;rw[<-Nat.add_assoc];exact c.app h2
theorem mW:∀ {i:Nat} {row:S} {x:Li},x∈bg i row->i<=x.1/\x.1<i+aa row
 |i,[],x,h=>by cases h
 |i,c::r,x,h=>by
  rw[bg]at h;rw[zrt];split at h
  ·have:=mW h;omega
  ·rcases zrj.1 h with rfl|h
   ·exact⟨zrb _,by omega⟩
   ·have:=mW h;omega
theorem DW{n:Nat}:∀ {l:List Li},(∀x∈l,x.1<n)->WF n (aa l) (l.map jQ)
 |[],_=>trivial
 |x::l,h=>by rw[zrt,zrd];unfold WF;refine .inl ⟨rfl,?_,DW λy hy=>h y (by simp[hy])⟩;have:=h x (by simp);unfold jQ;dsimp only;split<;>omega
theorem WF.all{n:Nat}{l:List Li}{rest:List Fo}(hl:∀x∈l,x.1<n)(hne:l≠[])(hr:(∃f:Fo,f.kind=1/\rest=[f])\/rest=[]\/WF n 1 rest):WF n 1 (zI l rest):=by
 have hpos:0<aa l:=List.length_pos_iff.2 hne;have key:(rH rest=[]\/WF n 1 (rH rest)):=by
  rcases hr with⟨f,hf,rfl⟩|rfl|hr
  ·left;show(if f.kind=1 then []else [f])=[];rw[if_pos hf]
  ·left;rfl
  ·match rest,hr with
   |[f],hr =>
    show(if f.kind=1 then []else [f])=[]\/WF n 1 (if f.kind=1 then []else [f]);by_cases h1:f.kind=1
    ·rw[if_pos h1];exact .inl rfl
    ·rw[if_neg h1];exact .inr hr
   |[],hr=>unfold WF at hr;exact hr.elim
   |_::_::_,hr=>exact .inr hr
 unfold zI Qy;rcases key with h|h
 ·rw[h,zqp];have e:aa l+min (aa ([]:List Fo)) 1=aa l:=by simp
  rw[e];split
  ·show WF n (0+1) (_::l.map jQ);unfold WF;exact .inr ⟨.inl rfl,(show 2<=aa l by omega),DW hl⟩
  ·have:aa l=1:=by omega
   have hw:=DW hl;rw[this]at hw;exact hw
 ·have hp:0<aa (rH rest):=by
   cases hc:rH rest with
   |nil=>rw[hc]at h;unfold WF at h;exact h.elim
   |cons _ _=>simp
  have e:aa l+min (aa (rH rest)) 1=aa l+1:=by omega
  rw[e,if_pos (by omega)];show WF n (0+1) (_::(l.map jQ++rH rest));unfold WF;exact .inr ⟨.inl rfl,(show 2<=aa l+1 by omega),(DW hl).app h⟩
end Go.Proofs.YthaijohbpdabfaaGreatDoor
