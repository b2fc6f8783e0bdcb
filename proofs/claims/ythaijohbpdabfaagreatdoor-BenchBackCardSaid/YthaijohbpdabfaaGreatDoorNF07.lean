/- Lemmas for this claim, part F07: each holds under what it names. -/
import Derived.Test.YthaijohbpdabfaaGreatDoorNF06
import Derived.Test.YthaijohbpdabfaaGreatDoorNA10
import Derived.Test.YthaijohbpdabfaaGreatDoorNF01
import Derived.Test.YthaijohbpdabfaaGreatDoorNF03
set_option linter.all false
set_option maxRecDepth 20000
set_option maxHeartbeats 4000000
namespace Go.Proofs.YthaijohbpdabfaaGreatDoor
open Go Go.Proofs Go.Abs
structure Wt(n:Nat)(N B:List (List Nat)):Prop where
 lN:N.length=n
 lB:B.length=n
 iff:∀j k,k∈N.getD j []↔j∈B.getD k []
 nN:∀j,(N.getD j []).Nodup
 nB:∀k,(B.getD k []).Nodup
 lt:∀j k,k∈N.getD j []->j<n/\k<n
theorem Ah{l:List Nat}{x:Nat}(h:l.Nodup)(hx:x∉l):(l++[x]).Nodup :=
 List.nodup_append.2 ⟨h,by simp,fun a ha b hb hab=>by rw[zrc.1 hb]at hab;exact hx (hab▸ha)⟩
theorem Wt.add{n:Nat}{N B:List (List Nat)}(w:Wt n N B){i k:Nat}(hi:i<n)(hk:k<n)(hc:k∉N.getD i []):Wt n (N.set i (N.getD i []++[k])) (B.set k (B.getD k []++[i])):=by
 have lN:=w.lN;have lB:=w.lB;have hb:i∉B.getD k []:=fun h=>hc ((w.iff i k).2 h);have gN:∀j,(N.set i (N.getD i []++[k])).getD j []=if i=j then N.getD i []++[k]else N.getD j []:=fun j=>kR (by omega)
 have gB:∀j,(B.set k (B.getD k []++[i])).getD j []=if k=j then B.getD k []++[i]else B.getD j []:=fun j=>kR (by omega)
 refine⟨by rw[zrn];exact lN,by rw[zrn];exact lB,fun j q=> ?_,fun j=> ?_,fun q=> ?_,fun j q hq=> ?_⟩
 ·rw[gN,gB];have h0:=w.iff j q;by_cases h1:i=j<;>by_cases h2:k=q
  ·subst h1;subst h2;simp
  ·subst h1;rw[if_pos rfl,if_neg h2,zrf,zrc,<-h0];exact⟨fun h=>h.elim id (fun e=>absurd e.symm h2),.inl⟩
  ·subst h2;rw[if_neg h1,if_pos rfl,zrf,zrc,h0];exact⟨.inl,fun h=>h.elim id (fun e=>absurd e.symm h1)⟩
  ·rw[if_neg h1,if_neg h2];exact h0
 ·rw[gN];split
  ·exact Ah (w.nN i) hc
  ·exact w.nN j
 ·rw[gB];split
  ·exact Ah (w.nB k) hb
  ·exact w.nB q
 ·rw[gN]at hq;split at hq
  ·rename_i h1;subst h1;rcases zrf.1 hq with h|h
   ·exact w.lt i q h
   ·rw[zrc.1 h];exact⟨hi,hk⟩
  ·exact w.lt j q hq
theorem tH{names:List S}{i n:Nat}(hi:i<n)(hn:names.length=n):∀(l:List S)(N B:List (List Nat)),Wt n N B->Wt n (fE names i l (N,B)).1 (fE names i l (N,B)).2
 |[],N,B,w=>w
 |s::l,N,B,w=>by
  rw[fE];cases h:jb names s with
  |none=>exact tH hi hn l N B w
  |some k =>
   dsimp only;split
   ·exact tH hi hn l N B w
   ·rename_i hc;exact tH hi hn l _ _ (w.add hi (by have:=yu h;omega) (by simpa using hc))
theorem Ai{names:List S}{n:Nat}(hn:names.length=n):∀(r:List (List S))(i:Nat)(N B:List (List Nat)),i+r.length<=n->Wt n N B->Wt n (jd names i r (N,B)).1 (jd names i r (N,B)).2
 |[],i,N,B,_,w=>w
 |l::r,i,N,B,hi,w=>by rw[jd];have:=tH (i:=i) (by simp at hi;omega) hn l N B w;exact Ai hn r (i+1) _ _ (by simp at hi;omega) this
theorem Cf{names:List S}{ins:List (List S)}(h:names.length=ins.length):Wt ins.length (sU names ins).1 (sU names ins).2:=by
 have hr:∀j,(List.replicate ins.length ([]:List Nat)).getD j []=[]:=fun j=>by rw[zqg,List.getElem?_replicate];split<;>rfl
 refine Ai h ins 0 _ _ (by omega) ⟨by simp,by simp,fun j k=> ?_,fun j=> ?_,fun j=> ?_,fun j k hk=> ?_⟩
 ·rw[hr,hr];simp
 ·rw[hr];exact List.nodup_nil
 ·rw[hr];exact List.nodup_nil
 ·rw[hr]at hk;cases hk
theorem yz(N:List (List Nat)):∀(l Q:List Nat),(xY N l Q).Perm (Q++l.filter fun i=>(N.getD i []).isEmpty)
 |[],Q=>by rw[xY];simp
 |i::l,Q=>by
  rw[xY];by_cases h:(N.getD i []).isEmpty=true
  ·rw[if_pos h,List.filter_cons_of_pos (by exact h)];refine(yz N l _).trans ?_;refine((sS Q i).append_right _).trans ?_;rw[zqc];rfl
  ·rw[if_neg h,List.filter_cons_of_neg (by exact h)];exact yz N l Q
structure Cv(n:Nat)(N0:List (List Nat))(D:List Nat)(N:List (List Nat))(Q:List Nat):Prop where
 lN:N.length=n
 nn:∀j,N.getD j []=(N0.getD j []).filter fun k=> !D.contains k
 nd:(Q++D).Nodup
 mem:∀j,j∈Q\/j∈D↔j<n/\N.getD j []=[]
theorem Cv.born{n:Nat}{N B:List (List Nat)}(w:Wt n N B):Cv n N [] N (xY N (List.range n) []):=by
 have hp:=yz N (List.range n) [];rw[List.nil_append]at hp;refine⟨w.lN,fun j=> ?_,?_,fun j=> ?_⟩
 ·rw[List.filter_eq_self.2];intro a _;simp
 ·rw[zqp];exact hp.nodup_iff.2 (List.nodup_range.sublist List.filter_sublist)
 ·rw[hp.mem_iff,List.mem_filter,List.mem_range,List.isEmpty_iff];simp
structure Fv(n:Nat)(N0:List (List Nat))(D:List Nat)(a:Nat)(r:List Nat)(N:List (List Nat))(Q:List Nat):Prop where
 lN:N.length=n
 nn:∀j,N.getD j []=(N0.getD j []).filter fun k=> !D.contains k&&(k != a||r.contains j)
 nd:(Q++(D++[a])).Nodup
 mem:∀j,j∈Q\/j∈D++[a]↔j<n/\N.getD j []=[]
theorem Aj{Q:List Nat}(h:Q≠[]):Q.Perm ((ni Q).dropLast++[(ni Q).getLastD 0]):=by
 have hl:=NG h;have hne:ni Q≠[]:=fun e=>by rw[e]at hl;exact h (List.eq_nil_of_length_eq_zero (by simpa using hl.symm))
 have e:(ni Q).getLastD 0=(ni Q).getLast hne:=by rw[List.getLastD_eq_getLast?,List.getLast?_eq_getLast hne];rfl
 rw[e,List.dropLast_concat_getLast hne];exact(IG h).symm
theorem Cv.pop{n:Nat}{N0 B:List (List Nat)}(w:Wt n N0 B){D Q:List Nat}{N:List (List Nat)}(c:Cv n N0 D N Q)(h:Q≠[]) :
 Fv n N0 D ((ni Q).getLastD 0) (B.getD ((ni Q).getLastD 0) []) N (ni Q).dropLast:=by
 have hp:=Aj h;refine⟨c.lN,fun j=> ?_,?_,fun j=> ?_⟩
 ·rw[c.nn];refine List.filter_congr fun k hk=> ?_;by_cases hka:k=(ni Q).getLastD 0
  ·have:=(w.iff j k).1 hk;rw[hka]at this;have h1:(B.getD ((ni Q).getLastD 0) []).contains j=true:=List.contains_iff_mem.2 this;rw[h1,Bool.or_true,Bool.and_true]
  ·have:(k != (ni Q).getLastD 0)=true:=by simpa using hka
   rw[this,Bool.true_or,Bool.and_true]
 ·have:=(hp.append_right D).nodup_iff.1 c.nd;refine List.Perm.nodup_iff ?_ |>.1 this;rw[zqc];exact List.Perm.append_left _ List.perm_append_comm
 ·rw[<-c.mem j,hp.mem_iff];simp only[zrf,zrc];constructor
  ·rintro(h|h|h)
   ·exact .inl (.inl h)
   ·exact .inr h
   ·exact .inl (.inr h)
  ·rintro((h|h)|h)
   ·exact .inl h
   ·exact .inr (.inr h)
   ·exact .inr (.inl h)
theorem Fv.step{n:Nat}{N0 B:List (List Nat)}(w:Wt n N0 B){D Q r:List Nat}{a i:Nat}{N:List (List Nat)}(c:Fv n N0 D a (i::r) N Q)(hi:i∈B.getD a [])(hr:i∉r) :
 Fv n N0 D a r (N.set i ((N.getD i []).filter (· != a))) (if((N.getD i []).filter (· != a)).isEmpty=true then Es Q i else Q):=by
 have ha:a∈N0.getD i []:=(w.iff i a).2 hi;have hin:=(w.lt i a ha).1;have lN:=c.lN;have had:a∉D:=fun h=>by have:=(List.nodup_append.1 c.nd).2.1;exact(List.nodup_append.1 this).2.2 a h a (by simp) rfl
 have hai:a∈N.getD i []:=by rw[c.nn,List.mem_filter];refine⟨ha,?_⟩;simp[had]
 have hni:¬(i∈Q\/i∈D++[a]):=fun h=>by rw[((c.mem i).1 h).2]at hai;cases hai
 have g:∀j,(N.set i ((N.getD i []).filter (· != a))).getD j []=if i=j then(N.getD i []).filter (· != a)else N.getD j []:=fun j=>kR (by omega)
 refine⟨by rw[zrn];exact lN,fun j=> ?_,?_,fun j=> ?_⟩
 ·rw[g];split
  ·rename_i hij;subst hij;rw[c.nn,List.filter_filter];refine List.filter_congr fun k _=> ?_;have h1:(i::r).contains i=true:=by simp
   have h2:r.contains i=false:=by simpa using hr
   rw[h1,h2];cases(k != a)<;>simp
  ·rename_i hij;rw[c.nn];refine List.filter_congr fun k _=> ?_;have:(i::r).contains j=r.contains j:=by
    rw[List.contains_cons,beq_eq_false_iff_ne.2 (fun e=>hij e.symm),Bool.false_or]
   rw[this]
 ·split
  ·refine((sS Q i).append_right _).nodup_iff.2 ?_;rw[zqc];refine List.nodup_append.2 ⟨(List.nodup_append.1 c.nd).1,List.nodup_cons.2 ⟨fun h=>hni (.inr h),(List.nodup_append.1 c.nd).2.1⟩,fun x hx y hy hxy=> ?_⟩;subst hxy;rcases zrj.1 hy with h|h
   ·exact hni (.inl (h▸hx))
   ·exact(List.nodup_append.1 c.nd).2.2 x hx x h rfl
  ·exact c.nd
 ·rw[g];by_cases he:((N.getD i []).filter (· != a)).isEmpty=true
  ·rw[if_pos he,(sS Q i).mem_iff,zrf,zrc];by_cases hij:i=j
   ·subst hij;rw[if_pos rfl];exact⟨fun _=>⟨hin,List.isEmpty_iff.1 he⟩,fun _=> .inl (.inr rfl)⟩
   ·rw[if_neg hij,<-c.mem j];exact⟨fun h=>h.elim (fun h=>h.elim .inl fun e=>absurd e.symm hij) .inr,fun h=>h.elim (fun h=> .inl (.inl h)) .inr⟩
  ·rw[if_neg he];by_cases hij:i=j
   ·subst hij;rw[if_pos rfl];exact⟨fun h=>absurd h hni,fun h=>absurd (List.isEmpty_iff.2 h.2) he⟩
   ·rw[if_neg hij,<-c.mem j]
theorem Fv.done{n:Nat}{N0:List (List Nat)}{D Q:List Nat}{a:Nat}{N:List (List Nat)}(c:Fv n N0 D a [] N Q):Cv n N0 (D++[a]) N Q:=by
 refine⟨c.lN,fun j=> ?_,c.nd,c.mem⟩;rw[c.nn];refine List.filter_congr fun k _=> ?_;by_cases h:k=a
 ·subst h;simp
 ·have:(k != a)=true:=by simpa using h
  rw[this];simp[h]
theorem tJ:∀ {n:Nat} {l:List Nat},l.Nodup->(∀x∈l,x<n)->l.length<=n
 |0,l,_,hl=>by
  cases l with
  |nil=>exact zrb _
  |cons x l=>exact absurd (hl x (by simp)) (Nat.not_lt_zero _)
 |n+1,l,h,hl=>by
  by_cases hn:n∈l
  ·have:=tJ (n:=n) (h.erase n) (fun x hx=>by
    have h1:=hl x (List.mem_of_mem_erase hx);have h2:x≠n:=fun e=>by subst e;exact(List.Nodup.mem_erase_iff h).1 hx |>.1 rfl
    omega)
   rw[List.length_erase_of_mem hn]at this;omega
  ·have:=tJ (n:=n) h (fun x hx=>by
    have h1:=hl x hx;have h2:x≠n:=fun e=>hn (e▸hx);omega)
   omega
theorem Cv.len{n:Nat}{N0:List (List Nat)}{D Q:List Nat}{N:List (List Nat)}(c:Cv n N0 D N Q):Q.length+D.length<=n:=by have:=tJ c.nd (fun x hx=>((c.mem x).1 (zrf.1 hx)).1);simpa using this
theorem Fv.len{n:Nat}{N0:List (List Nat)}{D Q r:List Nat}{a:Nat}{N:List (List Nat)}(c:Fv n N0 D a r N Q):Q.length+D.length+1<=n:=by have:=tJ c.nd (fun x hx=>((c.mem x).1 (zrf.1 hx)).1);simp at this;omega
def Cj(b n:Nat):List V:=(List.range n).map fun j=> .lm (b+(7+n+2*j+1))
theorem ET{b n:Nat}:(Cj b n).length=n:=by simp[Cj]
theorem EU{b n j:Nat}(h:j<n)(d:V):(Cj b n).getD (j*1) d= .lm (b+(7+n+2*j+1)):=by unfold Cj;rw[Nat.mul_one,zqg,zqo,List.getElem?_range h];rfl
theorem RI(b n:Nat):V.shs b (jy n n)=Cj b n:=by
 have:∀l:List Nat,(∀j∈l,j<n)->V.shs b (l.map fun j=>if j<n then V.lm (7+n+2*j+1)else .nilm)=l.map fun j=> .lm (b+(7+n+2*j+1)):=by
  intro l
  induction l with
  |nil=>intro _;rfl
  |cons a l ih=>intro h;rw[zrd,V.shs,if_pos (h a (by simp)),ih fun j hj=>h j (by simp[hj])];rfl
 exact this _ fun j hj=>List.mem_range.1 hj
theorem He{p:Nat->Bool}{b n:Nat}(hp:∀j,j<n->p (b+(7+n+2*j+1))=false):V.drops p (Cj b n)=Cj b n:=mf fun v hv=>by obtain⟨j,hj,rfl⟩:=zrh.1 hv;rw[V.drop,hp j (List.mem_range.1 hj)];rfl
def RJ(B:List (List Nat)):List V:=B.map fun l=> .is false 1 (dh l)
structure CS(Hp:List Nat->H->Prop)(b n K nr:Nat)(B:List (List Nat))(out:List Nat)(M:List (List Nat))(Q:List Nat)(h:H):Prop where
 hp:Hp out (h.take b)
 xn:h[b+nr]? =some (.cells (Cj b n))
 xm:∀j,j<n->h[b+(7+n+2*j+1)]? =some (Qb (M.getD j []))
 xw:h[K]? =some (.cells [.ls (b+nr) 1 0 n n,.is false 1 (RJ B)])
 pi:HPi (K+1) (K+2) Q h
 r:nr<7/\4<=nr/\b+nr<K/\∀j,j<n->b+(7+n+2*j+1)<K
 lM:M.length=n
theorem CS.next{Hp:List Nat->H->Prop}{b n K nr:Nat}{B:List (List Nat)}{out out':List Nat}{M:List (List Nat)}{Q Q':List Nat}{h h':H}(s:CS Hp b n K nr B out M Q h)(hp:Hp out' (h'.take b)){p:Nat->Bool}
 (hd:∀j,b<=j->j<=K->h'[j]? =(h[j]?).map (O.drop p)\/h'[j]? =h[j]?) (hpp:∀j,b<=j->j<=K->p j=false) (pi:HPi (K+1) (K+2) Q' h'):CS Hp b n K nr B out' M Q' h':=by
 obtain⟨r1,r2,r3,r4⟩:=s.r;have key:∀(j:Nat)(o:O),b<=j->j<=K->h[j]? =some o->o.drop p=o->h'[j]? =some o:=fun j o h1 h2 h3 h4=>by
  rcases hd j h1 h2 with h5|h5
  ·rw[h5,h3,zrw,h4]
  ·rw[h5,h3]
 refine⟨hp,key _ _ (by omega) (by omega) s.xn ?_,fun j hj=>key _ _ (by omega) (by have:=r4 j hj;omega) (s.xm j hj) ?_,key _ _ (by omega) (by omega) s.xw ?_,pi,s.r,s.lM⟩
 ·show O.cells (V.drops p _)=_;rw[He fun j hj=>hpp _ (by omega) (by have:=r4 j hj;omega)]
 ·show O.map (V.drops p _) (V.drops p _)=_;rw[lY,bz]
 ·show O.cells [V.drop p _,V.drop p _]=_;rw[V.drop,hpp _ (by omega) (by omega)];rfl
theorem CS.push{Hp:List Nat->H->Prop}{b n K nr:Nat}{B:List (List Nat)}{out:List Nat}{M:List (List Nat)}{Q:List Nat}{h:H}(s:CS Hp b n K nr B out M Q h)
 (hdrop:∀out h0 (p:Nat->Bool),Hp out h0->(∀i,i<b->p i=false)->Hp out (h0.map (O.drop p))) (Q':List Nat):CS Hp b n K nr B out M Q' (rq (K+1) (K+2) h Q'):=by
 obtain⟨r1,r2,r3,r4⟩:=s.r;refine s.next (p:=fun x=>x==K+2) ?_ (fun j h1 h2=> .inl ?_) (fun j h1 h2=>by rw[beq_eq_false_iff_ne];omega) (s.pi.push Q')
 ·unfold rq;rw[List.take_set_of_le (by omega),List.take_set_of_le (by omega),<-List.map_take];exact hdrop _ _ _ s.hp fun i hi=>by rw[beq_eq_false_iff_ne];omega
 ·unfold rq;rw[zqn (by omega),zqn (by omega),zqo]
theorem CS.pop{Hp:List Nat->H->Prop}{b n K nr:Nat}{B:List (List Nat)}{out:List Nat}{M:List (List Nat)}{Q:List Nat}{h:H}(s:CS Hp b n K nr B out M Q h)(Q':List Nat):CS Hp b n K nr B out M Q' (G9 (K+1) (K+2) h Q'):=by
 obtain⟨r1,r2,r3,r4⟩:=s.r;refine s.next (p:=fun _=>false) ?_ (fun j h1 h2=> .inr ?_) (fun j h1 h2=>rfl) (s.pi.pop Q')
 ·unfold G9;rw[List.take_set_of_le (by omega),List.take_set_of_le (by omega)];exact s.hp
 ·unfold G9;rw[zqn (by omega),zqn (by omega)]
theorem CS.told{Hp:List Nat->H->Prop}{b n K nr:Nat}{B:List (List Nat)}{out out':List Nat}{M:List (List Nat)}{Q:List Nat}{h h':H}(s:CS Hp b n K nr B out M Q h)(hp:Hp out' (h'.take b)){p:Nat->Bool}
 (hd:∀j,b<=j->h'[j]? =(h[j]?).map (O.drop p)) (hpp:∀j,b<=j->p j=false):CS Hp b n K nr B out' M Q h':=by
 obtain⟨r1,r2,r3,r4⟩:=s.r;refine s.next hp (fun j h1 _=> .inl (hd j h1)) (fun j h1 _=>hpp j h1) ⟨?_,?_,s.pi.ne⟩
 ·rw[hd _ (by omega),s.pi.p];show some (O.cells [V.drop p _])=_;rw[V.drop,hpp _ (by omega)];rfl
 ·rw[hd _ (by omega),s.pi.q];show some (O.cells (V.drops p _))=_;rw[bz]
theorem CS.del{Hp:List Nat->H->Prop}{b n K nr:Nat}{B:List (List Nat)}{out:List Nat}{M:List (List Nat)}{Q:List Nat}{h:H}(s:CS Hp b n K nr B out M Q h){i:Nat}(hi:i<n)(l:List Nat) :
 CS Hp b n K nr B out (M.set i l) Q (h.set (b+(7+n+2*i+1)) (Qb l)):=by
 obtain⟨r1,r2,r3,r4⟩:=s.r;have hk:=r4 i hi;have hlt:=(zqe (s.xm i hi)).1;have lM:=s.lM;refine⟨?_,?_,fun j hj=> ?_,?_,⟨?_,?_,s.pi.ne⟩,s.r,by rw[zrn];exact lM⟩
 ·rw[List.take_set_of_le (by omega)];exact s.hp
 ·rw[zqn (by omega)];exact s.xn
 ·rw[kR (by omega)];by_cases hij:i=j
  ·subst hij;rw[if_pos rfl,zqt hlt]
  ·rw[if_neg hij,zqn (by omega)];exact s.xm j hj
 ·rw[zqn (by omega)];exact s.xw
 ·rw[zqn (by omega)];exact s.pi.p
 ·rw[zqn (by omega)];exact s.pi.q
theorem uP{α:Type}[BEq α][LawfulBEq α]:∀(l:List α)(k:Nat)(h:k<l.length),l.Nodup->l.filter (· != l[k])=l.eraseIdx k
 |x::l,0,_,hn=>by have hx:=(List.nodup_cons.1 hn).1;rw[List.eraseIdx_cons_zero,List.getElem_cons_zero,List.filter_cons_of_neg (by simp)];exact List.filter_eq_self.2 fun y hy=>by simpa using fun e:y=x=>hx (e▸hy)
 |x::l,k+1,h,hn=>by
  have hx:=(List.nodup_cons.1 hn).1;have hk:k<l.length:=by simpa using h
  rw[List.eraseIdx_cons_succ,List.getElem_cons_succ,List.filter_cons_of_pos (by simpa using fun e:x=l[k]=>hx (e▸zqu hk)),uP l k hk (List.nodup_cons.1 hn).2]
theorem Ol{l:List Nat}(hl:l.Nodup)(a:Nat):V7 (.int .i64) (nv a) (dh l) (tu l.length)=some (dh (l.filter (· != a)),tu (l.filter (· != a)).length):=by
 unfold V7;rw[lZ];cases h:EO l a with
 |none =>
  have h1:a∉l:=by have:=wQ.1 h;simpa using this
  have:l.filter (· != a)=l:=List.filter_eq_self.2 fun x hx=>by simpa using fun e:x=a=>h1 (e▸hx)
  rw[this]
 |some k =>
  obtain⟨h1,h2⟩:=EP h;have e:l.filter (· != a)=l.eraseIdx k:=by rw[<-h2];exact uP l k h1 hl
  rw[e];show some ((dh l).eraseIdx k,(tu l.length).eraseIdx k)=_;rw[List.eraseIdx_replicate,if_pos h1,List.length_eraseIdx,if_pos h1,dh,<-dY]
theorem Ak:∀m:Nat,V.dats (tu m)=true
 |0=>rfl
 |m+1=>by show(_&&V.dats (tu m))=true;rw[Ak m];rfl
theorem Om{B:List (List Nat)}{f:Nat}{N:List (List Nat)}{Q:List Nat}(h:Q≠[]):oQ B (f+1) N Q=(ni Q).getLastD 0::oQ B f (qC ((ni Q).getLastD 0) (B.getD ((ni Q).getLastD 0) []) (N,(ni Q).dropLast)).1 (qC ((ni Q).getLastD 0) (B.getD ((ni Q).getLastD 0) []) (N,(ni Q).dropLast)).2:=by rw[oQ,if_neg (by rw[List.isEmpty_iff];exact h)]
theorem RP{B:List (List Nat)}{N:List (List Nat)}:∀ {f:Nat},oQ B f N []=[]
 |0=>rfl
 |f+1=>by rw[oQ];rfl
theorem Cm[MO](c:Ci)(hn:(aQ c).Nodup)(hl:c.gates.length<=900000)(hin:∀g∈c.gates,g.ins.length<=1000000){b y:Nat}(Hp:List Nat->H->Prop)(kp:Nat->Prop)(hky:kp y)(hkb:∀i,kp i->i<b)
 (hdrop:∀out h0 (p:Nat->Bool),Hp out h0->(∀i,i<b->p i=false)->Hp out (h0.map (O.drop p)))
 (step:∀out a h,Hp out (h.take b)->b<=h.length->out.length<c.gates.length->a<c.gates.length->a∉out->V5 TE y [nv a] h fun j h'' p=>j=none/\(∀i,kp i\/b<=i->p i=false)/\Hp (out++[a]) (h''.take b)/\∀j,b<=j->h''[j]? =(h[j]?).map (O.drop p))
 (h:H) (h0:Hp [] (h.take b)) (hb:h.length=b) :
 ag TE 171 ([]++[.yd y]++[.ip c.v]) h fun ae h' p=>(∀i,kp i->p i=false)/\match ae with
  | .ret _=>Hp (qY (aQ c) (gins c)) (h'.take b)/\b<=h'.length
  | .pan _=>False:=by
 have hM:=mLx;obtain⟨n,hnn⟩:∃n,n=c.gates.length:=⟨_,rfl⟩;refine aj Tryz.func171 rfl (by simp[nts]) (vm ?_);simp only[wq.1,↓reduceIte,Nat.reduceLT,Nat.reduceAdd,Tryz.results171];refine pV (KF c hn (by omega) hin) (by simp[V.dats,vJ]) ?_;rintro ae h' p ⟨nr,N,B,hWV,hNl,hBl,r1,r2,rfl,xn,xm⟩;obtain⟨X,hX⟩:∃X,X=h++h'.map (O.sh h.length):=⟨_,rfl⟩;obtain⟨K,hK⟩:∃K,K=X.length:=⟨_,rfl⟩;obtain⟨BV,hBV⟩:∃BV,BV=RJ B:=⟨_,rfl⟩;rw[<-hnn]at xn xm hNl hBl ⊢;have e1:(V.agg [.ls nr 1 0 n n,byV B]).sh h.length= .agg [.ls (b+nr) 1 0 n n,.is false 1 BV]:=by rw[hBV,<-hb];rfl
 have hw0:∀(o:O) j,h'[j]? =some o->X[b+j]? =some (o.sh b):=fun o j ho=>by rw[hX,zsb (by omega),hb,Nat.add_sub_cancel_left,zqo,ho];rfl
 have xn0:=hw0 _ _ xn;have hKl:∀(j:Nat)(o:O),X[j]? =some o->j<K:=fun j o ho=>by rw[hK];exact(zqe ho).1
 have xn1:X[b+nr]? =some (.cells (Cj b n)):=by rw[xn0];show some (O.cells (V.shs b _))=_;rw[RI]
 have xm1:∀j,j<n->X[b+(7+n+2*j+1)]? =some (Qb (N.getD j [])):=fun j hj=>by rw[hw0 _ _ (xm j hj)];show some (O.map (V.shs b _) (V.shs b _))=_;rw[V.shs_dats b _ (l9 _),V.shs_dats b _ (Ak _)]
 have htk:X.take b=h:=by rw[hX,List.take_left' hb]
 have hbK:b<=K:=by rw[hK,hX,zqa];omega
 rw[<-hX];have g1:∀x:O,(X++[x])[K]? =some x:=fun x=>by rw[hK];simp
 have g2:∀x y:O,(X++[x]).set K y=X++[y]:=fun x y=>by rw[hK];simp
 have g3:∀x:O,(X++[x]).length=K+1:=fun x=>by rw[hK];simp
 simp only[wq.1,↓reduceIte,Nat.reduceEqDiff,Nat.reduceLT,Nat.reduceAdd,Nat.reduceMul,AEnd.sh,e1,<-hK,g1,g2];refine⟨⟨rfl,by decide⟩,?_⟩;obtain⟨h1,hh1⟩:∃h1:H,h1=X++[.cells [.ls (b+nr) 1 0 n n,.is false 1 BV],.cells [.ls (K+2) 1 0 0 0],.cells []]:=⟨_,rfl⟩;refine fQ ?_;refine lg (h':=h1) ?_ ?_
 ·have:=HLe.set (h:=X++[O.cells [V.ls (b+nr) 1 0 n n,V.is false 1 BV]]++[O.cells [V.is true 1 []]]++[.cells []]) (i:=K+1) (o:= .cells [.is true 1 []]) (o':= .cells [.ls (K+2) 1 0 0 0]) (by rw[hK];simp) (OLe.cells (zrb _) (bW.cons (EL (x:=true)) bW.nil));have e:(X++[O.cells [V.ls (b+nr) 1 0 n n,V.is false 1 BV]]++[O.cells [V.is true 1 []]]++[O.cells []]).set (K+1) (O.cells [V.ls (K+2) 1 0 0 0])=h1:=by rw[hh1,hK];simp
  rw[e]at this;exact this
 have old:∀j o,X[j]? =some o->h1[j]? =some o:=fun j o ho=>by rw[hh1,zqj (zqe ho).1];exact ho
 have w:=Cf (names:=aQ c) (ins:=gins c) (by simp);rw[hWV,show(gins c).length=n by rw[hnn];simp]at w;have cs:CS Hp b n K nr B [] N [] h1:=by
  refine⟨?_,old _ _ xn1,fun j hj=>old _ _ (xm1 j hj),?_,⟨?_,?_,by omega⟩,⟨r1,r2,hKl _ _ xn1,fun j hj=>hKl _ _ (xm1 j hj)⟩,hNl⟩
  ·rw[hh1,List.take_append_of_le_length (by omega),htk,zqh (by omega)]at *;exact h0
  ·rw[hh1,hK,hBV];simp
  ·rw[hh1,hK];simp
  ·rw[hh1,hK];simp
 have hS:qY (aQ c) (gins c)=oQ B n N (xY N ((List.range n).drop 0) []):=by unfold qY;rw[hWV,show(gins c).length=n by rw[hnn];simp];rfl
 obtain⟨S,hSS⟩:∃S,S=qY (aQ c) (gins c):=⟨_,rfl⟩;rw[<-hSS]at hS ⊢;have hb1:b<=h1.length:=by rw[hh1];simp;omega
 have hbo := Cv.born w;obtain ⟨Q1,hQ1⟩ : ∃ Q1,Q1 = xY N (List.range n) [] := ⟨_,rfl⟩;rw [List.drop_zero,<- hQ1] at hS;rw [<- hQ1] at hbo;refine aC (fun m f h => ∃ (i : Nat) (Q : List Nat),m + i = n /\ i <= n /\ Q.length <= i /\ CS Hp b n K nr B [] N Q h /\ b <= h.length /\ Q1 = xY N ((List.range n).drop i) Q /\ f.t 0 = .yd y /\ f.t 1 = .ip c.v /\ f.t 3 = .lp K 0 /\ f.t 4 = .lp (K + 1) 0 /\ f.t 15 = vi n /\ f.t 16 = vi i /\ f.d = [] /\ (∀ j,kp j -> f.k j = false)) n
  ⟨0,[],by omega,by omega,zrb _,cs,hb1,hQ1,by simp only[wq.1,seval],by simp only[wq.1,seval],by simp only[wq.1,seval],by simp only[wq.1,seval],by simp only[wq.1,seval];rw[hnn],by simp only[wq.1,↓reduceIte];rfl,by simp only[wq.1],fun _ _=>rfl⟩ ?_
 clear hb1 cs old hh1 h1 xn1 xm1 hw0 xn0 htk g1 g2 g3 e1 hKl;rintro m f h1 ⟨i,Q,hm,hil,hQl,cs,hb1,hQi,t0,t1,t3,t4,t15,t16,hd,hk⟩;have hw:=aB (show i<maxLen by omega);have xw:=cs.xw;have xn:=cs.xn;have lnn:c.gates.length=n:=hnn.symm;refine vn ?_;simp only[wq.1,Nat.reduceLT,t15,t16];refine vn ?_;simp only[wq.1,↓reduceIte];refine vcB.mk (fun hlt=> ?_) (fun hlt=> ?_)
 ·have hlt:i<n:=by have:=zqs hlt;omega
  have hdr:(List.range n).drop i=i::(List.range n).drop (i+1):=by rw[List.drop_eq_getElem_cons (by simpa using hlt),List.getElem_range]
  rw[hdr,xY]at hQi;have hng:=EU (b:=b) hlt .any;have hnl:=ET (b:=b) (n:=n);have xm:=cs.xm i hlt;simp only[wq.1];refine vn ?_;simp only[wq.1,seval,t3,t16,xw,xn,hng,xm];refine⟨⟨by omega,by omega⟩,by omega,?_⟩;refine vcB.mk (fun he=> ?_) (fun he=> ?_)
  ·have he:(N.getD i []).isEmpty=true:=by rw[beq_iff_eq]at he;rw[List.isEmpty_iff];exact List.eq_nil_of_length_eq_zero (by omega)
   rw[if_pos he]at hQi;simp only[wq.1,seval,t4];refine⟨by decide,by decide,?_⟩;refine yl cs.pi (by omega) i ?_;have y1:(y==K+2)=false:=by rw[beq_eq_false_iff_ne];have:=hkb y hky;omega
   have y2:(K==K+2)=false:=by rw[beq_eq_false_iff_ne];omega
   have y3:(K+1==K+2)=false:=by rw[beq_eq_false_iff_ne];omega
   simp only[wq.1,bu,hd];refine vm ?_;simp only[wq.1,seval,t16,hw];have hql:=II Q i;refine .inl ⟨m-1,by omega,i+1,Es Q i,by omega,by omega,by omega,cs.push hdrop _,by unfold rq;simp;exact hb1,hQi,by simp only[wq.1,seval,t0,y1],by simp only[wq.1,seval,t1],by simp only[wq.1,seval,t3,y2],by simp only[wq.1,seval,t4,y3],by simp only[wq.1,seval,t15],by simp only[wq.1,↓reduceIte],by simp only[wq.1,hd],fun j hj=> ?_⟩;have y4:(j==K+2)=false:=by rw[beq_eq_false_iff_ne];have:=hkb j hj;omega
   simp only[wq.1,hk j hj,y4]
  ·have he:¬(N.getD i []).isEmpty=true:=fun h=>by rw[List.isEmpty_iff]at h;rw[h]at he;cases he
   rw[if_neg he]at hQi;simp only[wq.1];refine vm ?_;simp only[wq.1,seval,t16,hw];exact .inl ⟨m-1,by omega,i+1,Q,by omega,by omega,by omega,cs,hb1,hQi,by simp only[wq.1,seval,t0],by simp only[wq.1,seval,t1],by simp only[wq.1,seval,t3],by simp only[wq.1,seval,t4],by simp only[wq.1,seval,t15],by simp only[wq.1,↓reduceIte],by simp only[wq.1,hd],fun j hj=>by simp only[wq.1,hk j hj]⟩
 ·have hi:i=n:=by have:=of_decide_eq_false hlt;omega
  subst hi;rw [List.drop_eq_nil_of_le (by simp),xY] at hQi;subst hQi;simp only [wq.1];refine aC (fun m f h => ∃ (out : List Nat) (M : List (List Nat)) (Q : List Nat),m = i - out.length /\ CS Hp b i K nr B out M Q h /\ b <= h.length /\ Cv i N out M Q /\ S = out ++ oQ B (i - out.length) M Q /\ f.t 0 = .yd y /\ f.t 3 = .lp K 0 /\ f.t 4 = .lp (K + 1) 0 /\ f.d = [] /\ (∀ j,kp j -> f.k j = false)) i
   ⟨[],N,Q1,rfl,cs,hb1,hbo,hS,by simp only[wq.1,seval,t0],by simp only[wq.1,seval,t3],by simp only[wq.1,seval,t4],by simp only[wq.1,hd],fun j hj=>by simp only[wq.1,hk j hj]⟩ ?_
  clear t0 t1 t3 t4 t15 t16 hd hk cs hb1 xw xn hw hQl hil hbo hS hm;clear h1 f m;rintro m f h1 ⟨out,M,Q,hm,cs,hb1,cv,hS,t0,t3,t4,hd,hk⟩;have xw:=cs.xw;have xn:=cs.xn;have xp:=cs.pi.p;have hlen:=cv.len;refine vn ?_;simp only[wq.1,seval,t4,xp];refine uM ?_;simp only[wq.1,seval];refine vcB.mk (fun hq=> ?_) (fun hq=> ?_)
  ·have hq:0<Q.length:=by have:=zqs hq;omega
   have hQ0:Q≠[]:=List.length_pos_iff.1 hq;have fv:=cv.pop w hQ0;obtain⟨fu,hfu⟩:∃fu,i-out.length=fu+1:=⟨i-out.length-1,by omega⟩;rw[hfu,Om hQ0]at hS;obtain⟨a,ha⟩:∃a,a=(ni Q).getLastD 0:=⟨_,rfl⟩;obtain⟨Q2,hQ2⟩:∃Q2,Q2=(ni Q).dropLast:=⟨_,rfl⟩;rw[<-ha,<-hQ2]at hS fv;have haD:a∈out++[a]:=by simp
   have hai:a<i:=((fv.mem a).1 (.inr haD)).1;have hao:a∉out:=fun h=>(List.nodup_append.1 (List.nodup_append.1 fv.nd).2.1).2.2 a h a (by simp) rfl;simp only[wq.1];refine aA ?_;refine vn ?_;simp only[wq.1,seval,t4];refine⟨by decide,?_⟩;refine KE cs.pi (by omega) hQ0 ?_;rw[<-ha,<-hQ2];have cs2:=cs.pop Q2;obtain⟨h2,hh2⟩:∃h2,h2=G9 (K+1) (K+2) h1 Q2:=⟨_,rfl⟩;have hb2:b<=h2.length:=by rw[hh2];unfold G9;simp;exact hb1
   rw[<-hh2]at cs2 ⊢;simp only[wq.1,seval];refine⟨by decide,?_⟩;obtain⟨t2,n',ps,asg,body,pend,hLL,hsz,hps2,hwy⟩:=step out a h2 cs2.hp hb2 (by omega) (by omega) hao;refine vn ?_;simp only[wq.1,seval,t0,hLL];refine⟨⟨by simpa using hsz,hps2⟩,oH hwy ?_⟩;rintro j h3 p hp ⟨rfl,hpk,hHp,hh3⟩;refine⟨by simp[rU,hd],?_⟩;obtain⟨r1,r2,r3,r4⟩:=cs2.r;have pK:p K=false:=hpk _ (.inr hbK);have pK1:p (K+1)=false:=hpk _ (.inr (by omega));have cs3:=cs2.told hHp hh3 (fun j hj=>hpk j (.inr hj));have hb3:b<=h3.length:=by
    have:=(zqe cs3.xw).1;omega
   have xw:=cs3.xw;rw[<-hBV]at xw;have hBVl:BV.length=i:=by rw[hBV];unfold RJ;rw[zra];exact hBl
   have hBVg:BV.getD a .any= .is false 1 (dh (B.getD a [])):=by rw[hBV];unfold RJ;rw[fP (by omega),zqg,zqk (by omega)];rfl
   simp only[wq.1,seval,Option.isNone_none];refine vn ?_;simp only[wq.1,seval,t3,pK,xw,hBVl,hBVg];refine⟨⟨by omega,by omega⟩,?_⟩;refine aA ?_;obtain⟨Ba,hBa⟩:∃Ba,Ba=B.getD a []:=⟨_,rfl⟩;have hBn:Ba.Nodup:=by rw[hBa];exact w.nB a
   have hBi : ∀ j,j ∈ Ba -> j ∈ B.getD a [] := fun j hj => hBa ▸ hj;have hBm : ∀ j,j ∈ Ba -> j < i := fun j hj => (w.lt j a ((w.iff j a).2 (hBi j hj))).1;have hBl2 : Ba.length <= i := tJ hBn hBm;rw [<- hBa] at hS fv ⊢;obtain ⟨F,hF⟩ : ∃ F,F = qC a Ba (M,Q2) := ⟨_,rfl⟩;rw [<- hF] at hS;have hF0 : F = qC a (Ba.drop 0) (M,Q2) := hF;have fv0 : Fv i N out a (Ba.drop 0) M Q2 := fv;refine aC (fun m f h => ∃ (k : Nat) (M : List (List Nat)) (Q : List Nat),m + k = Ba.length /\ k <= Ba.length /\ CS Hp b i K nr B (out ++ [a]) M Q h /\ b <= h.length /\ Fv i N out a (Ba.drop k) M Q /\ F = qC a (Ba.drop k) (M,Q) /\ f.t 0 = .yd y /\ f.t 3 = .lp K 0 /\ f.t 4 = .lp (K + 1) 0 /\ f.t 6 = nv a /\ f.t 49 = .is false 1 (dh Ba) /\ f.t 50 = vi Ba.length /\ f.t 51 = vi k /\ f.d = [] /\ (∀ j,kp j -> f.k j = false)) Ba.length
    ⟨0,M,Q2,by omega,by omega,cs3,hb3,fv0,hF0,by simp only[wq.1,seval,t0,hp],by simp only[wq.1,seval,t3,pK],by simp only[wq.1,seval,t4,pK1],by simp only[wq.1,seval],by simp only[wq.1,seval],by simp only[wq.1,seval],by simp only[wq.1,↓reduceIte];rfl,by simp only[wq.1,hd],fun j hj=>by simp only[wq.1,hk j hj,hpk j (.inl hj)]⟩ ?_
   clear fv fv0 hF0 hF cs3 hb3 xw t0 t3 t4 hd hk hHp hh3 hpk pK pK1 hp hLL hwy cs2 hb2 hh2 cs hb1 xn xp cv hBVg hBVl hsz hps2;rintro m1 f h1 ⟨k,M,Q,hm1,hkl,cs,hb1,fv,hF,t0,t3,t4,t6,t49,t50,t51,hd,hk⟩;have hwk:=aB (show k<maxLen by omega);have xw:=cs.xw;have xn:=cs.xn;refine vn ?_;simp only[wq.1,Nat.reduceLT,t50,t51];refine vn ?_;simp only[wq.1,↓reduceIte];refine vcB.mk (fun hkt=> ?_) (fun hkt=> ?_)
   ·have hkt:k<Ba.length:=by have:=zqs hkt;omega
    obtain⟨g,hg⟩:∃g,g=Ba[k]:=⟨_,rfl⟩;have hgm:g∈Ba:=hg▸zqu hkt;have hgi:=hBm g hgm;have hbg:(dh Ba).getD k .any=nv g:=by rw[XX hkt,zqg,zqk hkt,<-hg];rfl
    rw[List.drop_eq_getElem_cons hkt,<-hg]at fv hF;rw[qC]at hF;have hgr:g∉Ba.drop (k+1):=by
     have h1:(Ba.drop k).Nodup:=hBn.sublist (List.drop_sublist _ _);rw[List.drop_eq_getElem_cons hkt,<-hg]at h1;exact(List.nodup_cons.1 h1).1
    have fv2:=fv.step w (hBi g hgm) hgr;have hfl:=fv2.len;have xm:=cs.xm g hgi;obtain⟨Mg,hMg⟩:∃Mg,Mg=M.getD g []:=⟨_,rfl⟩;rw[<-hMg]at fv2 hF xm;have hMn:Mg.Nodup:=by rw[hMg,fv.nn];exact(w.nN g).sublist List.filter_sublist
    have hmd:=Ol hMn a;obtain⟨Mf,hMf⟩:∃Mf,Mf=Mg.filter (· != a):=⟨_,rfl⟩;rw[<-hMf]at fv2 hF hmd;have cs2:=cs.del hgi Mf;have hng:=EU (b:=b) hgi .any;have hnl:=ET (b:=b) (n:=i);simp only[wq.1];refine ai ?_;refine aA ?_;refine vn ?_;simp only[wq.1,seval,t49,t51,hbg];refine⟨⟨by omega,by omega⟩,?_⟩;refine ai (iT ?_);refine az rfl rfl ?_;simp only[wq.1,seval,t3];refine az rfl rfl ?_;simp only[wq.1,seval,xw];refine az rfl rfl ?_;simp only[wq.1,seval];refine az rfl rfl ?_;simp only[wq.1,seval];refine⟨⟨by omega,by omega⟩,?_⟩;refine az rfl rfl ?_;simp only[wq.1,↓reduceIte,xn,hng];refine⟨by omega,?_⟩;refine az rfl rfl ?_;simp only[wq.1,seval,t6];have hq1:ti TE.P 248=some ⟨.map 3 4,1,8,.nilm⟩:=by simp only[wq.1]
    have hqi:ti TE.P 3=some ⟨.int .i64,1,8,.int .i64 0⟩:=by simp only[wq.1]
    refine eX rfl rfl ?_;refine zU (kt':=0) (t:=248) rfl rfl (id:=b+(7+i+2*g+1)) (by simp only[wq.1,seval]) (by simp only[wq.1,seval]) (by simp only[wq.1,↓reduceIte]) hq1 rfl hqi (by simp only[wq.1,↓reduceIte,Abs.K.keyOk]) (ks:=dh Mg) (vs:=tu Mg.length) xm (by simp only[wq.1,↓reduceIte];exact hmd) ?_;refine dX ?_;obtain⟨h2,hh2⟩:∃h2,h2=h1.set (b+(7+i+2*g+1)) (Qb Mf):=⟨_,rfl⟩;have hb2:b<=h2.length:=by rw[hh2,zrn];exact hb1
    rw[<-hh2]at cs2 ⊢;have zw:=cs2.xw;have zn:=cs2.xn;have zm:=cs2.xm g hgi;rw[kR (by have:=cs.lM;omega),if_pos rfl]at zm;obtain⟨M2,hM2⟩:∃M2,M2=M.set g Mf:=⟨_,rfl⟩;rw[<-hM2]at cs2 fv2 hF;clear hh2 xw xn xm;simp only[wq.1];refine vn ?_;simp only[wq.1,seval,t3,zw,zn,zm,hng];refine⟨⟨by omega,by omega⟩,by omega,?_⟩;refine vm ?_;simp only[wq.1,↓reduceIte];refine vcB.mk (fun he=> ?_) (fun he=> ?_)
    ·have he:Mf.isEmpty=true:=by rw[beq_iff_eq]at he;rw[List.isEmpty_iff];exact List.eq_nil_of_length_eq_zero (by omega)
     rw[if_pos he]at fv2 hF;simp only[wq.1,seval,t4];refine⟨by decide,by decide,?_⟩;have hql:=II Q g;have hql2:=fv2.len;refine yl cs2.pi (by omega) g ?_;have y1:(y==K+2)=false:=by rw[beq_eq_false_iff_ne];have:=hkb y hky;omega
     have y2:(K==K+2)=false:=by rw[beq_eq_false_iff_ne];omega
     have y3:(K+1==K+2)=false:=by rw[beq_eq_false_iff_ne];omega
     simp only[wq.1,bu,hd];refine vm ?_;simp only[wq.1,seval,t51,hwk];refine .inl ⟨m1-1,by omega,k+1,M2,Es Q g,by omega,by omega,cs2.push hdrop _,by unfold rq;simp;exact hb2,fv2,hF,by simp only[wq.1,seval,t0,y1],by simp only[wq.1,seval,t3,y2],by simp only[wq.1,seval,t4,y3],by simp only[wq.1,seval,t6],by simp only[wq.1,seval,t49],by simp only[wq.1,seval,t50],by simp only[wq.1,↓reduceIte],by simp only[wq.1,hd],fun j hj=> ?_⟩;have y4:(j==K+2)=false:=by rw[beq_eq_false_iff_ne];have:=hkb j hj;omega
     simp only[wq.1,hk j hj,y4]
    ·have he:¬Mf.isEmpty=true:=fun h=>by rw[List.isEmpty_iff]at h;rw[h]at he;cases he
     rw[if_neg he]at fv2 hF;simp only[wq.1];refine vm ?_;simp only[wq.1,seval,t51,hwk];exact .inl ⟨m1-1,by omega,k+1,M2,Q,by omega,by omega,cs2,hb2,fv2,hF,by simp only[wq.1,seval,t0],by simp only[wq.1,seval,t3],by simp only[wq.1,seval,t4],by simp only[wq.1,seval,t6],by simp only[wq.1,seval,t49],by simp only[wq.1,seval,t50],by simp only[wq.1,↓reduceIte],by simp only[wq.1,hd],fun j hj=>by simp only[wq.1,hk j hj]⟩
   ·have hke:k=Ba.length:=by have:=of_decide_eq_false hkt;omega
    subst hke;rw[List.drop_length]at fv hF;rw[qC]at hF;subst hF;have cv2:=fv.done;have hln:=cv2.len;simp only[wq.1];have hol:(out++[a]).length=out.length+1:=by simp
    rw[hol]at hln;refine .inl ⟨i-(out.length+1),by omega,out++[a],M,Q,by rw[hol],cs,hb1,cv2,?_,by simp only[wq.1,seval,t0],by simp only[wq.1,seval,t3],by simp only[wq.1,seval,t4],by simp only[wq.1,hd],fun j hj=>by simp only[wq.1,hk j hj]⟩;rw[hS,hol,zqc,show i-(out.length+1)=fu by omega];rfl
  ·have hq:Q=[]:=by have:=of_decide_eq_false hq;exact List.eq_nil_of_length_eq_zero (by omega)
   subst hq;rw[RP,zqp]at hS;subst hS;simp only[wq.1,hd];exact⟨hk,cs.hp,hb1⟩
abbrev Sum(c:Ci):Prop:=c.ins.length+c.lat.length+c.gates.length<=9000000000000000000
theorem kS(c:Ci):V.dats [c.v]=true:=by show(V.dat c.v&&true)=true;rw[vJ];rfl
theorem RQ[MO]{c:Ci}(h:Sum c):Ev TE 109 [c.v] (.bool (decide ((nT c).1=0))):=by
 have hN:=EK c h;have e:((nT c).1==0)=decide ((nT c).1=0):=by rw[Bool.eq_iff_iff,beq_iff_eq,zqb]
 refine ak Tryz.func109 rfl (by simp[nts]) (vm ?_);simp only[wq.1,seval,Tryz.results109];refine ag.ev hN (kS c) ?_;simp only[wq.1,seval,e];exact aG.dat rfl
theorem Oo[MO](c:Ci):Ev TE 111 [c.v] (.fn (.func 171) [] [.ip c.v]):=by refine ak Tryz.func111 rfl (by simp[nts]) (vm ?_);simp only[wq.1,seval,Tryz.results111];exact aG.fn ay.nil (ay.cons (aG.lp rfl (ay.dat (by have:=vJ c;unfold Ci.v at this;simpa only[V.dat]using this)) rfl (vJ c) (by simp[V.vc,Ci.v]) rfl) ay.nil)
def jF(n:Nat)(out:List Nat):List Nat:=(List.range n).filter fun i=> !out.contains i
def tK(l:List S)(out:List Nat):List S:=(jF l.length out).map fun i=>l.getD i []
def oV(l:List S)(out:List Nat):O:= .map ((tK l out).map V.str) (dh (jF l.length out))
theorem Oq{n:Nat}{out:List Nat}{a:Nat}:jF n (out++[a])=(jF n out).filter (· != a):=by unfold jF;rw[List.filter_filter];refine List.filter_congr fun i _=> ?_;rw[List.contains_eq_mem,List.contains_eq_mem,Bool.eq_iff_iff];simp[and_comm]
theorem Vj{l:List S}(hl:l.Nodup){out:List Nat}{a:Nat}(ha:a<l.length):(at? (tK l out) (l.getD a [])).isSome= !out.contains a:=by
 rw[rf];rw[Bool.eq_iff_iff,List.contains_iff_mem];unfold tK jF;rw[zrh];constructor
 ·rintro⟨i,hi,he⟩;rw[List.mem_filter,List.mem_range]at hi;have:i=a:=by
   rw[zqg,zqg,zqk hi.1,zqk ha]at he;exact(List.getElem_inj hl).1 he
  subst this;exact hi.2
 ·intro h;exact⟨a,List.mem_filter.2 ⟨List.mem_range.2 ha,h⟩,rfl⟩
structure NS(l:List S)(out:List Nat)(NR:Nat)(nvs:List S)(h:H):Prop where
 s1:h[1]? =some (.cells [.ls 5 1 0 out.length out.length])
 s3:h[3]? =some (oV l out)
 s4:h[4]? =some (.cells [.lm 3])
 s5:h[5]? =some (.cells (dh out))
 s6:h[6]? =some (.misc .dfd)
 sN:h[NR]? =some (.cells (nvs.map V.str))
 r:8<=NR
theorem NS.more{l:List S}{out:List Nat}{NR:Nat}{nvs:List S}{h:H}(k:NS l out NR nvs h)(o:O):NS l out NR nvs (h++[o]):=by
 have old:∀j x,h[j]? =some x->(h++[o])[j]? =some x:=fun j x hx=>by rw[zqj (zqe hx).1];exact hx
 exact⟨old _ _ k.s1,old _ _ k.s3,old _ _ k.s4,old _ _ k.s5,old _ _ k.s6,old _ _ k.sN,k.r⟩
theorem NS.app{l:List S}{out:List Nat}{NR:Nat}{nvs:List S}{h:H}(k:NS l out NR nvs h)(nvs':List S):NS l out NR nvs' ((h.map (O.drop fun x=>x==NR)).set NR (.cells (nvs'.map V.str))):=by
 have r:=k.r;have hlt:=(zqe k.sN).1;have b:∀j,j<8->(j==NR)=false:=fun j hj=>by rw[beq_eq_false_iff_ne];omega
 have old:∀j x,j<8->h[j]? =some x->x.drop (fun x=>x==NR)=x->((h.map (O.drop fun x=>x==NR)).set NR (.cells (nvs'.map V.str)))[j]? =some x:=fun j x hj hx hd=>by rw[zqn (by omega),zqo,hx,zrw,hd]
 refine⟨old _ _ (by omega) k.s1 ?_,old _ _ (by omega) k.s3 ?_,old _ _ (by omega) k.s4 ?_,old _ _ (by omega) k.s5 ?_,old _ _ (by omega) k.s6 rfl,zqt (by simpa using hlt),r⟩
 ·show O.cells [V.drop _ _]=_;rw[V.drop,b 5 (by omega)];rfl
 ·show O.map (V.drops _ _) (V.drops _ _)=_;rw[aJ,bz];rfl
 ·show O.cells [V.drop _ _]=_;rw[V.drop,b 3 (by omega)];rfl
 ·show O.cells (V.drops _ _)=_;rw[bz]
def Du(l:List S)(out:List Nat)(i:Nat):List S:=((List.range i).filter fun j=> !out.contains j).map fun j=>l.getD j []
theorem Ot{l:List S}{out:List Nat}{i:Nat}:Du l out (i+1)=if(!out.contains i)=true then Du l out i++[l.getD i []]else Du l out i:=by
 unfold Du;rw[List.range_succ,List.filter_append,zql];split
 ·rename_i h;rw[List.filter_cons_of_pos (p:=fun j=> !out.contains j) h];rfl
 ·rename_i h;rw[List.filter_cons_of_neg (p:=fun j=> !out.contains j) h];simp
theorem RS{l:List S}{out:List Nat}{i:Nat}:(Du l out i).length<=i:=by unfold Du;rw[zra];exact Nat.le_trans (List.length_filter_le _ _) (by rw[List.length_range];exact zrb _)
theorem Ou{l:List S}(hl:l.Nodup){out:List Nat}{a:Nat}(ha:a<l.length)(ho:a∉out):V7 .str (.str (l.getD a [])) ((tK l out).map V.str) (dh (jF l.length out))=some ((tK l (out++[a])).map V.str,dh (jF l.length (out++[a]))):=by
 have hn:(jF l.length out).Nodup:=List.nodup_range.sublist List.filter_sublist;have hm:a∈jF l.length out:=by unfold jF;rw[List.mem_filter];exact⟨List.mem_range.2 ha,by simpa using ho⟩
 have hs:l.getD a []∈tK l out:=zrh.2 ⟨a,hm,rfl⟩;obtain⟨k,hk⟩:=GZ hs;obtain⟨h1,h2⟩:=qI hk;have h1':k<(jF l.length out).length:=by unfold tK at h1;simpa using h1
 have hka:(jF l.length out)[k]=a:=by
  have h3:(jF l.length out)[k]<l.length:=by have:=zqu h1';unfold jF at this;exact List.mem_range.1 (List.mem_filter.1 this).1
  have h4:l.getD (jF l.length out)[k] []=l.getD a []:=by rw[<-h2];simp[tK]
  rw[zqg,zqg,zqk h3,zqk ha]at h4;exact(List.getElem_inj hl).1 h4
 unfold V7;rw[bK,hk];have e:=uP (jF l.length out) k h1' hn;rw[hka,<-Oq]at e;show some (((tK l out).map V.str).eraseIdx k,(dh (jF l.length out)).eraseIdx k)=_;unfold tK;have e3:dh ((jF l.length out).eraseIdx k)=(dh (jF l.length out)).eraseIdx k:=dY ..;rw[e,dY,dY,e3]
def yA(L:(Nat->V)->LoopState->Option Code->O)(c:Ci)(out:List Nat)(t:Nat->V):H:=[ciO c,.cells [.ls 5 1 0 out.length out.length],ciO c,oV (aQ c) out,.cells [.lm 3],.cells (dh out),.misc .dfd,L t .ready none]
def sHp(L:(Nat->V)->LoopState->Option Code->O)(c:Ci)(out:List Nat)(h0:H):Prop:=∃t,t 1= .lp 0 0/\t 4= .lp 1 0/\t 5= .lp 4 0/\h0=yA L c out t
theorem Vk[MO](c:Ci)(hs:Sum c):Ev TE 59 [c.v] (.tup [.is false 1 (dh (zy c).1),aN (zy c).2]):=by
 have hM:=mLx;have hR:=RQ hs;have hC:=Oo c;unfold zy;refine ak Tryz.func59 rfl (by simp[nts]) ?_;refine vn ?_;simp only[wq.1,Nat.reduceLT,Tryz.results59];refine vn ?_;simp only[wq.1,seval];refine ag.ev hR (kS c) ?_;simp only[wq.1,seval];by_cases h0:(nT c).1=0
 ·rw[if_pos h0];have ok:=(BR c).1 h0;have lm:=Vb ok.lim;have hnd:=vK ok.nets;have hg:=lm.gates;simp only[wq.1,h0];refine vn ?_;simp only[wq.1,Nat.reduceLT];refine vn ?_;simp only[wq.1,seval];refine pV (vM c hnd (by omega)) (kS c) ?_;rintro ae h' p ⟨rfl,rfl⟩;have hsh:O.sh 2 (ciO c)=ciO c:=by
   show O.cells (V.shs 2 _)=_;rw[V.shs_dats 2 _ (by have:=vJ c;unfold Ci.v at this;simpa only[V.dat]using this)]
  have hsp:O.sh 2 (plO (aQ c))=plO (aQ c):=by show O.map (V.shs 2 _) (V.shs 2 _)=_;rw[V.shs_dats 2 _ ax,V.shs_dats 2 _ (l9 _)];rfl
  simp only[wq.1,seval,AEnd.sh,V.sh,hsh,hsp];have hpl:plO (aQ c)=oV (aQ c) []:=by
   have e:jF (aQ c).length []=List.range (aQ c).length:=by unfold jF;rw[List.filter_eq_self.2];intro a _;rfl
   unfold plO oV;rw[e];unfold tK;rw[e,I4 (aQ c) [] (fun s=>s),List.map_id']
  rw[hpl];refine fQ ?_;refine lg (h':=[ciO c,.cells [.ls 5 1 0 0 0],ciO c,oV (aQ c) [],.cells [.lm 3],.cells []]) (HLe.set (i:=1) (o':= .cells [.ls 5 1 0 0 0]) rfl (OLe.cells (zrb _) (bW.cons dE bW.nil))) ?_;refine ai ?_;refine vn ?_;simp only[wq.1,seval];refine ag.ev hC (kS c) ?_;simp only[wq.1];refine aA ?_;refine jc (n:=54) (q:=171) (first:=[]) (captured:=[.ip c.v]) (by simp only[wq.1,↓reduceIte]) (by simp only[wq.1,↓reduceIte]) rfl (by decide) ?_;intro L hLd gets;have hgd:c.gates.length=(aQ c).length:=by simp
  refine ag.mono (Cm c hnd (by omega) (fun g hg=>by have:=lm.gins g hg;omega) (b:=8) (y:=7) (sHp L c) (fun i=>i<8/\i≠5) (by decide) (fun i hi=>hi.1) ?_ ?_ _ ⟨_,?_,?_,?_,rfl⟩ rfl) ?_
  ·rintro out h0 p ⟨t,t1,t4,t5,rfl⟩ hp;refine⟨fun i=>(t i).drop p,?_,?_,?_,?_⟩
   ·show(t 1).drop p=_;rw[t1,V.drop,hp 0 (by omega)];rfl
   ·show(t 4).drop p=_;rw[t4,V.drop,hp 1 (by omega)];rfl
   ·show(t 5).drop p=_;rw[t5,V.drop,hp 4 (by omega)];rfl
   ·unfold yA;simp only[zrd,List.map_nil,hLd];have e5:V.drop p (.ls 5 1 0 out.length out.length)= .ls 5 1 0 out.length out.length:=by rw[V.drop,hp 5 (by omega)];rfl
    have e3:V.drop p (.lm 3)= .lm 3:=by rw[V.drop,hp 3 (by omega)];rfl
    have el:O.drop p (oV (aQ c) out)=oV (aQ c) out:=by show O.map (V.drops p _) (V.drops p _)=_;rw[aJ,bz];rfl
    have ei:O.drop p (ciO c)=ciO c:=rfl;rw[el,ei];simp only[O.drop,V.drops,e5,e3,bz]
  ·rintro out a h ⟨t,t1,t4,t5,he⟩ hbl hol ha hao;obtain⟨X,hX⟩:∃X,X=h.drop 8:=⟨_,rfl⟩;have hh:h=yA L c out t++X:=by rw[hX,<-he,List.take_append_drop]
   clear he hX hbl;subst hh;refine gets _ _ _ t rfl rfl (fun lb=> ?_);obtain⟨HC,hHC⟩:∃HC,HC=[ciO c,.cells [.ls 5 1 0 out.length out.length],ciO c,oV (aQ c) out,.cells [.lm 3],.cells (dh out),.misc .dfd,L t .busy none]++X:=⟨_,rfl⟩;obtain⟨X3,hX3⟩:∃X3,X3=dh (out++[a]):=⟨_,rfl⟩;have e7:(yA L c out t++X).set 7 (L t .busy none)=HC:=by rw[hHC];rfl
   have e70:(yA L c out t++X)[7]? =some (L t .ready none):=rfl;have g0:HC[0]? =some (.cells [aN c.ins,aN c.outs,kG c.lat,iG c.gates]):=by rw[hHC];rfl
   have g1:HC[1]? =some (.cells [.ls 5 1 0 out.length out.length]):=by rw[hHC];rfl
   have g5:HC[5]? =some (.cells (dh out)):=by rw[hHC];rfl
   have hnx:dh out++[V.int .i64 (a:Int)]=X3:=by rw[hX3,dh,dh,zql];rfl
   have hd3:V.drops (fun x=>x==5) X3=X3:=by rw[hX3,bz]
   have hgg:=sZ ha .any;obtain⟨g,hg⟩:∃g,g=c.gates[a]:=⟨_,rfl⟩;rw[<-hg]at hgg;refine vm ?_;simp only[wq.1,↓reduceIte,Nat.reduceLT,Nat.reduceAdd,rZ];refine⟨t,e70,?_⟩;rw[e7];refine aA ?_;refine vn ?_;have g1':((HC.map (O.drop fun x=>x==5)).set 5 (.cells X3))[1]? =some (.cells [.any]):=by rw[hHC];rfl
   simp only[wq.1,↓reduceIte,Nat.reduceEqDiff,Nat.reduceLT,Nat.reduceBEq,reduceCtorEq,Nat.reduceMul,t4,g1,g5,hnx,hd3,g1'];obtain⟨t',ht'⟩:∃t':Nat->V,t'=fun i=>(t i).drop fun x=>x==5:=⟨_,rfl⟩;have t1':t' 1= .lp 0 0:=by rw[ht'];show(t 1).drop _=_;rw[t1];rfl
   have t4':t' 4= .lp 1 0:=by rw[ht'];show(t 4).drop _=_;rw[t4];rfl
   have t5':t' 5= .lp 4 0:=by rw[ht'];show(t 5).drop _=_;rw[t5];rfl
   obtain⟨HD,hHD⟩:∃HD,HD=[ciO c,.cells [.ls 5 1 0 (out.length+1) (out.length+1)],ciO c,oV (aQ c) out,.cells [.lm 3],.cells X3,.misc .dfd,L t' .busy none]++X.map (O.drop fun x=>x==5):=⟨_,rfl⟩;have e8:((HC.map (O.drop fun x=>x==5)).set 5 (.cells X3)).set 1 (.cells [.ls 5 1 0 (out.length+1) (out.length+1)])=HD:=by
    have el:O.drop (fun x=>x==5) (oV (aQ c) out)=oV (aQ c) out:=by show O.map (V.drops _ _) (V.drops _ _)=_;rw[aJ,bz];rfl
    have ei:O.drop (fun x=>x==5) (ciO c)=ciO c:=rfl;rw[hHC,hHD,zql];simp only[zrd,List.map_nil,hLd,el,ei,<-ht'];rfl
   have f0:HD[0]? =some (.cells [aN c.ins,aN c.outs,kG c.lat,iG c.gates]):=by rw[hHD];rfl
   have f4:HD[4]? =some (.cells [.lm 3]):=by rw[hHD];rfl
   have f3:HD[3]? =some (oV (aQ c) out):=by rw[hHD];rfl
   rw[e8];refine⟨⟨rfl,by decide⟩,⟨by omega,by omega,by omega⟩,?_⟩;refine Nu mixed (by decide +kernel) ?_;simp only[nts,List.size_toArray,zrt,List.length_nil,Nat.reduceAdd,Nat.reduceSub,List.take_succ_cons,List.take_zero];simp only[wq.1,seval,bC,bI,t1,t5,f0,f4,hgg];refine⟨⟨by omega,by omega⟩,?_⟩;have hgn:(aQ c).getD a []=g.name:=by
    rw[hg,zqg,zqo,zqk ha];rfl
   have hmd:=Ou hnd (out:=out) (a:=a) (by omega) hao;rw[hgn]at hmd;have hq1:ti TE.P 178=some ⟨.map 9 3,1,8,.nilm⟩:=by simp only[wq.1]
   have hqs:ti TE.P 9=some ⟨.str,1,16,.str []⟩:=by simp only[wq.1]
   refine⟨_,rfl,rfl,rfl,?_⟩;refine zU (kt':=0) (t:=178) rfl rfl (id:=3) (by simp only[wq.1,seval]) (by simp only[wq.1,seval]) (by simp only[wq.1,↓reduceIte]) hq1 rfl hqs (by simp only[wq.1,↓reduceIte,K.keyOk]) f3 (by simp only[wq.1,↓reduceIte];rw[hgd];exact hmd) ?_;obtain⟨HE,hHE⟩:∃HE,HE=HD.set 3 (oV (aQ c) (out++[a])):=⟨_,rfl⟩;have hlo:O.map ((tK (aQ c) (out++[a])).map V.str) (dh (jF (aQ c).length (out++[a])))=oV (aQ c) (out++[a]):=rfl;rw[hlo,<-hHE];have h7:HE[7]? =some (L t' .busy none):=by rw[hHE,hHD];rfl
   simp only[wq.1,Nat.reduceBEq,nR,XE.jump,h7];have hf:HE.set 7 (L t' .ready none)=yA L c (out++[a]) t'++X.map (O.drop fun x=>x==5):=by
    have hol:(out++[a]).length=out.length+1:=by simp
    unfold yA;rw[hHE,hHD,hX3,hol];rfl
   refine⟨t',.busy,rfl,fun i hi=>by rw[beq_eq_false_iff_ne];omega,⟨t',t1',t4',t5',?_⟩,fun j hj=> ?_⟩
   ·show List.take 8 (HE.set 7 (L t' .ready none))=_;rw[hf];rfl
   ·show(HE.set 7 (L t' .ready none))[j]? =_;have b8:∀o tt,(yA L c o tt).length=8:=fun _ _=>rfl;rw[hf,zsb (by rw[b8];exact hj),zsb (by rw[b8];exact hj),zqo,b8,b8]
  ·simp only[wq.1,seval]
  ·simp only[wq.1,seval]
  ·simp only[wq.1,seval]
  ·rintro ae h' p ⟨hp4,hr⟩;cases ae with
   |pan v=>exact hr.elim
   |ret v =>
    obtain⟨⟨t,t1,t4,t5,he⟩,hl8⟩:=hr;obtain⟨X,hX⟩:∃X,X=h'.drop 8:=⟨_,rfl⟩;obtain⟨out,hout⟩:∃out,out=qY (aQ c) (gins c):=⟨_,rfl⟩;rw[<-hout]at he;have hh:h'=yA L c out t++X:=by rw[hX,<-he,List.take_append_drop]
    clear he hX hl8;subst hh;refine⟨?_,hp4 7 (by decide),t,_,none,(by decide),rfl,?_⟩
    ·intro i hi;have hi:i=6:=by simpa [rU,rV]using hi
     subst hi;exact hp4 6 (by decide)
    ·have k0:=hp4 0 (by decide);have k1:=hp4 1 (by decide);have k3:=hp4 3 (by decide);have k4:=hp4 4 (by decide);have k6:=hp4 6 (by decide);have k7:=hp4 7 (by decide);obtain⟨HS,hHS⟩:∃HS,HS=(yA L c out t++X).set 7 (L t .exhausted none):=⟨_,rfl⟩;obtain⟨NR,hNR⟩:∃NR,NR=HS.length:=⟨_,rfl⟩;have hN8:8<=NR:=by rw[hNR,hHS];simp[yA]
     have s1:HS[1]? =some (.cells [.ls 5 1 0 out.length out.length]):=by rw[hHS];rfl
     have s0:HS[0]? =some (.cells [aN c.ins,aN c.outs,kG c.lat,iG c.gates]):=by rw[hHS];rfl
     have s3:HS[3]? =some (oV (aQ c) out):=by rw[hHS];rfl
     have s4:HS[4]? =some (.cells [.lm 3]):=by rw[hHS];rfl
     have s5:HS[5]? =some (.cells (dh out)):=by rw[hHS];rfl
     have s6:HS[6]? =some (.misc .dfd):=by rw[hHS];rfl
     simp only[wq.1,Nat.reduceAdd,zl];rw[<-hHS];clear hHS;refine vn ?_;simp only[wq.1,Nat.reduceLT];refine vn ?_;simp only[wq.1,seval,k0,s0];refine gV 7 1 (by simp only[wq.1,seval]) ?_;have ns:NS (aQ c) out NR [] (HS++[.cells []]):=by
      have old:∀j x,HS[j]? =some x->(HS++[O.cells []])[j]? =some x:=fun j x hx=>by rw[zqj (zqe hx).1];exact hx
      exact⟨old _ _ s1,old _ _ s3,old _ _ s4,old _ _ s5,old _ _ s6,by rw[hNR];simp,hN8⟩
     have hfin:nU (aQ c) (gins c)=Du (aQ c) out c.gates.length:=by unfold nU Du;rw[<-hout,hgd]
     rw [show qY (List.map (fun x => x.name) c.gates) (List.map (fun x => x.ins) c.gates) = out from hout.symm,show nU (List.map (fun x => x.name) c.gates) (List.map (fun x => x.ins) c.gates) = Du (aQ c) out c.gates.length from hfin];refine aC (fun m f h => ∃ i,m + i = c.gates.length /\ i <= c.gates.length /\ NS (aQ c) out NR (Du (aQ c) out i) h /\ f.t 4 = .lp 1 0 /\ f.t 5 = .lp 4 0 /\ f.t 7 = .ls NR 1 0 (Du (aQ c) out i).length (Du (aQ c) out i).length /\ f.t 32 = iG c.gates /\ f.t 33 = vi c.gates.length /\ f.t 34 = vi i /\ f.d = [6]) c.gates.length
      ⟨0,by omega,by omega,ns,by simp only[wq.1,seval,k1],by simp only[wq.1,seval,k4],by(simp only[wq.1,↓reduceIte];rw[hNR];rfl),by simp only[wq.1,seval],by simp only[wq.1,seval],by simp only[wq.1,↓reduceIte,Nat.reduceEqDiff];rfl,by simp only[wq.1]⟩ ?_
     clear ns s0 s1 s3 s4 s5 s6 k0 k1 k3 k4 k6 k7 hp4;rintro m f h ⟨i,hm,hil,ns,t4,t5,t7,t32,t33,t34,hd⟩;have hw:=aB (show i<maxLen by omega);have n4:=ns.s4;have n3:=ns.s3;have n6:=ns.s6;have nN:=ns.sN;have n1:=ns.s1;have nl:=RS (l:=aQ c) (out:=out) (i:=i);refine vn ?_;simp only[wq.1,Nat.reduceLT,t33,t34];refine vn ?_;simp only[wq.1,↓reduceIte];refine vcB.mk (fun hlt=> ?_) (fun hlt=> ?_)
     ·have hlt:i<c.gates.length:=by have:=zqs hlt;omega
      obtain⟨g,hg⟩:∃g,g=c.gates[i]:=⟨_,rfl⟩;have hgg:=sZ hlt .any;rw[<-hg]at hgg;have hgn:(aQ c).getD i []=g.name:=by rw[hg,zqg,zqo,zqk hlt];rfl
      have hla:=Vj hnd (out:=out) (a:=i) (by omega);have hsu:=Ot (l:=aQ c) (out:=out) (i:=i);rw[hgn]at hla hsu;obtain⟨cp,hcp⟩:∃cp:O,cp= .cells [.str g.name,vi g.op,aN g.ins,aN g.rows,.bool g.off]:=⟨_,rfl⟩;have ns2:=ns.more cp;have hgE:∀x:O,(h++[x])[h.length]? =some x:=fun x=>by simp
      have hgS:∀y:O,(h++[y]).set h.length (.cells [.str g.name,vi g.op,aN g.ins,aN g.rows,.bool g.off])=h++[.cells [.str g.name,vi g.op,aN g.ins,aN g.rows,.bool g.off]]:=fun y=>by simp
      have m4:∀o:O,(h++[o])[4]? =some (.cells [.lm 3]):=fun o=>(ns.more o).s4;have m3:∀o:O,(h++[o])[3]? =some (oV (aQ c) out):=fun o=>(ns.more o).s3;unfold oV at m3;cases hat:at? (tK (aQ c) out) g.name with
      |none=>rw[hat]at hla;rw[<-hla,if_neg (by decide)]at hsu;simp only[wq.1];refine vm ?_;simp only[wq.1,seval,t5,t32,t34,hgg,hgE,hgS,m4,m3,rP,bK,hat,hw];refine⟨⟨by omega,by omega⟩,?_⟩;refine .inl ⟨m-1,by omega,i+1,by omega,by omega,by rw[hsu,<-hcp];exact ns2,by simp only[wq.1,seval,t4],by simp only[wq.1,seval,t5],by(simp only[wq.1,seval,t7,hsu]),by simp only[wq.1,seval,t32],by simp only[wq.1,seval,t33],by simp only[wq.1,↓reduceIte],by simp only[wq.1,hd]⟩
      |some k =>
       rw[hat]at hla;rw[<-hla,if_pos (show(some k).isSome=true from rfl)]at hsu;have hkl:k<(jF c.gates.length out).length:=by
        have:=(qI hat).1;unfold tK at this;rw[zra,<-hgd]at this;exact this
       have hkv:=XX hkl .any;obtain⟨X3,hX3⟩:∃X3,X3=(Du (aQ c) out (i+1)).map V.str:=⟨_,rfl⟩;have hnx:(Du (aQ c) out i).map V.str++[.str g.name]=X3:=by rw[hX3,hsu,zql];rfl
       have hd3:V.drops (fun x=>x==NR) X3=X3:=by rw[hX3,aJ]
       have mN:∀o:O,(h++[o])[NR]? =some (.cells ((Du (aQ c) out i).map V.str)):=fun o=>(ns.more o).sN;have b6:(6==NR)=false:=by rw[beq_eq_false_iff_ne];omega
       have b1:(1==NR)=false:=by rw[beq_eq_false_iff_ne];omega
       have b4:(4==NR)=false:=by rw[beq_eq_false_iff_ne];omega
       simp only[wq.1];refine vm ?_;simp only[wq.1,↓reduceIte,Nat.reduceEqDiff,Nat.reduceLT,Nat.reduceLeDiff,Nat.reduceAdd,reduceCtorEq,Nat.reduceMul,t5,t7,t32,t34,hd,hgg,hgE,hgS,m4,m3,mN,rP,bK,hat,hkv,hnx,hd3,b6,hw];refine⟨⟨by omega,by omega⟩,⟨rfl,by decide⟩,⟨by omega,by omega,by omega⟩,?_⟩;have hln:(Du (aQ c) out (i+1)).length=(Du (aQ c) out i).length+1:=by rw[hsu];simp
       have ns3:=ns2.app (Du (aQ c) out (i+1));rw[zql,<-hX3,hcp]at ns3;refine .inl ⟨m-1,by omega,i+1,by omega,by omega,ns3,by simp only[wq.1,seval,t4,b1],by simp only[wq.1,seval,t5,b4],by(simp only[wq.1,seval,hln]),by simp only[wq.1,seval,t32],by simp only[wq.1,seval,t33],by simp only[wq.1,↓reduceIte],by simp only[wq.1,hd]⟩
     ·have hi:i=c.gates.length:=by have:=of_decide_eq_false hlt;omega
      rw[hi]at ns t7;simp only[wq.1];refine vm ?_;simp only[wq.1,seval,t4,t7,n1,hd,kZ,n6];have nr:=ns.r;refine aG.tup (ay.cons (vN ?_) (ay.cons (aV (id:=NR) ?_ rfl) ay.nil))
      ·rw[zqn (by omega)];exact ns.s5
      ·rw[zqn (by omega)];exact ns.sN
 ·rw[if_neg h0];simp only[wq.1,seval,h0];exact aG.tup (ay.cons aG.nils (ay.cons aG.nils ay.nil))
theorem EW[MO](c:Ci)(hs:Sum c):Ev TE 18 [c.v] (.tup [vi (sV c).1,.str (sV c).2]):=by
 have hM:=mLx;have hN:=EK c hs;have hS:=Vk c hs;have hnd:V.dats (dh (zy c).1)=true:=l9 _;unfold sV;by_cases h0:(nT c).1=0
 ·have e0:((nT c).1 != 0)=false:=by simp[h0]
  rw[if_neg (by simpa using h0)];refine ak Tryz.func18 rfl (by simp[nts]) (vm ?_);simp only[wq.1,seval,Tryz.results18];refine ag.ev hN (kS c) ?_;simp only[wq.1,↓reduceIte,Nat.reduceEqDiff,Nat.reduceLT,Nat.reduceAdd,reduceCtorEq,e0];obtain⟨nl,hnl⟩:∃nl,nl=(zy c).2:=⟨_,rfl⟩;rw[<-hnl]at hS ⊢;cases nl with
  |nil=>refine ag.ev hS (kS c) ?_;simp only[wq.1,↓reduceIte,Nat.reduceEqDiff,Nat.reduceLT,Nat.reduceAdd];rw[show decide (0<((0:Nat):Int))=false from rfl];simp only[wq.1,seval];exact aG.tup (ay.cons (aG.dat rfl) (ay.cons (aG.dat rfl) ay.nil))
  |cons s nl =>
   refine ag.ev hS (kS c) ?_;have hg:((s::nl).map V.str).getD 0 .any= .str s:=rfl;have hpos:decide (0<((nl.length+1:Nat):Int))=true:=by rw[zqb];omega
   simp only[wq.1,seval,hpos];exact⟨by decide +kernel,by omega,aG.tup (ay.cons (aG.dat rfl) (ay.cons (aG.dat rfl) ay.nil))⟩
 ·have e0:((nT c).1 != 0)=true:=by simpa using h0
  rw[if_pos h0];refine ak Tryz.func18 rfl (by simp[nts]) (vm ?_);simp only[wq.1,seval,Tryz.results18];refine ag.ev hN (kS c) ?_;simp only[wq.1,seval,e0];exact aG.tup (ay.cons (aG.dat rfl) (ay.cons (aG.dat rfl) ay.nil))
theorem CB{g:Ga}(h:GOk g):jm g=g:=by
 unfold jm;split
 ·rename_i h1;have hh:=h.h;rw[h1.1]at hh;split
  ·rename_i h2;rcases h2 with e|e|e<;>rw[e]at hh<;>exact absurd hh (by decide)
  ·split
   ·rename_i h2;rcases h2 with e|e|e<;>rw[e]at hh<;>exact absurd hh (by decide)
   ·rfl
 ·rfl
structure Fo where
 kind:Nat
 lit:Nat
 kids:Nat
abbrev Li:=Nat×UInt8
def bV:Nat->S->List Li
 |_,[]=>[]
 |i,c::r=>if c=45 then bV (i+1) r else(i,c)::bV (i+1) r
def bD(row:S):List Li:=bV 0 row
def lI(x:Li)(row:S):Bool:=(bD row).contains x
def iU(rows:List S)(x:Li):Nat:=rows.countP (lI x)
def nz(row:S)(l:List Li):S:=l.foldl (fun b x=>b.set x.1 45) row
def aW(rows:List S)(l:List Li):List S:=rows.map fun r=>nz r l
def mg(x:Li):Fo:=⟨2,if x.2=48 then 2*x.1+1 else 2*x.1,0⟩
def zC:List Fo->List Fo
 |[f]=>if f.kind=1 then []else [f]
 |l=>l
def RU(l:List Li)(rest:List Fo):Nat:=l.length+min (zC rest).length 1
def CE(l:List Li)(rest:List Fo):List Fo:=(if 1<RU l rest then [⟨3,0,RU l rest⟩]else [])++l.map mg++zC rest
def fC(rows:List S)(b:Li×Nat)(x:Li):Li×Nat:=if b.2<iU rows x then(x,iU rows x)else b
def wC(n:Nat):List Li:=(List.range n).flatMap fun i=>[(i,49),(i,48)]
def lG(rows:List S):Li×Nat:=(wC (rows.headD []).length).foldl (fC rows) ((0,0),0)
def og(row:S):Bool:=row.all (·==45)
def dM(rows:List S):List Li:=(bD (rows.headD [])).filter fun x=>iU rows x==rows.length
def cZ(rows:List S):Nat:=(rows.map fun r=>(bD r).length+1).sum
def yB:Nat->List S->List Fo
 |0,_=>[]
 |f+1,rows =>
  if rows=[]then [⟨0,0,0⟩]
  else if rows.any og=true then [⟨1,0,0⟩]
  else if dM rows≠[]then CE (dM rows) (yB f (aW rows (dM rows)))
  else if(lG rows).2<2 then⟨4,0,rows.length⟩::rows.flatMap fun r=>CE (bD r) []
  else⟨4,0,2⟩::(CE [(lG rows).1] (yB f (aW (rows.filter (lI (lG rows).1)) [(lG rows).1]))++yB f (rows.filter fun r=> !lI (lG rows).1 r))
def TW(rows:List S):List Fo:=yB (cZ rows+1) rows
def WF(n:Nat):Nat->List Fo->Prop
 |0,[]=>True
 |k+1,f::l=>(f.kind=2/\f.lit<2*n/\WF n k l)\/((f.kind=3\/f.kind=4)/\2<=f.kids/\WF n (f.kids+k) l)
 |_,_=>False
theorem WF.app{n:Nat}:∀ {l m:List Fo} {j k:Nat},WF n j l->WF n k m->WF n (j+k) (l++m)
 |[],m,0,k,_,h=>by rw[Nat.zero_add];exact h
 |[],_,j+1,_,h,_=>by unfold WF at h;exact h.elim
 |f::l,_,0,_,h,_=>by unfold WF at h;exact h.elim
 |f::l,m,j+1,k,h,h2=>by
  rw[Nat.add_right_comm,List.cons_append];unfold WF at h ⊢;rcases h with⟨a,b,c⟩|⟨a,b,c⟩
  ·exact .inl ⟨a,b,c.app h2⟩
  ·refine .inr ⟨a,b,?_⟩;rw[<-Nat.add_assoc];exact c.app h2
theorem nC:∀ {i:Nat} {row:S} {x:Li},x∈bV i row->i<=x.1/\x.1<i+row.length
 |i,[],x,h=>by cases h
 |i,c::r,x,h=>by
  rw[bV]at h;rw[zrt];split at h
  ·have:=nC h;omega
  ·rcases zrj.1 h with rfl|h
   ·exact⟨zrb _,by omega⟩
   ·have:=nC h;omega
theorem CG{n:Nat}:∀ {l:List Li},(∀x∈l,x.1<n)->WF n l.length (l.map mg)
 |[],_=>trivial
 |x::l,h=>by rw[zrt,zrd];unfold WF;refine .inl ⟨rfl,?_,CG fun y hy=>h y (by simp[hy])⟩;have:=h x (by simp);unfold mg;dsimp only;split<;>omega
theorem WF.all{n:Nat}{l:List Li}{rest:List Fo}(hl:∀x∈l,x.1<n)(hne:l≠[])(hr:(∃f:Fo,f.kind=1/\rest=[f])\/rest=[]\/WF n 1 rest):WF n 1 (CE l rest):=by
 have hpos:0<l.length:=List.length_pos_iff.2 hne;have key:(zC rest=[]\/WF n 1 (zC rest)):=by
  rcases hr with⟨f,hf,rfl⟩|rfl|hr
  ·left;show(if f.kind=1 then []else [f])=[];rw[if_pos hf]
  ·left;rfl
  ·match rest,hr with
   |[f],hr =>
    show(if f.kind=1 then []else [f])=[]\/WF n 1 (if f.kind=1 then []else [f]);by_cases h1:f.kind=1
    ·rw[if_pos h1];exact .inl rfl
    ·rw[if_neg h1];exact .inr hr
   |[],hr=>unfold WF at hr;exact hr.elim
   |_::_::_,hr=>exact .inr hr
 unfold CE RU;rcases key with h|h
 ·rw[h,zqp];have e:l.length+min ([]:List Fo).length 1=l.length:=by simp
  rw[e];split
  ·show WF n (0+1) (_::l.map mg);unfold WF;exact .inr ⟨.inl rfl,(show 2<=l.length by omega),CG hl⟩
  ·have:l.length=1:=by omega
   have hw:=CG hl;rw[this]at hw;exact hw
 ·have hp:0<(zC rest).length:=by
   cases hc:zC rest with
   |nil=>rw[hc]at h;unfold WF at h;exact h.elim
   |cons _ _=>simp
  have e:l.length+min (zC rest).length 1=l.length+1:=by omega
  rw[e,if_pos (by omega)];show WF n (0+1) (_::(l.map mg++zC rest));unfold WF;exact .inr ⟨.inl rfl,(show 2<=l.length+1 by omega),(CG hl).app h⟩
end Go.Proofs.YthaijohbpdabfaaGreatDoor
