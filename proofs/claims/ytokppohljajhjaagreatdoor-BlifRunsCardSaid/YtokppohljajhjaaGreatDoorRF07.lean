/- Lemmas for this claim, part F07: each holds under what it names. -/
import Derived.Test.YtokppohljajhjaaGreatDoorRF06
import Derived.Test.YtokppohljajhjaaGreatDoorRA10
set_option linter.all false
set_option maxRecDepth 100000
set_option maxHeartbeats 4000000
namespace Go.Proofs.YtokppohljajhjaaGreatDoor
open Go Go.Proofs Go.Abs
def Ah(b n:Nat):List V:=(List.range n).map fun j=> .lm (b+(7+n+2*j+1))
theorem DF{b n:Nat}:(Ah b n).length=n:=by simp[Ah]
theorem DI{b n j:Nat}(h:j<n)(d:V):(Ah b n).getD (j*1) d= .lm (b+(7+n+2*j+1)):=by unfold Ah;rw[Nat.mul_one,zqg,zqo,List.getElem?_range h];rfl
theorem Ql(b n:Nat):V.shs b (jm n n)=Ah b n:=by
 have:∀l:List Nat,(∀j∈l,j<n)->V.shs b (l.map fun j=>if j<n then V.lm (7+n+2*j+1)else .nilm)=l.map fun j=> .lm (b+(7+n+2*j+1)):=by
  intro l
  induction l with
  |nil=>intro _;rfl
  |cons a l ih=>intro h;rw[zrd,V.shs,if_pos (h a (by simp)),ih fun j hj=>h j (by simp[hj])];rfl
 exact this _ fun j hj=>List.mem_range.1 hj
theorem Fq{p:Nat->Bool}{b n:Nat}(hp:∀j,j<n->p (b+(7+n+2*j+1))=false):V.drops p (Ah b n)=Ah b n:=lK fun v hv=>by obtain⟨j,hj,rfl⟩:=zrh.1 hv;rw[V.drop,hp j (List.mem_range.1 hj)];rfl
def Qm(B:List (List Nat)):List V:=B.map fun l=> .is false 1 (cO l)
structure CS(Hp:List Nat->H->Prop)(b n K nr:Nat)(B:List (List Nat))(out:List Nat)(M:List (List Nat))(Q:List Nat)(h:H):Prop where
 hp:Hp out (h.take b)
 xn:h[b+nr]? =some (.cells (Ah b n))
 xm:∀j,j<n->h[b+(7+n+2*j+1)]? =some (N8 (M.getD j []))
 xw:h[K]? =some (.cells [.ls (b+nr) 1 0 n n,.is false 1 (Qm B)])
 pi:HPi (K+1) (K+2) Q h
 r:nr<7/\4<=nr/\b+nr<K/\∀j,j<n->b+(7+n+2*j+1)<K
 lM:M.length=n
theorem CS.next{Hp:List Nat->H->Prop}{b n K nr:Nat}{B:List (List Nat)}{out out':List Nat}{M:List (List Nat)}{Q Q':List Nat}{h h':H}(s:CS Hp b n K nr B out M Q h)(hp:Hp out' (h'.take b)){p:Nat->Bool}
 (hd:∀j,b<=j->j<=K->h'[j]? =(h[j]?).map (O.drop p)\/h'[j]? =h[j]?) (hpp:∀j,b<=j->j<=K->p j=false) (pi:HPi (K+1) (K+2) Q' h'):CS Hp b n K nr B out' M Q' h':=by
 obtain⟨r1,r2,r3,r4⟩:=s.r;have key:∀(j:Nat)(o:O),b<=j->j<=K->h[j]? =some o->o.drop p=o->h'[j]? =some o:=fun j o h1 h2 h3 h4=>by
  rcases hd j h1 h2 with h5|h5
  ·rw[h5,h3,zrw,h4]
  ·rw[h5,h3]
 refine⟨hp,key _ _ (by omega) (by omega) s.xn ?_,fun j hj=>key _ _ (by omega) (by have:=r4 j hj;omega) (s.xm j hj) ?_,key _ _ (by omega) (by omega) s.xw ?_,pi,s.r,s.lM⟩
 ·show O.cells (V.drops p _)=_;rw[Fq fun j hj=>hpp _ (by omega) (by have:=r4 j hj;omega)]
 ·show O.map (V.drops p _) (V.drops p _)=_;rw[lH,bz]
 ·show O.cells [V.drop p _,V.drop p _]=_;rw[V.drop,hpp _ (by omega) (by omega)];rfl
theorem CS.push{Hp:List Nat->H->Prop}{b n K nr:Nat}{B:List (List Nat)}{out:List Nat}{M:List (List Nat)}{Q:List Nat}{h:H}(s:CS Hp b n K nr B out M Q h)
 (hdrop:∀out h0 (p:Nat->Bool),Hp out h0->(∀i,i<b->p i=false)->Hp out (h0.map (O.drop p))) (Q':List Nat):CS Hp b n K nr B out M Q' (ql (K+1) (K+2) h Q'):=by
 obtain⟨r1,r2,r3,r4⟩:=s.r;refine s.next (p:=fun x=>x==K+2) ?_ (fun j h1 h2=> .inl ?_) (fun j h1 h2=>by rw[beq_eq_false_iff_ne];omega) (s.pi.push Q')
 ·unfold ql;rw[List.take_set_of_le (by omega),List.take_set_of_le (by omega),<-List.map_take];exact hdrop _ _ _ s.hp fun i hi=>by rw[beq_eq_false_iff_ne];omega
 ·unfold ql;rw[zqn (by omega),zqn (by omega),zqo]
theorem CS.pop{Hp:List Nat->H->Prop}{b n K nr:Nat}{B:List (List Nat)}{out:List Nat}{M:List (List Nat)}{Q:List Nat}{h:H}(s:CS Hp b n K nr B out M Q h)(Q':List Nat):CS Hp b n K nr B out M Q' (Fj (K+1) (K+2) h Q'):=by
 obtain⟨r1,r2,r3,r4⟩:=s.r;refine s.next (p:=fun _=>false) ?_ (fun j h1 h2=> .inr ?_) (fun j h1 h2=>rfl) (s.pi.pop Q')
 ·unfold Fj;rw[List.take_set_of_le (by omega),List.take_set_of_le (by omega)];exact s.hp
 ·unfold Fj;rw[zqn (by omega),zqn (by omega)]
theorem CS.told{Hp:List Nat->H->Prop}{b n K nr:Nat}{B:List (List Nat)}{out out':List Nat}{M:List (List Nat)}{Q:List Nat}{h h':H}(s:CS Hp b n K nr B out M Q h)(hp:Hp out' (h'.take b)){p:Nat->Bool}
 (hd:∀j,b<=j->h'[j]? =(h[j]?).map (O.drop p)) (hpp:∀j,b<=j->p j=false):CS Hp b n K nr B out' M Q h':=by
 obtain⟨r1,r2,r3,r4⟩:=s.r;refine s.next hp (fun j h1 _=> .inl (hd j h1)) (fun j h1 _=>hpp j h1) ⟨?_,?_,s.pi.ne⟩
 ·rw[hd _ (by omega),s.pi.p];show some (O.cells [V.drop p _])=_;rw[V.drop,hpp _ (by omega)];rfl
 ·rw[hd _ (by omega),s.pi.q];show some (O.cells (V.drops p _))=_;rw[bz]
theorem CS.del{Hp:List Nat->H->Prop}{b n K nr:Nat}{B:List (List Nat)}{out:List Nat}{M:List (List Nat)}{Q:List Nat}{h:H}(s:CS Hp b n K nr B out M Q h){i:Nat}(hi:i<n)(l:List Nat) :
 CS Hp b n K nr B out (M.set i l) Q (h.set (b+(7+n+2*i+1)) (N8 l)):=by
 obtain⟨r1,r2,r3,r4⟩:=s.r;have hk:=r4 i hi;have hlt:=(zqe (s.xm i hi)).1;have lM:=s.lM;refine⟨?_,?_,fun j hj=> ?_,?_,⟨?_,?_,s.pi.ne⟩,s.r,by rw[zrn];exact lM⟩
 ·rw[List.take_set_of_le (by omega)];exact s.hp
 ·rw[zqn (by omega)];exact s.xn
 ·rw[mD (by omega)];by_cases hij:i=j
  ·subst hij;rw[if_pos rfl,zqt hlt]
  ·rw[if_neg hij,zqn (by omega)];exact s.xm j hj
 ·rw[zqn (by omega)];exact s.xw
 ·rw[zqn (by omega)];exact s.pi.p
 ·rw[zqn (by omega)];exact s.pi.q
theorem tq{α:Type}[BEq α][LawfulBEq α]:∀(l:List α)(k:Nat)(h:k<l.length),l.Nodup->l.filter (· != l[k])=l.eraseIdx k
 |x::l,0,_,hn=>by have hx:=(List.nodup_cons.1 hn).1;rw[List.eraseIdx_cons_zero,List.getElem_cons_zero,List.filter_cons_of_neg (by simp)];exact List.filter_eq_self.2 fun y hy=>by simpa using fun e:y=x=>hx (e▸hy)
 |x::l,k+1,h,hn=>by
  have hx:=(List.nodup_cons.1 hn).1;have hk:k<l.length:=by simpa using h
  rw[List.eraseIdx_cons_succ,List.getElem_cons_succ,List.filter_cons_of_pos (by simpa using fun e:x=l[k]=>hx (e▸zqu hk)),tq l k hk (List.nodup_cons.1 hn).2]
theorem Nb{l:List Nat}(hl:l.Nodup)(a:Nat):Ub (.int .i64) (nv a) (cO l) (qW l.length)=some (cO (l.filter (· != a)),qW (l.filter (· != a)).length):=by
 unfold Ub;rw[lJ];cases h:Dw l a with
 |none =>
  have h1:a∉l:=by have:=vg.1 h;simpa using this
  have:l.filter (· != a)=l:=List.filter_eq_self.2 fun x hx=>by simpa using fun e:x=a=>h1 (e▸hx)
  rw[this]
 |some k =>
  obtain⟨h1,h2⟩:=Dx h;have e:l.filter (· != a)=l.eraseIdx k:=by rw[<-h2];exact tq l k h1 hl
  rw[e];show some ((cO l).eraseIdx k,(qW l.length).eraseIdx k)=_;rw[List.eraseIdx_replicate,if_pos h1,List.length_eraseIdx,if_pos h1,cO,<-dQ]
theorem yS:∀m:Nat,V.dats (qW m)=true
 |0=>rfl
 |m+1=>by show(_&&V.dats (qW m))=true;rw[yS m];rfl
theorem Nc{B:List (List Nat)}{f:Nat}{N:List (List Nat)}{Q:List Nat}(h:Q≠[]):qP B (f+1) N Q=(mZ Q).getLastD 0::qP B f (uJ ((mZ Q).getLastD 0) (B.getD ((mZ Q).getLastD 0) []) (N,(mZ Q).dropLast)).1 (uJ ((mZ Q).getLastD 0) (B.getD ((mZ Q).getLastD 0) []) (N,(mZ Q).dropLast)).2:=by rw[qP,if_neg (by rw[List.isEmpty_iff];exact h)]
theorem Qo{B:List (List Nat)}{N:List (List Nat)}:∀ {f:Nat},qP B f N []=[]
 |0=>rfl
 |f+1=>by rw[qP];rfl
theorem Ai[MO](c:Ci)(hn:(aO c).Nodup)(hl:c.gates.length<=900000)(hin:∀g∈c.gates,g.ins.length<=1000000){b y:Nat}(Hp:List Nat->H->Prop)(kp:Nat->Prop)(hky:kp y)(hkb:∀i,kp i->i<b)
 (hdrop:∀out h0 (p:Nat->Bool),Hp out h0->(∀i,i<b->p i=false)->Hp out (h0.map (O.drop p)))
 (step:∀out a h,Hp out (h.take b)->b<=h.length->out.length<c.gates.length->a<c.gates.length->a∉out->VI TE y [nv a] h fun j h'' p=>j=none/\(∀i,kp i\/b<=i->p i=false)/\Hp (out++[a]) (h''.take b)/\∀j,b<=j->h''[j]? =(h[j]?).map (O.drop p))
 (h:H) (h0:Hp [] (h.take b)) (hb:h.length=b) :
 ag TE 100 ([]++[.yd y]++[.ip c.v]) h fun ae h' p=>(∀i,kp i->p i=false)/\match ae with
  | .ret _=>Hp (zX (aO c) (gins c)) (h'.take b)/\b<=h'.length
  | .pan _=>False:=by
 have hM:=mLx;obtain⟨n,hnn⟩:∃n,n=c.gates.length:=⟨_,rfl⟩;refine ax Tryz.func100 rfl (by simp[nts]) (vm ?_);simp only[wq.1,↓reduceIte,Nat.reduceLT,Nat.reduceAdd,Tryz.results100];refine lq (Jc c hn (by omega) hin) (by simp[V.dats,pJ]) ?_;rintro ae h' p ⟨nr,N,B,hWV,hNl,hBl,r1,r2,rfl,xn,xm⟩;obtain⟨X,hX⟩:∃X,X=h++h'.map (O.sh h.length):=⟨_,rfl⟩;obtain⟨K,hK⟩:∃K,K=X.length:=⟨_,rfl⟩;obtain⟨BV,hBV⟩:∃BV,BV=Qm B:=⟨_,rfl⟩;rw[<-hnn]at xn xm hNl hBl ⊢;have e1:(V.agg [.ls nr 1 0 n n,byV B]).sh h.length= .agg [.ls (b+nr) 1 0 n n,.is false 1 BV]:=by rw[hBV,<-hb];rfl
 have hw0:∀(o:O) j,h'[j]? =some o->X[b+j]? =some (o.sh b):=fun o j ho=>by rw[hX,zsb (by omega),hb,Nat.add_sub_cancel_left,zqo,ho];rfl
 have xn0:=hw0 _ _ xn;have hKl:∀(j:Nat)(o:O),X[j]? =some o->j<K:=fun j o ho=>by rw[hK];exact(zqe ho).1
 have xn1:X[b+nr]? =some (.cells (Ah b n)):=by rw[xn0];show some (O.cells (V.shs b _))=_;rw[Ql]
 have xm1:∀j,j<n->X[b+(7+n+2*j+1)]? =some (N8 (N.getD j [])):=fun j hj=>by rw[hw0 _ _ (xm j hj)];show some (O.map (V.shs b _) (V.shs b _))=_;rw[V.shs_dats b _ (jS _),V.shs_dats b _ (yS _)]
 have htk:X.take b=h:=by rw[hX,List.take_left' hb]
 have hbK:b<=K:=by rw[hK,hX,zqa];omega
 rw[<-hX];have g1:∀x:O,(X++[x])[K]? =some x:=fun x=>by rw[hK];simp
 have g2:∀x y:O,(X++[x]).set K y=X++[y]:=fun x y=>by rw[hK];simp
 have g3:∀x:O,(X++[x]).length=K+1:=fun x=>by rw[hK];simp
 simp only[wq.1,↓reduceIte,Nat.reduceEqDiff,Nat.reduceLT,Nat.reduceAdd,Nat.reduceMul,AEnd.sh,e1,<-hK,g1,g2];refine⟨⟨rfl,by decide⟩,?_⟩;obtain⟨h1,hh1⟩:∃h1:H,h1=X++[.cells [.ls (b+nr) 1 0 n n,.is false 1 BV],.cells [.ls (K+2) 1 0 0 0],.cells []]:=⟨_,rfl⟩;refine iC ?_;refine jG (h':=h1) ?_ ?_
 ·have:=HLe.set (h:=X++[O.cells [V.ls (b+nr) 1 0 n n,V.is false 1 BV]]++[O.cells [V.is true 1 []]]++[.cells []]) (i:=K+1) (o:= .cells [.is true 1 []]) (o':= .cells [.ls (K+2) 1 0 0 0]) (by rw[hK];simp) (OLe.cells (zrb _) (gX.cons (Dp (x:=true)) gX.nil));have e:(X++[O.cells [V.ls (b+nr) 1 0 n n,V.is false 1 BV]]++[O.cells [V.is true 1 []]]++[O.cells []]).set (K+1) (O.cells [V.ls (K+2) 1 0 0 0])=h1:=by rw[hh1,hK];simp
  rw[e]at this;exact this
 have old:∀j o,X[j]? =some o->h1[j]? =some o:=fun j o ho=>by rw[hh1,zqj (zqe ho).1];exact ho
 have w:=G6 (names:=aO c) (ins:=gins c) (by simp);rw[hWV,show(gins c).length=n by rw[hnn];simp]at w;have cs:CS Hp b n K nr B [] N [] h1:=by
  refine⟨?_,old _ _ xn1,fun j hj=>old _ _ (xm1 j hj),?_,⟨?_,?_,by omega⟩,⟨r1,r2,hKl _ _ xn1,fun j hj=>hKl _ _ (xm1 j hj)⟩,hNl⟩
  ·rw[hh1,List.take_append_of_le_length (by omega),htk,zqh (by omega)]at *;exact h0
  ·rw[hh1,hK,hBV];simp
  ·rw[hh1,hK];simp
  ·rw[hh1,hK];simp
 have hS:zX (aO c) (gins c)=qP B n N (uI N ((List.range n).drop 0) []):=by unfold zX;rw[hWV,show(gins c).length=n by rw[hnn];simp];rfl
 obtain⟨S,hSS⟩:∃S,S=zX (aO c) (gins c):=⟨_,rfl⟩;rw[<-hSS]at hS ⊢;have hb1:b<=h1.length:=by rw[hh1];simp;omega
 have hbo := Cv.born w;obtain ⟨Q1,hQ1⟩ : ∃ Q1,Q1 = uI N (List.range n) [] := ⟨_,rfl⟩;rw [List.drop_zero,<- hQ1] at hS;rw [<- hQ1] at hbo;refine aF (fun m f h => ∃ (i : Nat) (Q : List Nat),m + i = n /\ i <= n /\ Q.length <= i /\ CS Hp b n K nr B [] N Q h /\ b <= h.length /\ Q1 = uI N ((List.range n).drop i) Q /\ f.t 0 = .yd y /\ f.t 1 = .ip c.v /\ f.t 3 = .lp K 0 /\ f.t 4 = .lp (K + 1) 0 /\ f.t 15 = vi n /\ f.t 16 = vi i /\ f.d = [] /\ (∀ j,kp j -> f.k j = false)) n
  ⟨0,[],by omega,by omega,zrb _,cs,hb1,hQ1,by simp only[wq.1,seval],by simp only[wq.1,seval],by simp only[wq.1,seval],by simp only[wq.1,seval],by simp only[wq.1,seval];rw[hnn],by simp only[wq.1,↓reduceIte];rfl,by simp only[wq.1],fun _ _=>rfl⟩ ?_
 clear hb1 cs old hh1 h1 xn1 xm1 hw0 xn0 htk g1 g2 g3 e1 hKl;rintro m f h1 ⟨i,Q,hm,hil,hQl,cs,hb1,hQi,t0,t1,t3,t4,t15,t16,hd,hk⟩;have hw:=az (show i<maxLen by omega);have xw:=cs.xw;have xn:=cs.xn;have lnn:c.gates.length=n:=hnn.symm;refine vn ?_;simp only[wq.1,Nat.reduceLT,t15,t16];refine vn ?_;simp only[wq.1,↓reduceIte];refine vcB.mk (fun hlt=> ?_) (fun hlt=> ?_)
 ·have hlt:i<n:=by have:=zqs hlt;omega
  have hdr:(List.range n).drop i=i::(List.range n).drop (i+1):=by rw[List.drop_eq_getElem_cons (by simpa using hlt),List.getElem_range]
  rw[hdr,uI]at hQi;have hng:=DI (b:=b) hlt .any;have hnl:=DF (b:=b) (n:=n);have xm:=cs.xm i hlt;simp only[wq.1];refine vn ?_;simp only[wq.1,seval,t3,t16,xw,xn,hng,xm];refine⟨⟨by omega,by omega⟩,by omega,?_⟩;refine vcB.mk (fun he=> ?_) (fun he=> ?_)
  ·have he:(N.getD i []).isEmpty=true:=by rw[beq_iff_eq]at he;rw[List.isEmpty_iff];exact List.eq_nil_of_length_eq_zero (by omega)
   rw[if_pos he]at hQi;simp only[wq.1,seval,t4];refine⟨by decide,by decide,?_⟩;refine xh cs.pi (by omega) i ?_;have y1:(y==K+2)=false:=by rw[beq_eq_false_iff_ne];have:=hkb y hky;omega
   have y2:(K==K+2)=false:=by rw[beq_eq_false_iff_ne];omega
   have y3:(K+1==K+2)=false:=by rw[beq_eq_false_iff_ne];omega
   simp only[wq.1,bn,hd];refine vm ?_;simp only[wq.1,seval,t16,hw];have hql:=Gt Q i;refine .inl ⟨m-1,by omega,i+1,Cm Q i,by omega,by omega,by omega,cs.push hdrop _,by unfold ql;simp;exact hb1,hQi,by simp only[wq.1,seval,t0,y1],by simp only[wq.1,seval,t1],by simp only[wq.1,seval,t3,y2],by simp only[wq.1,seval,t4,y3],by simp only[wq.1,seval,t15],by simp only[wq.1,↓reduceIte],by simp only[wq.1,hd],fun j hj=> ?_⟩;have y4:(j==K+2)=false:=by rw[beq_eq_false_iff_ne];have:=hkb j hj;omega
   simp only[wq.1,hk j hj,y4]
  ·have he:¬(N.getD i []).isEmpty=true:=fun h=>by rw[List.isEmpty_iff]at h;rw[h]at he;cases he
   rw[if_neg he]at hQi;simp only[wq.1];refine vm ?_;simp only[wq.1,seval,t16,hw];exact .inl ⟨m-1,by omega,i+1,Q,by omega,by omega,by omega,cs,hb1,hQi,by simp only[wq.1,seval,t0],by simp only[wq.1,seval,t1],by simp only[wq.1,seval,t3],by simp only[wq.1,seval,t4],by simp only[wq.1,seval,t15],by simp only[wq.1,↓reduceIte],by simp only[wq.1,hd],fun j hj=>by simp only[wq.1,hk j hj]⟩
 ·have hi:i=n:=by have:=of_decide_eq_false hlt;omega
  subst hi;rw [List.drop_eq_nil_of_le (by simp),uI] at hQi;subst hQi;simp only [wq.1];refine aF (fun m f h => ∃ (out : List Nat) (M : List (List Nat)) (Q : List Nat),m = i - out.length /\ CS Hp b i K nr B out M Q h /\ b <= h.length /\ Cv i N out M Q /\ S = out ++ qP B (i - out.length) M Q /\ f.t 0 = .yd y /\ f.t 3 = .lp K 0 /\ f.t 4 = .lp (K + 1) 0 /\ f.d = [] /\ (∀ j,kp j -> f.k j = false)) i
   ⟨[],N,Q1,rfl,cs,hb1,hbo,hS,by simp only[wq.1,seval,t0],by simp only[wq.1,seval,t3],by simp only[wq.1,seval,t4],by simp only[wq.1,hd],fun j hj=>by simp only[wq.1,hk j hj]⟩ ?_
  clear t0 t1 t3 t4 t15 t16 hd hk cs hb1 xw xn hw hQl hil hbo hS hm;clear h1 f m;rintro m f h1 ⟨out,M,Q,hm,cs,hb1,cv,hS,t0,t3,t4,hd,hk⟩;have xw:=cs.xw;have xn:=cs.xn;have xp:=cs.pi.p;have hlen:=cv.len;refine vn ?_;simp only[wq.1,seval,t4,xp];refine sV ?_;simp only[wq.1,seval];refine vcB.mk (fun hq=> ?_) (fun hq=> ?_)
  ·have hq:0<Q.length:=by have:=zqs hq;omega
   have hQ0:Q≠[]:=List.length_pos_iff.1 hq;have fv:=cv.pop w hQ0;obtain⟨fu,hfu⟩:∃fu,i-out.length=fu+1:=⟨i-out.length-1,by omega⟩;rw[hfu,Nc hQ0]at hS;obtain⟨a,ha⟩:∃a,a=(mZ Q).getLastD 0:=⟨_,rfl⟩;obtain⟨Q2,hQ2⟩:∃Q2,Q2=(mZ Q).dropLast:=⟨_,rfl⟩;rw[<-ha,<-hQ2]at hS fv;have haD:a∈out++[a]:=by simp
   have hai:a<i:=((fv.mem a).1 (.inr haD)).1;have hao:a∉out:=fun h=>(List.nodup_append.1 (List.nodup_append.1 fv.nd).2.1).2.2 a h a (by simp) rfl;simp only[wq.1];refine aB ?_;refine vn ?_;simp only[wq.1,seval,t4];refine⟨by decide,?_⟩;refine Jb cs.pi (by omega) hQ0 ?_;rw[<-ha,<-hQ2];have cs2:=cs.pop Q2;obtain⟨h2,hh2⟩:∃h2,h2=Fj (K+1) (K+2) h1 Q2:=⟨_,rfl⟩;have hb2:b<=h2.length:=by rw[hh2];unfold Fj;simp;exact hb1
   rw[<-hh2]at cs2 ⊢;simp only[wq.1,seval];refine⟨by decide,?_⟩;obtain⟨t2,n',ps,asg,body,pend,hLL,hsz,hps2,hwy⟩:=step out a h2 cs2.hp hb2 (by omega) (by omega) hao;refine vn ?_;simp only[wq.1,seval,t0,hLL];refine⟨⟨by simpa using hsz,hps2⟩,BF hwy ?_⟩;rintro j h3 p hp ⟨rfl,hpk,hHp,hh3⟩;refine⟨by simp[Ip,hd],?_⟩;obtain⟨r1,r2,r3,r4⟩:=cs2.r;have pK:p K=false:=hpk _ (.inr hbK);have pK1:p (K+1)=false:=hpk _ (.inr (by omega));have cs3:=cs2.told hHp hh3 (fun j hj=>hpk j (.inr hj));have hb3:b<=h3.length:=by
    have:=(zqe cs3.xw).1;omega
   have xw:=cs3.xw;rw[<-hBV]at xw;have hBVl:BV.length=i:=by rw[hBV];unfold Qm;rw[zra];exact hBl
   have hBVg:BV.getD a .any= .is false 1 (cO (B.getD a [])):=by rw[hBV];unfold Qm;rw[dL (by omega),zqg,zqk (by omega)];rfl
   simp only[wq.1,seval,Option.isNone_none];refine vn ?_;simp only[wq.1,seval,t3,pK,xw,hBVl,hBVg];refine⟨⟨by omega,by omega⟩,?_⟩;refine aB ?_;obtain⟨Ba,hBa⟩:∃Ba,Ba=B.getD a []:=⟨_,rfl⟩;have hBn:Ba.Nodup:=by rw[hBa];exact w.nB a
   have hBi : ∀ j,j ∈ Ba -> j ∈ B.getD a [] := fun j hj => hBa ▸ hj;have hBm : ∀ j,j ∈ Ba -> j < i := fun j hj => (w.lt j a ((w.iff j a).2 (hBi j hj))).1;have hBl2 : Ba.length <= i := qZ hBn hBm;rw [<- hBa] at hS fv ⊢;obtain ⟨F,hF⟩ : ∃ F,F = uJ a Ba (M,Q2) := ⟨_,rfl⟩;rw [<- hF] at hS;have hF0 : F = uJ a (Ba.drop 0) (M,Q2) := hF;have fv0 : Fv i N out a (Ba.drop 0) M Q2 := fv;refine aF (fun m f h => ∃ (k : Nat) (M : List (List Nat)) (Q : List Nat),m + k = Ba.length /\ k <= Ba.length /\ CS Hp b i K nr B (out ++ [a]) M Q h /\ b <= h.length /\ Fv i N out a (Ba.drop k) M Q /\ F = uJ a (Ba.drop k) (M,Q) /\ f.t 0 = .yd y /\ f.t 3 = .lp K 0 /\ f.t 4 = .lp (K + 1) 0 /\ f.t 6 = nv a /\ f.t 49 = .is false 1 (cO Ba) /\ f.t 50 = vi Ba.length /\ f.t 51 = vi k /\ f.d = [] /\ (∀ j,kp j -> f.k j = false)) Ba.length
    ⟨0,M,Q2,by omega,by omega,cs3,hb3,fv0,hF0,by simp only[wq.1,seval,t0,hp],by simp only[wq.1,seval,t3,pK],by simp only[wq.1,seval,t4,pK1],by simp only[wq.1,seval],by simp only[wq.1,seval],by simp only[wq.1,seval],by simp only[wq.1,↓reduceIte];rfl,by simp only[wq.1,hd],fun j hj=>by simp only[wq.1,hk j hj,hpk j (.inl hj)]⟩ ?_
   clear fv fv0 hF0 hF cs3 hb3 xw t0 t3 t4 hd hk hHp hh3 hpk pK pK1 hp hLL hwy cs2 hb2 hh2 cs hb1 xn xp cv hBVg hBVl hsz hps2;rintro m1 f h1 ⟨k,M,Q,hm1,hkl,cs,hb1,fv,hF,t0,t3,t4,t6,t49,t50,t51,hd,hk⟩;have hwk:=az (show k<maxLen by omega);have xw:=cs.xw;have xn:=cs.xn;refine vn ?_;simp only[wq.1,Nat.reduceLT,t50,t51];refine vn ?_;simp only[wq.1,↓reduceIte];refine vcB.mk (fun hkt=> ?_) (fun hkt=> ?_)
   ·have hkt:k<Ba.length:=by have:=zqs hkt;omega
    obtain⟨g,hg⟩:∃g,g=Ba[k]:=⟨_,rfl⟩;have hgm:g∈Ba:=hg▸zqu hkt;have hgi:=hBm g hgm;have hbg:(cO Ba).getD k .any=nv g:=by rw[Va hkt,zqg,zqk hkt,<-hg];rfl
    rw[List.drop_eq_getElem_cons hkt,<-hg]at fv hF;rw[uJ]at hF;have hgr:g∉Ba.drop (k+1):=by
     have h1:(Ba.drop k).Nodup:=hBn.sublist (List.drop_sublist _ _);rw[List.drop_eq_getElem_cons hkt,<-hg]at h1;exact(List.nodup_cons.1 h1).1
    have fv2:=fv.step w (hBi g hgm) hgr;have hfl:=fv2.len;have xm:=cs.xm g hgi;obtain⟨Mg,hMg⟩:∃Mg,Mg=M.getD g []:=⟨_,rfl⟩;rw[<-hMg]at fv2 hF xm;have hMn:Mg.Nodup:=by rw[hMg,fv.nn];exact(w.nN g).sublist List.filter_sublist
    have hmd:=Nb hMn a;obtain⟨Mf,hMf⟩:∃Mf,Mf=Mg.filter (· != a):=⟨_,rfl⟩;rw[<-hMf]at fv2 hF hmd;have cs2:=cs.del hgi Mf;have hng:=DI (b:=b) hgi .any;have hnl:=DF (b:=b) (n:=i);simp only[wq.1];refine aj ?_;refine aB ?_;refine vn ?_;simp only[wq.1,seval,t49,t51,hbg];refine⟨⟨by omega,by omega⟩,?_⟩;refine aj (iL ?_);refine ay rfl rfl ?_;simp only[wq.1,seval,t3];refine ay rfl rfl ?_;simp only[wq.1,seval,xw];refine ay rfl rfl ?_;simp only[wq.1,seval];refine ay rfl rfl ?_;simp only[wq.1,seval];refine⟨⟨by omega,by omega⟩,?_⟩;refine ay rfl rfl ?_;simp only[wq.1,↓reduceIte,xn,hng];refine⟨by omega,?_⟩;refine ay rfl rfl ?_;simp only[wq.1,seval,t6];have hq1:ti TE.P 172=some ⟨.map 3 4,1,8,.nilm⟩:=by simp only[wq.1]
    have hqi:ti TE.P 3=some ⟨.int .i64,1,8,.int .i64 0⟩:=by simp only[wq.1]
    refine eX rfl rfl ?_;refine yC (kt':=0) (t:=172) rfl rfl (id:=b+(7+i+2*g+1)) (by simp only[wq.1,seval]) (by simp only[wq.1,seval]) (by simp only[wq.1,↓reduceIte]) hq1 rfl hqi (by simp only[wq.1,↓reduceIte,Abs.K.keyOk]) (ks:=cO Mg) (vs:=qW Mg.length) xm (by simp only[wq.1,↓reduceIte];exact hmd) ?_;refine eG ?_;obtain⟨h2,hh2⟩:∃h2,h2=h1.set (b+(7+i+2*g+1)) (N8 Mf):=⟨_,rfl⟩;have hb2:b<=h2.length:=by rw[hh2,zrn];exact hb1
    rw[<-hh2]at cs2 ⊢;have zw:=cs2.xw;have zn:=cs2.xn;have zm:=cs2.xm g hgi;rw[mD (by have:=cs.lM;omega),if_pos rfl]at zm;obtain⟨M2,hM2⟩:∃M2,M2=M.set g Mf:=⟨_,rfl⟩;rw[<-hM2]at cs2 fv2 hF;clear hh2 xw xn xm;simp only[wq.1];refine vn ?_;simp only[wq.1,seval,t3,zw,zn,zm,hng];refine⟨⟨by omega,by omega⟩,by omega,?_⟩;refine vm ?_;simp only[wq.1,↓reduceIte];refine vcB.mk (fun he=> ?_) (fun he=> ?_)
    ·have he:Mf.isEmpty=true:=by rw[beq_iff_eq]at he;rw[List.isEmpty_iff];exact List.eq_nil_of_length_eq_zero (by omega)
     rw[if_pos he]at fv2 hF;simp only[wq.1,seval,t4];refine⟨by decide,by decide,?_⟩;have hql:=Gt Q g;have hql2:=fv2.len;refine xh cs2.pi (by omega) g ?_;have y1:(y==K+2)=false:=by rw[beq_eq_false_iff_ne];have:=hkb y hky;omega
     have y2:(K==K+2)=false:=by rw[beq_eq_false_iff_ne];omega
     have y3:(K+1==K+2)=false:=by rw[beq_eq_false_iff_ne];omega
     simp only[wq.1,bn,hd];refine vm ?_;simp only[wq.1,seval,t51,hwk];refine .inl ⟨m1-1,by omega,k+1,M2,Cm Q g,by omega,by omega,cs2.push hdrop _,by unfold ql;simp;exact hb2,fv2,hF,by simp only[wq.1,seval,t0,y1],by simp only[wq.1,seval,t3,y2],by simp only[wq.1,seval,t4,y3],by simp only[wq.1,seval,t6],by simp only[wq.1,seval,t49],by simp only[wq.1,seval,t50],by simp only[wq.1,↓reduceIte],by simp only[wq.1,hd],fun j hj=> ?_⟩;have y4:(j==K+2)=false:=by rw[beq_eq_false_iff_ne];have:=hkb j hj;omega
     simp only[wq.1,hk j hj,y4]
    ·have he:¬Mf.isEmpty=true:=fun h=>by rw[List.isEmpty_iff]at h;rw[h]at he;cases he
     rw[if_neg he]at fv2 hF;simp only[wq.1];refine vm ?_;simp only[wq.1,seval,t51,hwk];exact .inl ⟨m1-1,by omega,k+1,M2,Q,by omega,by omega,cs2,hb2,fv2,hF,by simp only[wq.1,seval,t0],by simp only[wq.1,seval,t3],by simp only[wq.1,seval,t4],by simp only[wq.1,seval,t6],by simp only[wq.1,seval,t49],by simp only[wq.1,seval,t50],by simp only[wq.1,↓reduceIte],by simp only[wq.1,hd],fun j hj=>by simp only[wq.1,hk j hj]⟩
   ·have hke:k=Ba.length:=by have:=of_decide_eq_false hkt;omega
    subst hke;rw[List.drop_length]at fv hF;rw[uJ]at hF;subst hF;have cv2:=fv.done;have hln:=cv2.len;simp only[wq.1];have hol:(out++[a]).length=out.length+1:=by simp
    rw[hol]at hln;refine .inl ⟨i-(out.length+1),by omega,out++[a],M,Q,by rw[hol],cs,hb1,cv2,?_,by simp only[wq.1,seval,t0],by simp only[wq.1,seval,t3],by simp only[wq.1,seval,t4],by simp only[wq.1,hd],fun j hj=>by simp only[wq.1,hk j hj]⟩;rw[hS,hol,zqc,show i-(out.length+1)=fu by omega];rfl
  ·have hq:Q=[]:=by have:=of_decide_eq_false hq;exact List.eq_nil_of_length_eq_zero (by omega)
   subst hq;rw[Qo,zqp]at hS;subst hS;simp only[wq.1,hd];exact⟨hk,cs.hp,hb1⟩
abbrev Sum(c:Ci):Prop:=c.ins.length+c.lat.length+c.gates.length<=9000000000000000000
theorem ja(c:Ci):V.dats [c.v]=true:=by show(V.dat c.v&&true)=true;rw[pJ];rfl
theorem Qp[MO]{c:Ci}(h:Sum c):Ev TE 62 [c.v] (.bool (decide ((lQ c).1=0))):=by
 have hN:=Dn c h;have e:((lQ c).1==0)=decide ((lQ c).1=0):=by rw[Bool.eq_iff_iff,beq_iff_eq,zqb]
 refine ah Tryz.func62 rfl (by simp[nts]) (vm ?_);simp only[wq.1,seval,Tryz.results62];refine ag.ev hN (ja c) ?_;simp only[wq.1,seval,e];exact aA.dat rfl
theorem Nh[MO](c:Ci):Ev TE 64 [c.v] (.fn (.func 100) [] [.ip c.v]):=by refine ah Tryz.func64 rfl (by simp[nts]) (vm ?_);simp only[wq.1,seval,Tryz.results64];exact aA.fn au.nil (au.cons (aA.lp rfl (au.dat (by have:=pJ c;unfold Ci.v at this;simpa only[V.dat]using this)) rfl (pJ c) (by simp[V.vc,Ci.v]) rfl) au.nil)
def jB(n:Nat)(out:List Nat):List Nat:=(List.range n).filter fun i=> !out.contains i
def rf(l:List S)(out:List Nat):List S:=(jB l.length out).map fun i=>l.getD i []
def nZ(l:List S)(out:List Nat):O:= .map ((rf l out).map V.str) (cO (jB l.length out))
theorem Nj{n:Nat}{out:List Nat}{a:Nat}:jB n (out++[a])=(jB n out).filter (· != a):=by unfold jB;rw[List.filter_filter];refine List.filter_congr fun i _=> ?_;rw[List.contains_eq_mem,List.contains_eq_mem,Bool.eq_iff_iff];simp[and_comm]
theorem TG{l:List S}(hl:l.Nodup){out:List Nat}{a:Nat}(ha:a<l.length):(at? (rf l out) (l.getD a [])).isSome= !out.contains a:=by
 rw[qj];rw[Bool.eq_iff_iff,List.contains_iff_mem];unfold rf jB;rw[zrh];constructor
 ·rintro⟨i,hi,he⟩;rw[List.mem_filter,List.mem_range]at hi;have:i=a:=by
   rw[zqg,zqg,zqk hi.1,zqk ha]at he;exact(List.getElem_inj hl).1 he
  subst this;exact hi.2
 ·intro h;exact⟨a,List.mem_filter.2 ⟨List.mem_range.2 ha,h⟩,rfl⟩
structure NS(l:List S)(out:List Nat)(NR:Nat)(nvs:List S)(h:H):Prop where
 s1:h[1]? =some (.cells [.ls 5 1 0 out.length out.length])
 s3:h[3]? =some (nZ l out)
 s4:h[4]? =some (.cells [.lm 3])
 s5:h[5]? =some (.cells (cO out))
 s6:h[6]? =some (.misc .dfd)
 sN:h[NR]? =some (.cells (nvs.map V.str))
 r:8<=NR
theorem NS.more{l:List S}{out:List Nat}{NR:Nat}{nvs:List S}{h:H}(k:NS l out NR nvs h)(o:O):NS l out NR nvs (h++[o]):=by
 have old:∀j x,h[j]? =some x->(h++[o])[j]? =some x:=fun j x hx=>by rw[zqj (zqe hx).1];exact hx
 exact⟨old _ _ k.s1,old _ _ k.s3,old _ _ k.s4,old _ _ k.s5,old _ _ k.s6,old _ _ k.sN,k.r⟩
theorem NS.app{l:List S}{out:List Nat}{NR:Nat}{nvs:List S}{h:H}(k:NS l out NR nvs h)(nvs':List S):NS l out NR nvs' ((h.map (O.drop fun x=>x==NR)).set NR (.cells (nvs'.map V.str))):=by
 have r:=k.r;have hlt:=(zqe k.sN).1;have b:∀j,j<8->(j==NR)=false:=fun j hj=>by rw[beq_eq_false_iff_ne];omega
 have old:∀j x,j<8->h[j]? =some x->x.drop (fun x=>x==NR)=x->((h.map (O.drop fun x=>x==NR)).set NR (.cells (nvs'.map V.str)))[j]? =some x:=fun j x hj hx hd=>by rw[zqn (by omega),zqo,hx,zrw,hd]
 refine⟨old _ _ (by omega) k.s1 ?_,old _ _ (by omega) k.s3 ?_,old _ _ (by omega) k.s4 ?_,old _ _ (by omega) k.s5 ?_,old _ _ (by omega) k.s6 rfl,zqt (by simpa using hlt),r⟩
 ·show O.cells [V.drop _ _]=_;rw[V.drop,b 5 (by omega)];rfl
 ·show O.map (V.drops _ _) (V.drops _ _)=_;rw[aC,bz];rfl
 ·show O.cells [V.drop _ _]=_;rw[V.drop,b 3 (by omega)];rfl
 ·show O.cells (V.drops _ _)=_;rw[bz]
def AU(l:List S)(out:List Nat)(i:Nat):List S:=((List.range i).filter fun j=> !out.contains j).map fun j=>l.getD j []
theorem Nk{l:List S}{out:List Nat}{i:Nat}:AU l out (i+1)=if(!out.contains i)=true then AU l out i++[l.getD i []]else AU l out i:=by
 unfold AU;rw[List.range_succ,List.filter_append,zql];split
 ·rename_i h;rw[List.filter_cons_of_pos (p:=fun j=> !out.contains j) h];rfl
 ·rename_i h;rw[List.filter_cons_of_neg (p:=fun j=> !out.contains j) h];simp
theorem Qq{l:List S}{out:List Nat}{i:Nat}:(AU l out i).length<=i:=by unfold AU;rw[zra];exact Nat.le_trans (List.length_filter_le _ _) (by rw[List.length_range];exact zrb _)
theorem Nl{l:List S}(hl:l.Nodup){out:List Nat}{a:Nat}(ha:a<l.length)(ho:a∉out):Ub .str (.str (l.getD a [])) ((rf l out).map V.str) (cO (jB l.length out))=some ((rf l (out++[a])).map V.str,cO (jB l.length (out++[a]))):=by
 have hn:(jB l.length out).Nodup:=List.nodup_range.sublist List.filter_sublist;have hm:a∈jB l.length out:=by unfold jB;rw[List.mem_filter];exact⟨List.mem_range.2 ha,by simpa using ho⟩
 have hs:l.getD a []∈rf l out:=zrh.2 ⟨a,hm,rfl⟩;obtain⟨k,hk⟩:=Fb hs;obtain⟨h1,h2⟩:=qV hk;have h1':k<(jB l.length out).length:=by unfold rf at h1;simpa using h1
 have hka:(jB l.length out)[k]=a:=by
  have h3:(jB l.length out)[k]<l.length:=by have:=zqu h1';unfold jB at this;exact List.mem_range.1 (List.mem_filter.1 this).1
  have h4:l.getD (jB l.length out)[k] []=l.getD a []:=by rw[<-h2];simp[rf]
  rw[zqg,zqg,zqk h3,zqk ha]at h4;exact(List.getElem_inj hl).1 h4
 unfold Ub;rw[bW,hk];have e:=tq (jB l.length out) k h1' hn;rw[hka,<-Nj]at e;show some (((rf l out).map V.str).eraseIdx k,(cO (jB l.length out)).eraseIdx k)=_;unfold rf;have e3:cO ((jB l.length out).eraseIdx k)=(cO (jB l.length out)).eraseIdx k:=dQ ..;rw[e,dQ,dQ,e3]
def xx(L:(Nat->V)->LoopState->Option Code->O)(c:Ci)(out:List Nat)(t:Nat->V):H:=[ciO c,.cells [.ls 5 1 0 out.length out.length],ciO c,nZ (aO c) out,.cells [.lm 3],.cells (cO out),.misc .dfd,L t .ready none]
def sHp(L:(Nat->V)->LoopState->Option Code->O)(c:Ci)(out:List Nat)(h0:H):Prop:=∃t,t 1= .lp 0 0/\t 4= .lp 1 0/\t 5= .lp 4 0/\h0=xx L c out t
theorem Np[MO](c:Ci)(hs:Sum c):Ev TE 26 [c.v] (.tup [.is false 1 (cO (mi c).1),aV (mi c).2]):=by
 have hM:=mLx;have hR:=Qp hs;have hC:=Nh c;unfold mi;refine ah Tryz.func26 rfl (by simp[nts]) ?_;refine vn ?_;simp only[wq.1,Nat.reduceLT,Tryz.results26];refine vn ?_;simp only[wq.1,seval];refine ag.ev hR (ja c) ?_;simp only[wq.1,seval];by_cases h0:(lQ c).1=0
 ·rw[if_pos h0];have ok:=(sO c).1 h0;have lm:=TA ok.lim;have hnd:=Dv ok.nets;have hg:=lm.gates;simp only[wq.1,h0];refine vn ?_;simp only[wq.1,Nat.reduceLT];refine vn ?_;simp only[wq.1,seval];refine lq (ul c hnd (by omega)) (ja c) ?_;rintro ae h' p ⟨rfl,rfl⟩;have hsh:O.sh 2 (ciO c)=ciO c:=by
   show O.cells (V.shs 2 _)=_;rw[V.shs_dats 2 _ (by have:=pJ c;unfold Ci.v at this;simpa only[V.dat]using this)]
  have hsp:O.sh 2 (plO (aO c))=plO (aO c):=by show O.map (V.shs 2 _) (V.shs 2 _)=_;rw[V.shs_dats 2 _ aG,V.shs_dats 2 _ (jS _)];rfl
  simp only[wq.1,seval,AEnd.sh,V.sh,hsh,hsp];have hpl:plO (aO c)=nZ (aO c) []:=by
   have e:jB (aO c).length []=List.range (aO c).length:=by unfold jB;rw[List.filter_eq_self.2];intro a _;rfl
   unfold plO nZ;rw[e];unfold rf;rw[e,GZ (aO c) [] (fun s=>s),List.map_id']
  rw[hpl];refine iC ?_;refine jG (h':=[ciO c,.cells [.ls 5 1 0 0 0],ciO c,nZ (aO c) [],.cells [.lm 3],.cells []]) (HLe.set (i:=1) (o':= .cells [.ls 5 1 0 0 0]) rfl (OLe.cells (zrb _) (gX.cons eU gX.nil))) ?_;refine aj ?_;refine vn ?_;simp only[wq.1,seval];refine ag.ev hC (ja c) ?_;simp only[wq.1];refine aB ?_;refine rV (n:=54) (q:=100) (first:=[]) (captured:=[.ip c.v]) (by simp only[wq.1,↓reduceIte]) (by simp only[wq.1,↓reduceIte]) rfl (by decide) ?_;intro L hLd gets;have hgd:c.gates.length=(aO c).length:=by simp
  refine ag.mono (Ai c hnd (by omega) (fun g hg=>by have:=lm.gins g hg;omega) (b:=8) (y:=7) (sHp L c) (fun i=>i<8/\i≠5) (by decide) (fun i hi=>hi.1) ?_ ?_ _ ⟨_,?_,?_,?_,rfl⟩ rfl) ?_
  ·rintro out h0 p ⟨t,t1,t4,t5,rfl⟩ hp;refine⟨fun i=>(t i).drop p,?_,?_,?_,?_⟩
   ·show(t 1).drop p=_;rw[t1,V.drop,hp 0 (by omega)];rfl
   ·show(t 4).drop p=_;rw[t4,V.drop,hp 1 (by omega)];rfl
   ·show(t 5).drop p=_;rw[t5,V.drop,hp 4 (by omega)];rfl
   ·unfold xx;simp only[zrd,List.map_nil,hLd];have e5:V.drop p (.ls 5 1 0 out.length out.length)= .ls 5 1 0 out.length out.length:=by rw[V.drop,hp 5 (by omega)];rfl
    have e3:V.drop p (.lm 3)= .lm 3:=by rw[V.drop,hp 3 (by omega)];rfl
    have el:O.drop p (nZ (aO c) out)=nZ (aO c) out:=by show O.map (V.drops p _) (V.drops p _)=_;rw[aC,bz];rfl
    have ei:O.drop p (ciO c)=ciO c:=rfl;rw[el,ei];simp only[O.drop,V.drops,e5,e3,bz]
  ·rintro out a h ⟨t,t1,t4,t5,he⟩ hbl hol ha hao;obtain⟨X,hX⟩:∃X,X=h.drop 8:=⟨_,rfl⟩;have hh:h=xx L c out t++X:=by rw[hX,<-he,List.take_append_drop]
   clear he hX hbl;subst hh;refine gets _ _ _ t rfl rfl (fun lb=> ?_);obtain⟨HC,hHC⟩:∃HC,HC=[ciO c,.cells [.ls 5 1 0 out.length out.length],ciO c,nZ (aO c) out,.cells [.lm 3],.cells (cO out),.misc .dfd,L t .busy none]++X:=⟨_,rfl⟩;obtain⟨X3,hX3⟩:∃X3,X3=cO (out++[a]):=⟨_,rfl⟩;have e7:(xx L c out t++X).set 7 (L t .busy none)=HC:=by rw[hHC];rfl
   have e70:(xx L c out t++X)[7]? =some (L t .ready none):=rfl;have g0:HC[0]? =some (.cells [aV c.ins,aV c.outs,oK c.lat,iZ c.gates]):=by rw[hHC];rfl
   have g1:HC[1]? =some (.cells [.ls 5 1 0 out.length out.length]):=by rw[hHC];rfl
   have g5:HC[5]? =some (.cells (cO out)):=by rw[hHC];rfl
   have hnx:cO out++[V.int .i64 (a:Int)]=X3:=by rw[hX3,cO,cO,zql];rfl
   have hd3:V.drops (fun x=>x==5) X3=X3:=by rw[hX3,bz]
   have hgg:=uM ha .any;obtain⟨g,hg⟩:∃g,g=c.gates[a]:=⟨_,rfl⟩;rw[<-hg]at hgg;refine vm ?_;simp only[wq.1,↓reduceIte,Nat.reduceLT,Nat.reduceAdd,Gh];refine⟨t,e70,?_⟩;rw[e7];refine aB ?_;refine vn ?_;have g1':((HC.map (O.drop fun x=>x==5)).set 5 (.cells X3))[1]? =some (.cells [.any]):=by rw[hHC];rfl
   simp only[wq.1,↓reduceIte,Nat.reduceEqDiff,Nat.reduceLT,Nat.reduceBEq,reduceCtorEq,Nat.reduceMul,t4,g1,g5,hnx,hd3,g1'];obtain⟨t',ht'⟩:∃t':Nat->V,t'=fun i=>(t i).drop fun x=>x==5:=⟨_,rfl⟩;have t1':t' 1= .lp 0 0:=by rw[ht'];show(t 1).drop _=_;rw[t1];rfl
   have t4':t' 4= .lp 1 0:=by rw[ht'];show(t 4).drop _=_;rw[t4];rfl
   have t5':t' 5= .lp 4 0:=by rw[ht'];show(t 5).drop _=_;rw[t5];rfl
   obtain⟨HD,hHD⟩:∃HD,HD=[ciO c,.cells [.ls 5 1 0 (out.length+1) (out.length+1)],ciO c,nZ (aO c) out,.cells [.lm 3],.cells X3,.misc .dfd,L t' .busy none]++X.map (O.drop fun x=>x==5):=⟨_,rfl⟩;have e8:((HC.map (O.drop fun x=>x==5)).set 5 (.cells X3)).set 1 (.cells [.ls 5 1 0 (out.length+1) (out.length+1)])=HD:=by
    have el:O.drop (fun x=>x==5) (nZ (aO c) out)=nZ (aO c) out:=by show O.map (V.drops _ _) (V.drops _ _)=_;rw[aC,bz];rfl
    have ei:O.drop (fun x=>x==5) (ciO c)=ciO c:=rfl;rw[hHC,hHD,zql];simp only[zrd,List.map_nil,hLd,el,ei,<-ht'];rfl
   have f0:HD[0]? =some (.cells [aV c.ins,aV c.outs,oK c.lat,iZ c.gates]):=by rw[hHD];rfl
   have f4:HD[4]? =some (.cells [.lm 3]):=by rw[hHD];rfl
   have f3:HD[3]? =some (nZ (aO c) out):=by rw[hHD];rfl
   rw[e8];refine⟨⟨rfl,by decide⟩,⟨by omega,by omega,by omega⟩,?_⟩;refine Lh mixed (by decide +kernel) ?_;simp only[nts,List.size_toArray,zrt,List.length_nil,Nat.reduceAdd,Nat.reduceSub,List.take_succ_cons,List.take_zero];simp only[wq.1,seval,dw,dB,t1,t5,f0,f4,hgg];refine⟨⟨by omega,by omega⟩,?_⟩;have hgn:(aO c).getD a []=g.name:=by
    rw[hg,zqg,zqo,zqk ha];rfl
   have hmd:=Nl hnd (out:=out) (a:=a) (by omega) hao;rw[hgn]at hmd;have hq1:ti TE.P 117=some ⟨.map 9 3,1,8,.nilm⟩:=by simp only[wq.1]
   have hqs:ti TE.P 9=some ⟨.str,1,16,.str []⟩:=by simp only[wq.1]
   refine⟨_,rfl,rfl,rfl,?_⟩;refine yC (kt':=0) (t:=117) rfl rfl (id:=3) (by simp only[wq.1,seval]) (by simp only[wq.1,seval]) (by simp only[wq.1,↓reduceIte]) hq1 rfl hqs (by simp only[wq.1,↓reduceIte,K.keyOk]) f3 (by simp only[wq.1,↓reduceIte];rw[hgd];exact hmd) ?_;obtain⟨HE,hHE⟩:∃HE,HE=HD.set 3 (nZ (aO c) (out++[a])):=⟨_,rfl⟩;have hlo:O.map ((rf (aO c) (out++[a])).map V.str) (cO (jB (aO c).length (out++[a])))=nZ (aO c) (out++[a]):=rfl;rw[hlo,<-hHE];have h7:HE[7]? =some (L t' .busy none):=by rw[hHE,hHD];rfl
   simp only[wq.1,Nat.reduceBEq,BH,XE.jump,h7];have hf:HE.set 7 (L t' .ready none)=xx L c (out++[a]) t'++X.map (O.drop fun x=>x==5):=by
    have hol:(out++[a]).length=out.length+1:=by simp
    unfold xx;rw[hHE,hHD,hX3,hol];rfl
   refine⟨t',.busy,rfl,fun i hi=>by rw[beq_eq_false_iff_ne];omega,⟨t',t1',t4',t5',?_⟩,fun j hj=> ?_⟩
   ·show List.take 8 (HE.set 7 (L t' .ready none))=_;rw[hf];rfl
   ·show(HE.set 7 (L t' .ready none))[j]? =_;have b8:∀o tt,(xx L c o tt).length=8:=fun _ _=>rfl;rw[hf,zsb (by rw[b8];exact hj),zsb (by rw[b8];exact hj),zqo,b8,b8]
  ·simp only[wq.1,seval]
  ·simp only[wq.1,seval]
  ·simp only[wq.1,seval]
  ·rintro ae h' p ⟨hp4,hr⟩;cases ae with
   |pan v=>exact hr.elim
   |ret v =>
    obtain⟨⟨t,t1,t4,t5,he⟩,hl8⟩:=hr;obtain⟨X,hX⟩:∃X,X=h'.drop 8:=⟨_,rfl⟩;obtain⟨out,hout⟩:∃out,out=zX (aO c) (gins c):=⟨_,rfl⟩;rw[<-hout]at he;have hh:h'=xx L c out t++X:=by rw[hX,<-he,List.take_append_drop]
    clear he hX hl8;subst hh;refine⟨?_,hp4 7 (by decide),t,_,none,(by decide),rfl,?_⟩
    ·intro i hi;have hi:i=6:=by simpa [Ip,F9]using hi
     subst hi;exact hp4 6 (by decide)
    ·have k0:=hp4 0 (by decide);have k1:=hp4 1 (by decide);have k3:=hp4 3 (by decide);have k4:=hp4 4 (by decide);have k6:=hp4 6 (by decide);have k7:=hp4 7 (by decide);obtain⟨HS,hHS⟩:∃HS,HS=(xx L c out t++X).set 7 (L t .exhausted none):=⟨_,rfl⟩;obtain⟨NR,hNR⟩:∃NR,NR=HS.length:=⟨_,rfl⟩;have hN8:8<=NR:=by rw[hNR,hHS];simp[xx]
     have s1:HS[1]? =some (.cells [.ls 5 1 0 out.length out.length]):=by rw[hHS];rfl
     have s0:HS[0]? =some (.cells [aV c.ins,aV c.outs,oK c.lat,iZ c.gates]):=by rw[hHS];rfl
     have s3:HS[3]? =some (nZ (aO c) out):=by rw[hHS];rfl
     have s4:HS[4]? =some (.cells [.lm 3]):=by rw[hHS];rfl
     have s5:HS[5]? =some (.cells (cO out)):=by rw[hHS];rfl
     have s6:HS[6]? =some (.misc .dfd):=by rw[hHS];rfl
     simp only[wq.1,Nat.reduceAdd,Ko];rw[<-hHS];clear hHS;refine vn ?_;simp only[wq.1,Nat.reduceLT];refine vn ?_;simp only[wq.1,seval,k0,s0];refine kZ 7 1 (by simp only[wq.1,seval]) ?_;have ns:NS (aO c) out NR [] (HS++[.cells []]):=by
      have old:∀j x,HS[j]? =some x->(HS++[O.cells []])[j]? =some x:=fun j x hx=>by rw[zqj (zqe hx).1];exact hx
      exact⟨old _ _ s1,old _ _ s3,old _ _ s4,old _ _ s5,old _ _ s6,by rw[hNR];simp,hN8⟩
     have hfin:CE (aO c) (gins c)=AU (aO c) out c.gates.length:=by unfold CE AU;rw[<-hout,hgd]
     rw [show zX (List.map (fun x => x.name) c.gates) (List.map (fun x => x.ins) c.gates) = out from hout.symm,show CE (List.map (fun x => x.name) c.gates) (List.map (fun x => x.ins) c.gates) = AU (aO c) out c.gates.length from hfin];refine aF (fun m f h => ∃ i,m + i = c.gates.length /\ i <= c.gates.length /\ NS (aO c) out NR (AU (aO c) out i) h /\ f.t 4 = .lp 1 0 /\ f.t 5 = .lp 4 0 /\ f.t 7 = .ls NR 1 0 (AU (aO c) out i).length (AU (aO c) out i).length /\ f.t 32 = iZ c.gates /\ f.t 33 = vi c.gates.length /\ f.t 34 = vi i /\ f.d = [6]) c.gates.length
      ⟨0,by omega,by omega,ns,by simp only[wq.1,seval,k1],by simp only[wq.1,seval,k4],by(simp only[wq.1,↓reduceIte];rw[hNR];rfl),by simp only[wq.1,seval],by simp only[wq.1,seval],by simp only[wq.1,↓reduceIte,Nat.reduceEqDiff];rfl,by simp only[wq.1]⟩ ?_
     clear ns s0 s1 s3 s4 s5 s6 k0 k1 k3 k4 k6 k7 hp4;rintro m f h ⟨i,hm,hil,ns,t4,t5,t7,t32,t33,t34,hd⟩;have hw:=az (show i<maxLen by omega);have n4:=ns.s4;have n3:=ns.s3;have n6:=ns.s6;have nN:=ns.sN;have n1:=ns.s1;have nl:=Qq (l:=aO c) (out:=out) (i:=i);refine vn ?_;simp only[wq.1,Nat.reduceLT,t33,t34];refine vn ?_;simp only[wq.1,↓reduceIte];refine vcB.mk (fun hlt=> ?_) (fun hlt=> ?_)
     ·have hlt:i<c.gates.length:=by have:=zqs hlt;omega
      obtain⟨g,hg⟩:∃g,g=c.gates[i]:=⟨_,rfl⟩;have hgg:=uM hlt .any;rw[<-hg]at hgg;have hgn:(aO c).getD i []=g.name:=by rw[hg,zqg,zqo,zqk hlt];rfl
      have hla:=TG hnd (out:=out) (a:=i) (by omega);have hsu:=Nk (l:=aO c) (out:=out) (i:=i);rw[hgn]at hla hsu;obtain⟨cp,hcp⟩:∃cp:O,cp= .cells [.str g.name,vi g.op,aV g.ins,aV g.rows,.bool g.off]:=⟨_,rfl⟩;have ns2:=ns.more cp;have hgE:∀x:O,(h++[x])[h.length]? =some x:=fun x=>by simp
      have hgS:∀y:O,(h++[y]).set h.length (.cells [.str g.name,vi g.op,aV g.ins,aV g.rows,.bool g.off])=h++[.cells [.str g.name,vi g.op,aV g.ins,aV g.rows,.bool g.off]]:=fun y=>by simp
      have m4:∀o:O,(h++[o])[4]? =some (.cells [.lm 3]):=fun o=>(ns.more o).s4;have m3:∀o:O,(h++[o])[3]? =some (nZ (aO c) out):=fun o=>(ns.more o).s3;unfold nZ at m3;cases hat:at? (rf (aO c) out) g.name with
      |none=>rw[hat]at hla;rw[<-hla,if_neg (by decide)]at hsu;simp only[wq.1];refine vm ?_;simp only[wq.1,seval,t5,t32,t34,hgg,hgE,hgS,m4,m3,oQ,bW,hat,hw];refine⟨⟨by omega,by omega⟩,?_⟩;refine .inl ⟨m-1,by omega,i+1,by omega,by omega,by rw[hsu,<-hcp];exact ns2,by simp only[wq.1,seval,t4],by simp only[wq.1,seval,t5],by(simp only[wq.1,seval,t7,hsu]),by simp only[wq.1,seval,t32],by simp only[wq.1,seval,t33],by simp only[wq.1,↓reduceIte],by simp only[wq.1,hd]⟩
      |some k =>
       rw[hat]at hla;rw[<-hla,if_pos (show(some k).isSome=true from rfl)]at hsu;have hkl:k<(jB c.gates.length out).length:=by
        have:=(qV hat).1;unfold rf at this;rw[zra,<-hgd]at this;exact this
       have hkv:=Va hkl .any;obtain⟨X3,hX3⟩:∃X3,X3=(AU (aO c) out (i+1)).map V.str:=⟨_,rfl⟩;have hnx:(AU (aO c) out i).map V.str++[.str g.name]=X3:=by rw[hX3,hsu,zql];rfl
       have hd3:V.drops (fun x=>x==NR) X3=X3:=by rw[hX3,aC]
       have mN:∀o:O,(h++[o])[NR]? =some (.cells ((AU (aO c) out i).map V.str)):=fun o=>(ns.more o).sN;have b6:(6==NR)=false:=by rw[beq_eq_false_iff_ne];omega
       have b1:(1==NR)=false:=by rw[beq_eq_false_iff_ne];omega
       have b4:(4==NR)=false:=by rw[beq_eq_false_iff_ne];omega
       simp only[wq.1];refine vm ?_;simp only[wq.1,↓reduceIte,Nat.reduceEqDiff,Nat.reduceLT,Nat.reduceLeDiff,Nat.reduceAdd,reduceCtorEq,Nat.reduceMul,t5,t7,t32,t34,hd,hgg,hgE,hgS,m4,m3,mN,oQ,bW,hat,hkv,hnx,hd3,b6,hw];refine⟨⟨by omega,by omega⟩,⟨rfl,by decide⟩,⟨by omega,by omega,by omega⟩,?_⟩;have hln:(AU (aO c) out (i+1)).length=(AU (aO c) out i).length+1:=by rw[hsu];simp
       have ns3:=ns2.app (AU (aO c) out (i+1));rw[zql,<-hX3,hcp]at ns3;refine .inl ⟨m-1,by omega,i+1,by omega,by omega,ns3,by simp only[wq.1,seval,t4,b1],by simp only[wq.1,seval,t5,b4],by(simp only[wq.1,seval,hln]),by simp only[wq.1,seval,t32],by simp only[wq.1,seval,t33],by simp only[wq.1,↓reduceIte],by simp only[wq.1,hd]⟩
     ·have hi:i=c.gates.length:=by have:=of_decide_eq_false hlt;omega
      rw[hi]at ns t7;simp only[wq.1];refine vm ?_;simp only[wq.1,seval,t4,t7,n1,hd,fH,n6];have nr:=ns.r;refine aA.tup (au.cons (um ?_) (au.cons (bu (id:=NR) ?_ rfl) au.nil))
      ·rw[zqn (by omega)];exact ns.s5
      ·rw[zqn (by omega)];exact ns.sN
 ·rw[if_neg h0];simp only[wq.1,seval,h0];exact aA.tup (au.cons aA.nils (au.cons aA.nils au.nil))
theorem rq[MO](c:Ci)(hs:Sum c):Ev TE 9 [c.v] (.tup [vi (mO c).1,.str (mO c).2]):=by
 have hM:=mLx;have hN:=Dn c hs;have hS:=Np c hs;have hnd:V.dats (cO (mi c).1)=true:=jS _;unfold mO;by_cases h0:(lQ c).1=0
 ·have e0:((lQ c).1 != 0)=false:=by simp[h0]
  rw[if_neg (by simpa using h0)];refine ah Tryz.func9 rfl (by simp[nts]) (vm ?_);simp only[wq.1,seval,Tryz.results9];refine ag.ev hN (ja c) ?_;simp only[wq.1,↓reduceIte,Nat.reduceEqDiff,Nat.reduceLT,Nat.reduceAdd,reduceCtorEq,e0];obtain⟨nl,hnl⟩:∃nl,nl=(mi c).2:=⟨_,rfl⟩;rw[<-hnl]at hS ⊢;cases nl with
  |nil=>refine ag.ev hS (ja c) ?_;simp only[wq.1,↓reduceIte,Nat.reduceEqDiff,Nat.reduceLT,Nat.reduceAdd];rw[show decide (0<((0:Nat):Int))=false from rfl];simp only[wq.1,seval];exact aA.tup (au.cons (aA.dat rfl) (au.cons (aA.dat rfl) au.nil))
  |cons s nl =>
   refine ag.ev hS (ja c) ?_;have hg:((s::nl).map V.str).getD 0 .any= .str s:=rfl;have hpos:decide (0<((nl.length+1:Nat):Int))=true:=by rw[zqb];omega
   simp only[wq.1,seval,hpos];exact⟨by decide +kernel,by omega,aA.tup (au.cons (aA.dat rfl) (au.cons (aA.dat rfl) au.nil))⟩
 ·have e0:((lQ c).1 != 0)=true:=by simpa using h0
  rw[if_pos h0];refine ah Tryz.func9 rfl (by simp[nts]) (vm ?_);simp only[wq.1,seval,Tryz.results9];refine ag.ev hN (ja c) ?_;simp only[wq.1,seval,e0];exact aA.tup (au.cons (aA.dat rfl) (au.cons (aA.dat rfl) au.nil))
theorem VR:Abs.ti P 243=some {kind:= .arr 64 5 (some .u8),size:=64,bytes:=64,zero:= .agg (List.replicate 64 (.int .u8 0))}:=rfl
def z65:List V:=List.replicate 65 (.int .u8 0)
theorem Qr:Abs.ti P 230=some {kind:= .arr 65 5 (some .u8),size:=65,bytes:=65,zero:= .agg z65}:=rfl
theorem Rq{i x:Nat}{suf:S}{b:UInt8}(hi:i+1+suf.length=65)(hx:V.int .u8 (x:Int)=vb b):(List.replicate (i+1) (V.int .u8 0)++suf.map vb).take (i*1)++[V.int .u8 (x:Int)]++(List.replicate (i+1) (V.int .u8 0)++suf.map vb).drop (i*1+1)=List.replicate i (V.int .u8 0)++(b::suf).map vb:=by rw[Nat.mul_one,List.take_append_of_le_length (by simp),List.take_replicate,Nat.min_eq_left (by omega),List.drop_left' (by simp),hx,zqc];rfl
def vk:Nat->Nat->S
 |0,_=>[]
 |f+1,k=>if k<2 then [UInt8.ofNat (48+k)]else vk f (k/2)++[UInt8.ofNat (48+k%2)]
theorem Nq{f k:Nat}(h:2<=k):vk (f+1) k=vk f (k/2)++[UInt8.ofNat (48+k%2)]:=by rw[vk,if_neg (by omega)]
theorem DJ:∀(f g k:Nat),k<2^f->k<2^g->0<f->0<g->vk f k=vk g k
 |f+1,g+1,k,hf,hg,_,_=>by
  rw[vk,vk];split
  ·rfl
  ·rename_i h;rw[Nat.pow_succ]at hf hg;cases f with
   |zero=>omega
   |succ f=>cases g with
    |zero=>omega
    |succ g=>rw[DJ (f+1) (g+1) (k/2) (by omega) (by omega) (by omega) (by omega)]
theorem TJ[MO]:Ev TE 163 [.int .u64 2] (vi 1):=by
 have e0:IntKind.u64.wrap ((BitVec.ofInt IntKind.u64.bits 2 &&& BitVec.ofInt IntKind.u64.bits (IntKind.u64.wrap (-2))).toNat:Int)=2:=by decide +kernel
 have e1:(IntKind.u64.wrap (2*285870213051353865)).fdiv (2^min 58 IntKind.u64.bits)=1:=by decide +kernel
 have e2:(EM.map fun n=>V.int .u8 n).length=64:=rfl;have e3:(EM.map fun n=>V.int .u8 n).getD 1 .any= .int .u8 1:=rfl;obtain⟨T,hT⟩:∃T,T=EM.map fun n=>V.int .u8 n:=⟨_,rfl⟩;have g3:=gl3;rw[<-hT]at e2 e3 g3;refine ah Tryz.func163 rfl (by simp[nts]) (vm ?_);have c1:fQ P [] 5 3 (.int .u8 1)=(True,vi 1):=by unfold fQ;simp only[tis];rfl
 simp only[wq.1,↓reduceIte,Nat.reduceEqDiff,Nat.reduceLT,Nat.reduceLeDiff,Nat.reduceAdd,Nat.reduceSub,Int.reduceToNat,Nat.reduceDiv,Int.reduceLT,Int.reduceLE,Int.reduceNeg,Int.reduceBEq,Int.reduceBNe,Int.reduceAdd,Int.reduceSub,Nat.reduceBEq,reduceCtorEq,Nat.reduceMul,ak,Tryz.results163,g3,gm,e0,e1,e2,e3,VR,c1];exact⟨by decide,aA.dat rfl⟩
theorem VS[MO]:Ev TE 148 [.int .u64 2] (vi 1):=by have h:=TJ;refine ah Tryz.func148 rfl (by simp[nts]) (vm ?_);simp only[wq.1,seval,Tryz.results148];refine ag.ev h rfl ?_;simp only[wq.1,seval];exact aA.dat rfl
theorem TK[MO]:Ev TE 147 [vi 2] (.bool true):=by
 have e:(IntKind.i64.wrap ((BitVec.ofInt IntKind.i64.bits 2 &&& BitVec.ofInt IntKind.i64.bits (IntKind.i64.wrap 1)).toNat:Int)==0)=true:=by decide +kernel
 refine ah Tryz.func147 rfl (by simp[nts]) (vm ?_);simp only[wq.1,seval,Tryz.results147,e];exact aA.dat rfl
theorem Qs:∀n,n<=8->1<=n->∀k,k<2^n->(vk 65 k).length<=n/\List.replicate (n-(vk 65 k).length) 48++vk 65 k=Cf n k/\(vk 65 k).count 49=qc k:=by
 have h:∀n,n<9->(if 1<=n then(List.range (2^n)).all fun k=>decide ((vk 65 k).length<=n)&&(List.replicate (n-(vk 65 k).length) 48++vk 65 k==Cf n k)&&((vk 65 k).count 49==qc k)else true)=true:=by decide +kernel
 intro n hn h1 k hk;have h2:=h n (by omega);rw[if_pos h1]at h2;have h3:=zrs.1 h2 k (List.mem_range.2 hk);simp only[zqf,zqb,beq_iff_eq]at h3;exact⟨h3.1.1,h3.1.2,h3.2⟩
theorem Qu{h:H}{l:S}{ex:List V}{k cap:Nat}(hc:h[k]? =some (.cells (ex++l.map vb))):fQ P h 58 9 (.ls k 1 ex.length l.length cap)=(True,.str l):=by
 have h1:dN h k=ex++l.map vb:=by simp only[dN,hc]
 have h2:fA (((dN h k).drop ex.length).take l.length)=some l:=by rw[h1,List.drop_left' rfl,zqh (by simp),wW]
 have h3:ex.length+l.length<=(dN h k).length:=by rw[h1];simp
 unfold fQ;simp only[tis,h2,h3,and_self]
theorem Qv[MO](k:Nat)(hk:k<256):Ev TE 121 [.nils,.int .u64 k,vi 2,.bool false,.bool false] (.tup [.is false 1 [],.str (vk 65 k)]):=by
 have hM:=mLx;have hT:=VS;have hp:=TK;refine ah Tryz.func121 rfl (by simp[nts]) ?_;refine vn ?_;simp only[wq.1,seval,Tryz.results121];refine vn ?_;simp only[wq.1,seval];have hz:z65=List.replicate 65 (V.int .u8 0)++([]:S).map vb:=by unfold z65;simp
 have hv:V.vc (.agg z65)=z65:=rfl;have w1:IntKind.u64.wrap 2=2:=by decide
 have w2:IntKind.u64.wrap 1=1:=by decide
 obtain⟨R,hR⟩:∃R,R=vk 65 k:=⟨_,rfl⟩;rw[<-hR];refine vn ?_;simp only[wq.1,Nat.reduceLT,Qr];rw[hz];refine vn ?_;simp only[wq.1,Nat.reduceLT];refine vn ?_;simp only[wq.1,seval];refine aj ?_;refine vn ?_;simp only[wq.1,seval];refine ag.ev hp rfl ?_;simp only[wq.1];refine vm ?_;simp only[wq.1,seval,Tq,w1];refine ag.ev hT rfl ?_;have MI:∀h:H,fQ P h 3 183 (vi 2)=(True,.int .u64 2):=fun h=>by unfold fQ;simp only[tis];rfl
 simp only[wq.1,seval,Tq,w1,w2,MI];have hand:∀u:Nat,u<256->(BitVec.ofInt IntKind.u64.bits (u:Int) &&& BitVec.ofInt IntKind.u64.bits 1).toNat=u%2:=by
  intro u hu;have h:(List.range 256).all (fun u=>(BitVec.ofInt IntKind.u64.bits (u:Int) &&& BitVec.ofInt IntKind.u64.bits 1).toNat==u%2)=true:=by decide +kernel
  exact beq_iff_eq.1 (zrs.1 h u (List.mem_range.2 hu))
 refine aF (fun m f h => ∃ (u i : Nat) (suf : S),m = u /\ u < 256 /\ 1 <= i /\ i + suf.length = 65 /\ u < 2 ^ i /\ R = vk 65 u ++ suf /\ f.t 1 = .int .u64 u /\ f.t 3 = .bool false /\ f.t 4 = .bool false /\ f.t 10 = .nils /\ f.t 12 = .lp 0 0 /\ f.t 13 = vi i /\ f.t 14 = .int .u64 1 /\ f.t 15 = .int .u64 2 /\ f.t 16 = .int .u64 1 /\ f.d = [] /\ h = [.cells (List.replicate i (.int .u8 0) ++ suf.map vb)]) k
  ⟨k,65,[],rfl,hk,by decide,rfl,Nat.lt_of_lt_of_le hk (by decide),by rw[hR,zqp],by simp only[wq.1,seval],by simp only[wq.1,seval],by simp only[wq.1,seval],by simp only[wq.1,seval],by simp only[wq.1,seval],by simp only[wq.1,↓reduceIte,Nat.reduceEqDiff];rfl,by simp only[wq.1,↓reduceIte,Nat.reduceEqDiff,Nat.reduceLT,Nat.reduceLeDiff,Nat.reduceAdd,Nat.reduceSub,Int.reduceToNat,Nat.reduceDiv,Int.reduceLT,Int.reduceLE,Int.reduceNeg,Int.reduceBEq,Int.reduceBNe,Int.reduceAdd,Int.reduceSub,Nat.reduceBEq,reduceCtorEq,Nat.reduceMul,ak,Tryz.results121],by simp only[wq.1,↓reduceIte,Nat.reduceEqDiff,Nat.reduceLT,Nat.reduceLeDiff,Nat.reduceAdd,Nat.reduceSub,Int.reduceToNat,Nat.reduceDiv,Int.reduceLT,Int.reduceLE,Int.reduceNeg,Int.reduceBEq,Int.reduceBNe,Int.reduceAdd,Int.reduceSub,Nat.reduceBEq,reduceCtorEq,Nat.reduceMul,ak,Tryz.results121],by simp only[wq.1,↓reduceIte,Nat.reduceEqDiff,Nat.reduceLT,Nat.reduceLeDiff,Nat.reduceAdd,Nat.reduceSub,Int.reduceToNat,Nat.reduceDiv,Int.reduceLT,Int.reduceLE,Int.reduceNeg,Int.reduceBEq,Int.reduceBNe,Int.reduceAdd,Int.reduceSub,Nat.reduceBEq,reduceCtorEq,Nat.reduceMul,ak,Tryz.results121],by simp only[wq.1,↓reduceIte,Nat.reduceEqDiff,Nat.reduceLT,Nat.reduceLeDiff,Nat.reduceAdd,Nat.reduceSub,Int.reduceToNat,Nat.reduceDiv,Int.reduceLT,Int.reduceLE,Int.reduceNeg,Int.reduceBEq,Int.reduceBNe,Int.reduceAdd,Int.reduceSub,Nat.reduceBEq,reduceCtorEq,Nat.reduceMul,ak,Tryz.results121],by simp⟩ ?_
 rintro m f h ⟨u,i,suf,rfl,hu,hpos,hi,hui,hRR,t1,t3,t4,t10,t12,t13,t14,t15,t16,hd,rfl⟩;refine vn ?_;simp only[wq.1,seval,t1,t15];obtain⟨j,rfl⟩:∃j,i=j+1:=⟨i-1,by omega⟩;have wj:IntKind.i64.wrap (((j+1:Nat):Int)-1)=(j:Int):=by rw[iw (by omega) (by omega)];omega
 refine vcB.mk (fun hge=> ?_) (fun hge=> ?_)
 ·have hge:2<=m:=by have:=zqs hge;omega
  have ha:=hand m hu;have hsh:(m:Int).fdiv (2^min 1 IntKind.u64.bits)=((m/2:Nat):Int):=by rw[show(2:Int)^min 1 IntKind.u64.bits=((2:Nat):Int)from rfl,Int.fdiv_eq_ediv_of_nonneg _ (by omega)];rfl
  simp only[wq.1];refine aB ?_;refine vn ?_;simp only[wq.1,seval,t13,wj];refine vn ?_;simp only[wq.1,seval,t1,t12,t16,ha,Qr];have hw0:IntKind.u64.wrap ((m%2:Nat):Int)=((m%2:Nat):Int):=by
   rcases Nat.mod_two_eq_zero_or_one m with h|h<;>rw[h]<;>decide
  have hd2:([48,49,50,51,52,53,54,55,56,57,97,98,99,100,101,102,103,104,105,106,107,108,109,110,111,112,113,114,115,116,117,118,119,120,121,122]:List UInt8).getD (IntKind.u64.wrap ((m%2:Nat):Int)).toNat 0=UInt8.ofNat (48+m%2):=by rw[hw0];rcases Nat.mod_two_eq_zero_or_one m with h|h<;>rw[h]<;>rfl
  have hf:=Rq (i:=j) (suf:=suf) (b:=UInt8.ofNat (48+m%2)) (x:=(UInt8.ofNat (48+m%2)).toNat) hi rfl;rw[hd2,hf,hw0];refine⟨⟨by omega,by omega⟩,⟨by omega,by omega⟩,(by simp<;>omega),?_⟩;have hj1:1<=j:=by
   rcases Nat.eq_zero_or_pos j with h0|h0
   ·subst h0;have h2:(2:Nat)^(0+1)=2:=rfl;rw[h2]at hui;omega
   ·exact h0
  have hm2:m/2<2^j:=by rw[Nat.pow_succ]at hui;omega
  refine vm ?_;simp only[wq.1,seval,t1,t14,hsh];refine .inl ⟨m/2,by omega,m/2,j,UInt8.ofNat (48+m%2)::suf,rfl,by omega,hj1,by simp;omega,hm2,?_,by simp only[wq.1,↓reduceIte],by simp only[wq.1,seval,t3],by simp only[wq.1,seval,t4],by simp only[wq.1,seval,t10],by simp only[wq.1,seval,t12],by simp only[wq.1,seval],by simp only[wq.1,seval,t14],by simp only[wq.1,seval,t15],by simp only[wq.1,seval,t16],by simp only[wq.1,hd],rfl⟩;rw[hRR,Nq hge,DJ 64 65 (m/2) (by omega) (by omega) (by omega) (by omega),zqc];rfl
 ·have hlt:m<2:=by have:=of_decide_eq_false hge;omega
  simp only[wq.1,seval,t1,t12,t13,wj,Qr];have hd2:([48,49,50,51,52,53,54,55,56,57,97,98,99,100,101,102,103,104,105,106,107,108,109,110,111,112,113,114,115,116,117,118,119,120,121,122]:List UInt8).getD m 0=UInt8.ofNat (48+m):=by
   have:m=0\/m=1:=by omega
   rcases this with rfl|rfl<;>rfl
  have hf:=Rq (i:=j) (suf:=suf) (b:=UInt8.ofNat (48+m)) (x:=(UInt8.ofNat (48+m)).toNat) hi rfl;rw[hd2,hf];refine⟨⟨by omega,by omega⟩,⟨by omega,by omega⟩,(by simp<;>omega),?_⟩;have hb:vk 65 m=[UInt8.ofNat (48+m)]:=by rw[vk,if_pos hlt]
  rw[hb]at hRR;have hR2:R=UInt8.ofNat (48+m)::suf:=hRR;rw[<-hR2];have hRl:R.length=65-j:=by rw[hR2];simp;omega
  refine aj ?_;refine vn ?_;simp only[wq.1,seval,t3];refine vm ?_;simp only[wq.1,↓reduceIte];refine aj ?_;refine vn ?_;simp only[wq.1,seval,t4];refine vm ?_;simp only[wq.1,↓reduceIte];refine aj (iL ?_);refine ay rfl rfl ?_;simp only[wq.1,seval];refine eX rfl rfl ?_;have hre:Abs.ti TE.P 5=some ⟨.int .u8,1,1,.int .u8 0⟩:=by simp only[wq.1]
  obtain⟨X,hX⟩:∃X,X=List.replicate j (V.int .u8 0)++R.map vb:=⟨_,rfl⟩;have hXl:X.length=65:=by rw[hX];simp;omega
  rw[<-hX];refine xZ (t:=230) rfl Qr rfl hre (by simp only[wq.1,seval,t12]) (id:=0) (off:=0) (by simp only[wq.1,seval,t12]) rfl (by rw[hXl];decide) (by decide) rfl (a:=j) (by simp only[wq.1,↓reduceIte]) (by simp only[wq.1,↓reduceIte]) (by omega) ?_;have hcv:fQ P [O.cells X] 58 9 (.ls 0 1 j (65-j) (65-j))=(True,.str R):=by
   have:=Qu (h:=[O.cells X]) (l:=R) (ex:=List.replicate j (.int .u8 0)) (k:=0) (cap:=65-j) (by rw[hX];rfl);rw[zsc,hRl]at this;exact this
  refine ay rfl rfl ?_;simp only[wq.1,↓reduceIte,hcv];refine ay rfl rfl ?_;simp only[wq.1,↓reduceIte];refine eG ?_;simp only[wq.1];refine vm ?_;simp only[wq.1,seval,t10,hd];exact aA.tup (au.cons aA.nils (au.cons (aA.dat rfl) au.nil))
theorem TL[MO](k:Nat)(hk:k<256):Ev TE 92 [vi k,vi 2] (.str (vk 65 k)):=by
 have hF:=Qv k hk;have hM:=mLx;have w:IntKind.u64.wrap (k:Int)=(k:Int):=by
  have h:(List.range 256).all (fun u=>IntKind.u64.wrap (u:Int)==(u:Int))=true:=by decide +kernel
  exact beq_iff_eq.1 (zrs.1 h k (List.mem_range.2 hk))
 have hc:∀h:H,fQ P h 2 183 (vi k)=(True,.int .u64 k):=fun h=>by unfold fQ;simp only[tis,w]
 have hn:decide ((k:Int)<0)=false:=by rw[zqd];omega
 refine ah Tryz.func92 rfl (by simp[nts]) (vm ?_);simp only[wq.1,seval,Tryz.results92,hc,hn];refine ag.ev hF rfl ?_;simp only[wq.1,seval];exact aA.dat rfl
theorem Qw[MO](k:Nat)(hk:k<256):Ev TE 93 [vi k,vi 2] (.str (vk 65 k)):=by have hF:=TL k hk;refine ah Tryz.func93 rfl (by simp[nts]) (vm ?_);simp only[wq.1,seval,Tryz.results93];refine ag.ev hF rfl ?_;simp only[wq.1,seval];exact aA.dat rfl
theorem Fz(c:UInt8)(n:Nat):Lib.repeatL [c] n=List.replicate n c:=by
 induction n with
 |zero=>rfl
 |succ n ih=>rw[Lib.repeatL,ih];rfl
theorem yT[MO](n:Nat)(odd:Bool)(h1:1<=n)(hn:n<=8):Ev TE 51 [vi n,.bool odd] (aV (Jw n odd)):=by
 have hM:=mLx;have hp2:2^n<=256:=Nat.pow_le_pow_right (n:=2) (by decide) hn;have hmin:min n IntKind.i64.bits=n:=Nat.min_eq_left (by show n<=64;omega);obtain⟨N,hN⟩:∃N,N=2^n:=⟨_,rfl⟩;have w0:IntKind.i64.wrap (1*2^n)=(N:Int):=by
  rw[Int.one_mul];have e:((2:Int)^n)=(N:Int):=by rw[hN];simp
  rw[e];exact iw (by omega) (by omega)
 have hpar:Jw n odd=qp n odd N:=by rw[hN];rfl
 rw[hpar];refine ah Tryz.func51 rfl (by simp[nts]) ?_;refine vn ?_;simp only[wq.1,Nat.reduceLT,Tryz.results51];refine vn ?_;simp only[wq.1,Nat.reduceLT];refine vn ?_;simp only[wq.1,seval,hmin,w0];refine⟨by omega,?_⟩;refine kZ 5 1 (by simp only[wq.1,seval]) ?_;refine aF (fun m f h=>∃k,m+k=N/\f.t 0=vi n/\f.t 1= .bool odd/\f.t 5= .ls 0 1 0 (qp n odd k).length (qp n odd k).length/\f.t 9=vi N/\f.t 10=vi k/\f.d=[]/\h=[.cells ((qp n odd k).map V.str)]) N ⟨0,by omega,by simp only[wq.1,seval],by simp only[wq.1,seval],by(simp only[wq.1,↓reduceIte];rfl),by simp only[wq.1,seval],by simp only[wq.1,↓reduceIte,Nat.reduceEqDiff];rfl,by simp only[wq.1],rfl⟩ ?_;rintro m f h ⟨k,hm,t0,t1,t5,t9,t10,hd,rfl⟩;have hwk:=az (show k<maxLen by omega);refine vn ?_;simp only[wq.1,Nat.reduceLT,t9,t10];refine vn ?_;simp only[wq.1,↓reduceIte];refine vcB.mk (fun hlt=> ?_) (fun hlt=> ?_)
 ·have hlt:k<N:=by have:=zqs hlt;omega
  have hps:=Dl (n:=n) (odd:=odd) (k:=k);obtain⟨b1,b2,b3⟩:=Qs n hn h1 k (hN▸hlt);obtain⟨Bk,hBk⟩:∃Bk,Bk=vk 65 k:=⟨_,rfl⟩;have hF:=Qw k (by omega);have hC:=CX Bk 49;rw[<-hBk]at b1 b2 b3 hF;have hod:(((qc k:Nat):Int).tmod 2==1)=(qc k%2==1):=by rw[Bool.eq_iff_iff,beq_iff_eq,beq_iff_eq,Int.tmod_eq_emod_of_nonneg (by omega)];omega
  have hRp:=lC [48] (n-Bk.length) (by decide) (by omega);rw[Fz]at hRp;rw[b3]at hC;have hol:=Af (n:=n) (odd:=odd) (k:=k);have wn:IntKind.i64.wrap ((n:Int)-Bk.length)=((n-Bk.length:Nat):Int):=by rw[iw (by omega) (by omega)];omega
  simp only[wq.1];refine aj ?_;refine aB ?_;refine vn ?_;simp only[wq.1,seval,t10];refine vn ?_;simp only[wq.1,seval];refine ag.ev hF rfl ?_;simp only[wq.1,seval];refine vn ?_;simp only[wq.1,↓reduceIte,Nat.reduceEqDiff,Nat.reduceLT,Nat.reduceLeDiff,Nat.reduceAdd,Nat.reduceSub,Int.reduceToNat,Nat.reduceDiv,Int.reduceLT,Int.reduceLE,Int.reduceNeg,Int.reduceBEq,Int.reduceBNe,Int.reduceAdd,Int.reduceSub,Nat.reduceBEq,reduceCtorEq,Nat.reduceMul,ak,Tryz.results51];refine ag.ev hC rfl ?_;simp only[wq.1,↓reduceIte,Nat.reduceEqDiff,Nat.reduceLT,Nat.reduceLeDiff,Nat.reduceAdd,Nat.reduceSub,Int.reduceToNat,Nat.reduceDiv,Int.reduceLT,Int.reduceLE,Int.reduceNeg,Int.reduceBEq,Int.reduceBNe,Int.reduceAdd,Int.reduceSub,Nat.reduceBEq,reduceCtorEq,Nat.reduceMul,ak,Tryz.results51,bn,t0,t1,t5,t9,t10,hd,hod];refine⟨by decide,?_⟩;obtain⟨b,hb⟩:∃b,b=(qc k%2==1):=⟨_,rfl⟩;rw[<-hb]at hps ⊢;have hnr:List.replicate (n-Bk.length) 48++Bk=Cf n k:=b2;cases hbo:(b==odd)with
  |false=>rw[hbo,if_neg (by decide)]at hps;refine vm ?_;simp only[wq.1,↓reduceIte];refine vm ?_;simp only[wq.1,seval,t10,hwk];exact .inl ⟨m-1,by omega,k+1,by omega,by simp only[wq.1,seval,t0],by simp only[wq.1,seval,t1],by simp only[wq.1,seval,t5,hps],by simp only[wq.1,seval,t9],by simp only[wq.1,↓reduceIte],by simp only[wq.1,hd],by rw[hps]⟩
  |true =>
   rw[hbo,if_pos rfl]at hps;refine vm ?_;simp only[wq.1,↓reduceIte,Nat.reduceEqDiff,Nat.reduceLT,Nat.reduceLeDiff,reduceCtorEq,t0,t5,wn];refine ag.ev hRp rfl ?_;obtain⟨X3,hX3⟩:∃X3,X3=(qp n odd (k+1)).map V.str:=⟨_,rfl⟩;have hnx:(qp n odd k).map V.str++[.str (Cf n k)]=X3:=by rw[hX3,hps,zql];rfl
   have hd3:V.drops (fun x=>x==0) X3=X3:=by rw[hX3,aC]
   have hln:(qp n odd (k+1)).length=(qp n odd k).length+1:=by rw[hps];simp
   simp only[wq.1,↓reduceIte,Nat.reduceEqDiff,Nat.reduceLT,reduceCtorEq,Nat.reduceMul,hnr,hnx,hd3,hd];refine⟨by rw[zsc];omega,⟨rfl,by decide⟩,⟨by omega,by omega,by omega⟩,?_⟩;refine vm ?_;simp only[wq.1,seval,t10,hwk];exact .inl ⟨m-1,by omega,k+1,by omega,by simp only[wq.1,seval,t0],by simp only[wq.1,seval,t1],by simp only[wq.1,seval,hln],by simp only[wq.1,seval,t9],by simp only[wq.1,↓reduceIte],by simp only[wq.1,hd],by rw[hX3]⟩
 ·have hkN:k=N:=by have:=of_decide_eq_false hlt;omega
  subst hkN;simp only[wq.1];refine vm ?_;simp only[wq.1,seval,t5,hd];exact bu rfl rfl
end Go.Proofs.YtokppohljajhjaaGreatDoor
