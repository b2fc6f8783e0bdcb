/- Lemmas for this claim, part F06: each holds under what it names. -/
import Derived.Test.YtokppohljajhjaaGreatDoorF05
set_option linter.all false
set_option maxRecDepth 20000
set_option maxHeartbeats 4000000
namespace Go.Proofs.YtokppohljajhjaaGreatDoor
open Go Go.Proofs Go.Abs
theorem AU{names:List S}{ins:List (List S)}{i:Nat}{x:List (List Nat)×List (List Nat)}(h:i<ins.length):jO names i (ins.drop i) x=jO names (i+1) (ins.drop (i+1)) (jk names i ins[i] x):=by rw[List.drop_eq_getElem_cons h,jO]
theorem jF(names:List S)(i:Nat):∀(l:List S)(x:List (List Nat)×List (List Nat))(j:Nat),j≠i->(jk names i l x).1.getD j []=x.1.getD j []
 |[],x,j,h=>rfl
 |s::l,(N,B),j,h=>by
  rw[jk];cases uH names s with
  |none=>exact jF names i l (N,B) j h
  |some k =>
   dsimp only;split
   ·exact jF names i l (N,B) j h
   ·rw[jF names i l _ j h];show(N.set i _).getD j []=_;rw[zqg,zqn (Ne.symm h),<-zqg]
theorem uT{names:List S}{s:S}{k:Nat}(h:uH names s=some k):k<names.length:=by rw[<-yH]at h;exact(ru h).1
mutual
theorem V.sh_dat(b:Nat):∀v:V,v.dat=true->v.sh b=v
 | .lp _ _,h | .ls _ _ _ _ _,h | .lm _,h | .yd _,h | .row _ _,h=>by simp[V.dat]at h
 | .fn f x y,h=>by simp only[V.dat,zqf]at h;simp only[V.sh,V.shs_dats b x h.1,V.shs_dats b y h.2]
 | .iface t e,h=>by simp only[V.dat]at h;simp only[V.sh,V.sh_dat b e h]
 | .agg vs,h=>by simp only[V.dat]at h;simp only[V.sh,V.shs_dats b vs h]
 | .tup vs,h=>by simp only[V.dat]at h;simp only[V.sh,V.shs_dats b vs h]
 | .grd g e,h=>by simp only[V.dat]at h;simp only[V.sh,V.sh_dat b e h]
 | .any,_ | .bool _,_ | .int _ _,_ | .str _,_ | .nilp,_ | .ip _,_ | .nils,_ | .is _ _ _,_ | .nilm,_ | .im _ _,_ | .nilf,_ | .nili,_=>by simp only[V.sh]
theorem V.shs_dats(b:Nat):∀vs:List V,V.dats vs=true->V.shs b vs=vs
 |[],_=>rfl
 |v::vs,h=>by simp only[V.dats,zqf]at h;rw[V.shs,V.sh_dat b v h.1,V.shs_dats b vs h.2]
end
theorem kH:∀l:List Nat,V.dats (bZ l)=true
 |[]=>rfl
 |a::l=>by show(V.dat (nv a)&&V.dats (bZ l))=true;rw[kH l];rfl
theorem qI{p:Nat->Bool}:∀vs:List V,(V.drops p vs).length=vs.length
 |[]=>rfl
 |v::vs=>by rw[V.drops,zrt,qI vs,zrt]
theorem qJ{p:Nat->Bool}:∀vs:List V,V.drops p vs=vs.map (V.drop p)
 |[]=>rfl
 |v::vs=>by rw[V.drops,qJ vs,zrd]
theorem kJ{p:Nat->Bool}{vs:List V}(h:∀v∈vs,v.drop p=v):V.drops p vs=vs:=by
 rw[qJ]
 conv=>rhs;rw[<-List.map_id vs]
 exact zsd h
theorem uU{p:Nat->Bool}{n i:Nat}(hp:∀j,7+n<=j->p j=false):V.drops p (iP n i)=iP n i:=kJ fun v hv=>by
 obtain⟨j,_,rfl⟩:=zrh.1 hv;by_cases h:j<i
 ·rw[if_pos h,V.drop,hp _ (by omega)];rfl
 ·rw[if_neg h];rfl
theorem WS.dropped{c:Ci}{h h':H}{nr br wr n i:Nat}{N B:List (List Nat)}(w:WS c h nr br wr n i N B){p:Nat->Bool}(hl:h'.length=h.length)(hb:h'[br]? =h[br]?)
 (hd:∀j,j≠br->h'[j]? =(h[j]?).map (O.drop p)\/h'[j]? =h[j]?) (hp:∀j,j<7\/7+n<=j->p j=false):WS c h' nr br wr n i N B:=by
 obtain⟨r1,r2,r3,r4,r5,r6,r7,r8,r9⟩:=w.r;have key:∀(j:Nat)(o:O),j≠br->h[j]? =some o->o.drop p=o->h'[j]? =some o:=fun j o h1 h2 h3=>by
  rcases hd j h1 with h4|h4
  ·rw[h4,h2,zrw,h3]
  ·rw[h4,h2]
 refine⟨by rw[hl];exact w.len,key _ _ (by omega) w.x0 rfl,key _ _ (by omega) w.x1 rfl,key _ _ (by omega) w.x3 ?_,key _ _ (by omega) w.xw ?_,key _ _ (by omega) w.xn ?_,fun j hj=>key _ _ (by omega) (w.xm j hj) ?_,by rw[hb];exact w.xb,fun k hk=>key _ _ (by omega) (w.xr k hk) ?_,w.lN,w.lB,w.r⟩
 ·show O.map (V.drops p _) (V.drops p _)=_;rw[aA,aZ];rfl
 ·show O.cells (V.drops p (mw n nr br))=_;rw[kJ];intro v hv;simp only[zrj,zrp,or_false]at hv;rcases hv with rfl|rfl
  ·rw[V.drop,hp _ (.inl r2)];rfl
  ·rw[V.drop,hp _ (.inl r4)];rfl
 ·show O.cells (V.drops p _)=_;rw[uU (fun j hj=>hp j (.inr hj))]
 ·show O.map (V.drops p _) (V.drops p _)=_;rw[kF,aZ]
 ·show O.cells (V.drops p _)=_;rw[aZ]
theorem JA{B:List (List Nat)}{k:Nat}(hk:k<B.length)(v:V):(V.drops (fun x=>x==7+k) (byC B)).take (k*1)++[v]++(V.drops (fun x=>x==7+k) (byC B)).drop (k*1+1)=(byC B).take (k*1)++[v]++(byC B).drop (k*1+1):=by
 have same:∀j,j<B.length->j≠k->(V.drops (fun x=>x==7+k) (byC B))[j]? =(byC B)[j]? :=fun j hj hjk=>by rw[qJ,zqo];unfold byC;rw[zqo,List.getElem?_range hj];simp only[zrw,V.drop];rw[if_neg (by simp;omega)]
 rw[Nat.mul_one]
 congr 1
 ·congr 1
  apply List.ext_getElem?;intro j;by_cases hj:j<k
  ·rw[List.getElem?_take_of_lt hj,List.getElem?_take_of_lt hj,same j (by omega) (by omega)]
  ·rw[zsj (by simp;omega),zsj (by simp;omega)]
 ·apply List.ext_getElem?;intro j;rw[List.getElem?_drop,List.getElem?_drop];by_cases hj:k+1+j<B.length
  ·rw[same _ hj (by omega)]
  ·rw[zsj (by rw[qI,jP];omega),zsj (by rw[jP];omega)]
def SQ(i:Nat)(N B:List (List Nat)):Prop:=∀k,(B.getD k []).length<=i+1/\((N.getD i []).contains k=false->(B.getD k []).length<=i)
theorem lh{α:Type}{l:List (List α)}{i j:Nat}{x:List α}(hi:i<l.length):(l.set i x).getD j []=if i=j then x else l.getD j []:=by
 rw[zqg,zqg];by_cases h:i=j
 ·subst h;rw[zqt hi,if_pos rfl];rfl
 ·rw[zqn h,if_neg h]
theorem SQ.add{i k:Nat}{N B:List (List Nat)}(h:SQ i N B)(hi:i<N.length)(hk:k<B.length)(hc:(N.getD i []).contains k=false):SQ i (N.set i (N.getD i []++[k])) (B.set k (B.getD k []++[i])):=by
 intro j;rw[lh hi,lh hk,if_pos rfl];by_cases hjk:k=j
 ·subst hjk;rw[if_pos rfl,zqa,zrk];have:=(h k).2 hc;exact⟨by omega,fun h1=>by simp at h1⟩
 ·rw[if_neg hjk];refine⟨(h j).1,fun h1=>(h j).2 ?_⟩;rw[List.contains_eq_mem,zqd]at h1 ⊢;exact fun h2=>h1 (List.mem_append_left _ h2)
def byV(B:List (List Nat)):V:= .is false 1 (B.map fun l=> .is false 1 (bZ l))
theorem uV:∀l:List Nat,dE 1 (bZ l)=true
 |[]=>rfl
 |a::l=>by show(_&&dE 1 (bZ l))=true;rw[uV l];rfl
theorem AV:∀l:List Nat,(bZ l).flatMap V.vc=bZ l
 |[]=>rfl
 |a::l=>by show V.vc (nv a)++(bZ l).flatMap V.vc=_;rw[AV l];rfl
theorem rC{e:E}{h:H}{id:Nat}{l:List Nat}(hc:h[id]? =some (.cells (bZ l))):az e h (.ls id 1 0 l.length l.length) (.is false 1 (bZ l)) :=
 az.ls hc (ak.dat (kH l)) (uV l) (AV l) (by simp)
theorem rD{e:E}{h:H}{α:Type}{g g':α->V}:∀ {l:List α},(∀a∈l,az e h (g a) (g' a))->ak e h (l.map g) (l.map g')
 |[],_=>ak.nil
 |a::l,hh=>ak.cons (hh a (by simp)) (rD fun b hb=>hh b (by simp[hb]))
theorem Ey{α β:Type}(l:List α)(d:α)(f:α->β):(List.range l.length).map (fun k=>f (l.getD k d))=l.map f:=by
 apply List.ext_getElem?;intro j;by_cases hj:j<l.length
 ·rw[zqo,List.getElem?_range hj,zqo,zqk hj];show some (f (l.getD j d))=some (f l[j]);rw[zqg,zqk hj];rfl
 ·rw[zsj (by simp;omega),zsj (by simp;omega)]
theorem az.rows{e:E}{h:H}{br:Nat}{B:List (List Nat)}(hb:h[br]? =some (.cells (byC B)))(hr:∀k,k<B.length->h[7+k]? =some (.cells (bZ (B.getD k [])))):az e h (.ls br 1 0 B.length B.length) (byV B):=by
 have fit:∀l:List (List Nat),dE 1 (l.map fun r=>V.is false 1 (bZ r))=true:=fun l=>by
  induction l with
  |nil=>rfl
  |cons a l ih=>show(_&&dE 1 (l.map _))=true;rw[ih];rfl
 have flat:∀l:List (List Nat),(l.map fun r=>V.is false 1 (bZ r)).flatMap V.vc=l.map fun r=>V.is false 1 (bZ r):=fun l=>by
  induction l with
  |nil=>rfl
  |cons a l ih=>show V.vc _++(l.map _).flatMap V.vc=_;rw[ih];rfl
 refine az.ls hb (cs':=B.map fun r=>V.is false 1 (bZ r)) ?_ (fit B) (flat B) (by simp);rw[<-Ey B [] (fun r=>V.is false 1 (bZ r))];exact rD fun k hk=>rC (hr k (by simpa using hk))
def JB:Plan:=tkZ [0,2,3,5,8]<| .alt 1 (.alt 4 (.take 6<| .alt 7 (.one 9<| .one 10<| .take 11<| .one 12<| .fin) (.one 9 (.one 7<| .one 10<| .take 11<| .one 12<| .fin))) (.one 9 (.one 4<| .take 6<| .one 7<| .one 10<| .take 11<| .one 12<| .fin))) (.alt 4 (.take 6<| .alt 1 (.alt 7 (.one 9<| .one 10<| .take 11<| .one 12<| .fin) (.one 9 (.one 7<| .one 10<| .take 11<| .one 12<| .fin))) (.alt 7 (.alt 1 (.one 9<| .one 10<| .take 11<| .one 12<| .fin) (.one 9 (.alt 1 (.one 10<| .take 11<| .one 12<| .fin) (.one 10 (.one 1<| .take 11<| .one 12<| .fin))))) (.one 9 (.alt 1 (.one 7<| .one 10<| .take 11<| .one 12<| .fin) (.one 7 (.alt 1 (.one 10<| .take 11<| .one 12<| .fin) (.one 10 (.one 1<| .take 11<| .one 12<| .fin)))))))) (.one 9 (.alt 1 (.one 4<| .take 6<| .one 7<| .one 10<| .take 11<| .one 12<| .fin) (.one 4 (.take 6<| .alt 1 (.one 7<| .one 10<| .take 11<| .one 12<| .fin) (.one 7 (.alt 1 (.one 10<| .take 11<| .one 12<| .fin) (.one 10 (.one 1<| .take 11<| .one 12<| .fin)))))))))
def Tm(c:Ci):AEnd->H->(Nat->Bool)->Prop:=fun ae h _=>∃nr N B,zW (aN c) (gins c)=(N,B)/\N.length=c.gates.length/\B.length=c.gates.length/\nr<7/\4<=nr /\
 ae= .ret (.agg [.ls nr 1 0 c.gates.length c.gates.length,byV B])/\h[nr]? =some (.cells (iP c.gates.length c.gates.length))/\∀j,j<c.gates.length->h[7+c.gates.length+2*j+1]? =some (Kt (N.getD j []))
theorem F5[MO](c:Ci)(hn:(aN c).Nodup)(hl:c.gates.length<=1000000)(hin:∀g∈c.gates,g.ins.length<=1000000):ag TE 101 [c.v] [] (Tm c):=by
 have hM:=mLx;obtain⟨n,hnn⟩:∃n,n=c.gates.length:=⟨_,rfl⟩;refine ax Tryz.func101 rfl (by simp[nts]) ?_;refine vn ?_;simp only[wq.1,Nat.reduceLT,Tryz.results101];refine vn ?_;simp only[wq.1,seval];refine jZ (ry c hn hl) (by simp[V.dats,rq]) ?_;rintro ae h' p ⟨rfl,rfl⟩;simp only[wq.1,seval,AEnd.sh,V.sh];obtain⟨W,hW⟩:∃W,W=zW (aN c) (gins c):=⟨_,rfl⟩;have hsh:O.sh 2 (ciO c)=ciO c:=by show O.cells (V.shs 2 _)=_;rw[V.shs_dats 2 _ (by have:=rq c;unfold Ci.v at this;simpa only[V.dat]using this)]
 have hsp:O.sh 2 (plO (aN c))=plO (aN c):=by show O.map (V.shs 2 _) (V.shs 2 _)=_;rw[V.shs_dats 2 _ aJ,V.shs_dats 2 _ (kH _)];rfl
 rw[hsh,hsp];refine vn ?_;refine Tj c (B:=[ciO c,.cells [.nils,.nils],ciO c,plO (aN c)]) hl rfl (by simp only[wq.1,seval]) (by simp only[wq.1]) (fun f h nr br wr hhl hb t1 s2 s3 t4 hd a1 a2 a3 n1 n2 n3 b1 b2 b3=> ?_);simp only[zrt,List.length_nil]at hhl hb a1 a2 a3;have ws:=WS.first (hb 0 (by omega)) (hb 1 (by omega)) (hb 3 (by omega)) hhl a1 a2 a3 n1 n2 n3 b1 b2 b3
 have t2:f.t 2= .lp 1 0:=by rw[s2];simp only[wq.1,seval]
 have t3:f.t 3= .lm 3:=by rw[s3];simp only[wq.1,↓reduceIte]
 refine AP c.gates.length ?_;refine jd (HLe.set (i:=br) (o':= .cells (byC (List.replicate c.gates.length []))) (by rw[zqj (zqe b2).1];exact b2) (OLe.cells (by rw[jP,zsc,zsc];exact zrb _) (by rw[jP,zsc,zqh (by rw[zsc];exact zrb _)];exact Nl))) ?_
 revert ws
 obtain ⟨h1,hh1⟩ : ∃ h1,h1 = (h ++ List.replicate c.gates.length (O.cells [])).set br (.cells (byC (List.replicate c.gates.length []))) := ⟨_,rfl⟩;rw [<- hh1,<- hnn];intro ws;clear hh1 b1 b2 b3 hb hhl h;have x0 := ws.x0;refine vn ?_;simp only [wq.1,seval,t1,x0];refine aK (fun m f h => ∃ (i : Nat) (N B : List (List Nat)),m + i = n /\ i <= n /\ WS c h nr br wr n i N B /\ (∀ j,i <= j -> N.getD j [] = []) /\ (∀ k,(B.getD k []).length <= i) /\ W = jO (aN c) i ((gins c).drop i) (N,B) /\ f.t 2 = .lp 1 0 /\ f.t 3 = .lm 3 /\ f.t 4 = .lp wr 0 /\ f.t 23 = jD c.gates /\ f.t 24 = vi n /\ f.t 25 = vi i /\ f.d = []) n
  ⟨0,_,_,by omega,by omega,ws,fun j _=>by rw[zqg,List.getElem?_replicate];split<;>rfl,fun k=>by(rw[zqg,List.getElem?_replicate];split<;>exact zrb _),by rw[hW,hnn];unfold zW;rw[zra];rfl,by simp only[wq.1,seval,t2],by simp only[wq.1,seval,t3],by simp only[wq.1,seval,t4],by simp only[wq.1,seval],by simp only[wq.1,seval];rw[hnn],by simp only[wq.1,↓reduceIte];rfl,by simp only[wq.1,hd]⟩ ?_
 clear t1 t2 t3 t4 s2 s3 hd x0 ws h1 f;rintro m f h ⟨i,N,B,hm,hil,ws,hN0,hB0,hWi,t2,t3,t4,t23,t24,t25,hd⟩;have hw:=aB (show i<maxLen by omega);refine vn ?_;simp only[wq.1,Nat.reduceLT,t24,t25];refine vn ?_;simp only[wq.1,↓reduceIte];have lnn:c.gates.length=n:=hnn.symm;refine vcB.mk (fun hlt=> ?_) (fun hlt=> ?_)
 ·have hlt:i<n:=by have:=zqs hlt;omega
  have hig:i<c.gates.length:=by omega
  obtain⟨g,hg⟩:∃g,g=c.gates[i]:=⟨_,rfl⟩;have hgg:=wF hig .any;rw[<-hg]at hgg;have gil:g.ins.length<=1000000:=hin g (hg▸zqu _);have hgi:(gins c)[i]'(by simpa using hig)=g.ins:=by rw[hg];simp
  rw[AU (by simpa using hig),hgi]at hWi;have ws':=ws.step hlt (hN0 i (zrb _)) (.cells [.str g.name,vi g.op,aW g.ins,aW g.rows,.bool g.off]);have xw:=ws.xw;have xn:=ws.xn;have rr:=ws.r;have hhl:=ws.len;have e1:(h++[O.cells [V.str g.name,vi g.op,aW g.ins,aW g.rows,V.bool g.off]])[wr]? =some (.cells (mw n nr br)):=by rw[zqj (by omega)];exact xw
  obtain⟨cp,hcp⟩:∃cp:O,cp= .cells [.str g.name,vi g.op,aW g.ins,aW g.rows,.bool g.off]:=⟨_,rfl⟩;rw[<-hcp]at ws' e1;have e2:(h++[cp]++[.map [] []])[nr]? =some (.cells (iP n i)):=by rw[zqc,zqj (by omega)];exact xn
  have hgE:∀x:O,(h++[x])[h.length]? =some x:=fun x=>by simp
  have hgS:∀y:O,(h++[y]).set h.length (.cells [.str g.name,vi g.op,aW g.ins,aW g.rows,.bool g.off])=h++[cp]:=fun y=>by simp[hcp]
  have hin1:∀y:O,((h++[cp]++[y]).set nr (.cells (iP n (i+1))))[h.length]? =some (.cells [.str g.name,vi g.op,aW g.ins,aW g.rows,.bool g.off]):=fun y=>by rw[<-hcp,zqn (by omega),zqc,zsb (by omega),Nat.sub_self];rfl
  have hap:h++[cp]++[.map [] []]=h++[cp,.map [] []]:=by simp
  have hml:h.length+1=7+n+2*i+1:=by omega
  have hcg:(V.agg [V.str g.name,vi g.op,aW g.ins,aW g.rows,V.bool g.off])=g.v:=rfl;have hnc:=jo (n:=n) (i:=i);have hns:=Jz hlt;rw[<-hap]at ws';simp only[wq.1];refine vn ?_;simp only[wq.1,seval,t4,t23,t25,hgg,hgE,hgS,e1,e2,hml,hns,hin1];obtain⟨h1,hh1⟩:∃h1,h1=(h++[cp]++[O.map [] []]).set nr (.cells (iP n (i+1))):=⟨_,rfl⟩;rw[<-hh1]at ws' ⊢;have hin2:=hin1 (.map [] []);rw[<-hh1]at hin2;rw[hnc];refine⟨⟨by omega,by omega⟩,⟨by omega,by omega⟩,by omega,?_⟩;obtain⟨M,hM1⟩:∃M,M=jk (aN c) i g.ins (N,B):=⟨_,rfl⟩;rw[<-hM1]at hWi;have hm1:M=jk (aN c) i (g.ins.drop 0) (N,B):=hM1;have hMo:∀j,i+1<=j->M.1.getD j []=[]:=fun j hj=>by rw[hM1,jF _ _ _ _ _ (by omega)];exact hN0 j (by omega)
  refine aK (fun m f h => ∃ (j : Nat) (N B : List (List Nat)),m + j = g.ins.length /\ j <= g.ins.length /\ WS c h nr br wr n (i + 1) N B /\ SQ i N B /\ M = jk (aN c) i (g.ins.drop j) (N,B) /\ f.t 2 = .lp 1 0 /\ f.t 3 = .lm 3 /\ f.t 4 = .lp wr 0 /\ f.t 23 = jD c.gates /\ f.t 24 = vi n /\ f.t 25 = vi i /\ f.t 5 = vi i /\ f.t 36 = aW g.ins /\ f.t 37 = vi g.ins.length /\ f.t 38 = vi j /\ f.d = []) g.ins.length
   ⟨0,N,B,by omega,by omega,ws',fun k=>⟨by have:=hB0 k;omega,fun _=>hB0 k⟩,hm1,by simp only[wq.1,seval,t2],by simp only[wq.1,seval,t3],by simp only[wq.1,seval,t4],by simp only[wq.1,seval,t23],by simp only[wq.1,seval,t24],by simp only[wq.1,seval,t25],by simp only[wq.1,seval],by simp only[wq.1,seval],by simp only[wq.1,seval],by simp only[wq.1,↓reduceIte];rfl,by simp only[wq.1,hd]⟩ ?_
  clear hm1 hin1 hin2 hgE hgS e1 e2 hap hml hnc hns ws' hh1 h1 xw xn hhl ws hN0 hB0 hM1 t2 t3 t4 t23 t24 t25 hd;clear h f N B;rintro m1 f h ⟨j,N,B,hm1,hjl,ws,hRB,hMi,t2,t3,t4,t23,t24,t25,t5,t36,t37,t38,hd⟩;have hwj:=aB (show j<maxLen by omega);refine vn ?_;simp only[wq.1,Nat.reduceLT,t37,t38];refine vn ?_;simp only[wq.1,↓reduceIte];refine vcB.mk (fun hjt=> ?_) (fun hjt=> ?_)
  ·have hjt:j<g.ins.length:=by have:=zqs hjt;omega
   obtain⟨s,hs⟩:∃s,s=g.ins[j]:=⟨_,rfl⟩;have hgs:(g.ins.map V.str).getD j .any= .str s:=by rw[dG hjt,hs]
   rw[List.drop_eq_getElem_cons hjt,<-hs,jk]at hMi;have x3:=ws.x3;have xw:=ws.xw;have xn:=ws.xn;have xm:=ws.xm i (by omega);have hng:(iP n (i+1)).getD (i*1) .any= .lm (7+n+2*i+1):=by rw[Nat.mul_one,Jy hlt,if_pos (by omega)]
   have htr:∀x q,AL (N.getD i []) q=some x->(pI (N.getD i []).length).getD x .any= .bool true:=fun x q hx=>by rw[zqg,List.getElem?_replicate,if_pos (AO hx).1];rfl
   have hnl:=jo (n:=n) (i:=i+1);obtain⟨Li,hLi⟩:∃Li,Li=N.getD i []:=⟨_,rfl⟩;rw[<-hLi]at xm htr;unfold plO at x3;cases hp:uH (aN c) s with
   |none =>
    rw[hp]at hMi;dsimp only at hMi;have hat:at? (aN c) s=none:=by rw[yH];exact hp
    have hz:gY (.int .i64) (.int .i64 0) (bZ Li)=some (AL Li 0):=kG 0 Li;cases hz1:AL Li 0 with
    |none=>rw[hz1]at hz;simp only[wq.1];refine vm ?_;simp only[wq.1,seval,t3,t4,t5,t36,t38,hgs,x3,xw,xn,xm,hng,nU,dw,hat,hz,hwj];refine⟨⟨by omega,by omega⟩,?_⟩;refine .inl ⟨m1-1,by omega,j+1,N,B,by omega,by omega,ws,hRB,hMi,by simp only[wq.1,seval,t2],by simp only[wq.1,seval,t3],by simp only[wq.1,seval,t4],by simp only[wq.1,seval,t23],by simp only[wq.1,seval,t24],by simp only[wq.1,seval,t25],by simp only[wq.1,seval,t5],by simp only[wq.1,seval,t36],by simp only[wq.1,seval,t37],by simp only[wq.1,↓reduceIte],by simp only[wq.1,hd]⟩
    |some x=>rw[hz1]at hz;have htx:=htr x 0 hz1;simp only[wq.1];refine vm ?_;simp only[wq.1,seval,t3,t4,t5,t36,t38,hgs,x3,xw,xn,xm,hng,nU,dw,hat,hz,htx,hwj];refine⟨⟨by omega,by omega⟩,?_⟩;refine .inl ⟨m1-1,by omega,j+1,N,B,by omega,by omega,ws,hRB,hMi,by simp only[wq.1,seval,t2],by simp only[wq.1,seval,t3],by simp only[wq.1,seval,t4],by simp only[wq.1,seval,t23],by simp only[wq.1,seval,t24],by simp only[wq.1,seval,t25],by simp only[wq.1,seval,t5],by simp only[wq.1,seval,t36],by simp only[wq.1,seval,t37],by simp only[wq.1,↓reduceIte],by simp only[wq.1,hd]⟩
   |some k =>
    rw[hp]at hMi;dsimp only at hMi;have hkl:k<n:=by have:=uT hp;rw[zra]at this;omega
    have hat:at? (aN c) s=some k:=by rw[yH];exact hp
    have hgr:(bZ (List.range c.gates.length)).getD k .any=nv k:=by have:=uT hp;rw[zra]at this;rw[SN (by simpa using this),zqg,List.getElem?_range this];rfl
    have hz:gY (.int .i64) (.int .i64 (k:Int)) (bZ Li)=some (AL Li k):=kG k Li;cases hz1:AL Li k with
    |some x=>rw[hz1]at hz;have htx:=htr x k hz1;simp only[wq.1];refine vm ?_;simp only[wq.1,seval,t3,t4,t5,t36,t38,hgs,x3,xw,xn,xm,hng,nU,dw,hat,hgr,hz,htx,hwj];have hcon:Li.contains k=true:=List.contains_iff_mem.2 ((AO hz1).2▸zqu (AO hz1).1);rw[<-hLi,if_pos hcon]at hMi;refine⟨⟨by omega,by omega⟩,⟨by omega,by omega⟩,by omega,?_⟩;refine .inl ⟨m1-1,by omega,j+1,N,B,by omega,by omega,ws,hRB,hMi,by simp only[wq.1,seval,t2],by simp only[wq.1,seval,t3],by simp only[wq.1,seval,t4],by simp only[wq.1,seval,t23],by simp only[wq.1,seval,t24],by simp only[wq.1,seval,t25],by simp only[wq.1,seval,t5],by simp only[wq.1,seval,t36],by simp only[wq.1,seval,t37],by simp only[wq.1,↓reduceIte],by simp only[wq.1,hd]⟩
    |none =>
     rw[hz1]at hz;have hcon:Li.contains k=false:=sK.1 hz1;have hmp:=Jw hcon;obtain⟨X1,hX1⟩:∃X1,X1=bZ (Li++[k]):=⟨_,rfl⟩;obtain⟨X2,hX2⟩:∃X2,X2=pI (Li++[k]).length:=⟨_,rfl⟩;rw[<-hX1,<-hX2]at hmp;rw[<-hLi,if_neg (by rw[hcon];decide)]at hMi;simp only[wq.1];refine vn ?_;simp only[wq.1,seval,t3,t4,t5,t36,t38,hgs,x3,xw,xn,xm,hng,nU,dw,hat,hgr,hz,hmp];refine⟨⟨by omega,by omega⟩,⟨by omega,by omega⟩,by omega,⟨by omega,by omega⟩,by omega,?_⟩;have rr:=ws.r;have hBl:=ws.lB;have hhl:=ws.len;have ws2:=ws.add (g:=i) (k:=k) (by omega) (by omega) hkl;rw[<-hLi]at ws2;have hRB2:=hRB.add (by have:=ws.lN;omega) (by omega) (hLi▸hcon);have hRk:=(hRB k).2 (hLi▸hcon);obtain⟨Lk,hLk⟩:∃Lk,Lk=B.getD k []:=⟨_,rfl⟩;rw[<-hLk]at hMi hRB2 hRk;rw[<-hLi]at hRB2;rw[<-hLk,show Kt (Li++[k])= .map X1 X2 by rw[hX1,hX2]]at ws2;obtain⟨X3,hX3⟩:∃X3,X3=bZ (Lk++[i]):=⟨_,rfl⟩;rw[<-hX3]at ws2;obtain⟨h1,hh1⟩:∃h1,h1=h.set (7+n+2*i+1) (.map X1 X2):=⟨_,rfl⟩;have y0:h1[wr]? =some (.cells (mw n nr br)):=by rw[hh1,zqn (by omega)];exact xw
     have y1:h1[br]? =some (.cells (byC B)):=by rw[hh1,zqn (by omega)];exact ws.xb
     have y2:h1[7+k]? =some (.cells (bZ Lk)):=by rw[hh1,zqn (by omega),ws.xr k hkl,hLk]
     have hbg:(byC B).getD (k*1) .any= .ls (7+k) 1 0 Lk.length Lk.length:=by rw[Nat.mul_one,PZ (by omega),hLk]
     have hbs:=P5 (B:=B) (k:=k) (l:=Lk++[i]) (by omega);have hbl:=jP (B:=B);have y3:∀x:O,((h1.map (O.drop fun x=>x==7+k)).set (7+k) x)[br]? =some (.cells (V.drops (fun x=>x==7+k) (byC B))):=fun x=>by rw[zqn (by omega),zqo,y1];rfl
     have y4:∀x:O,((h1.map (O.drop fun x=>x==7+k)).set (7+k) x)[wr]? =some (.cells (mw n nr br)):=fun x=>by
      rw[zqn (by omega),zqo,y0];show some (O.cells (V.drops _ _))=_;rw[kJ];intro v hv;simp only[zrj,zrp,or_false]at hv;rcases hv with rfl|rfl
      ·rw[V.drop,if_neg (by simp;omega)]
      ·rw[V.drop,if_neg (by simp;omega)]
     have q1:(1==7+k)=false:=by rw[beq_eq_false_iff_ne];omega
     have q3:(3==7+k)=false:=by rw[beq_eq_false_iff_ne];omega
     have qw:(wr==7+k)=false:=by rw[beq_eq_false_iff_ne];omega
     have qn:(nr==7+k)=false:=by rw[beq_eq_false_iff_ne];omega
     have qb:(br==7+k)=false:=by rw[beq_eq_false_iff_ne];omega
     have hdl:=qI (p:=fun x=>x==7+k) (byC B);have hd3:V.drops (fun x=>x==7+k) X3=X3:=by rw[hX3,aZ]
     have hlx:(Lk++[i]).length=Lk.length+1:=by simp
     rw[<-hh1]at ws2;rw[hlx,<-JA (by omega)]at hbs;obtain⟨BY,hBY⟩:∃BY,BY=byC (B.set k (Lk++[i])):=⟨_,rfl⟩;rw[<-hBY]at hbs ws2;have ws3:WS c (((h1.map (O.drop fun x=>x==7+k)).set (7+k) (.cells X3)).set br (.cells BY)) nr br wr n (i+1) (N.set i (Li++[k])) (B.set k (Lk++[i])):=by
      refine ws2.dropped (p:=fun x=>x==7+k) (by simp) ?_ (fun j hj=> ?_) (fun j hj=>by rw[beq_eq_false_iff_ne];omega)
      ·have hbrl:br<h1.length:=(zqe y1).1;rw[zqt (by simpa using hbrl),zqt (by simpa using hbrl)]
      ·rw[zqn (Ne.symm hj),zqn (Ne.symm hj)];by_cases hjk:7+k=j
       ·subst hjk;have hkl2:=(zqe y2).1;refine .inr ?_;rw[zqt (by simpa using hkl2),zqt hkl2]
       ·refine .inl ?_;rw[zqn hjk,zqn hjk,zqo]
     have hnx:bZ Lk++[V.int .i64 (i:Int)]=X3:=by rw[hX3,bZ,bZ,zql];rfl
     refine gV mixed JB (fun f' h'=>f'.t 2= .lp 1 0/\f'.t 3= .lm 3/\f'.t 4= .lp wr 0/\f'.t 23=jD c.gates/\f'.t 24=vi n/\f'.t 25=vi i/\f'.t 5=vi i/\f'.t 36=aW g.ins/\f'.t 37=vi g.ins.length/\f'.t 38=vi j/\f'.d=[]/\h'=((h1.map (O.drop fun x=>x==7+k)).set (7+k) (.cells X3)).set br (.cells BY)) (by rw[TEP];decide +kernel) (by decide +kernel) ?_ ?_
     ·rw[<-hh1];simp only[wq.1,seval,JB,t2,t3,t4,t23,t24,t25,t5,t36,t37,t38,hd,y0,y1,y2,y3,y4,hbg,hbs,hnx,q1,q3,qw,qb,hdl,hd3];have hby:=jP (B:=B);have hbl2:k*1+1<=(byC B).length:=by omega
      have hrg:[0]=List.range 1:=rfl
      and_intros<;>first|omega|exact hrg|rfl
     ·rintro f' h' ⟨t2,t3,t4,t23,t24,t25,t5,t36,t37,t38,hd,rfl⟩;simp only[wq.1];refine vm ?_;simp only[wq.1,seval,t38,hwj];refine .inl ⟨m1-1,by omega,j+1,_,_,by omega,by omega,ws3,hRB2,hMi,by simp only[wq.1,seval,t2],by simp only[wq.1,seval,t3],by simp only[wq.1,seval,t4],by simp only[wq.1,seval,t23],by simp only[wq.1,seval,t24],by simp only[wq.1,seval,t25],by simp only[wq.1,seval,t5],by simp only[wq.1,seval,t36],by simp only[wq.1,seval,t37],by simp only[wq.1,↓reduceIte],by simp only[wq.1,hd]⟩
  ·have hj:j=g.ins.length:=by have:=of_decide_eq_false hjt;omega
   subst hj;rw[List.drop_length,jk]at hMi;refine vm ?_;simp only[wq.1,seval,t25,hw];rw[hMi]at hWi hMo;refine .inl ⟨m-1,by omega,i+1,N,B,by omega,by omega,ws,hMo,fun k=>(hRB k).1,hWi,by simp only[wq.1,seval,t2],by simp only[wq.1,seval,t3],by simp only[wq.1,seval,t4],by simp only[wq.1,seval,t23],by simp only[wq.1,seval,t24],by simp only[wq.1,↓reduceIte],by simp only[wq.1,hd]⟩
 ·have hi:i=n:=by have:=of_decide_eq_false hlt;omega
  subst hi;simp only[wq.1];rw[show(gins c).drop i=[]from List.drop_eq_nil_of_le (by simp;omega),jO]at hWi;obtain⟨BV,hBV⟩:∃BV,BV=byV B:=⟨_,rfl⟩;obtain⟨r1,r2,r3,r4,r5,r6,r7,r8,r9⟩:=ws.r;have lB:=ws.lB;obtain⟨p,hp⟩:∃p:Nat->Bool,p=fun j=>j==br||(decide (7<=j)&&decide (j<7+i)):=⟨_,rfl⟩;have p1:∀j,j<7->j≠br->p j=false:=fun j h1 h2=>by rw[hp];simp;omega
  have p2:∀j,7+i<=j->p j=false:=fun j h1=>by rw[hp];simp;omega
  have p3:p br=true:=by rw[hp];simp
  have p4:∀j,j<i->p (7+j)=true:=fun j h1=>by rw[hp];simp;omega
  obtain⟨h',hh'⟩:∃h',h'=(rJ p 0 h).set wr (.cells [.ls nr 1 0 i i,BV]):=⟨_,rfl⟩;have hwl:wr<(rJ p 0 h).length:=by
   have:(rJ p 0 h)[wr]? ≠none:=by rw[jc,ws.xw];simp
   exact Nat.lt_of_not_le fun hle=>this (zsj hle)
  have hw':h'[wr]? =some (.cells [.ls nr 1 0 i i,BV]):=by rw[hh',zqt hwl]
  have ho':∀j,j≠wr->p j=false->h'[j]? =(h[j]?).map (O.drop p):=fun j h1 h2=>by rw[hh',zqn (Ne.symm h1),jc];simp only[Nat.zero_add,h2,zrm,if_false]
  show awp _ _ _ _ _ _ _;refine ul p h' (fun j hj=> ?_) (fun j o hj ho=> ?_) (fun j hj=>by rw[show(f.put (some 26) (V.bool (decide ((i:Int)<i)))).d=f.d from rfl,hd]at hj;cases hj) ?_
  ·by_cases hjw:j=wr
   ·subst hjw;refine .inr ⟨_,_,ws.xw,hw',.inl ?_,.inr ⟨?_,?_⟩,trivial⟩
    ·rw[V.drop,p1 nr r2 r7];rfl
    ·rw[V.drop];simp[p3]
    ·rw[hBV,<-lB];refine az.rows ?_ (fun k hk=> ?_)
     ·rw[iJ,ws.xb,zrw];simp only[Nat.zero_add,p3,if_true];show some (O.cells (V.drops _ _))=_;rw[kJ];intro v hv;obtain⟨k,hk,rfl⟩:=zrh.1 hv;rw[V.drop,p4 k (by have:=List.mem_range.1 hk;omega)];rfl
     ·rw[iJ,ws.xr k (by omega),zrw];simp only[Nat.zero_add,p4 k (by omega),if_true];show some (O.cells (V.drops _ _))=_;rw[aZ]
   ·exact .inl (ho' j hjw hj)
  ·have hjw:j≠wr:=fun e=>by subst e;rw[p1 j r6 (Ne.symm r9)]at hj;cases hj
   rw[hh',zqn (Ne.symm hjw),jc]at ho;simp only[Nat.zero_add,hj,if_true]at ho;cases hx:h[j]? with
   |none=>rw[hx]at ho;cases ho
   |some o1=>rw[hx]at ho;cases ho;rfl
  ·have x1:h'[1]? =some (.cells [.nils,.nils]):=by rw[ho' 1 (by omega) (p1 1 (by omega) (by omega)),ws.x1];rfl
   have xn:h'[nr]? =some (.cells (iP i i)):=by rw[ho' nr r8 (p1 nr r2 r7),ws.xn];show some (O.cells (V.drops p _))=_;rw[uU p2]
   have xm:∀j,j<i->h'[7+i+2*j+1]? =some (Kt (N.getD j [])):=fun j hj=>by rw[ho' _ (by omega) (p2 _ (by omega)),ws.xm j hj];show some (O.map (V.drops p _) (V.drops p _))=_;rw[kF,aZ]
   obtain⟨f',hf'⟩:∃f':Fr,f'={f.put (some 26) (V.bool (decide ((i:Int)<i)))with t:=fun j=>((f.put (some 26) (V.bool (decide ((i:Int)<i)))).t j).drop p,k:=fun j=>(f.put (some 26) (V.bool (decide ((i:Int)<i)))).k j||p j}:=⟨_,rfl⟩;have u2:f'.t 2= .lp 1 0:=by rw[hf'];show(f.t 2).drop p=_;rw[t2,V.drop,p1 1 (by omega) (by omega)];rfl
   have u4:f'.t 4= .lp wr 0:=by rw[hf'];show(f.t 4).drop p=_;rw[t4,V.drop,p1 wr r6 (Ne.symm r9)];rfl
   have ud:f'.d=[]:=by rw[hf'];exact hd
   have hl1:1<h'.length:=(zqe x1).1;rw[<-hf'];have hl1':∀x:O,(h'.set 1 x)[1]? =some x:=fun x=>zqt hl1;have xn':∀x:O,(h'.set 1 x)[nr]? =some (.cells (iP i i)):=fun x=>by rw[zqn (by omega)];exact xn
   have xm':∀(x:O) j,j<i->(h'.set 1 x)[7+i+2*j+1]? =some (Kt (N.getD j [])):=fun x j hj=>by rw[zqn (by omega)];exact xm j hj
   have hlN:=ws.lN;refine vm ?_;simp only[wq.1,seval,u2,u4,ud,hw',x1,hl1'];refine⟨by rw[hBV];rfl,?_⟩;refine⟨nr,N,B,hW.symm.trans hWi,by omega,by omega,r2,r1,?_,?_,?_⟩
   ·rw[hBV,lnn]
   ·rw[lnn];exact xn' _
   ·rw[lnn];exact xm' _
structure Wt(n:Nat)(N B:List (List Nat)):Prop where
 lN:N.length=n
 lB:B.length=n
 iff:∀j k,k∈N.getD j []↔j∈B.getD k []
 nN:∀j,(N.getD j []).Nodup
 nB:∀k,(B.getD k []).Nodup
 lt:∀j k,k∈N.getD j []->j<n/\k<n
theorem xf{l:List Nat}{x:Nat}(h:l.Nodup)(hx:x∉l):(l++[x]).Nodup :=
 List.nodup_append.2 ⟨h,by simp,fun a ha b hb hab=>by rw[zrc.1 hb]at hab;exact hx (hab▸ha)⟩
theorem Wt.add{n:Nat}{N B:List (List Nat)}(w:Wt n N B){i k:Nat}(hi:i<n)(hk:k<n)(hc:k∉N.getD i []):Wt n (N.set i (N.getD i []++[k])) (B.set k (B.getD k []++[i])):=by
 have lN:=w.lN;have lB:=w.lB;have hb:i∉B.getD k []:=fun h=>hc ((w.iff i k).2 h);have gN:∀j,(N.set i (N.getD i []++[k])).getD j []=if i=j then N.getD i []++[k]else N.getD j []:=fun j=>lh (by omega)
 have gB:∀j,(B.set k (B.getD k []++[i])).getD j []=if k=j then B.getD k []++[i]else B.getD j []:=fun j=>lh (by omega)
 refine⟨by rw[zrn];exact lN,by rw[zrn];exact lB,fun j q=> ?_,fun j=> ?_,fun q=> ?_,fun j q hq=> ?_⟩
 ·rw[gN,gB];have h0:=w.iff j q;by_cases h1:i=j<;>by_cases h2:k=q
  ·subst h1;subst h2;simp
  ·subst h1;rw[if_pos rfl,if_neg h2,zrf,zrc,<-h0];exact⟨fun h=>h.elim id (fun e=>absurd e.symm h2),.inl⟩
  ·subst h2;rw[if_neg h1,if_pos rfl,zrf,zrc,h0];exact⟨.inl,fun h=>h.elim id (fun e=>absurd e.symm h1)⟩
  ·rw[if_neg h1,if_neg h2];exact h0
 ·rw[gN];split
  ·exact xf (w.nN i) hc
  ·exact w.nN j
 ·rw[gB];split
  ·exact xf (w.nB k) hb
  ·exact w.nB q
 ·rw[gN]at hq;split at hq
  ·rename_i h1;subst h1;rcases zrf.1 hq with h|h
   ·exact w.lt i q h
   ·rw[zrc.1 h];exact⟨hi,hk⟩
  ·exact w.lt j q hq
theorem pJ{names:List S}{i n:Nat}(hi:i<n)(hn:names.length=n):∀(l:List S)(N B:List (List Nat)),Wt n N B->Wt n (jk names i l (N,B)).1 (jk names i l (N,B)).2
 |[],N,B,w=>w
 |s::l,N,B,w=>by
  rw[jk];cases h:uH names s with
  |none=>exact pJ hi hn l N B w
  |some k =>
   dsimp only;split
   ·exact pJ hi hn l N B w
   ·rename_i hc;exact pJ hi hn l _ _ (w.add hi (by have:=uT h;omega) (by simpa using hc))
theorem xg{names:List S}{n:Nat}(hn:names.length=n):∀(r:List (List S))(i:Nat)(N B:List (List Nat)),i+r.length<=n->Wt n N B->Wt n (jO names i r (N,B)).1 (jO names i r (N,B)).2
 |[],i,N,B,_,w=>w
 |l::r,i,N,B,hi,w=>by rw[jO];have:=pJ (i:=i) (by simp at hi;omega) hn l N B w;exact xg hn r (i+1) _ _ (by simp at hi;omega) this
theorem Np{names:List S}{ins:List (List S)}(h:names.length=ins.length):Wt ins.length (zW names ins).1 (zW names ins).2:=by
 have hr:∀j,(List.replicate ins.length ([]:List Nat)).getD j []=[]:=fun j=>by rw[zqg,List.getElem?_replicate];split<;>rfl
 refine xg h ins 0 _ _ (by omega) ⟨by simp,by simp,fun j k=> ?_,fun j=> ?_,fun j=> ?_,fun j k hk=> ?_⟩
 ·rw[hr,hr];simp
 ·rw[hr];exact List.nodup_nil
 ·rw[hr];exact List.nodup_nil
 ·rw[hr]at hk;cases hk
theorem uX(N:List (List Nat)):∀(l Q:List Nat),(uI N l Q).Perm (Q++l.filter fun i=>(N.getD i []).isEmpty)
 |[],Q=>by rw[uI];simp
 |i::l,Q=>by
  rw[uI];by_cases h:(N.getD i []).isEmpty=true
  ·rw[if_pos h,List.filter_cons_of_pos (by exact h)];refine(uX N l _).trans ?_;refine((pg Q i).append_right _).trans ?_;rw[zqc];rfl
  ·rw[if_neg h,List.filter_cons_of_neg (by exact h)];exact uX N l Q
structure Cv(n:Nat)(N0:List (List Nat))(D:List Nat)(N:List (List Nat))(Q:List Nat):Prop where
 lN:N.length=n
 nn:∀j,N.getD j []=(N0.getD j []).filter fun k=> !D.contains k
 nd:(Q++D).Nodup
 mem:∀j,j∈Q\/j∈D↔j<n/\N.getD j []=[]
theorem Cv.born{n:Nat}{N B:List (List Nat)}(w:Wt n N B):Cv n N [] N (uI N (List.range n) []):=by
 have hp:=uX N (List.range n) [];rw[List.nil_append]at hp;refine⟨w.lN,fun j=> ?_,?_,fun j=> ?_⟩
 ·rw[List.filter_eq_self.2];intro a _;simp
 ·rw[zqp];exact hp.nodup_iff.2 (List.nodup_range.sublist List.filter_sublist)
 ·rw[hp.mem_iff,List.mem_filter,List.mem_range,List.isEmpty_iff];simp
structure Fv(n:Nat)(N0:List (List Nat))(D:List Nat)(a:Nat)(r:List Nat)(N:List (List Nat))(Q:List Nat):Prop where
 lN:N.length=n
 nn:∀j,N.getD j []=(N0.getD j []).filter fun k=> !D.contains k&&(k != a||r.contains j)
 nd:(Q++(D++[a])).Nodup
 mem:∀j,j∈Q\/j∈D++[a]↔j<n/\N.getD j []=[]
theorem F6{Q:List Nat}(h:Q≠[]):Q.Perm ((lK Q).dropLast++[(lK Q).getLastD 0]):=by
 have hl:=IZ h;have hne:lK Q≠[]:=fun e=>by rw[e]at hl;exact h (List.eq_nil_of_length_eq_zero (by simpa using hl.symm))
 have e:(lK Q).getLastD 0=(lK Q).getLast hne:=by rw[List.getLastD_eq_getLast?,List.getLast?_eq_getLast hne];rfl
 rw[e,List.dropLast_concat_getLast hne];exact(Eb h).symm
theorem Cv.pop{n:Nat}{N0 B:List (List Nat)}(w:Wt n N0 B){D Q:List Nat}{N:List (List Nat)}(c:Cv n N0 D N Q)(h:Q≠[]) :
 Fv n N0 D ((lK Q).getLastD 0) (B.getD ((lK Q).getLastD 0) []) N (lK Q).dropLast:=by
 have hp:=F6 h;refine⟨c.lN,fun j=> ?_,?_,fun j=> ?_⟩
 ·rw[c.nn];refine List.filter_congr fun k hk=> ?_;by_cases hka:k=(lK Q).getLastD 0
  ·have:=(w.iff j k).1 hk;rw[hka]at this;have h1:(B.getD ((lK Q).getLastD 0) []).contains j=true:=List.contains_iff_mem.2 this;rw[h1,Bool.or_true,Bool.and_true]
  ·have:(k != (lK Q).getLastD 0)=true:=by simpa using hka
   rw[this,Bool.true_or,Bool.and_true]
 ·have:=(hp.append_right D).nodup_iff.1 c.nd;refine List.Perm.nodup_iff ?_ |>.1 this;rw[zqc];exact List.Perm.append_left _ List.perm_append_comm
 ·rw[<-c.mem j,hp.mem_iff];simp only[zrf,zrc];constructor
  ·rintro(h|h|h)
   ·exact .inl (.inl h)
   ·exact .inr h
   ·exact .inl (.inr h)
  ·rintro((h|h)|h)
   ·exact .inl h
   ·exact .inr (.inr h)
   ·exact .inr (.inl h)
theorem Fv.step{n:Nat}{N0 B:List (List Nat)}(w:Wt n N0 B){D Q r:List Nat}{a i:Nat}{N:List (List Nat)}(c:Fv n N0 D a (i::r) N Q)(hi:i∈B.getD a [])(hr:i∉r) :
 Fv n N0 D a r (N.set i ((N.getD i []).filter (· != a))) (if((N.getD i []).filter (· != a)).isEmpty=true then zU Q i else Q):=by
 have ha:a∈N0.getD i []:=(w.iff i a).2 hi;have hin:=(w.lt i a ha).1;have lN:=c.lN;have had:a∉D:=fun h=>by have:=(List.nodup_append.1 c.nd).2.1;exact(List.nodup_append.1 this).2.2 a h a (by simp) rfl
 have hai:a∈N.getD i []:=by rw[c.nn,List.mem_filter];refine⟨ha,?_⟩;simp[had]
 have hni:¬(i∈Q\/i∈D++[a]):=fun h=>by rw[((c.mem i).1 h).2]at hai;cases hai
 have g:∀j,(N.set i ((N.getD i []).filter (· != a))).getD j []=if i=j then(N.getD i []).filter (· != a)else N.getD j []:=fun j=>lh (by omega)
 refine⟨by rw[zrn];exact lN,fun j=> ?_,?_,fun j=> ?_⟩
 ·rw[g];split
  ·rename_i hij;subst hij;rw[c.nn,List.filter_filter];refine List.filter_congr fun k _=> ?_;have h1:(i::r).contains i=true:=by simp
   have h2:r.contains i=false:=by simpa using hr
   rw[h1,h2];cases(k != a)<;>simp
  ·rename_i hij;rw[c.nn];refine List.filter_congr fun k _=> ?_;have:(i::r).contains j=r.contains j:=by
    rw[List.contains_cons,beq_eq_false_iff_ne.2 (fun e=>hij e.symm),Bool.false_or]
   rw[this]
 ·split
  ·refine((pg Q i).append_right _).nodup_iff.2 ?_;rw[zqc];refine List.nodup_append.2 ⟨(List.nodup_append.1 c.nd).1,List.nodup_cons.2 ⟨fun h=>hni (.inr h),(List.nodup_append.1 c.nd).2.1⟩,fun x hx y hy hxy=> ?_⟩;subst hxy;rcases zrj.1 hy with h|h
   ·exact hni (.inl (h▸hx))
   ·exact(List.nodup_append.1 c.nd).2.2 x hx x h rfl
  ·exact c.nd
 ·rw[g];by_cases he:((N.getD i []).filter (· != a)).isEmpty=true
  ·rw[if_pos he,(pg Q i).mem_iff,zrf,zrc];by_cases hij:i=j
   ·subst hij;rw[if_pos rfl];exact⟨fun _=>⟨hin,List.isEmpty_iff.1 he⟩,fun _=> .inl (.inr rfl)⟩
   ·rw[if_neg hij,<-c.mem j];exact⟨fun h=>h.elim (fun h=>h.elim .inl fun e=>absurd e.symm hij) .inr,fun h=>h.elim (fun h=> .inl (.inl h)) .inr⟩
  ·rw[if_neg he];by_cases hij:i=j
   ·subst hij;rw[if_pos rfl];exact⟨fun h=>absurd h hni,fun h=>absurd (List.isEmpty_iff.2 h.2) he⟩
   ·rw[if_neg hij,<-c.mem j]
theorem Fv.done{n:Nat}{N0:List (List Nat)}{D Q:List Nat}{a:Nat}{N:List (List Nat)}(c:Fv n N0 D a [] N Q):Cv n N0 (D++[a]) N Q:=by
 refine⟨c.lN,fun j=> ?_,c.nd,c.mem⟩;rw[c.nn];refine List.filter_congr fun k _=> ?_;by_cases h:k=a
 ·subst h;simp
 ·have:(k != a)=true:=by simpa using h
  rw[this];simp[h]
theorem pM:∀ {n:Nat} {l:List Nat},l.Nodup->(∀x∈l,x<n)->l.length<=n
 |0,l,_,hl=>by
  cases l with
  |nil=>exact zrb _
  |cons x l=>exact absurd (hl x (by simp)) (Nat.not_lt_zero _)
 |n+1,l,h,hl=>by
  by_cases hn:n∈l
  ·have:=pM (n:=n) (h.erase n) (fun x hx=>by
    have h1:=hl x (List.mem_of_mem_erase hx);have h2:x≠n:=fun e=>by subst e;exact(List.Nodup.mem_erase_iff h).1 hx |>.1 rfl
    omega)
   rw[List.length_erase_of_mem hn]at this;omega
  ·have:=pM (n:=n) h (fun x hx=>by
    have h1:=hl x hx;have h2:x≠n:=fun e=>hn (e▸hx);omega)
   omega
theorem Cv.len{n:Nat}{N0:List (List Nat)}{D Q:List Nat}{N:List (List Nat)}(c:Cv n N0 D N Q):Q.length+D.length<=n:=by have:=pM c.nd (fun x hx=>((c.mem x).1 (zrf.1 hx)).1);simpa using this
theorem Fv.len{n:Nat}{N0:List (List Nat)}{D Q r:List Nat}{a:Nat}{N:List (List Nat)}(c:Fv n N0 D a r N Q):Q.length+D.length+1<=n:=by have:=pM c.nd (fun x hx=>((c.mem x).1 (zrf.1 hx)).1);simp at this;omega
def yI(b n:Nat):List V:=(List.range n).map fun j=> .lm (b+(7+n+2*j+1))
theorem AX{b n:Nat}:(yI b n).length=n:=by simp[yI]
theorem AY{b n j:Nat}(h:j<n)(d:V):(yI b n).getD (j*1) d= .lm (b+(7+n+2*j+1)):=by unfold yI;rw[Nat.mul_one,zqg,zqo,List.getElem?_range h];rfl
theorem Nq(b n:Nat):V.shs b (iP n n)=yI b n:=by
 have:∀l:List Nat,(∀j∈l,j<n)->V.shs b (l.map fun j=>if j<n then V.lm (7+n+2*j+1)else .nilm)=l.map fun j=> .lm (b+(7+n+2*j+1)):=by
  intro l
  induction l with
  |nil=>intro _;rfl
  |cons a l ih=>intro h;rw[zrd,V.shs,if_pos (h a (by simp)),ih fun j hj=>h j (by simp[hj])];rfl
 exact this _ fun j hj=>List.mem_range.1 hj
theorem Dl{p:Nat->Bool}{b n:Nat}(hp:∀j,j<n->p (b+(7+n+2*j+1))=false):V.drops p (yI b n)=yI b n:=kJ fun v hv=>by obtain⟨j,hj,rfl⟩:=zrh.1 hv;rw[V.drop,hp j (List.mem_range.1 hj)];rfl
def Nr(B:List (List Nat)):List V:=B.map fun l=> .is false 1 (bZ l)
structure CS(Hp:List Nat->H->Prop)(b n K nr:Nat)(B:List (List Nat))(out:List Nat)(M:List (List Nat))(Q:List Nat)(h:H):Prop where
 hp:Hp out (h.take b)
 xn:h[b+nr]? =some (.cells (yI b n))
 xm:∀j,j<n->h[b+(7+n+2*j+1)]? =some (Kt (M.getD j []))
 xw:h[K]? =some (.cells [.ls (b+nr) 1 0 n n,.is false 1 (Nr B)])
 pi:HPi (K+1) (K+2) Q h
 r:nr<7/\4<=nr/\b+nr<K/\∀j,j<n->b+(7+n+2*j+1)<K
 lM:M.length=n
theorem CS.next{Hp:List Nat->H->Prop}{b n K nr:Nat}{B:List (List Nat)}{out out':List Nat}{M:List (List Nat)}{Q Q':List Nat}{h h':H}(s:CS Hp b n K nr B out M Q h)(hp:Hp out' (h'.take b)){p:Nat->Bool}
 (hd:∀j,b<=j->j<=K->h'[j]? =(h[j]?).map (O.drop p)\/h'[j]? =h[j]?) (hpp:∀j,b<=j->j<=K->p j=false) (pi:HPi (K+1) (K+2) Q' h'):CS Hp b n K nr B out' M Q' h':=by
 obtain⟨r1,r2,r3,r4⟩:=s.r;have key:∀(j:Nat)(o:O),b<=j->j<=K->h[j]? =some o->o.drop p=o->h'[j]? =some o:=fun j o h1 h2 h3 h4=>by
  rcases hd j h1 h2 with h5|h5
  ·rw[h5,h3,zrw,h4]
  ·rw[h5,h3]
 refine⟨hp,key _ _ (by omega) (by omega) s.xn ?_,fun j hj=>key _ _ (by omega) (by have:=r4 j hj;omega) (s.xm j hj) ?_,key _ _ (by omega) (by omega) s.xw ?_,pi,s.r,s.lM⟩
 ·show O.cells (V.drops p _)=_;rw[Dl fun j hj=>hpp _ (by omega) (by have:=r4 j hj;omega)]
 ·show O.map (V.drops p _) (V.drops p _)=_;rw[kF,aZ]
 ·show O.cells [V.drop p _,V.drop p _]=_;rw[V.drop,hpp _ (by omega) (by omega)];rfl
theorem CS.push{Hp:List Nat->H->Prop}{b n K nr:Nat}{B:List (List Nat)}{out:List Nat}{M:List (List Nat)}{Q:List Nat}{h:H}(s:CS Hp b n K nr B out M Q h)
 (hdrop:∀out h0 (p:Nat->Bool),Hp out h0->(∀i,i<b->p i=false)->Hp out (h0.map (O.drop p))) (Q':List Nat):CS Hp b n K nr B out M Q' (oD (K+1) (K+2) h Q'):=by
 obtain⟨r1,r2,r3,r4⟩:=s.r;refine s.next (p:=fun x=>x==K+2) ?_ (fun j h1 h2=> .inl ?_) (fun j h1 h2=>by rw[beq_eq_false_iff_ne];omega) (s.pi.push Q')
 ·unfold oD;rw[List.take_set_of_le (by omega),List.take_set_of_le (by omega),<-List.map_take];exact hdrop _ _ _ s.hp fun i hi=>by rw[beq_eq_false_iff_ne];omega
 ·unfold oD;rw[zqn (by omega),zqn (by omega),zqo]
theorem CS.pop{Hp:List Nat->H->Prop}{b n K nr:Nat}{B:List (List Nat)}{out:List Nat}{M:List (List Nat)}{Q:List Nat}{h:H}(s:CS Hp b n K nr B out M Q h)(Q':List Nat):CS Hp b n K nr B out M Q' (Dj (K+1) (K+2) h Q'):=by
 obtain⟨r1,r2,r3,r4⟩:=s.r;refine s.next (p:=fun _=>false) ?_ (fun j h1 h2=> .inr ?_) (fun j h1 h2=>rfl) (s.pi.pop Q')
 ·unfold Dj;rw[List.take_set_of_le (by omega),List.take_set_of_le (by omega)];exact s.hp
 ·unfold Dj;rw[zqn (by omega),zqn (by omega)]
theorem CS.told{Hp:List Nat->H->Prop}{b n K nr:Nat}{B:List (List Nat)}{out out':List Nat}{M:List (List Nat)}{Q:List Nat}{h h':H}(s:CS Hp b n K nr B out M Q h)(hp:Hp out' (h'.take b)){p:Nat->Bool}
 (hd:∀j,b<=j->h'[j]? =(h[j]?).map (O.drop p)) (hpp:∀j,b<=j->p j=false):CS Hp b n K nr B out' M Q h':=by
 obtain⟨r1,r2,r3,r4⟩:=s.r;refine s.next hp (fun j h1 _=> .inl (hd j h1)) (fun j h1 _=>hpp j h1) ⟨?_,?_,s.pi.ne⟩
 ·rw[hd _ (by omega),s.pi.p];show some (O.cells [V.drop p _])=_;rw[V.drop,hpp _ (by omega)];rfl
 ·rw[hd _ (by omega),s.pi.q];show some (O.cells (V.drops p _))=_;rw[aZ]
theorem CS.del{Hp:List Nat->H->Prop}{b n K nr:Nat}{B:List (List Nat)}{out:List Nat}{M:List (List Nat)}{Q:List Nat}{h:H}(s:CS Hp b n K nr B out M Q h){i:Nat}(hi:i<n)(l:List Nat) :
 CS Hp b n K nr B out (M.set i l) Q (h.set (b+(7+n+2*i+1)) (Kt l)):=by
 obtain⟨r1,r2,r3,r4⟩:=s.r;have hk:=r4 i hi;have hlt:=(zqe (s.xm i hi)).1;have lM:=s.lM;refine⟨?_,?_,fun j hj=> ?_,?_,⟨?_,?_,s.pi.ne⟩,s.r,by rw[zrn];exact lM⟩
 ·rw[List.take_set_of_le (by omega)];exact s.hp
 ·rw[zqn (by omega)];exact s.xn
 ·rw[lh (by omega)];by_cases hij:i=j
  ·subst hij;rw[if_pos rfl,zqt hlt]
  ·rw[if_neg hij,zqn (by omega)];exact s.xm j hj
 ·rw[zqn (by omega)];exact s.xw
 ·rw[zqn (by omega)];exact s.pi.p
 ·rw[zqn (by omega)];exact s.pi.q
theorem qK{α:Type}[BEq α][LawfulBEq α]:∀(l:List α)(k:Nat)(h:k<l.length),l.Nodup->l.filter (· != l[k])=l.eraseIdx k
 |x::l,0,_,hn=>by have hx:=(List.nodup_cons.1 hn).1;rw[List.eraseIdx_cons_zero,List.getElem_cons_zero,List.filter_cons_of_neg (by simp)];exact List.filter_eq_self.2 fun y hy=>by simpa using fun e:y=x=>hx (e▸hy)
 |x::l,k+1,h,hn=>by
  have hx:=(List.nodup_cons.1 hn).1;have hk:k<l.length:=by simpa using h
  rw[List.eraseIdx_cons_succ,List.getElem_cons_succ,List.filter_cons_of_pos (by simpa using fun e:x=l[k]=>hx (e▸zqu hk)),qK l k hk (List.nodup_cons.1 hn).2]
theorem JC{l:List Nat}(hl:l.Nodup)(a:Nat):Qo (.int .i64) (nv a) (bZ l) (pI l.length)=some (bZ (l.filter (· != a)),pI (l.filter (· != a)).length):=by
 unfold Qo;rw[kG];cases h:AL l a with
 |none =>
  have h1:a∉l:=by have:=sK.1 h;simpa using this
  have:l.filter (· != a)=l:=List.filter_eq_self.2 fun x hx=>by simpa using fun e:x=a=>h1 (e▸hx)
  rw[this]
 |some k =>
  obtain⟨h1,h2⟩:=AO h;have e:l.filter (· != a)=l.eraseIdx k:=by rw[<-h2];exact qK l k h1 hl
  rw[e];show some ((bZ l).eraseIdx k,(pI l.length).eraseIdx k)=_;rw[List.eraseIdx_replicate,if_pos h1,List.length_eraseIdx,if_pos h1,bZ,<-dI]
theorem xh:∀m:Nat,V.dats (pI m)=true
 |0=>rfl
 |m+1=>by show(_&&V.dats (pI m))=true;rw[xh m];rfl
theorem JD{B:List (List Nat)}{f:Nat}{N:List (List Nat)}{Q:List Nat}(h:Q≠[]):yx B (f+1) N Q=(lK Q).getLastD 0::yx B f (wB ((lK Q).getLastD 0) (B.getD ((lK Q).getLastD 0) []) (N,(lK Q).dropLast)).1 (wB ((lK Q).getLastD 0) (B.getD ((lK Q).getLastD 0) []) (N,(lK Q).dropLast)).2:=by rw[yx,if_neg (by rw[List.isEmpty_iff];exact h)]
theorem Ns{B:List (List Nat)}{N:List (List Nat)}:∀ {f:Nat},yx B f N []=[]
 |0=>rfl
 |f+1=>by rw[yx];rfl
theorem yJ[MO](c:Ci)(hn:(aN c).Nodup)(hl:c.gates.length<=900000)(hin:∀g∈c.gates,g.ins.length<=1000000){b y:Nat}(Hp:List Nat->H->Prop)(kp:Nat->Prop)(hky:kp y)(hkb:∀i,kp i->i<b)
 (hdrop:∀out h0 (p:Nat->Bool),Hp out h0->(∀i,i<b->p i=false)->Hp out (h0.map (O.drop p)))
 (step:∀out a h,Hp out (h.take b)->b<=h.length->out.length<c.gates.length->a<c.gates.length->a∉out->SY TE y [nv a] h fun j h'' p=>j=none/\(∀i,kp i\/b<=i->p i=false)/\Hp (out++[a]) (h''.take b)/\∀j,b<=j->h''[j]? =(h[j]?).map (O.drop p))
 (h:H) (h0:Hp [] (h.take b)) (hb:h.length=b) :
 ag TE 100 ([]++[.yd y]++[.ip c.v]) h fun ae h' p=>(∀i,kp i->p i=false)/\match ae with
  | .ret _=>Hp (zX (aN c) (gins c)) (h'.take b)/\b<=h'.length
  | .pan _=>False:=by
 have hM:=mLx;obtain⟨n,hnn⟩:∃n,n=c.gates.length:=⟨_,rfl⟩;refine ax Tryz.func100 rfl (by simp[nts]) (vm ?_);simp only[wq.1,↓reduceIte,Nat.reduceLT,Nat.reduceAdd,Tryz.results100];refine jZ (F5 c hn (by omega) hin) (by simp[V.dats,rq]) ?_;rintro ae h' p ⟨nr,N,B,hWV,hNl,hBl,r1,r2,rfl,xn,xm⟩;obtain⟨X,hX⟩:∃X,X=h++h'.map (O.sh h.length):=⟨_,rfl⟩;obtain⟨K,hK⟩:∃K,K=X.length:=⟨_,rfl⟩;obtain⟨BV,hBV⟩:∃BV,BV=Nr B:=⟨_,rfl⟩;rw[<-hnn]at xn xm hNl hBl ⊢;have e1:(V.agg [.ls nr 1 0 n n,byV B]).sh h.length= .agg [.ls (b+nr) 1 0 n n,.is false 1 BV]:=by rw[hBV,<-hb];rfl
 have hw0:∀(o:O) j,h'[j]? =some o->X[b+j]? =some (o.sh b):=fun o j ho=>by rw[hX,zsb (by omega),hb,Nat.add_sub_cancel_left,zqo,ho];rfl
 have xn0:=hw0 _ _ xn;have hKl:∀(j:Nat)(o:O),X[j]? =some o->j<K:=fun j o ho=>by rw[hK];exact(zqe ho).1
 have xn1:X[b+nr]? =some (.cells (yI b n)):=by rw[xn0];show some (O.cells (V.shs b _))=_;rw[Nq]
 have xm1:∀j,j<n->X[b+(7+n+2*j+1)]? =some (Kt (N.getD j [])):=fun j hj=>by rw[hw0 _ _ (xm j hj)];show some (O.map (V.shs b _) (V.shs b _))=_;rw[V.shs_dats b _ (kH _),V.shs_dats b _ (xh _)]
 have htk:X.take b=h:=by rw[hX,List.take_left' hb]
 have hbK:b<=K:=by rw[hK,hX,zqa];omega
 rw[<-hX];have g1:∀x:O,(X++[x])[K]? =some x:=fun x=>by rw[hK];simp
 have g2:∀x y:O,(X++[x]).set K y=X++[y]:=fun x y=>by rw[hK];simp
 have g3:∀x:O,(X++[x]).length=K+1:=fun x=>by rw[hK];simp
 simp only[wq.1,↓reduceIte,Nat.reduceEqDiff,Nat.reduceLT,Nat.reduceAdd,Nat.reduceMul,AEnd.sh,e1,<-hK,g1,g2];refine⟨⟨rfl,by decide⟩,?_⟩;obtain⟨h1,hh1⟩:∃h1:H,h1=X++[.cells [.ls (b+nr) 1 0 n n,.is false 1 BV],.cells [.ls (K+2) 1 0 0 0],.cells []]:=⟨_,rfl⟩;refine gz ?_;refine jd (h':=h1) ?_ ?_
 ·have:=HLe.set (h:=X++[O.cells [V.ls (b+nr) 1 0 n n,V.is false 1 BV]]++[O.cells [V.is true 1 []]]++[.cells []]) (i:=K+1) (o:= .cells [.is true 1 []]) (o':= .cells [.ls (K+2) 1 0 0 0]) (by rw[hK];simp) (OLe.cells (zrb _) (fP.cons (Aw (x:=true)) fP.nil));have e:(X++[O.cells [V.ls (b+nr) 1 0 n n,V.is false 1 BV]]++[O.cells [V.is true 1 []]]++[O.cells []]).set (K+1) (O.cells [V.ls (K+2) 1 0 0 0])=h1:=by rw[hh1,hK];simp
  rw[e]at this;exact this
 have old:∀j o,X[j]? =some o->h1[j]? =some o:=fun j o ho=>by rw[hh1,zqj (zqe ho).1];exact ho
 have w:=Np (names:=aN c) (ins:=gins c) (by simp);rw[hWV,show(gins c).length=n by rw[hnn];simp]at w;have cs:CS Hp b n K nr B [] N [] h1:=by
  refine⟨?_,old _ _ xn1,fun j hj=>old _ _ (xm1 j hj),?_,⟨?_,?_,by omega⟩,⟨r1,r2,hKl _ _ xn1,fun j hj=>hKl _ _ (xm1 j hj)⟩,hNl⟩
  ·rw[hh1,List.take_append_of_le_length (by omega),htk,zqh (by omega)]at *;exact h0
  ·rw[hh1,hK,hBV];simp
  ·rw[hh1,hK];simp
  ·rw[hh1,hK];simp
 have hS:zX (aN c) (gins c)=yx B n N (uI N ((List.range n).drop 0) []):=by unfold zX;rw[hWV,show(gins c).length=n by rw[hnn];simp];rfl
 obtain⟨S,hSS⟩:∃S,S=zX (aN c) (gins c):=⟨_,rfl⟩;rw[<-hSS]at hS ⊢;have hb1:b<=h1.length:=by rw[hh1];simp;omega
 have hbo := Cv.born w;obtain ⟨Q1,hQ1⟩ : ∃ Q1,Q1 = uI N (List.range n) [] := ⟨_,rfl⟩;rw [List.drop_zero,<- hQ1] at hS;rw [<- hQ1] at hbo;refine aK (fun m f h => ∃ (i : Nat) (Q : List Nat),m + i = n /\ i <= n /\ Q.length <= i /\ CS Hp b n K nr B [] N Q h /\ b <= h.length /\ Q1 = uI N ((List.range n).drop i) Q /\ f.t 0 = .yd y /\ f.t 1 = .ip c.v /\ f.t 3 = .lp K 0 /\ f.t 4 = .lp (K + 1) 0 /\ f.t 15 = vi n /\ f.t 16 = vi i /\ f.d = [] /\ (∀ j,kp j -> f.k j = false)) n
  ⟨0,[],by omega,by omega,zrb _,cs,hb1,hQ1,by simp only[wq.1,seval],by simp only[wq.1,seval],by simp only[wq.1,seval],by simp only[wq.1,seval],by simp only[wq.1,seval];rw[hnn],by simp only[wq.1,↓reduceIte];rfl,by simp only[wq.1],fun _ _=>rfl⟩ ?_
 clear hb1 cs old hh1 h1 xn1 xm1 hw0 xn0 htk g1 g2 g3 e1 hKl;rintro m f h1 ⟨i,Q,hm,hil,hQl,cs,hb1,hQi,t0,t1,t3,t4,t15,t16,hd,hk⟩;have hw:=aB (show i<maxLen by omega);have xw:=cs.xw;have xn:=cs.xn;have lnn:c.gates.length=n:=hnn.symm;refine vn ?_;simp only[wq.1,Nat.reduceLT,t15,t16];refine vn ?_;simp only[wq.1,↓reduceIte];refine vcB.mk (fun hlt=> ?_) (fun hlt=> ?_)
 ·have hlt:i<n:=by have:=zqs hlt;omega
  have hdr:(List.range n).drop i=i::(List.range n).drop (i+1):=by rw[List.drop_eq_getElem_cons (by simpa using hlt),List.getElem_range]
  rw[hdr,uI]at hQi;have hng:=AY (b:=b) hlt .any;have hnl:=AX (b:=b) (n:=n);have xm:=cs.xm i hlt;simp only[wq.1];refine vn ?_;simp only[wq.1,seval,t3,t16,xw,xn,hng,xm];refine⟨⟨by omega,by omega⟩,by omega,?_⟩;refine vcB.mk (fun he=> ?_) (fun he=> ?_)
  ·have he:(N.getD i []).isEmpty=true:=by rw[beq_iff_eq]at he;rw[List.isEmpty_iff];exact List.eq_nil_of_length_eq_zero (by omega)
   rw[if_pos he]at hQi;simp only[wq.1,seval,t4];refine⟨by decide,by decide,?_⟩;refine uS cs.pi (by omega) i ?_;have y1:(y==K+2)=false:=by rw[beq_eq_false_iff_ne];have:=hkb y hky;omega
   have y2:(K==K+2)=false:=by rw[beq_eq_false_iff_ne];omega
   have y3:(K+1==K+2)=false:=by rw[beq_eq_false_iff_ne];omega
   simp only[wq.1,aX,hd];refine vm ?_;simp only[wq.1,seval,t16,hw];have hql:=Ec Q i;refine .inl ⟨m-1,by omega,i+1,zU Q i,by omega,by omega,by omega,cs.push hdrop _,by unfold oD;simp;exact hb1,hQi,by simp only[wq.1,seval,t0,y1],by simp only[wq.1,seval,t1],by simp only[wq.1,seval,t3,y2],by simp only[wq.1,seval,t4,y3],by simp only[wq.1,seval,t15],by simp only[wq.1,↓reduceIte],by simp only[wq.1,hd],fun j hj=> ?_⟩;have y4:(j==K+2)=false:=by rw[beq_eq_false_iff_ne];have:=hkb j hj;omega
   simp only[wq.1,hk j hj,y4]
  ·have he:¬(N.getD i []).isEmpty=true:=fun h=>by rw[List.isEmpty_iff]at h;rw[h]at he;cases he
   rw[if_neg he]at hQi;simp only[wq.1];refine vm ?_;simp only[wq.1,seval,t16,hw];exact .inl ⟨m-1,by omega,i+1,Q,by omega,by omega,by omega,cs,hb1,hQi,by simp only[wq.1,seval,t0],by simp only[wq.1,seval,t1],by simp only[wq.1,seval,t3],by simp only[wq.1,seval,t4],by simp only[wq.1,seval,t15],by simp only[wq.1,↓reduceIte],by simp only[wq.1,hd],fun j hj=>by simp only[wq.1,hk j hj]⟩
 ·have hi:i=n:=by have:=of_decide_eq_false hlt;omega
  subst hi;rw [List.drop_eq_nil_of_le (by simp),uI] at hQi;subst hQi;simp only [wq.1];refine aK (fun m f h => ∃ (out : List Nat) (M : List (List Nat)) (Q : List Nat),m = i - out.length /\ CS Hp b i K nr B out M Q h /\ b <= h.length /\ Cv i N out M Q /\ S = out ++ yx B (i - out.length) M Q /\ f.t 0 = .yd y /\ f.t 3 = .lp K 0 /\ f.t 4 = .lp (K + 1) 0 /\ f.d = [] /\ (∀ j,kp j -> f.k j = false)) i
   ⟨[],N,Q1,rfl,cs,hb1,hbo,hS,by simp only[wq.1,seval,t0],by simp only[wq.1,seval,t3],by simp only[wq.1,seval,t4],by simp only[wq.1,hd],fun j hj=>by simp only[wq.1,hk j hj]⟩ ?_
  clear t0 t1 t3 t4 t15 t16 hd hk cs hb1 xw xn hw hQl hil hbo hS hm;clear h1 f m;rintro m f h1 ⟨out,M,Q,hm,cs,hb1,cv,hS,t0,t3,t4,hd,hk⟩;have xw:=cs.xw;have xn:=cs.xn;have xp:=cs.pi.p;have hlen:=cv.len;refine vn ?_;simp only[wq.1,seval,t4,xp];refine qH ?_;simp only[wq.1,seval];refine vcB.mk (fun hq=> ?_) (fun hq=> ?_)
  ·have hq:0<Q.length:=by have:=zqs hq;omega
   have hQ0:Q≠[]:=List.length_pos_iff.1 hq;have fv:=cv.pop w hQ0;obtain⟨fu,hfu⟩:∃fu,i-out.length=fu+1:=⟨i-out.length-1,by omega⟩;rw[hfu,JD hQ0]at hS;obtain⟨a,ha⟩:∃a,a=(lK Q).getLastD 0:=⟨_,rfl⟩;obtain⟨Q2,hQ2⟩:∃Q2,Q2=(lK Q).dropLast:=⟨_,rfl⟩;rw[<-ha,<-hQ2]at hS fv;have haD:a∈out++[a]:=by simp
   have hai:a<i:=((fv.mem a).1 (.inr haD)).1;have hao:a∉out:=fun h=>(List.nodup_append.1 (List.nodup_append.1 fv.nd).2.1).2.2 a h a (by simp) rfl;simp only[wq.1];refine aH ?_;refine vn ?_;simp only[wq.1,seval,t4];refine⟨by decide,?_⟩;refine FZ cs.pi (by omega) hQ0 ?_;rw[<-ha,<-hQ2];have cs2:=cs.pop Q2;obtain⟨h2,hh2⟩:∃h2,h2=Dj (K+1) (K+2) h1 Q2:=⟨_,rfl⟩;have hb2:b<=h2.length:=by rw[hh2];unfold Dj;simp;exact hb1
   rw[<-hh2]at cs2 ⊢;simp only[wq.1,seval];refine⟨by decide,?_⟩;obtain⟨t2,n',ps,asg,body,pend,hLL,hsz,hps2,hwy⟩:=step out a h2 cs2.hp hb2 (by omega) (by omega) hao;refine vn ?_;simp only[wq.1,seval,t0,hLL];refine⟨⟨by simpa using hsz,hps2⟩,zC hwy ?_⟩;rintro j h3 p hp ⟨rfl,hpk,hHp,hh3⟩;refine⟨by simp[E5,hd],?_⟩;obtain⟨r1,r2,r3,r4⟩:=cs2.r;have pK:p K=false:=hpk _ (.inr hbK);have pK1:p (K+1)=false:=hpk _ (.inr (by omega));have cs3:=cs2.told hHp hh3 (fun j hj=>hpk j (.inr hj));have hb3:b<=h3.length:=by
    have:=(zqe cs3.xw).1;omega
   have xw:=cs3.xw;rw[<-hBV]at xw;have hBVl:BV.length=i:=by rw[hBV];unfold Nr;rw[zra];exact hBl
   have hBVg:BV.getD a .any= .is false 1 (bZ (B.getD a [])):=by rw[hBV];unfold Nr;rw[dG (by omega),zqg,zqk (by omega)];rfl
   simp only[wq.1,seval,Option.isNone_none];refine vn ?_;simp only[wq.1,seval,t3,pK,xw,hBVl,hBVg];refine⟨⟨by omega,by omega⟩,?_⟩;refine aH ?_;obtain⟨Ba,hBa⟩:∃Ba,Ba=B.getD a []:=⟨_,rfl⟩;have hBn:Ba.Nodup:=by rw[hBa];exact w.nB a
   have hBi : ∀ j,j ∈ Ba -> j ∈ B.getD a [] := fun j hj => hBa ▸ hj;have hBm : ∀ j,j ∈ Ba -> j < i := fun j hj => (w.lt j a ((w.iff j a).2 (hBi j hj))).1;have hBl2 : Ba.length <= i := pM hBn hBm;rw [<- hBa] at hS fv ⊢;obtain ⟨F,hF⟩ : ∃ F,F = wB a Ba (M,Q2) := ⟨_,rfl⟩;rw [<- hF] at hS;have hF0 : F = wB a (Ba.drop 0) (M,Q2) := hF;have fv0 : Fv i N out a (Ba.drop 0) M Q2 := fv;refine aK (fun m f h => ∃ (k : Nat) (M : List (List Nat)) (Q : List Nat),m + k = Ba.length /\ k <= Ba.length /\ CS Hp b i K nr B (out ++ [a]) M Q h /\ b <= h.length /\ Fv i N out a (Ba.drop k) M Q /\ F = wB a (Ba.drop k) (M,Q) /\ f.t 0 = .yd y /\ f.t 3 = .lp K 0 /\ f.t 4 = .lp (K + 1) 0 /\ f.t 6 = nv a /\ f.t 49 = .is false 1 (bZ Ba) /\ f.t 50 = vi Ba.length /\ f.t 51 = vi k /\ f.d = [] /\ (∀ j,kp j -> f.k j = false)) Ba.length
    ⟨0,M,Q2,by omega,by omega,cs3,hb3,fv0,hF0,by simp only[wq.1,seval,t0,hp],by simp only[wq.1,seval,t3,pK],by simp only[wq.1,seval,t4,pK1],by simp only[wq.1,seval],by simp only[wq.1,seval],by simp only[wq.1,seval],by simp only[wq.1,↓reduceIte];rfl,by simp only[wq.1,hd],fun j hj=>by simp only[wq.1,hk j hj,hpk j (.inl hj)]⟩ ?_
   clear fv fv0 hF0 hF cs3 hb3 xw t0 t3 t4 hd hk hHp hh3 hpk pK pK1 hp hLL hwy cs2 hb2 hh2 cs hb1 xn xp cv hBVg hBVl hsz hps2;rintro m1 f h1 ⟨k,M,Q,hm1,hkl,cs,hb1,fv,hF,t0,t3,t4,t6,t49,t50,t51,hd,hk⟩;have hwk:=aB (show k<maxLen by omega);have xw:=cs.xw;have xn:=cs.xn;refine vn ?_;simp only[wq.1,Nat.reduceLT,t50,t51];refine vn ?_;simp only[wq.1,↓reduceIte];refine vcB.mk (fun hkt=> ?_) (fun hkt=> ?_)
   ·have hkt:k<Ba.length:=by have:=zqs hkt;omega
    obtain⟨g,hg⟩:∃g,g=Ba[k]:=⟨_,rfl⟩;have hgm:g∈Ba:=hg▸zqu hkt;have hgi:=hBm g hgm;have hbg:(bZ Ba).getD k .any=nv g:=by rw[SN hkt,zqg,zqk hkt,<-hg];rfl
    rw[List.drop_eq_getElem_cons hkt,<-hg]at fv hF;rw[wB]at hF;have hgr:g∉Ba.drop (k+1):=by
     have h1:(Ba.drop k).Nodup:=hBn.sublist (List.drop_sublist _ _);rw[List.drop_eq_getElem_cons hkt,<-hg]at h1;exact(List.nodup_cons.1 h1).1
    have fv2:=fv.step w (hBi g hgm) hgr;have hfl:=fv2.len;have xm:=cs.xm g hgi;obtain⟨Mg,hMg⟩:∃Mg,Mg=M.getD g []:=⟨_,rfl⟩;rw[<-hMg]at fv2 hF xm;have hMn:Mg.Nodup:=by rw[hMg,fv.nn];exact(w.nN g).sublist List.filter_sublist
    have hmd:=JC hMn a;obtain⟨Mf,hMf⟩:∃Mf,Mf=Mg.filter (· != a):=⟨_,rfl⟩;rw[<-hMf]at fv2 hF hmd;have cs2:=cs.del hgi Mf;have hng:=AY (b:=b) hgi .any;have hnl:=AX (b:=b) (n:=i);simp only[wq.1];refine au ?_;refine aH ?_;refine vn ?_;simp only[wq.1,seval,t49,t51,hbg];refine⟨⟨by omega,by omega⟩,?_⟩;refine au (iV ?_);refine ay rfl rfl ?_;simp only[wq.1,seval,t3];refine ay rfl rfl ?_;simp only[wq.1,seval,xw];refine ay rfl rfl ?_;simp only[wq.1,seval];refine ay rfl rfl ?_;simp only[wq.1,seval];refine⟨⟨by omega,by omega⟩,?_⟩;refine ay rfl rfl ?_;simp only[wq.1,↓reduceIte,xn,hng];refine⟨by omega,?_⟩;refine ay rfl rfl ?_;simp only[wq.1,seval,t6];have hq1:ti TE.P 172=some ⟨.map 3 4,1,8,.nilm⟩:=by simp only[wq.1]
    have hqi:ti TE.P 3=some ⟨.int .i64,1,8,.int .i64 0⟩:=by simp only[wq.1]
    refine fQ rfl rfl ?_;refine wO (kt':=0) (t:=172) rfl rfl (id:=b+(7+i+2*g+1)) (by simp only[wq.1,seval]) (by simp only[wq.1,seval]) (by simp only[wq.1,↓reduceIte]) hq1 rfl hqi (by simp only[wq.1,↓reduceIte,Abs.K.keyOk]) (ks:=bZ Mg) (vs:=pI Mg.length) xm (by simp only[wq.1,↓reduceIte];exact hmd) ?_;refine eP ?_;obtain⟨h2,hh2⟩:∃h2,h2=h1.set (b+(7+i+2*g+1)) (Kt Mf):=⟨_,rfl⟩;have hb2:b<=h2.length:=by rw[hh2,zrn];exact hb1
    rw[<-hh2]at cs2 ⊢;have zw:=cs2.xw;have zn:=cs2.xn;have zm:=cs2.xm g hgi;rw[lh (by have:=cs.lM;omega),if_pos rfl]at zm;obtain⟨M2,hM2⟩:∃M2,M2=M.set g Mf:=⟨_,rfl⟩;rw[<-hM2]at cs2 fv2 hF;clear hh2 xw xn xm;simp only[wq.1];refine vn ?_;simp only[wq.1,seval,t3,zw,zn,zm,hng];refine⟨⟨by omega,by omega⟩,by omega,?_⟩;refine vm ?_;simp only[wq.1,↓reduceIte];refine vcB.mk (fun he=> ?_) (fun he=> ?_)
    ·have he:Mf.isEmpty=true:=by rw[beq_iff_eq]at he;rw[List.isEmpty_iff];exact List.eq_nil_of_length_eq_zero (by omega)
     rw[if_pos he]at fv2 hF;simp only[wq.1,seval,t4];refine⟨by decide,by decide,?_⟩;have hql:=Ec Q g;have hql2:=fv2.len;refine uS cs2.pi (by omega) g ?_;have y1:(y==K+2)=false:=by rw[beq_eq_false_iff_ne];have:=hkb y hky;omega
     have y2:(K==K+2)=false:=by rw[beq_eq_false_iff_ne];omega
     have y3:(K+1==K+2)=false:=by rw[beq_eq_false_iff_ne];omega
     simp only[wq.1,aX,hd];refine vm ?_;simp only[wq.1,seval,t51,hwk];refine .inl ⟨m1-1,by omega,k+1,M2,zU Q g,by omega,by omega,cs2.push hdrop _,by unfold oD;simp;exact hb2,fv2,hF,by simp only[wq.1,seval,t0,y1],by simp only[wq.1,seval,t3,y2],by simp only[wq.1,seval,t4,y3],by simp only[wq.1,seval,t6],by simp only[wq.1,seval,t49],by simp only[wq.1,seval,t50],by simp only[wq.1,↓reduceIte],by simp only[wq.1,hd],fun j hj=> ?_⟩;have y4:(j==K+2)=false:=by rw[beq_eq_false_iff_ne];have:=hkb j hj;omega
     simp only[wq.1,hk j hj,y4]
    ·have he:¬Mf.isEmpty=true:=fun h=>by rw[List.isEmpty_iff]at h;rw[h]at he;cases he
     rw[if_neg he]at fv2 hF;simp only[wq.1];refine vm ?_;simp only[wq.1,seval,t51,hwk];exact .inl ⟨m1-1,by omega,k+1,M2,Q,by omega,by omega,cs2,hb2,fv2,hF,by simp only[wq.1,seval,t0],by simp only[wq.1,seval,t3],by simp only[wq.1,seval,t4],by simp only[wq.1,seval,t6],by simp only[wq.1,seval,t49],by simp only[wq.1,seval,t50],by simp only[wq.1,↓reduceIte],by simp only[wq.1,hd],fun j hj=>by simp only[wq.1,hk j hj]⟩
   ·have hke:k=Ba.length:=by have:=of_decide_eq_false hkt;omega
    subst hke;rw[List.drop_length]at fv hF;rw[wB]at hF;subst hF;have cv2:=fv.done;have hln:=cv2.len;simp only[wq.1];have hol:(out++[a]).length=out.length+1:=by simp
    rw[hol]at hln;refine .inl ⟨i-(out.length+1),by omega,out++[a],M,Q,by rw[hol],cs,hb1,cv2,?_,by simp only[wq.1,seval,t0],by simp only[wq.1,seval,t3],by simp only[wq.1,seval,t4],by simp only[wq.1,hd],fun j hj=>by simp only[wq.1,hk j hj]⟩;rw[hS,hol,zqc,show i-(out.length+1)=fu by omega];rfl
  ·have hq:Q=[]:=by have:=of_decide_eq_false hq;exact List.eq_nil_of_length_eq_zero (by omega)
   subst hq;rw[Ns,zqp]at hS;subst hS;simp only[wq.1,hd];exact⟨hk,cs.hp,hb1⟩
end Go.Proofs.YtokppohljajhjaaGreatDoor
