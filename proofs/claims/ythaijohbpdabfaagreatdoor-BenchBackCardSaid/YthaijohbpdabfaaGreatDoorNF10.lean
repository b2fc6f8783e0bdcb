/- Lemmas for this claim, part F10: each holds under what it names. -/
import Derived.Test.YthaijohbpdabfaaGreatDoorNF09
import Derived.Test.YthaijohbpdabfaaGreatDoorNA10
import Derived.Test.YthaijohbpdabfaaGreatDoorNF01
set_option linter.all false
set_option maxRecDepth 20000
set_option maxHeartbeats 4000000
namespace Go.Proofs.YthaijohbpdabfaaGreatDoor
open Go Go.Proofs Go.Abs
abbrev foF(f:Fo):List V:=[vi f.kind,vi f.lit,vi f.kids]
abbrev liF(x:Li):List V:=[vi x.1,vi x.2.toNat]
def foC(l:List Fo):List V:=l.flatMap foF
def liC(l:List Li):List V:=l.flatMap liF
theorem yP(l m:List Fo):foC (l++m)=foC l++foC m:=by simp[foC]
theorem O3(l m:List Li):liC (l++m)=liC l++liC m:=by simp[liC]
theorem VH(f:Fo):foC [f]=foF f:=by simp[foC]
theorem O4(f:Li):liC [f]=liF f:=by simp[liC]
theorem uU:∀l:List Fo,(foC l).length=l.length*3
 |[]=>rfl
 |t::l=>by show(_::_::_::foC l).length=_;simp only[zrt,uU l];omega
theorem Hw:∀l:List Li,(liC l).length=l.length*2
 |[]=>rfl
 |t::l=>by show(_::_::liC l).length=_;simp only[zrt,Hw l];omega
theorem mD{α:Type}{F:α->List V}{p:Nat->Bool}(hF:∀x,V.drops p (F x)=F x):∀l:List α,V.drops p (l.flatMap F)=l.flatMap F
 |[]=>rfl
 |a::l=>by rw[List.flatMap_cons,fG,hF,mD hF l]
theorem iV{p:Nat->Bool}(l:List Fo):V.drops p (foC l)=foC l:=mD (fun _=>rfl) l
theorem yQ{p:Nat->Bool}(l:List Li):V.drops p (liC l)=liC l:=mD (fun _=>rfl) l
theorem Jm:∀l:List Fo,V.dats (foC l)=true
 |[]=>rfl
 |t::l=>by show(true&&(true&&(true&&V.dats (foC l))))=true;rw[Jm l];rfl
theorem Jn:∀l:List Li,V.dats (liC l)=true
 |[]=>rfl
 |t::l=>by show(true&&(true&&V.dats (liC l)))=true;rw[Jn l];rfl
theorem uh:∀l:List Fo,dA (foC l)=true
 |[]=>rfl
 |t::l=>by show(true&&(true&&(true&&dA (foC l))))=true;rw[uh l];rfl
theorem Ud:∀l:List Fo,bZ 3 (l.map foV)=true
 |[]=>rfl
 |t::l=>by show(_&&bZ 3 (l.map foV))=true;rw[Ud l];rfl
theorem Ue:∀l:List Li,bZ 2 (l.map liV)=true
 |[]=>rfl
 |t::l=>by show(_&&bZ 2 (l.map liV))=true;rw[Ue l];rfl
theorem uV:∀l:List Fo,jO (l.map foV)=true
 |[]=>rfl
 |t::l=>by show(_&&jO (l.map foV))=true;rw[uV l];rfl
theorem Hy:∀l:List Fo,(l.map foV).flatMap V.vc=foC l
 |[]=>rfl
 |t::l=>by show V.vc (foV t)++(l.map foV).flatMap V.vc=_;rw[Hy l];rfl
theorem Xz:∀l:List Li,(l.map liV).flatMap V.vc=liC l
 |[]=>rfl
 |t::l=>by show V.vc (liV t)++(l.map liV).flatMap V.vc=_;rw[Xz l];rfl
theorem wU[MO]{h:H}{id len cap:Nat}{l:List Fo}(hc:h[id]? =some (.cells (foC l)))(hl:len=l.length):aG TE h (.ls id 3 0 len cap) (nI l) :=
 aG.ls hc (ay.dat (Jm l)) (Ud l) (Hy l) (by rw[zra];exact hl)
theorem Jo[MO]{h:H}{id len cap:Nat}{l:List Li}(hc:h[id]? =some (.cells (liC l)))(hl:len=l.length):aG TE h (.ls id 2 0 len cap) (wF l) :=
 aG.ls hc (ay.dat (Jn l)) (Ue l) (Xz l) (by rw[zra];exact hl)
theorem Dc[MO](l:List Li)(rest:List Fo)(hl:l.length<=1000000)(hr:rest.length<=1000000)(hx:∀x∈l,x.1<=1000000000):Ev TE 213 [wF l,nI rest] (nI (CE l rest)):=by
 have hM:=mLx;refine ak Tryz.func213 rfl (by simp[nts]) ?_;obtain⟨r,er⟩:∃r,r=zC rest:=⟨_,rfl⟩;have hrl:r.length<=1000000:=er▸Nat.le_trans (Ji rest) hr;obtain⟨K,eK⟩:∃K,K=RU l rest:=⟨_,rfl⟩;have hK:K=l.length+min r.length 1:=by rw[eK,er];rfl
 have hA:CE l rest=(if 1<K then [⟨3,0,K⟩]else [])++l.map mg++r:=by rw[eK,er];rfl
 rw[hA];refine vn ?_;simp only[wq.1,Nat.reduceLT,Tryz.results213];refine ai (aX (Q:=fun xe f h=>xe= .normal/\h=[]/\f.t 0=wF l/\VLe (f.t 1) (nI r)/\f.d=[]) ?_ ?_)
 ·rintro xe f h ⟨rfl,rfl,t0,t1,hd⟩;show awp _ _ _ _ _ _ _;refine Iy (FLe.one 1 t1) (HLe.refl _) ?_;obtain⟨f',ef⟩:∃f':Fr,f'={f with t:=fun j=>if j=1 then nI r else f.t j}:=⟨_,rfl⟩;have u0:f'.t 0=wF l:=by rw[ef];exact t0
  have u1:f'.t 1=nI r:=by rw[ef];rfl
  have ud:f'.d=[]:=by rw[ef];exact hd
  rw[<-ef];clear ef t0 t1 hd f;have hmn:JG [vi r.length,vi 1]=(True,vi (min r.length 1:Nat)):=by
   show(True,V.int .i64 (if(1:Int)<(r.length:Int)then 1 else(r.length:Int)))=_
   congr 2
   split<;>omega
  have wK:IntKind.i64.wrap ((l.length:Int)+((min r.length 1:Nat):Int))=(K:Int):=by rw[iL (by omega) (by omega),hK];omega
  have dK:decide ((1:Int)<(K:Int))=decide (1<K):=decide_eq_decide.2 (by omega);refine vn ?_;simp only[wq.1,seval,u0,u1,hmn,wK];refine vn ?_;simp only[wq.1,Nat.reduceLT];refine gV 6 3 (by simp only[wq.1,↓reduceIte]) ?_;obtain⟨P0,eP0⟩:∃P0:List Fo,P0=if 1<K then [⟨3,0,K⟩]else []:=⟨_,rfl⟩
  rw[<-eP0];refine ai (aX (Q:=fun xe f h=>xe= .normal/\h[0]? =some (.cells (foC P0))/\f.t 0=wF l/\f.t 1=nI r/\f.t 6= .ls 0 3 0 P0.length P0.length/\f.d=[]) ?_ ?_)
  ·clear u0 u1 ud;rintro xe f h ⟨rfl,h0,t0,t1,t6,hd⟩;show awp _ _ _ _ _ _ _;have hPl:P0.length<=1:=by rw[eP0];split<;>simp
   refine vn ?_;simp only[wq.1,seval,t0];refine aC (fun m f h=>∃i,m+i=l.length/\h[0]? =some (.cells (foC (P0++(l.take i).map mg)))/\f.t 1=nI r/\f.t 6= .ls 0 3 0 (P0.length+i) (P0.length+i)/\f.t 32=wF l/\f.t 33=vi l.length/\f.t 34=vi i/\f.d=[]) l.length ⟨0,by omega,by simpa using h0,by simp only[wq.1,seval,t1],by simp only[wq.1,seval,t6],by simp only[wq.1,seval],by simp only[wq.1,seval],by rfl,by simp only[wq.1,hd]⟩ ?_;clear t0 t1 t6 hd h0;rintro m f h ⟨i,hm,h0,t1,t6,t32,t33,t34,hd⟩;have hw:=aB (show i<maxLen by omega);refine vn ?_;simp only[wq.1,Nat.reduceLT,t33,t34];refine vn ?_;simp only[wq.1,↓reduceIte];refine vcB.mk (fun hlt=> ?_) (fun hlt=> ?_)
   ·have hlt:i<l.length:=by have:=zqs hlt;omega
    obtain⟨x,ex⟩:∃x,x=l[i]:=⟨_,rfl⟩;have hgx:=Xx hlt .any;rw[<-ex]at hgx;have hnd:=O0 x (hx x (ex▸zqu hlt));have dF:∀q,V.drops q (foC (P0++(l.take i).map mg))=foC (P0++(l.take i).map mg):=fun q=>iV _;have hfl:=uU (P0++(l.take i).map mg);rw[zqa,zra,zrl,Nat.min_eq_left (by omega)]at hfl;have hgE:∀x:O,(h++[x])[h.length]? =some x:=fun x=>by simp
    have hgS:∀x y:O,(h++[x]).set h.length y=h++[y]:=fun x y=>by simp
    have l0:=(zqe h0).1;have hx0:∀o:O,(h++[o])[0]? =some (.cells (foC (P0++(l.take i).map mg))):=fun o=>by rw[zqj l0];exact h0
    simp only[wq.1];refine vm ?_;simp only[wq.1,seval,t6,t32,t34,hgx,hgE,hgS];refine⟨⟨by omega,by omega⟩,ag.ev hnd rfl ?_⟩;have hap:foC (P0++(l.take i).map mg)++foF (mg x)=foC (P0++(l.take (i+1)).map mg):=by
     rw[List.take_succ_eq_append_getElem hlt,<-ex,zql,<-zqc,yP (P0++(l.take i).map mg),List.map_singleton,VH]
    simp only[wq.1,↓reduceIte,Nat.reduceEqDiff,Nat.reduceLT,Nat.reduceAdd,reduceCtorEq,Nat.reduceMul,t34,hd,hx0,dF,hfl,hw];refine⟨⟨rfl,by decide⟩,rfl,⟨rfl,by omega,by omega⟩,.inl ⟨m-1,by omega,i+1,by omega,?_,by simp only[wq.1,↓reduceIte,Nat.reduceEqDiff,Nat.reduceLT,Nat.reduceLeDiff,Nat.reduceAdd,Nat.reduceSub,Int.reduceToNat,Nat.reduceDiv,Int.reduceLT,Int.reduceLE,Int.reduceNeg,Int.reduceBEq,Int.reduceBNe,Int.reduceAdd,Int.reduceSub,Nat.reduceBEq,reduceCtorEq,Nat.reduceMul,au,Tryz.results213,t1],by simp only[wq.1,↓reduceIte,Nat.reduceEqDiff,Nat.reduceLT,Nat.reduceLeDiff,Nat.reduceAdd,Nat.reduceSub,Int.reduceToNat,Nat.reduceDiv,Int.reduceLT,Int.reduceLE,Int.reduceNeg,Int.reduceBEq,Int.reduceBNe,Int.reduceAdd,Int.reduceSub,Nat.reduceBEq,reduceCtorEq,Nat.reduceMul,au,Tryz.results213,Nat.add_assoc],by simp only[wq.1,↓reduceIte,Nat.reduceEqDiff,Nat.reduceLT,Nat.reduceLeDiff,Nat.reduceAdd,Nat.reduceSub,Int.reduceToNat,Nat.reduceDiv,Int.reduceLT,Int.reduceLE,Int.reduceNeg,Int.reduceBEq,Int.reduceBNe,Int.reduceAdd,Int.reduceSub,Nat.reduceBEq,reduceCtorEq,Nat.reduceMul,au,Tryz.results213,t32],by simp only[wq.1,↓reduceIte,Nat.reduceEqDiff,Nat.reduceLT,Nat.reduceLeDiff,Nat.reduceAdd,Nat.reduceSub,Int.reduceToNat,Nat.reduceDiv,Int.reduceLT,Int.reduceLE,Int.reduceNeg,Int.reduceBEq,Int.reduceBNe,Int.reduceAdd,Int.reduceSub,Nat.reduceBEq,reduceCtorEq,Nat.reduceMul,au,Tryz.results213,t33],by simp only[wq.1,↓reduceIte,Nat.reduceEqDiff,Nat.reduceLT,Nat.reduceLeDiff,Nat.reduceAdd,Nat.reduceSub,Int.reduceToNat,Nat.reduceDiv,Int.reduceLT,Int.reduceLE,Int.reduceNeg,Int.reduceBEq,Int.reduceBNe,Int.reduceAdd,Int.reduceSub,Nat.reduceBEq,reduceCtorEq,Nat.reduceMul,au,Tryz.results213],by simp only[wq.1,↓reduceIte,Nat.reduceEqDiff,Nat.reduceLT,Nat.reduceLeDiff,Nat.reduceAdd,Nat.reduceSub,Int.reduceToNat,Nat.reduceDiv,Int.reduceLT,Int.reduceLE,Int.reduceNeg,Int.reduceBEq,Int.reduceBNe,Int.reduceAdd,Int.reduceSub,Nat.reduceBEq,reduceCtorEq,Nat.reduceMul,au,Tryz.results213,hd]⟩⟩;rw[zqt (by simp),<-hap];rfl
   ·have hi:i=l.length:=by have:=of_decide_eq_false hlt;omega
    subst hi;rw[zrx]at h0;have dF:∀q,V.drops q (foC (P0++l.map mg))=foC (P0++l.map mg):=fun q=>iV _;have hfl:=uU (P0++l.map mg);rw[zqa,zra]at hfl;refine vm ?_;simp only[wq.1,seval,t1,t6,hd,h0,dF,hfl];rw[Hy,iV];refine⟨uV r,⟨uh r,by omega,by omega⟩,wU ?_ ?_⟩
    ·rw[zqt (by simpa using(zqe h0).1),<-yP]
    ·simp only[zqa,zra]
  ·refine vm ?_;simp only[wq.1,↓reduceIte,Nat.reduceEqDiff,Nat.reduceLT,ud,dK];refine vcB.mk (fun hk=> ?_) (fun hk=> ?_)
   ·rw[if_pos (zqs hk)]at eP0;subst eP0;simp only[wq.1,↓reduceIte,Nat.reduceEqDiff,Nat.reduceLT,Nat.reduceLeDiff,Nat.reduceAdd,reduceCtorEq,Nat.reduceMul,u0,u1];exact⟨⟨rfl,by decide⟩,rfl,⟨rfl,by rw[hM];decide⟩,rfl⟩
   ·rw[if_neg (of_decide_eq_false hk)]at eP0;subst eP0;simp only[wq.1,seval,u0,u1];exact rfl
 ·cases rest with
  |nil=>subst er;have e0:(((0:Nat):Int)==1)=false:=rfl;refine vm ?_;have hn:V.any.nil? =none:=rfl;simp only[wq.1,seval,e0,List.getD_nil,fA,hn];exact VLe.refl _
  |cons fo rs =>
   refine vm ?_;simp only[wq.1,seval];refine⟨fun h=>⟨h,by omega⟩,vcB.mk (fun hk=> ?_) (fun hk=> ?_)⟩
   ·have h1:fo.kind=1/\rs=[]:=by simp only[zqf,beq_iff_eq]at hk;exact⟨by omega,zse (by omega)⟩
    obtain⟨h1,rfl⟩:=h1;have er:r=[]:=by rw[er];show(if fo.kind=1 then []else [fo])=[];rw[if_pos h1]
    subst er;simp only[wq.1,seval];exact VLe.nils
   ·have er:r=fo::rs:=by
     rw[er]
     match rs,hk with
     |[],hk=>show(if fo.kind=1 then []else [fo])=[fo];rw[if_neg];rintro h;rw[h]at hk;exact absurd hk (by decide)
     |_::_,_=>rfl
    subst er;simp only[wq.1,seval];exact VLe.refl _
theorem Hz[MO](row:S)(hr:row.length<=1000000000):Ev TE 263 [.nils,.fn (.func 261) [] [.ip (.str row)]] (wF (bD row)):=by
 have hM := mLx;have hlr := CW row;refine ak Tryz.func263 rfl (by simp [nts]) ?_;refine vn ?_;simp only [wq.1,Nat.reduceLT,Tryz.results263];refine fQ ?_;refine lg (h' := [.cells [.ls 1 2 0 0 0],.cells []]) (HLe.set (i := 0) (o' := .cells [.ls 1 2 0 0 0]) rfl (OLe.cells (zrb _) (bW.cons dE bW.nil))) ?_;refine vn ?_;simp only [wq.1,seval];refine jc (n := 13) (q := 261) (first := []) (captured := [.ip (.str row)]) (by simp only [wq.1,↓reduceIte]) (by simp only [wq.1,↓reduceIte]) rfl (by decide) ?_;intro L hLd gets;refine ag.mono (yN row hr 3 _
  (fun j h k=>(∀i<4,i≠1->k i=false)/\∃t X,t 2= .lp 0 0/\h=[.cells [.ls 1 2 0 j j],.cells (liC ((bD row).take j)),.misc .dfd,L t .ready none]++X)
  (fun c h k=>False) ?_ ?_) ?_
 ·exact⟨fun i _ _=>rfl,_,[],rfl,by rw[zqp];rfl⟩
 ·rintro i h k hi hk ⟨h1,t,X,t2,rfl⟩;rw[zra]at hi;obtain⟨y,hy⟩:∃y,y=(bD row)[i]:=⟨_,rfl⟩;have hit:((bD row).map fun x=>[liV x])[i]'(by rw[zra];exact hi)=[liV y]:=by rw[List.getElem_map,<-hy]
  have hap:liC ((bD row).take i)++liF y=liC ((bD row).take (i+1)):=by rw[List.take_succ_eq_append_getElem hi,<-hy,O3,O4]
  rw[hit];obtain⟨C,hC⟩:∃C,C=liC ((bD row).take i):=⟨_,rfl⟩;have dC:∀q,V.drops q C=C:=fun q=>by rw[hC];exact yQ _
  have hCl:C.length=i*2:=by rw[hC,Hw,zrl,Nat.min_eq_left (by omega)]
  rw[<-hC]at hap ⊢;refine gets _ _ _ t rfl rfl (fun lb=> ?_);have k0:=h1 0 (by decide) (by decide);have k2:=h1 2 (by decide) (by decide);have gE:∀o:O,(X++[o])[X.length]? =some o:=fun o=>by simp
  have gS:∀o o':O,(X++[o]).set X.length o'=X++[o']:=fun o o'=>by simp
  refine vm ?_;simp only[wq.1,↓reduceIte,Nat.reduceEqDiff,Nat.reduceLT,Nat.reduceAdd,rZ,gE,gS];refine⟨t,rfl,?_⟩;refine aA ?_;refine vm ?_;simp only[wq.1,↓reduceIte,Nat.reduceEqDiff,Nat.reduceLT,Nat.reduceAdd,Nat.reduceBEq,reduceCtorEq,Nat.reduceMul,t2,gE,nR,XE.jump,dC,hCl,hLd];refine⟨⟨rfl,by decide⟩,rfl,⟨rfl,by omega,by omega⟩,_,_,rfl,fun j hj h2=>by rw[h1 j hj h2];simpa using h2,fun i=>(t i).drop fun x=>x==1,List.map (O.drop fun x=>x==1) X++[O.cells [vi y.1,vi y.2.toNat]],?_,?_⟩
  ·show(t 2).drop _=_;rw[t2];rfl
  ·rw[<-hap];rfl
 ·rintro ae h' p ⟨hp,hr⟩;cases ae with
  |pan v=>exact hr.elim
  |ret v =>
   rcases hr with⟨h1,t,X,t2,rfl⟩|⟨_,h⟩
   ·rw[zra,zrx]at *;have k0:=h1 0 (by decide) (by decide);have k2:=h1 2 (by decide) (by decide);have k3:=h1 3 (by decide) (by decide);refine⟨fun i hi=> ?_,hp,t,_,none,(by decide),rfl,?_⟩
    ·have hi:i=2:=by simpa [rU,rV]using hi
     subst hi;exact k2
    ·simp only[wq.1,Nat.reduceAdd,zl];refine vm ?_;simp only[wq.1,seval,k0];exact Jo rfl rfl
   ·exact h.elim
theorem vT[MO](row:S)(hr:row.length<=1000000000):Ev TE 216 [.fn (.func 261) [] [.ip (.str row)]] (wF (bD row)):=by refine ak Tryz.func216 rfl (by simp[nts]) (vm ?_);simp only[wq.1,seval,Tryz.results216];refine ag.ev (Hz row hr) rfl ?_;simp only[wq.1,seval];exact aG.dat (by simp only[V.dat,mr])
theorem O5(row:S)(l:List Li)(x:Li):nz row (l++[x])=(nz row l).set x.1 45:=by unfold nz;rw[List.foldl_append];rfl
theorem XA{b:S}{k:Nat}(h:k<b.length)(c:UInt8):(b.map vb).take (k*1)++[vb c]++(b.map vb).drop (k*1+1)=(b.set k c).map vb:=by rw[Nat.mul_one,List.map_set,List.set_eq_take_append_cons_drop,if_pos (by rw[zra];exact h),zqc];rfl
theorem yR[MO](rows:List S)(l:List Li)(hl:l.length<=1000000)(hrl:rows.length<=1000000)(hr:∀r∈rows,r.length<=1000000)(hx:∀r∈rows,∀x∈l,x.1<r.length):Ev TE 214 [aN rows,wF l] (aN (aW rows l)):=by
 have hM:=mLx;refine ak Tryz.func214 rfl (by simp[nts]) ?_;refine vn ?_;simp only[wq.1,Nat.reduceLT,Tryz.results214];refine vn ?_;simp only[wq.1,Nat.reduceLT];refine gV 5 1 (by simp only[wq.1,↓reduceIte]) ?_;refine vn ?_;simp only[wq.1,seval];refine aC (fun m f h=>∃i,m+i=rows.length/\h[0]? =some (.cells ((aW (rows.take i) l).map V.str))/\f.t 1=wF l/\f.t 5= .ls 0 1 0 i i/\f.t 11=aN rows/\f.t 12=vi rows.length/\f.t 13=vi i/\f.d=[]) rows.length ⟨0,by omega,rfl,by simp only[wq.1,seval],by simp only[wq.1,seval],by simp only[wq.1,seval],by simp only[wq.1,seval],by rfl,by simp only[wq.1]⟩ ?_;rintro m f h ⟨i,hm,h0,t1,t5,t11,t12,t13,hd⟩;have hw:=aB (show i<maxLen by omega);refine vn ?_;simp only[wq.1,Nat.reduceLT,t12,t13];refine vn ?_;simp only[wq.1,↓reduceIte];refine vcB.mk (fun hlt=> ?_) (fun hlt=> ?_)
 ·have hlt:i<rows.length:=by have:=zqs hlt;omega
  obtain⟨r,er⟩:∃r,r=rows[i]:=⟨_,rfl⟩;have hrm:r∈rows:=er▸zqu hlt;have hg:=zW hlt .any;rw[<-er]at hg;have hrr:=hr r hrm;have hdv:aW (rows.take (i+1)) l=aW (rows.take i) l++[nz r l]:=by unfold aW;rw[List.take_succ_eq_append_getElem hlt,zql,<-er];rfl
  obtain⟨D,eD⟩:∃D,D=aW (rows.take i) l:=⟨_,rfl⟩;have hDl:D.length=i:=by rw[eD];unfold aW;rw[zra,zrl];omega
  rw[<-eD]at h0 hdv;have l0:=(zqe h0).1;simp only[wq.1];refine ai ?_;refine aA ?_;refine vn ?_;simp only[wq.1,seval,t11,t13,hg];refine⟨⟨by omega,by omega⟩,?_⟩;refine ai (iT ?_);refine az rfl rfl ?_;simp only[wq.1,↓reduceIte];refine eX rfl rfl ?_;refine Nv (t:=9) (tt:=79) (el:=5) (q:=⟨.slice 5,1,24,.nils⟩) (qs:=⟨.str,1,16,.str []⟩) (re:=⟨.int .u8,1,1,.int .u8 0⟩) (l:=r) rfl (by simp only[wq.1]) rfl (by simp only[wq.1]) rfl (by simp only[wq.1]) rfl (by simp only[wq.1,↓reduceIte]) (by simp only[wq.1,↓reduceIte]) (by omega) ?_;refine az rfl rfl ?_;simp only[wq.1,↓reduceIte];refine dX ?_;obtain⟨J,eJ⟩:∃J,J=h.length:=⟨_,rfl⟩;have hJ0:0<J:=by omega
  obtain⟨h',eh⟩:∃h',h'=h++[O.cells (r.map vb)]:=⟨_,rfl⟩;have a0':h'[0]? =some (.cells (D.map V.str)):=by rw[eh,zqj l0];exact h0
  have aJ':h'[J]? =some (.cells (r.map vb)):=by rw[eh,eJ];exact IC
  show awp _ _ _ _ _ _ (h++[O.cells (r.map vb)]);rw[<-eh,<-eJ];refine vn ?_;simp only[wq.1,seval,t1];refine aC (fun mm f h=>∃j,mm+j=l.length/\h[0]? =some (.cells (D.map V.str))/\h[J]? =some (.cells ((nz r (l.take j)).map vb))/\f.t 1=wF l/\f.t 5= .ls 0 1 0 i i/\f.t 8= .ls J 1 0 r.length r.length/\f.t 11=aN rows/\f.t 12=vi rows.length/\f.t 13=vi i/\f.t 19=wF l/\f.t 20=vi l.length/\f.t 21=vi j/\f.d=[]) l.length ⟨0,by omega,a0',aJ',by simp only[wq.1,seval,t1],by simp only[wq.1,seval,t5],by simp only[wq.1,seval],by simp only[wq.1,seval,t11],by simp only[wq.1,seval,t12],by simp only[wq.1,seval,t13],by simp only[wq.1,seval],by simp only[wq.1,seval],by rfl,by simp only[wq.1,hd]⟩ ?_;clear a0' aJ' eh h' t1 t5 t11 t12 t13 hd h0 l0 eJ h f;rintro mm f h ⟨j,hmm,h0,hJ,t1,t5,t8,t11,t12,t13,t19,t20,t21,hd⟩;have hwj:=aB (show j<maxLen by omega);have l0:=(zqe h0).1;have lJ:=(zqe hJ).1;refine vn ?_;simp only[wq.1,Nat.reduceLT,t20,t21];refine vn ?_;simp only[wq.1,↓reduceIte];refine vcB.mk (fun hlj=> ?_) (fun hlj=> ?_)
  ·have hlj:j<l.length:=by have:=zqs hlj;omega
   obtain⟨x,ex⟩:∃x,x=l[j]:=⟨_,rfl⟩;have hgx:=Xx hlj .any;rw[<-ex]at hgx;have hxr:=hx r hrm x (ex▸zqu hlj);have hdl:=wR (l.take j) r;have hds:nz r (l.take (j+1))=(nz r (l.take j)).set x.1 45:=by rw[List.take_succ_eq_append_getElem hlj,<-ex,O5]
   have hgE:∀x:O,(h++[x])[h.length]? =some x:=fun x=>by simp
   have hgS:∀x y:O,(h++[x]).set h.length y=h++[y]:=fun x y=>by simp
   have hxJ:∀o:O,(h++[o])[J]? =some (.cells ((nz r (l.take j)).map vb)):=fun o=>by rw[zqj lJ];exact hJ
   obtain⟨b,eb⟩:∃b,b=nz r (l.take j):=⟨_,rfl⟩;rw[<-eb]at hdl hds hJ hxJ;simp only[wq.1];refine vm ?_;simp only[wq.1,↓reduceIte,Nat.reduceEqDiff,Nat.reduceLT,Nat.reduceLeDiff,Nat.reduceAdd,Nat.reduceSub,Int.reduceToNat,Nat.reduceDiv,Int.reduceLT,Int.reduceLE,Int.reduceNeg,Int.reduceBEq,Int.reduceBNe,Int.reduceAdd,Int.reduceSub,Nat.reduceBEq,reduceCtorEq,Nat.reduceMul,au,Tryz.results214,t1,t5,t8,t11,t12,t13,t19,t20,t21,hd,hgx,hgE,hgS,hxJ,hwj];refine⟨⟨by omega,by omega⟩,by decide,⟨by omega,by omega⟩,by omega,.inl ⟨mm-1,by omega,j+1,by omega,?_,?_,by simp only[wq.1,↓reduceIte,Nat.reduceEqDiff,Nat.reduceLT,Nat.reduceLeDiff,Nat.reduceAdd,Nat.reduceSub,Int.reduceToNat,Nat.reduceDiv,Int.reduceLT,Int.reduceLE,Int.reduceNeg,Int.reduceBEq,Int.reduceBNe,Int.reduceAdd,Int.reduceSub,Nat.reduceBEq,reduceCtorEq,Nat.reduceMul,au,Tryz.results214,t1],by simp only[wq.1,↓reduceIte,Nat.reduceEqDiff,Nat.reduceLT,Nat.reduceLeDiff,Nat.reduceAdd,Nat.reduceSub,Int.reduceToNat,Nat.reduceDiv,Int.reduceLT,Int.reduceLE,Int.reduceNeg,Int.reduceBEq,Int.reduceBNe,Int.reduceAdd,Int.reduceSub,Nat.reduceBEq,reduceCtorEq,Nat.reduceMul,au,Tryz.results214,t5],by simp only[wq.1,↓reduceIte,Nat.reduceEqDiff,Nat.reduceLT,Nat.reduceLeDiff,Nat.reduceAdd,Nat.reduceSub,Int.reduceToNat,Nat.reduceDiv,Int.reduceLT,Int.reduceLE,Int.reduceNeg,Int.reduceBEq,Int.reduceBNe,Int.reduceAdd,Int.reduceSub,Nat.reduceBEq,reduceCtorEq,Nat.reduceMul,au,Tryz.results214,t8],by simp only[wq.1,↓reduceIte,Nat.reduceEqDiff,Nat.reduceLT,Nat.reduceLeDiff,Nat.reduceAdd,Nat.reduceSub,Int.reduceToNat,Nat.reduceDiv,Int.reduceLT,Int.reduceLE,Int.reduceNeg,Int.reduceBEq,Int.reduceBNe,Int.reduceAdd,Int.reduceSub,Nat.reduceBEq,reduceCtorEq,Nat.reduceMul,au,Tryz.results214,t11],by simp only[wq.1,↓reduceIte,Nat.reduceEqDiff,Nat.reduceLT,Nat.reduceLeDiff,Nat.reduceAdd,Nat.reduceSub,Int.reduceToNat,Nat.reduceDiv,Int.reduceLT,Int.reduceLE,Int.reduceNeg,Int.reduceBEq,Int.reduceBNe,Int.reduceAdd,Int.reduceSub,Nat.reduceBEq,reduceCtorEq,Nat.reduceMul,au,Tryz.results214,t12],by simp only[wq.1,↓reduceIte,Nat.reduceEqDiff,Nat.reduceLT,Nat.reduceLeDiff,Nat.reduceAdd,Nat.reduceSub,Int.reduceToNat,Nat.reduceDiv,Int.reduceLT,Int.reduceLE,Int.reduceNeg,Int.reduceBEq,Int.reduceBNe,Int.reduceAdd,Int.reduceSub,Nat.reduceBEq,reduceCtorEq,Nat.reduceMul,au,Tryz.results214,t13],by simp only[wq.1,↓reduceIte,Nat.reduceEqDiff,Nat.reduceLT,Nat.reduceLeDiff,Nat.reduceAdd,Nat.reduceSub,Int.reduceToNat,Nat.reduceDiv,Int.reduceLT,Int.reduceLE,Int.reduceNeg,Int.reduceBEq,Int.reduceBNe,Int.reduceAdd,Int.reduceSub,Nat.reduceBEq,reduceCtorEq,Nat.reduceMul,au,Tryz.results214,t19],by simp only[wq.1,↓reduceIte,Nat.reduceEqDiff,Nat.reduceLT,Nat.reduceLeDiff,Nat.reduceAdd,Nat.reduceSub,Int.reduceToNat,Nat.reduceDiv,Int.reduceLT,Int.reduceLE,Int.reduceNeg,Int.reduceBEq,Int.reduceBNe,Int.reduceAdd,Int.reduceSub,Nat.reduceBEq,reduceCtorEq,Nat.reduceMul,au,Tryz.results214,t20],by simp only[wq.1,↓reduceIte,Nat.reduceEqDiff,Nat.reduceLT,Nat.reduceLeDiff,Nat.reduceAdd,Nat.reduceSub,Int.reduceToNat,Nat.reduceDiv,Int.reduceLT,Int.reduceLE,Int.reduceNeg,Int.reduceBEq,Int.reduceBNe,Int.reduceAdd,Int.reduceSub,Nat.reduceBEq,reduceCtorEq,Nat.reduceMul,au,Tryz.results214],by simp only[wq.1,↓reduceIte,Nat.reduceEqDiff,Nat.reduceLT,Nat.reduceLeDiff,Nat.reduceAdd,Nat.reduceSub,Int.reduceToNat,Nat.reduceDiv,Int.reduceLT,Int.reduceLE,Int.reduceNeg,Int.reduceBEq,Int.reduceBNe,Int.reduceAdd,Int.reduceSub,Nat.reduceBEq,reduceCtorEq,Nat.reduceMul,au,Tryz.results214,hd]⟩⟩
   ·rw[zqn (by omega),zqj l0];exact h0
   ·rw[zqt (by simp;omega),hds];exact congrArg (fun c=>some (O.cells c)) (XA (by omega) 45)
  ·have hj:j=l.length:=by have:=of_decide_eq_false hlj;omega
   rw[hj,zrx]at hJ;obtain⟨c1,c2⟩:=pW (k:=J) (cap:=r.length) hJ;rw[wR]at c1 c2;have dD:∀p,V.drops p (D.map V.str)=D.map V.str:=fun p=>aJ;have hnx:D.map V.str++[V.str (nz r l)]=(aW (rows.take (i+1)) l).map V.str:=by rw[hdv,zql];rfl
   simp only[wq.1];refine vm ?_;simp only[wq.1,↓reduceIte,Nat.reduceEqDiff,Nat.reduceLT,reduceCtorEq,Nat.reduceMul,t5,t8,hd,c1,c2,h0];refine⟨⟨rfl,by decide⟩,⟨by omega,by omega,by omega⟩,?_⟩;refine vm ?_;simp only[wq.1,seval,t13,hw];refine .inl ⟨m-1,by omega,i+1,by omega,?_,by simp only[wq.1,seval,t1],by simp only[wq.1,seval],by simp only[wq.1,seval,t11],by simp only[wq.1,seval,t12],by simp only[wq.1,↓reduceIte],by simp only[wq.1,hd]⟩;rw[zqt (by simpa using l0),hnx]
 ·have hi:i=rows.length:=by have:=of_decide_eq_false hlt;omega
  rw[hi,zrx]at h0;refine vm ?_;simp only[wq.1,seval,t5,hd];rw[hi];exact aV h0 (by unfold aW;rw[zra])
theorem SC[MO](h:H)(c:UInt8):ja P h 21 3 (.int .i32 c.toNat)=(True,vi c.toNat):=by have hc:=c.toNat_lt;have hw:IntKind.i64.wrap (c.toNat:Int)=(c.toNat:Int):=iL (by omega) (by omega);unfold ja;simp only[wq.1,hw]
theorem O6(n:Nat):wC (n+1)=wC n++[(n,49),(n,48)]:=by unfold wC;rw[List.range_succ,List.flatMap_append];rfl
theorem O7(rows:List S):∀(l:List Li)(b:Li×Nat),b.2<=rows.length->(l.foldl (fC rows) b).2<=rows.length
 |[],b,h=>h
 |x::l,b,h=>by
  rw[List.foldl_cons];refine O7 rows l _ ?_;unfold fC;split
  ·exact List.countP_le_length
  ·exact h
theorem O8[MO](r0:S)(rs:List S)(hrl:(r0::rs).length<=1000000)(hr:∀r∈r0::rs,r.length<=1000000):Ev TE 215 [aN (r0::rs)] (.tup [liV (lG (r0::rs)).1,vi (lG (r0::rs)).2]):=by
 have hM:=mLx;obtain⟨rows,erw⟩:∃rows,rows=r0::rs:=⟨_,rfl⟩;have hg0:(rows.map V.str).getD 0 .any= .str r0:=by rw[erw];rfl
 have hrw:0<rows.length:=by rw[erw];simp
 have hmm:lG rows=(wC r0.length).foldl (fC rows) ((0,0),0):=by rw[erw];rfl
 have hr0:r0.length<=1000000:=hr r0 (by simp);rw[<-erw]at hrl hr ⊢;rw[hmm];obtain⟨W,eW⟩:∃W:Nat->Li×Nat,W=fun i=>(wC i).foldl (fC rows) ((0,0),0):=⟨_,rfl⟩;have hW0:W 0=((0,0),0):=by rw[eW];rfl
 have hWs:∀i,W (i+1)=fC rows (fC rows (W i) (i,49)) (i,48):=fun i=>by rw[eW];show(wC (i+1)).foldl _ _=_;rw[O6,List.foldl_append];rfl
 have hWle:∀i,(W i).2<=rows.length:=fun i=>by rw[eW];exact O7 rows _ _ (Nat.zero_le _)
 rw[show(wC r0.length).foldl (fC rows) ((0,0),0)=W r0.length by rw[eW]];have d0:DN [49,48] 0=(49,1):=by decide +kernel
 have d1:DN [49,48] 1=(48,1):=by decide +kernel
 refine ak Tryz.func215 rfl (by simp[nts]) ?_;refine vn ?_;simp only[wq.1,Nat.reduceLT,Tryz.results215];refine vn ?_;simp only[wq.1,seval];refine vn ?_;simp only[wq.1,seval,hg0];refine⟨by omega,?_⟩;refine aC (fun m f h=>∃i,m+i=r0.length/\h[0]? =some (.cells [vi 0,vi 0])/\h[1]? =some (.cells [vi (W i).1.1,vi (W i).1.2.toNat])/\f.t 0=aN rows/\f.t 2= .lp 0 0/\f.t 4= .lp 1 0/\f.t 5=vi (W i).2/\f.t 15=vi r0.length/\f.t 16=vi i/\f.d=[]) r0.length ⟨0,by omega,rfl,by rw[hW0];rfl,by simp only[wq.1,seval],by simp only[wq.1,seval],by simp only[wq.1,seval],by simp only[wq.1,↓reduceIte,Nat.reduceEqDiff,hW0];rfl,by simp only[wq.1,↓reduceIte,Nat.reduceEqDiff,Nat.reduceLT,Nat.reduceLeDiff,Nat.reduceAdd,Nat.reduceSub,Int.reduceToNat,Nat.reduceDiv,Int.reduceLT,Int.reduceLE,Int.reduceNeg,Int.reduceBEq,Int.reduceBNe,Int.reduceAdd,Int.reduceSub,Nat.reduceBEq,reduceCtorEq,Nat.reduceMul,au,Tryz.results215],by rfl,by simp only[wq.1,↓reduceIte,Nat.reduceEqDiff,Nat.reduceLT,Nat.reduceLeDiff,Nat.reduceAdd,Nat.reduceSub,Int.reduceToNat,Nat.reduceDiv,Int.reduceLT,Int.reduceLE,Int.reduceNeg,Int.reduceBEq,Int.reduceBNe,Int.reduceAdd,Int.reduceSub,Nat.reduceBEq,reduceCtorEq,Nat.reduceMul,au,Tryz.results215]⟩ ?_;rintro m f h ⟨i,hm,h0,h1,t0,t2,t4,t5,t15,t16,hd⟩;have hw:=aB (show i<maxLen by omega);refine vn ?_;simp only[wq.1,Nat.reduceLT,t15,t16];refine vn ?_;simp only[wq.1,↓reduceIte];refine vcB.mk (fun hlt=> ?_) (fun hlt=> ?_)
 ·have hlt:i<r0.length:=by have:=zqs hlt;omega
  simp only[wq.1];refine ai ?_;refine aA ?_;refine vn ?_;simp only[wq.1,seval,t16];refine vn ?_;simp only[wq.1,seval];obtain⟨K,eK⟩:∃K,K=h.length:=⟨_,rfl⟩;have l0:=(zqe h0).1;have l1:=(zqe h1).1;have hK1:1<K:=by omega
  obtain⟨h',eh⟩:∃h',h'=h++[O.misc (Misc.siter [49,48] 0)]:=⟨_,rfl⟩;have a0:h'[0]? =some (.cells [vi 0,vi 0]):=by rw[eh,zqj l0];exact h0
  have a1:h'[1]? =some (.cells [vi (W i).1.1,vi (W i).1.2.toNat]):=by rw[eh,zqj l1];exact h1
  have aK:h'[K]? =some (.misc (.siter [49,48] 0)):=by rw[eh,eK];exact IC
  rw[<-eh,<-eK];obtain⟨B,eB⟩:∃B:Nat->Li×Nat,B=fun p=>if p=0 then W i else if p=1 then fC rows (W i) (i,49)else W (i+1):=⟨_,rfl⟩
  obtain⟨C,eC⟩:∃C:Nat->UInt8,C=fun p=>if p=0 then 49 else 48:=⟨_,rfl⟩
  have hBs:∀p,p<2->B (p+1)=fC rows (B p) (i,C p):=fun p hp=>by
   have:p=0\/p=1:=by omega
   rcases this with rfl|rfl
   ·rw[eB,eC];rfl
   ·rw[eB,eC];exact hWs i
  have hBle:∀p,p<2->(B p).2<=rows.length:=fun p hp=>by
   have:p=0\/p=1:=by omega
   rcases this with rfl|rfl
   ·rw[eB];exact hWle i
   ·rw[eB];show(fC rows (W i) (i,49)).2<=_;unfold fC;split
    ·exact List.countP_le_length
    ·exact hWle i
  have hdv:∀p,p<2->DN [49,48] p=((C p).toNat,1):=fun p hp=>by
   have:p=0\/p=1:=by omega
   rcases this with rfl|rfl
   ·rw[d0,eC];rfl
   ·rw[d1,eC];rfl
  refine aA ?_;refine aC (fun mm f h=>∃p,mm+p=2/\h[0]? =some (.cells [vi 0,vi 0])/\h[1]? =some (.cells [vi (B p).1.1,vi (B p).1.2.toNat])/\h[K]? =some (.misc (.siter [49,48] p))/\f.t 0=aN rows/\f.t 2= .lp 0 0/\f.t 4= .lp 1 0/\f.t 5=vi (B p).2/\f.t 6=vi i/\f.t 15=vi r0.length/\f.t 16=vi i/\f.t 19= .lp K 0/\f.d=[]) 2 ?_ ?_
  ·exact⟨0,rfl,a0,by rw[eB];exact a1,aK,by simp only[wq.1,seval,t0],by simp only[wq.1,seval,t2],by simp only[wq.1,seval,t4],by simp only[wq.1,seval,t5,eB],by simp only[wq.1,seval],by simp only[wq.1,seval,t15],by simp only[wq.1,seval,t16],by simp only[wq.1,↓reduceIte],by simp only[wq.1,hd]⟩
  clear a0 a1 aK eh h' h0 h1 t0 t2 t4 t5 t15 t16 hd l0 l1 eK h f;rintro mm f h ⟨p,hmm,h0,h1,hKp,t0,t2,t4,t5,t6,t15,t16,t19,hd⟩;have l0:=(zqe h0).1;have l1:=(zqe h1).1;have lK:=(zqe hKp).1;refine vn ?_;simp only[wq.1,seval,t19,hKp];by_cases hp:p<2
  ·have hpd:decide (p<2)=true:=decide_eq_true hp;have hdp:=hdv p hp;obtain⟨c,ec⟩:∃c,c=C p:=⟨_,rfl⟩;have hbs:=hBs p hp;have hble:=hBle p hp;rw[<-ec]at hdp hbs;have hcnt:=AA rows (i,c) (by omega) (fun r h=>by have:=hr r h;omega);have hcl:iU rows (i,c)<=rows.length:=List.countP_le_length;simp only[wq.1,seval,hpd,lU,hdp];obtain⟨h2,eh⟩:∃h2,h2=h.set K (O.misc (Misc.siter [49,48] (p+1))):=⟨_,rfl⟩;have g0:h2[0]? =some (.cells [vi 0,vi 0]):=by rw[eh,zqn (by omega)];exact h0
   have g1:h2[1]? =some (.cells [vi (B p).1.1,vi (B p).1.2.toNat]):=by rw[eh,zqn (by omega)];exact h1
   have gK:h2[K]? =some (.misc (.siter [49,48] (p+1))):=by rw[eh,zqt lK]
   rw[<-eh];clear eh h0 h1 hKp l0 l1 lK;have l0:=(zqe g0).1;have l1:=(zqe g1).1;have lK:=(zqe gK).1;have hgE:∀x:O,(h2++[x])[h2.length]? =some x:=fun x=>by simp
   have hgS:∀x y:O,(h2++[x]).set h2.length y=h2++[y]:=fun x y=>by simp
   have b1:∀x:O,(h2++[x])[1]? =some (.cells [vi (B p).1.1,vi (B p).1.2.toNat]):=fun x=>by rw[zqj l1];exact g1
   have hlt2:decide (((B p).2:Int)<(iU rows (i,c):Int))=decide ((B p).2<iU rows (i,c)):=decide_eq_decide.2 (by omega);unfold fC at hbs;refine vm ?_;simp only[wq.1,seval,t0,t6,hgE,hgS,SC];refine ag.ev hcnt (by simp only[V.dats,V.dat,ax,zre]) ?_;simp only[wq.1,seval,t5,hlt2];refine vcB.mk (fun hlt=> ?_) (fun hlt=> ?_)
   ·rw[if_pos (zqs hlt)]at hbs;simp only[wq.1,seval,t4,hgE,b1];refine .inl ⟨mm-1,by omega,p+1,by omega,by rw[zqn (by omega),zqj l0];exact g0,by rw[zqt (by simp;omega),hbs],by rw[zqn (by omega),zqj lK];exact gK,by simp only[wq.1,seval,t0],by simp only[wq.1,seval,t2],by simp only[wq.1,seval,t4],by simp only[wq.1,↓reduceIte,hbs],by simp only[wq.1,seval,t6],by simp only[wq.1,seval,t15],by simp only[wq.1,seval,t16],by simp only[wq.1,seval,t19],by simp only[wq.1,hd]⟩
   ·rw[if_neg (of_decide_eq_false hlt)]at hbs;simp only[wq.1];refine .inl ⟨mm-1,by omega,p+1,by omega,by rw[zqj l0];exact g0,by rw[zqj l1,hbs];exact g1,by rw[zqj lK];exact gK,by simp only[wq.1,seval,t0],by simp only[wq.1,seval,t2],by simp only[wq.1,seval,t4],by simp only[wq.1,seval,t5,hbs],by simp only[wq.1,seval,t6],by simp only[wq.1,seval,t15],by simp only[wq.1,seval,t16],by simp only[wq.1,seval,t19],by simp only[wq.1,hd]⟩
  ·have hpd:decide (p<2)=false:=decide_eq_false hp;have hp2:p=2:=by omega
   subst hp2;have hB2:B 2=W (i+1):=by rw[eB];rfl
   rw[hB2]at h1 t5;simp only[wq.1,seval,lU];refine vm ?_;simp only[wq.1,↓reduceIte];refine vm ?_;simp only[wq.1,seval,t16,hw];exact .inl ⟨m-1,by omega,i+1,by omega,h0,h1,by simp only[wq.1,seval,t0],by simp only[wq.1,seval,t2],by simp only[wq.1,seval,t4],by simp only[wq.1,seval,t5],by simp only[wq.1,seval,t15],by simp only[wq.1,↓reduceIte],by simp only[wq.1,hd]⟩
 ·have hi:i=r0.length:=by have:=of_decide_eq_false hlt;omega
  subst hi;refine vm ?_;have hs0:∀x:O,(h.set 0 x)[0]? =some x:=fun x=>zqt (zqe h0).1;simp only[wq.1,seval,t2,t4,t5,hd,h0,h1,hs0];exact aG.dat rfl
theorem Fp{h:H}{i:Nat}{o:O}(hi:h[i]? =some o):h.set i o=h:=by
 refine List.ext_getElem? fun j=> ?_;rw[List.getElem?_set];split
 ·rename_i e;subst e;rw[if_pos (zqe hi).1,hi]
 ·rfl
theorem VI{a Z b:List S}{z r:S}:((a++z::Z++b).map V.str).take (a.length*1)++[V.str r]++((a++z::Z++b).map V.str).drop (a.length*1+1)=(a++r::Z++b).map V.str:=by
 have e:(a++z::Z++b).map V.str=a.map V.str++(V.str z::(Z++b).map V.str):=by simp
 have e2:(a++r::Z++b).map V.str=a.map V.str++(V.str r::(Z++b).map V.str):=by simp
 have hl:a.length=(a.map V.str).length:=by rw[zra]
 rw[Nat.mul_one,e,e2,hl,List.take_left,List.drop_length_add_append,zqc];rfl
theorem VJ{a Z b:List S}{x:S}{j:Nat}(h:a.length+Z.length=j)(d:V):((a++Z++x::b).map V.str).getD j d= .str x:=by
 have hj:j=(a++Z).length:=by rw[zqa];omega
 rw[zqg,zqo,hj,zsb (zrb _),Nat.sub_self];rfl
theorem Fq[MO]{h:H}{id:Nat}{rows:List S}(hid:h[id]? =some (.cells (rows.map V.str)))(hl:rows.length<=1000000)(q:FuncId)(caps:List V)(p:S->Bool)(he:ah P q=true)(hd:V.dats caps=true)(hq:∀x∈rows,Ev TE q (.str x::caps) (.bool (p x)))
 {R:AEnd->H->(Nat->Bool)->Prop} (hr:∀X cap,R (.ret (.ls id 1 0 (rows.filter fun r=> !p r).length cap)) (h.set id (.cells ((rows.filter fun r=> !p r).map V.str++X))) (fun _=>false)) :
 ag TE 219 [.ls id 1 0 rows.length rows.length,.fn (.func q) [] caps] h R:=by
 have hM:=mLx;have hix:=NQ rows q caps p he hd hq;have lid:=(zqe hid).1;refine aj Tryz.func219 rfl (by simp[nts]) ?_;refine vn ?_;simp only[wq.1,seval,Tryz.results219];refine vn ?_;simp only[wq.1,seval];refine ag.lend hix (ay.cons (aV hid rfl) (ay.cons (aG.dat (by simp only[V.dat,hd,V.dats,zre])) ay.nil)) rfl ?_;simp only[wq.1,seval];have hidx:idx rows p=match rows.findIdx? p with|some i=>(i:Int)|none=>-1:=rfl
 rw[hidx];cases hfi:rows.findIdx? p with
 |none =>
  have hall:rows.filter (fun r=> !p r)=rows:=List.filter_eq_self.2 fun a ha=>by rw[List.findIdx?_eq_none_iff]at hfi;rw[hfi a ha];rfl
  have e1:((-1:Int)==-1)=true:=rfl;dsimp only;refine vm ?_;simp only[wq.1,seval];have:=hr [] rows.length;rw[hall,zqp,Fp hid]at this;exact this
 |some i =>
  obtain⟨hi,hpi,hlt⟩:=List.findIdx?_eq_some_iff_getElem.1 hfi;have e1:((i:Int)==-1)=false:=by rw[beq_eq_false_iff_ne];omega
  have wi:=aB (show i<maxLen by omega);dsimp only;refine vn ?_;simp only[wq.1,seval,e1];refine vn ?_;simp only[wq.1,seval,wi];obtain⟨K,eK⟩:∃K:Nat->List S,K=fun j=>(rows.take j).filter fun r=> !p r:=⟨_,rfl⟩;have hK0:K (i+1)=rows.take i:=by
   rw[eK];show(rows.take (i+1)).filter _=_;rw[List.take_succ_eq_append_getElem hi,List.filter_append,List.filter_eq_self.2 fun a ha=> ?_]
   ·simp[hpi]
   ·obtain⟨k,hk,rfl⟩:=List.mem_take_iff_getElem.1 ha;have:=hlt k (by omega);simpa using this
  have hKs:∀j (hj:j<rows.length),K (j+1)=K j++(if p rows[j]=true then []else [rows[j]]):=fun j hj=>by
   rw[eK];show(rows.take (j+1)).filter _=_;rw[List.take_succ_eq_append_getElem hj,List.filter_append]
   congr 1
   cases hp:p rows[j]<;>simp[hp]
  have hKl:∀j,(K j).length<=j:=fun j=>by rw[eK];exact Nat.le_trans (List.length_filter_le _ _) (by rw[zrl];omega)
  refine aC (fun m f h'=>∃j Z,m+j=rows.length/\j<=rows.length/\(K j).length+(Z.length+1)=j/\(∃z,h'=h.set id (.cells ((K j++z::Z++rows.drop j).map V.str)))/\f.t 0= .ls id 1 0 rows.length rows.length/\f.t 1= .fn (.func q) [] caps/\f.t 5=vi (K j).length/\f.t 6=vi j/\f.d=[]/\(∀j,f.k j=false)) (rows.length-(i+1)) ⟨i+1,[],by omega,by omega,by rw[hK0,zrl];simp;omega,⟨rows[i],?_⟩,by simp only[wq.1,seval],by simp only[wq.1,seval],?_,by simp only[wq.1,↓reduceIte],by simp only[wq.1],fun _=>rfl⟩ ?_
  ·rw[hK0];have:rows.take i++rows[i]::[]++rows.drop (i+1)=rows:=by
    rw[zqc];show rows.take i++(rows[i]::rows.drop (i+1))=rows;rw[<-List.drop_eq_getElem_cons hi,List.take_append_drop]
   rw[this,Fp hid]
  ·simp only[wq.1,seval];rw[hK0,zrl,Nat.min_eq_left (by omega)]
  rintro m f h' ⟨j,Z,hm,hjl,hKZ,⟨z,rfl⟩,t0,t1,t5,t6,hfd,hk⟩;have hkf:f.k=fun _=>false:=funext hk;have hw:=aB (show j<maxLen by omega);have hk':=hKl j;have wk:=aB (show(K j).length<maxLen by omega);have hset:∀o o':O,(h.set id o).set id o'=h.set id o':=fun o o'=>List.set_set ..;have hget:∀o:O,(h.set id o)[id]? =some o:=fun o=>zqt lid;obtain⟨C,eC⟩:∃C,C=(K j++z::Z++rows.drop j).map V.str:=⟨_,rfl⟩;have hCl:C.length=rows.length:=by
   rw[eC];simp only[zra,zqa,zrt,List.length_drop];omega
  rw[<-eC];refine vn ?_;simp only[wq.1,seval,t0,t6];refine vcB.mk (fun hc=> ?_) (fun hc=> ?_)
  ·have hjl:j<rows.length:=by have:=zqs hc;omega
   have hdr:=List.drop_eq_getElem_cons hjl;have hmid:=VJ (a:=K j) (Z:=z::Z) (x:=rows[j]) (b:=rows.drop (j+1)) (j:=j) (by simp only[zrt];exact hKZ) .any;rw[<-hdr,<-eC]at hmid;have hm1:C.getD (j*1) .any= .str rows[j]:=by rw[Nat.mul_one];exact hmid
   have hKj:=hKs j hjl;have hqj:=hq rows[j] (zqu hjl);simp only[wq.1];refine vm ?_;simp only[wq.1,seval,t0,t1,t6,hget,hm1,he];refine⟨⟨by omega,by omega⟩,by omega,ag.ev hqj (by simp only[V.dats,V.dat,hd,zre]) ?_⟩;cases hp:p rows[j]with
   |true=>rw[hp,if_pos rfl,zqp]at hKj;simp only[wq.1,seval,t6,hw];refine .inl ⟨m-1,by omega,j+1,Z++[rows[j]],by omega,by omega,by rw[hKj];simp;omega,⟨z,?_⟩,by simp only[wq.1,seval,t0],by simp only[wq.1,seval,t1],by simp only[wq.1,seval,t5,hKj],by simp only[wq.1,↓reduceIte],by simp only[wq.1,hfd],fun i=>by simp only[wq.1,hk]⟩;rw[hKj,eC,hdr];simp only[zqc,List.cons_append,List.nil_append,zql,zrd,List.map_nil]
   |false =>
    rw[hp,if_neg (by decide)]at hKj;have hst:=VI (a:=K j) (z:=z) (Z:=Z) (b:=rows.drop j) (r:=rows[j]);rw[<-eC]at hst;simp only[wq.1,seval,t0,t5,t6,hw,wk,hget];refine⟨⟨by omega,by omega⟩,by omega,?_⟩;refine .inl ⟨m-1,by omega,j+1,?_⟩;cases Z with
    |nil=>refine⟨[],by omega,by omega,by rw[hKj];simp at hKZ ⊢;omega,⟨rows[j],?_⟩,by simp only[wq.1,seval,t0],by simp only[wq.1,seval,t1],by simp only[wq.1,seval,hKj],by simp only[wq.1,↓reduceIte],by simp only[wq.1,hfd],fun i=>by simp only[wq.1,hk]⟩;rw[hset,hst,hKj,hdr];simp only[zqc,List.cons_append,List.nil_append,zql,zrd,List.map_nil]
    |cons y Z=>refine⟨Z++[rows[j]],by omega,by omega,by rw[hKj];simp at hKZ ⊢;omega,⟨y,?_⟩,by simp only[wq.1,seval,t0],by simp only[wq.1,seval,t1],by simp only[wq.1,seval,hKj],by simp only[wq.1,↓reduceIte],by simp only[wq.1,hfd],fun i=>by simp only[wq.1,hk]⟩;rw[hset,hst,hKj,hdr];simp only[zqc,List.cons_append,List.nil_append,zql,zrd,List.map_nil]
  ·have hjl:j=rows.length:=by have:=of_decide_eq_false hc;omega
   have hKf:K j=rows.filter fun r=> !p r:=by rw[eK,hjl];show(rows.take rows.length).filter _=_;rw[zrx]
   simp only[wq.1];refine ai (iT ?_);refine az rfl rfl ?_;simp only[wq.1,seval,t0];refine az rfl rfl ?_;simp only[wq.1,seval,t5];refine az rfl rfl ?_;simp only[wq.1,seval];refine⟨⟨by omega,by omega⟩,?_⟩;refine eX rfl rfl ?_;refine Nw (t:=23) (el:=9) (q:=⟨.slice 9,1,24,.nils⟩) (re:=⟨.str,1,16,.str []⟩) (cs0:=C) (id:=id) (off:=(K j).length*1) (len:=rows.length-(K j).length) (cap:=rows.length-(K j).length) rfl rfl (by simp only[wq.1]) rfl (by simp only[wq.1]) (by simp only[wq.1,↓reduceIte]) (by simp only[wq.1,↓reduceIte]) (hget _) (by rw[hCl];omega) rfl rfl rfl ?_;refine dX ?_;rw[hset];have hsp:dm C ((K j).length*1) (List.replicate (rows.length-(K j).length) (V.str []))=(rows.filter fun r=> !p r).map V.str++List.replicate (rows.length-(K j).length) (V.str []):=by
    unfold dm;rw[Nat.mul_one,zsc,List.drop_of_length_le (by omega),zqp,eC];have e:(K j++z::Z++rows.drop j).map V.str=(K j).map V.str++(z::Z++rows.drop j).map V.str:=by rw[zqc,zql]
    have hl:(K j).length=((K j).map V.str).length:=by rw[zra]
    rw[e,List.take_left' hl.symm,hKf]
   show XE.seq _ _ _ _ (h.set id (.cells (dm C ((K j).length*1) (List.replicate (rows.length-(K j).length) (V.str [])))));rw[hsp];have hfin:=hr (List.replicate (rows.length-(K j).length) (V.str [])) rows.length;rw[<-hKf]at hfin ⊢;show awp _ _ _ _ _ _ _;refine vm ?_;simp only[wq.1,seval,t0,t5,hfd,hkf];exact⟨⟨by omega,.inl (by omega)⟩,hfin⟩
theorem Fz[MO](n:Nat)(hn:n<=1000000)(h:H)(R:AEnd->H->(Nat->Bool)->Prop)(hr0:n=0->R (.ret .nils) h (fun _=>false))
 (hr:0<n->R (.ret (.ls h.length 3 0 0 0)) (h++[.cells []]) (fun _=>false)):ag TE 265 [.nils,vi n] h R:=by
 refine aj Tryz.func265 rfl (by simp[nts]) ?_;refine vn ?_;simp only[wq.1,Nat.reduceLT,Tryz.results265];refine ai ?_;refine vm ?_;simp only[wq.1,seval];refine vcB.mk (fun hc=> ?_) (fun hc=> ?_)
 ·simp only[zqb]at hc;omega
 simp only[wq.1];refine ai (ai (iT ?_));refine az rfl rfl ?_;simp only[wq.1,seval];refine az rfl rfl ?_;simp only[wq.1,seval];refine eX rfl rfl ?_;have hq:ti TE.P 151=some ⟨.slice 155,1,24,.nils⟩:=by simp only[wq.1]
 have hqe:ti TE.P 155=some ⟨.struct [(0,3),(1,3),(2,3)],3,24,.agg [vi 0,vi 0,vi 0]⟩:=by simp only[wq.1]
 have hqi:ti TE.P 3=some ⟨.int .i64,1,8,.int .i64 0⟩:=by simp only[wq.1]
 refine kM (t:=151) rfl rfl hq rfl trivial rfl ?_;refine az rfl rfl ?_;simp only[wq.1,seval];refine az rfl rfl ?_;simp only[wq.1,↓reduceIte];refine az rfl rfl ?_;simp only[wq.1,seval];refine az rfl rfl ?_;simp only[wq.1,seval];refine az rfl rfl ?_;simp only[wq.1,↓reduceIte];have w0:IntKind.i64.wrap 0=0:=by decide
 have w1:IntKind.i64.wrap ((n:Int)-0)=n:=by rw[Int.sub_zero];exact iL (by omega) (by omega)
 refine dX ?_;simp only[wq.1,w0,w1];refine ai ?_;refine vm ?_;simp only[wq.1,seval];refine bF (b:=decide ((0:Int)<n)) (by simp only[wq.1,↓reduceIte]) (by simp only[wq.1,↓reduceIte]) (fun hb=> ?_) (fun hb=> ?_)
 ·have hpos:0<n:=by simp only[zqb]at hb;omega
  refine iT ?_;refine az rfl rfl ?_;simp only[wq.1,seval];refine az rfl rfl ?_;simp only[wq.1,seval];refine eX rfl rfl ?_;refine kM (t:=151) rfl rfl hq rfl trivial rfl ?_;refine eX rfl rfl ?_;refine qH rfl hq rfl hqe (by simp only[wq.1,seval]) (by simp only[wq.1,seval]) (by simp only[wq.1,↓reduceIte]) (k:= .i64) (by simp only[wq.1,↓reduceIte]) ?_;refine az rfl rfl ?_;simp only[wq.1,seval];refine eX rfl rfl ?_;refine wB (x:= .tmp 20) (y:= .tmp 21) (t:=151) (xt:=3) (el:=155) ⟨⟨_,rfl,rfl,rfl⟩,hq,rfl,hqe,rfl,rfl,by decide⟩ (by simp only[wq.1,seval]) (by simp only[wq.1,↓reduceIte]) (by simp only[wq.1,seval]) (by simp only[wq.1,↓reduceIte]) hqi rfl hpos (by omega) ?_ (by decide) ?_
  ·show n*24<=_;omega
  refine az rfl rfl ?_;simp only[wq.1,seval];refine az rfl rfl ?_;simp only[wq.1,↓reduceIte,Nat.reduceEqDiff,Nat.reduceLT,Nat.reduceLeDiff,Nat.reduceAdd,Nat.reduceSub,Int.reduceToNat,Nat.reduceDiv,Int.reduceLT,Int.reduceLE,Int.reduceNeg,Int.reduceBEq,Int.reduceBNe,Int.reduceAdd,Int.reduceSub,Nat.reduceBEq,reduceCtorEq,Nat.reduceMul,au,Tryz.results265];refine az rfl rfl ?_;simp only[wq.1,↓reduceIte,Nat.reduceEqDiff,Nat.reduceLT,Nat.reduceLeDiff,Nat.reduceAdd,Nat.reduceSub,Int.reduceToNat,Nat.reduceDiv,Int.reduceLT,Int.reduceLE,Int.reduceNeg,Int.reduceBEq,Int.reduceBNe,Int.reduceAdd,Int.reduceSub,Nat.reduceBEq,reduceCtorEq,Nat.reduceMul,au,Tryz.results265];refine⟨by omega,?_⟩;refine az rfl rfl ?_;simp only[wq.1,↓reduceIte];refine dX ?_;simp only[wq.1];refine vm ?_;simp only[wq.1,seval];exact hr hpos
 ·have:n=0:=by simp only[zqd]at hb;omega
  refine vm ?_;simp only[wq.1];refine vm ?_;simp only[wq.1,seval];exact hr0 this
theorem rE{ls:List (List Fo)}{i:Nat}(h:i<ls.length):(ls.take i).flatten.length+ls[i].length<=ls.flatten.length:=BQ h
theorem HY[MO](ls:List (List Fo))(hn:ls.flatten.length<=1000000)(hls:ls.length<=1000000):Ev TE 220 [.is true 1 (ls.map nI)] (nI ls.flatten):=by
 have hM:=mLx;have hget:∀ {i:Nat} (h:i<ls.length) (d:V),(ls.map nI).getD i d=nI ls[i]:=fun h d=>fP h d;refine ak Tryz.func220 rfl (by simp[nts]) (vm ?_);simp only[wq.1,seval,Tryz.results220];refine aC (fun m f h=>∃i,m+i=ls.length/\f.t 0= .is true 1 (ls.map nI)/\f.t 3=vi (ls.take i).flatten.length/\f.t 9= .is true 1 (ls.map nI)/\f.t 10=vi ls.length/\f.t 11=vi i/\f.d=[]/\h=[]) ls.length ⟨0,by simp,rfl,rfl,rfl,by simp only[wq.1,seval],rfl,rfl,rfl⟩ ?_;rintro m f h ⟨i,hm,h0,h3,h9,h10,h11,hd,rfl⟩;refine vm ?_;simp only[wq.1,seval,h10,h11];refine vcB.mk (fun hc=> ?_) (fun hc=> ?_)
 ·simp only[zqb,zqi]at hc;have hfl:=rE hc;have hw:IntKind.i64.wrap (((ls.take i).flatten.length:Int)+(ls[i].length:Int))=((ls.take (i+1)).flatten.length:Int):=by
   rw[iD hc,zqa,zQ (by omega) (by omega)];omega
  simp only[wq.1,seval,h3,h9,h11,hget hc,hw];refine⟨⟨by omega,by omega⟩,vcB.mk (fun hc'=> ?_) (fun hc'=> ?_)⟩
  ·simp only[zqb]at hc';omega
  ·simp only[wq.1,seval,h11,aB (show i<maxLen by omega)];exact .inl ⟨m-1,by omega,i+1,by omega,h0,rfl,h9,h10,rfl,hd,rfl⟩
 ·simp only[zqd,zqi]at hc;have hi:ls.take i=ls:=zqh (by omega);rw[hi]at h3;simp only[wq.1,seval,h3];refine Fz ls.flatten.length hn _ _ (fun hz=> ?_) (fun hz=> ?_)
  ·simp only[wq.1,seval,h0];refine gV 6 3 (by simp only[wq.1,seval]) ?_;refine aC (fun m f h=>∃i,m+i=ls.length/\f.t 25= .is true 1 (ls.map nI)/\f.t 26=vi ls.length/\f.t 27=vi i/\f.t 6= .ls 0 3 0 (ls.take i).flatten.length (ls.take i).flatten.length/\f.d=[]/\h=[.cells (foC (ls.take i).flatten)]) ls.length ⟨0,by simp,by simp only[wq.1,seval],by simp only[wq.1,seval],by rfl,by rfl,by simp only[wq.1,hd],rfl⟩ ?_;clear h0 h3 h9 h10 h11 hd;rintro m f h ⟨i,hm,h25,h26,h27,h6,hd,rfl⟩;have dF:∀q,V.drops q (foC (ls.take i).flatten)=foC (ls.take i).flatten:=fun q=>iV _;have hfc:=uU (ls.take i).flatten;refine vm ?_;simp only[wq.1,seval,h26,h27];refine vcB.mk (fun hc=> ?_) (fun hc=> ?_)
   ·simp only[zqb,zqi]at hc;have hfl:=rE hc;have hap:foC (ls.take i).flatten++foC ls[i]=foC (ls.take (i+1)).flatten:=by rw[iD hc,yP]
    have hln:(ls.take i).flatten.length+ls[i].length=(ls.take (i+1)).flatten.length:=by rw[iD hc,zqa]
    simp only[wq.1,seval,h25,h27,h6,hd,hget hc,aB (show i<maxLen by omega),dF,hfc,Hy,iV];refine⟨⟨by omega,by omega⟩,uV _,⟨uh _,by omega,by omega⟩,.inl ⟨m-1,by omega,i+1,by omega,by simp only[wq.1,seval,h25],by simp only[wq.1,seval,h26],by simp only[wq.1,↓reduceIte],by simp only[wq.1,seval,hln],by simp only[wq.1,hd],by rw[hap]⟩⟩
   ·simp only[zqd,zqi]at hc;have hi:ls.take i=ls:=zqh (by omega);rw[hi]at h6 ⊢;simp only[wq.1,seval,h6,hd];exact wU rfl rfl
  ·simp only[wq.1,seval,h0];refine aC (fun m f h=>∃i,m+i=ls.length/\f.t 25= .is true 1 (ls.map nI)/\f.t 26=vi ls.length/\f.t 27=vi i/\f.t 6= .ls 0 3 0 (ls.take i).flatten.length (ls.take i).flatten.length/\f.d=[]/\h=[.cells (foC (ls.take i).flatten)]) ls.length ⟨0,by simp,by simp only[wq.1,seval],by simp only[wq.1,seval],by rfl,by rfl,by simp only[wq.1,hd],rfl⟩ ?_;clear h0 h3 h9 h10 h11 hd;rintro m f h ⟨i,hm,h25,h26,h27,h6,hd,rfl⟩;have dF:∀q,V.drops q (foC (ls.take i).flatten)=foC (ls.take i).flatten:=fun q=>iV _;have hfc:=uU (ls.take i).flatten;refine vm ?_;simp only[wq.1,seval,h26,h27];refine vcB.mk (fun hc=> ?_) (fun hc=> ?_)
   ·simp only[zqb,zqi]at hc;have hfl:=rE hc;have hap:foC (ls.take i).flatten++foC ls[i]=foC (ls.take (i+1)).flatten:=by rw[iD hc,yP]
    have hln:(ls.take i).flatten.length+ls[i].length=(ls.take (i+1)).flatten.length:=by rw[iD hc,zqa]
    simp only[wq.1,seval,h25,h27,h6,hd,hget hc,aB (show i<maxLen by omega),dF,hfc,Hy,iV];refine⟨⟨by omega,by omega⟩,uV _,⟨uh _,by omega,by omega⟩,.inl ⟨m-1,by omega,i+1,by omega,by simp only[wq.1,seval,h25],by simp only[wq.1,seval,h26],by simp only[wq.1,↓reduceIte],by simp only[wq.1,seval,hln],by simp only[wq.1,hd],by rw[hap]⟩⟩
   ·simp only[zqd,zqi]at hc;have hi:ls.take i=ls:=zqh (by omega);rw[hi]at h6 ⊢;simp only[wq.1,seval,h6,hd];exact wU rfl rfl
end Go.Proofs.YthaijohbpdabfaaGreatDoor
