/- Lemmas for this claim, part F04: each holds under what it names. -/
import Derived.Test.YtokppohljajhjaaGreatDoorRF03
import Derived.Test.YtokppohljajhjaaGreatDoorRF01
import Derived.Test.YtokppohljajhjaaGreatDoorRA9
import Derived.Test.YtokppohljajhjaaGreatDoorRA8
set_option linter.all false
set_option maxRecDepth 20000
set_option maxHeartbeats 4000000
namespace Go.Proofs.YtokppohljajhjaaGreatDoor
open Go Go.Proofs Go.Abs
theorem MF[MO](op:Int)(n:Nat)(hn:n<=maxLen):Ev TE 65 [vi op,vi n] (.bool (uX op n)):=by
 have hm:=MO.ins op (.agg [vi 0,vi 0]);by_cases hr:0<=op/\op<=10
 ·rw[if_pos hr]at hm;obtain⟨k,rfl⟩:∃k:Nat,op=k:=⟨op.toNat,by omega⟩;have hk:k<=10:=by omega
  have hv:uX (k:Int) n=(decide ((n:Int)>=if(k:Int)<=1 then 0 else if(k:Int)<=3 then 1 else if(k:Int)<=9 then 2 else 0)&&decide ((n:Int)<=if(k:Int)<=1 then 0 else if(k:Int)<=3 then 1 else 8)):=by
   unfold uX;rw[decide_eq_true (by omega),decide_eq_true (by omega),zsg,Bool.true_and,Bool.true_and];have:k=0\/k=1\/k=2\/k=3\/k=4\/k=5\/k=6\/k=7\/k=8\/k=9\/k=10:=by omega
   rw[Bool.eq_iff_iff];rcases this with rfl|rfl|rfl|rfl|rfl|rfl|rfl|rfl|rfl|rfl|rfl<;>simp[Ce]<;>omega
  rw[hv];refine ah Tryz.func65 rfl (by simp[nts]) (vm ?_);simp only[wq.1,↓reduceIte,Nat.reduceEqDiff,Nat.reduceLT,Nat.reduceLeDiff,Nat.reduceAdd,Int.reduceToNat,Int.reduceLE,reduceCtorEq,Nat.reduceMul,Tryz.results65,gl1,gm,hm];exact⟨by decide,fun _=>by decide,aA.dat rfl⟩
 ·rw[if_neg hr]at hm;have hv:uX op n=false:=by
   unfold uX;by_cases h0:0<=op
   ·rw[decide_eq_false (show ¬op<=10 by omega)];simp
   ·rw[decide_eq_false h0];rfl
  rw[hv];refine ah Tryz.func65 rfl (by simp[nts]) (vm ?_);simp only[wq.1,seval,Tryz.results65,gl1,gm,hm];exact aA.dat rfl
theorem wZ{p:UInt8->Bool}:∀l:S,l.dropWhile p=[]↔∀x∈l,p x=true
 |[]=>by simp
 |a::l=>by
  rw[List.dropWhile_cons];cases h:p a with
  |true=>rw[if_pos rfl,wZ l];simp[h]
  |false=>rw[if_neg (by decide)];simp[h]
theorem yK{p:UInt8->Bool}:∀ {l:S} {a:UInt8} {r:S},l.dropWhile p=a::r->p a=false
 |b::l,a,r,h=>by
  rw[List.dropWhile_cons]at h;split at h
  ·exact yK h
  ·rename_i hb;injection h with h1 _;subst h1;simpa using hb
theorem P7(s cs:S):(Lib.trimS s cs=[])↔∀x∈s,cs.contains x=true:=by
 unfold Lib.trimS Lib.trimLeftS Lib.trimRightS;rw[wZ];constructor
 ·intro h;cases hd:s.reverse.dropWhile (cs.contains ·)with
  |nil=>exact fun x hx=>(wZ _).1 hd x (List.mem_reverse.2 hx)
  |cons a r=>exfalso;have ha:=yK hd;have:=h a (by rw[hd];simp);rw[this]at ha;cases ha
 ·intro h x hx;exact h x (List.mem_reverse.1 ((List.dropWhile_sublist _).mem (List.mem_reverse.1 hx)))
theorem GN(n:Nat)(s:S):(((s.length:Int)==(n:Int))&&Lib.trimS s [48,49,45]==[])=iW n s:=by
 unfold iW
 congr 1
 ·rw[Bool.eq_iff_iff,beq_iff_eq,beq_iff_eq];omega
 ·rw[Bool.eq_iff_iff,beq_iff_eq,P7,zrs];refine forall_congr' fun x=>forall_congr' fun _=> ?_;rw[List.contains_iff_mem];unfold VB;simp[or_assoc]
theorem Tm[MO](s:S)(n:Nat):Ev TE 79 [.str s,vi n] (.bool (iW n s)):=by have ht:=Gy s [48,49,45] (by decide) (by decide);rw[<-GN];refine ah Tryz.func79 rfl (by simp[nts]) (vm ?_);simp only[wq.1,seval,Tryz.results79];refine Bg.ev (q:=112) (vs:=[.str s,.str [48,49,45]]) (by simp only[wq.1,seval]) (by simp only[wq.1,seval]) rfl (fun _=>ht) (fun _=>rfl) ?_;simp only[wq.1,seval];exact eQ rfl rfl
theorem MG[MO](s:S)(g:Ga):Ev TE 78 [.str s,.ip g.v] (.bool (!iW g.ins.length s)):=by have hr:=Tm s g.ins.length;refine ah Tryz.func78 rfl (by simp[nts]) (vm ?_);simp only[wq.1,seval,Tryz.results78];refine ag.ev hr rfl ?_;simp only[wq.1,seval];exact eQ rfl rfl
theorem Rl{g:Ga}{r:List V}(hb:V.bnds (g.v::r)):g.ins.length<=maxLen/\g.rows.length<=maxLen:=by simp only[V.bnds,V.bnd,zra]at hb;exact⟨hb.1.2.2.1.1,hb.1.2.2.2.1.1⟩
theorem GR[MO](g:Ga):Ev TE 41 [g.v] (.bool (fB g)):=by
 refine Ev.bnd fun hb=> ?_;obtain⟨hl1,hl2⟩:=Rl hb;have hh:=MF g.op g.ins.length hl1;have hct:=Md g.rows 78 [.ip g.v] (fun r=> !iW g.ins.length r) rfl (by simp only[V.dats,V.dat,aG,zre]) fun r _=>MG r g;have e1:(g.op != 10&&(decide ((0:Int)<(g.rows.length:Int))||g.off))= !(g.op==10||(g.rows.isEmpty&& !g.off)):=by
  have:decide ((0:Int)<(g.rows.length:Int))= !g.rows.isEmpty:=by cases g.rows<;>simp
  rw[this,bne];cases g.op==10<;>cases g.rows.isEmpty<;>cases g.off<;>rfl
 have e2:g.rows.any (fun r=> !iW g.ins.length r)= !g.rows.all (iW g.ins.length):=by rw[List.not_all_eq_any_not]
 rw[e2]at hct;refine ah Tryz.func41 rfl (by simp[nts]) (vm ?_);simp only[wq.1,seval,Tryz.results41];refine⟨fun h=>⟨h,fun h2=>by rw[h,h2];rfl⟩,vcB.mk (fun hc=> ?_) (fun hc=> ?_)⟩
 ·rw[e1]at hc;have hg:fB g=false:=by
   unfold fB;rw[Bool.not_eq_true']at hc;rw[hc,Bool.false_and]
  rw[hg];simp only[wq.1,seval];exact aA.dat rfl
 ·rw[e1]at hc;have hg:fB g=(uX g.op g.ins.length&&(decide (g.rows.length<=128)&&g.rows.all (iW g.ins.length))):=by
   unfold fB;rw[Bool.not_eq_false']at hc;rw[hc,Bool.true_and]
  have e3:decide ((g.rows.length:Int)<=128)=decide (g.rows.length<=128):=decide_eq_decide.2 (by omega);rw[hg];simp only[wq.1,seval];refine ag.ev hh rfl ?_;cases uX g.op g.ins.length with
  |false=>simp only[wq.1,seval];refine⟨.bool true,?_⟩;simp only[wq.1];exact aA.dat rfl
  |true =>
   cases h128:decide (g.rows.length<=128)with
   |false=>rw[h128]at e3;simp only[wq.1,seval,e3];refine⟨.bool true,?_⟩;simp only[wq.1];exact aA.dat rfl
   |true=>rw[h128]at e3;simp only[wq.1,seval,e3];refine ag.lend hct (au.cons (aA.dat (by simp only[V.dat,aG])) (au.cons (aA.fn au.nil (au.cons (aA.lp rfl (au.dat (by simp only[V.dats,V.dat,aG,zre])) rfl (by simp only[V.dat,V.dats,aG,zre]) (by simp[V.vc]) rfl) au.nil)) au.nil)) rfl ?_;simp only[wq.1,seval];exact eQ rfl (by rw[Bool.not_not])
theorem MH{l:List S}{r:List V}(hb:V.bnds (aV l::r)):l.length<=maxLen:=by simp only[V.bnds,V.bnd,zra]at hb;exact hb.1.1
theorem Tn[MO](a b:List S):Ev TE 36 [aV a,aV b] (.bool (a==b)):=by
 refine Ev.bnd fun hb=> ?_;have hlen:=MH hb;refine ah Tryz.func36 rfl (by simp[nts]) (vm ?_);simp only[wq.1,seval,Tryz.results36];refine vcB.mk (fun hc=> ?_) (fun hc=> ?_)
 ·simp only[wq.1,seval];refine eQ rfl ?_;simp only[bne_iff_ne,ne_eq,Int.natCast_inj]at hc;have:¬a=b:=fun h=>hc (by rw[h]);simp[this]
 ·have hl:a.length=b.length:=by simpa [Int.natCast_inj]using hc
  simp only[wq.1,seval];refine aF (fun m f h=>∃i,m+i=a.length/\f.t 0=aV a/\f.t 1=aV b/\f.t 12= .int .i64 (a.length:Int)/\f.t 13= .int .i64 (i:Int)/\f.d=[]/\a.take i=b.take i) a.length ⟨0,by simp,rfl,rfl,rfl,rfl,rfl,by simp⟩ ?_;rintro m f h ⟨i,hm,h0,h1,h12,h13,hd,hall⟩;refine vm ?_;simp only[wq.1,seval,h12,h13];refine vcB.mk (fun hc=> ?_) (fun hc=> ?_)
  ·simp only[zqb,zqi]at hc;have hc2:i<b.length:=by omega
   simp only[wq.1,seval,h0,h1,h13,Jv hc,Jv hc2];refine⟨by decide +kernel,⟨by omega,by omega⟩,⟨by omega,by omega⟩,vcB.mk (fun hc=> ?_) (fun hc=> ?_)⟩
   ·simp only[wq.1,seval,hd];refine eQ rfl ?_;have:¬a=b:=fun h=>by subst h;simp at hc
    simp[this]
   ·simp only[wq.1,seval,h13,az (show i<maxLen by omega)];exact .inl ⟨m-1,by omega,i+1,by omega,h0,h1,h12,rfl,hd,Lm hall (by omega) (by omega) (by simpa using hc)⟩
  ·simp only[zqd,zqi]at hc;simp only[wq.1,seval,hd];refine eQ rfl ?_;rw[zqh (by omega),zqh (by omega)]at hall;simp[hall]
def U6(a b:Int):Int:=IntKind.u64.wrap ((BitVec.ofInt IntKind.u64.bits a &&& BitVec.ofInt IntKind.u64.bits b).toNat:Int)
def VC(a:Int)(k:Nat):Int:=a.fdiv (2^(min k IntKind.u64.bits))
def VD(a b:Int):Int:=IntKind.u64.wrap (a+b)
def oc1(x:Int):Int:=VD (U6 (VC x 1) 6148914691236517205) (U6 x 6148914691236517205)
def oc2(x:Int):Int:=VD (U6 (VC x 2) 3689348814741910323) (U6 x 3689348814741910323)
def oc3(x:Int):Int:=U6 (VD (VC x 4) x) 1085102592571150095
def oc4(x:Int)(k:Nat):Int:=VD x (VC x k)
theorem VM:∀k:Nat,k<256->IntKind.i64.wrap ((BitVec.ofInt IntKind.i64.bits (IntKind.i64.wrap (oc4 (oc4 (oc4 (oc3 (oc2 (oc1 (k:Int)))) 8) 16) 32)) &&& BitVec.ofInt IntKind.i64.bits 127).toNat:Int)=(qc k:Nat):=by decide +kernel
theorem MI{h:H}(z:Int):fQ P h 183 3 (.int .u64 z)=(True,.int .i64 (IntKind.i64.wrap z)):=by unfold fQ;simp only[tis]
theorem Tq{h:H}(z:Int):fQ P h 3 124 (.int .i64 z)=(True,.int .u64 (IntKind.u64.wrap z)):=by unfold fQ;simp only[tis]
theorem VN{h:H}(z:Int):fQ P h 3 5 (.int .i64 z)=(True,.int .u8 (IntKind.u8.wrap z)):=by unfold fQ;simp only[tis]
theorem VO:∀k:Nat,k<256->IntKind.u64.wrap (k:Int)=k:=by decide +kernel
theorem U7:∀z:Nat,z<256->IntKind.u8.wrap (48+IntKind.u8.wrap (IntKind.i64.wrap ((BitVec.ofInt IntKind.i64.bits (z:Int) &&& BitVec.ofInt IntKind.i64.bits 1).toNat:Int)))=((UInt8.ofNat (48+z%2)).toNat:Int):=by decide +kernel
theorem U8(k j:Nat)(hj:j<=60):(k:Int).fdiv (2^(min j IntKind.i64.bits))=((k/2^j:Nat):Int):=by
 rw[Nat.min_eq_left (show j<=IntKind.i64.bits by show j<=64;omega)];have e:((2:Int)^j)=((2^j:Nat):Int):=by simp
 rw[e,Int.fdiv_eq_ediv_of_nonneg _ (Int.natCast_nonneg _)];rfl
theorem Tt{r:S}{i n:Nat}{z:V}(hi:i<n)(hl:r.length=n):List.take (i*1) ((r.take i).map vb++List.replicate (n-i) z)++[vb (r[i]'(by omega))]++List.drop (i*1+1) ((r.take i).map vb++List.replicate (n-i) z)=(r.take (i+1)).map vb++List.replicate (n-(i+1)) z:=by
 have e1:((r.take i).map vb).length=i:=by rw[zra,zrl];omega
 obtain⟨d,hd⟩:∃d,n-i=d+1:=⟨n-i-1,by omega⟩;rw[show n-(i+1)=d by omega,hd,Nat.mul_one,List.take_append_of_le_length (by omega),zqh (by omega),List.drop_append,e1,List.drop_of_length_le (by omega),show i+1-i=1 by omega,List.replicate_succ,List.drop_succ_cons,List.drop_zero,List.nil_append,List.take_succ_eq_append_getElem (by omega),zql];rfl
theorem GU(n k:Nat):(Cf n k).length=n:=by simp[Cf]
theorem MJ[MO](k:Nat)(hk:k<256):Ev TE 152 [.int .u64 k] (vi (qc k)):=by rw[<-VM k hk];refine ah Tryz.func152 rfl (by simp[nts]) (vm ?_);simp only[wq.1,seval,Tryz.results152,MI];exact eQ rfl rfl
theorem Tu[MO](k:Nat)(hk:k<256):Ev TE 131 [.int .u64 k] (vi (qc k)):=by refine ah Tryz.func131 rfl (by simp[nts]) (vm ?_);simp only[wq.1,seval,Tryz.results131];refine ag.ev (MJ k hk) rfl ?_;simp only[wq.1,seval];exact aA.dat rfl
theorem yL[MO](n:Nat)(odd:Bool):Ev TE 105 [vi n,.bool odd] (.fn (.func 130) [] [.ip (vi n),.ip (.bool odd)]):=by refine ah Tryz.func105 rfl (by simp[nts]) (vm ?_);simp only[wq.1,seval,Tryz.results105];exact aA.fn au.nil (au.cons (aA.lp rfl (au.dat rfl) rfl rfl (by simp[V.vc]) rfl) (au.cons (aA.lp rfl (au.dat rfl) rfl rfl (by simp[V.vc]) rfl) au.nil))
def HPr(L:(Nat->V)->LoopState->Option Code->O)(out:List S)(st:LoopState)(h:H):Prop :=
 ∃t X,t 8= .lp 0 0/\h=[.cells [.ls 1 1 0 out.length out.length],.cells (out.map V.str),.misc .dfd,L t st none]++X
def qp(n:Nat)(odd:Bool)(k:Nat):List S:=((List.range k).filter fun k=>(qc k%2==1)==odd).map (Cf n)
theorem Dl{n:Nat}{odd:Bool}{k:Nat}:qp n odd (k+1)=if((qc k%2==1)==odd)=true then qp n odd k++[Cf n k]else qp n odd k:=by
 unfold qp;rw[List.range_succ,List.filter_append,zql];split
 ·rename_i h;simp[List.filter,h]
 ·rename_i h;simp[List.filter,h]
theorem Af{n:Nat}{odd:Bool}{k:Nat}:(qp n odd k).length<=k:=by unfold qp;rw[zra];exact Nat.le_trans (List.length_filter_le _ _) (by rw[List.length_range];exact zrb _)
theorem qU[MO](L:(Nat->V)->LoopState->Option Code->O)(hL:∀p t st c,(L t st c).drop p=L (fun i=>(t i).drop p) st c)(n:Nat)(odd:Bool)(hn:n<=8)(h:H)(h0:HPr L [] .ready h)
 (step:∀out s h,HPr L out .ready h->out.length<=300->VI TE 3 [.str s] h fun j h'' p=>j=none/\(∀i,i<4->i≠1->p i=false)/\HPr L (out++[s]) .ready h'') :
 ag TE 130 ([]++[.yd 3]++[.ip (vi n),.ip (.bool odd)]) h fun ae h' p=>(∀i,i<4->i≠1->p i=false)/\match ae with
  | .ret _=>HPr L (Jw n odd) .ready h'
  | .pan _=>False:=by
 have hM:=mLx;have hp2:2^n<=256:=Nat.pow_le_pow_right (n:=2) (by decide) hn;have hmin:min n IntKind.i64.bits=n:=Nat.min_eq_left (by show n<=64;omega);obtain⟨N,hN⟩:∃N,N=2^n:=⟨_,rfl⟩;rw[<-hN]at hp2;have w0:IntKind.i64.wrap (1*2^n)=(N:Int):=by
  rw[Int.one_mul];have e:((2:Int)^n)=(N:Int):=by rw[hN];simp
  rw[e];exact iw (by omega) (by omega)
 have hpar:Jw n odd=qp n odd N:=by rw[hN];rfl
 rw[hpar];refine ax Tryz.func130 rfl (by simp[nts]) (vm ?_);simp only[wq.1,seval,Tryz.results130,hmin,w0];refine⟨by omega,?_⟩;refine aF (fun m f h=>∃k,m+k=N/\f.t 0= .yd 3/\f.t 1= .ip (vi n)/\f.t 2= .ip (.bool odd)/\f.t 8=vi N/\f.t 9=vi k/\f.d=[]/\(∀i,i<4->i≠1->f.k i=false)/\HPr L (qp n odd k) .ready h) N ⟨0,by omega,rfl,rfl,rfl,by simp only[wq.1,seval],by simp only[wq.1,↓reduceIte];rfl,rfl,fun _ _ _=>rfl,h0⟩ ?_;clear h0 h;rintro m f h ⟨k,hm,g0,g1,g2,g8,g9,hd,hk,t,X,ht,rfl⟩;have hwk:=az (show k<maxLen by omega)
 -- what lies behind is forgotten
 refine dK (h0:=[.cells [.ls 1 1 0 (qp n odd k).length (qp n odd k).length],.cells ((qp n odd k).map V.str),.misc .dfd,L t .ready none]) (by rw[hd];simp) ?_;have hcl:([.cells [.ls 1 1 0 (qp n odd k).length (qp n odd k).length],.cells ((qp n odd k).map V.str),.misc .dfd,L t .ready none]:H).map (O.drop (Abs.eF 4))=[.cells [.ls 1 1 0 (qp n odd k).length (qp n odd k).length],.cells ((qp n odd k).map V.str),.misc .dfd,L (fun i=>(t i).drop (Abs.eF 4)) .ready none]:=by
  simp only[zrd,List.map_nil,hL];simp only[O.drop,aC];rfl
 show awp _ _ _ _ _ (f.drop (Abs.eF 4)) (([.cells [.ls 1 1 0 (qp n odd k).length (qp n odd k).length],.cells ((qp n odd k).map V.str),.misc .dfd,L t .ready none]:H).map (O.drop (Abs.eF 4)));rw[hcl];obtain⟨out,hout⟩:∃out,out=qp n odd k:=⟨_,rfl⟩;have hol:out.length<=k:=by rw[hout];exact Af
 obtain⟨t',ht'⟩:∃t',t'=fun i=>(t i).drop (Abs.eF 4):=⟨_,rfl⟩;have ht8:t' 8= .lp 0 0:=by rw[ht'];show(t 8).drop _=_;rw[ht];rfl
 rw[<-hout,<-ht'];obtain⟨B,hB⟩:∃B:H,B=[.cells [.ls 1 1 0 out.length out.length],.cells (out.map V.str),.misc .dfd,L t' .ready none]:=⟨_,rfl⟩;have hBl:B.length=4:=by rw[hB];rfl
 have hBX:∀X,HPr L out .ready (B++X):=fun X=>⟨t',X,ht8,by rw[hB]⟩;have hg:∀x:O,(B++[x])[4]? =some x:=fun x=>by rw[hB];rfl
 have hgs:∀x y:O,(B++[x]).set 4 y=B++[y]:=fun x y=>by rw[hB];rfl
 rw[<-hB];obtain⟨f',hf'⟩:∃f',f'=f.drop (Abs.eF 4):=⟨_,rfl⟩;have u0:f'.t 0= .yd 3:=by rw[hf'];show(f.t 0).drop _=_;rw[g0];rfl
 have u1:f'.t 1= .ip (vi n):=by rw[hf'];show(f.t 1).drop _=_;rw[g1];rfl
 have u2:f'.t 2= .ip (.bool odd):=by rw[hf'];show(f.t 2).drop _=_;rw[g2];rfl
 have u8:f'.t 8=vi N:=by rw[hf'];show(f.t 8).drop _=_;rw[g8];rfl
 have u9:f'.t 9=vi k:=by rw[hf'];show(f.t 9).drop _=_;rw[g9];rfl
 have ud:f'.d=[]:=by rw[hf'];exact hd
 have uk:∀i,i<4->i≠1->f'.k i=false:=fun i hi h1=>by rw[hf'];show(f.k i||Abs.eF 4 i)=false;rw[hk i hi h1];simp[Abs.eF];omega
 rw[<-hf'];clear hf' g0 g1 g2 g8 g9 hd hk hcl ht';refine vn ?_;simp only[wq.1,Nat.reduceLT,u8,u9];refine vn ?_;simp only[wq.1,↓reduceIte];refine vcB.mk (fun hlt=> ?_) (fun hlt=> ?_)
 ·have hlt:k<N:=by have:=zqs hlt;omega
  have hps:=Dl (n:=n) (odd:=odd) (k:=k);have hon:=Tu k (by omega);have wu:=VO k (by omega);have hod:(((qc k:Nat):Int).tmod 2==1)=(qc k%2==1):=by rw[Bool.eq_iff_iff,beq_iff_eq,beq_iff_eq,Int.tmod_eq_emod_of_nonneg (by omega)];omega
  simp only[wq.1];refine aj ?_;refine aB ?_;refine vn ?_;simp only[wq.1,seval,u9];refine aj ?_;refine vn ?_;simp only[wq.1,↓reduceIte,Nat.reduceEqDiff,Nat.reduceLT,Nat.reduceLeDiff,Nat.reduceAdd,Nat.reduceSub,Int.reduceToNat,Nat.reduceDiv,Int.reduceLT,Int.reduceLE,Int.reduceNeg,Int.reduceBEq,Int.reduceBNe,Int.reduceAdd,Int.reduceSub,Nat.reduceBEq,reduceCtorEq,Nat.reduceMul,ak,Tryz.results130,u0,u1,u2,u8,u9,ud,Tq,wu];refine⟨by decide +kernel,F8.mk hon rfl rfl ?_⟩;simp only[wq.1,↓reduceIte,Nat.reduceEqDiff,Nat.reduceLT,Nat.reduceLeDiff,Nat.reduceAdd,Nat.reduceSub,Int.reduceToNat,Nat.reduceDiv,Int.reduceLT,Int.reduceLE,Int.reduceNeg,Int.reduceBEq,Int.reduceBNe,Int.reduceAdd,Int.reduceSub,Nat.reduceBEq,reduceCtorEq,Nat.reduceMul,ak,Tryz.results130,u0,u1,u2,u8,u9,ud,hod];refine⟨by decide,?_⟩;obtain⟨b,hb⟩:∃b,b=(qc k%2==1):=⟨_,rfl⟩;rw[<-hb]at hps ⊢;cases hbo:(b==odd)with
  |false =>
   rw[hbo,if_neg (by decide)]at hps;have hne:(b != odd)=true:=by rw[bne,hbo];rfl
   refine vm ?_;simp only[wq.1,↓reduceIte];refine vm ?_;simp only[wq.1,seval,u9,hwk];have hx:=hBX [];rw[zqp]at hx;exact .inl ⟨m-1,by omega,k+1,by omega,by simp only[wq.1,seval,u0],by simp only[wq.1,seval,u1],by simp only[wq.1,seval,u2],by simp only[wq.1,seval,u8],by simp only[wq.1,↓reduceIte],by simp only[wq.1,ud],fun i hi h1=>by simp only[wq.1,uk i hi h1],by rw[hps,<-hout];exact hx⟩
  |true =>
   rw[hbo,if_pos rfl]at hps;have hne:(b != odd)=false:=by rw[bne,hbo];rfl
   refine vm ?_;simp only[wq.1,↓reduceIte];refine vn ?_;simp only[wq.1,seval,u1,hBl];refine⟨⟨by omega,by omega⟩,?_⟩;refine vn ?_;simp only[wq.1,seval];refine aF (fun mm f h=>∃i,mm+i=n/\f.t 0= .yd 3/\f.t 1= .ip (vi n)/\f.t 2= .ip (.bool odd)/\f.t 4=vi k/\f.t 5= .ls 4 1 0 n n/\f.t 8=vi N/\f.t 9=vi k/\f.t 22=vi n/\f.t 23=vi i/\f.d=[]/\(∀i,i<4->i≠1->f.k i=false)/\h=B++[.cells (((Cf n k).take i).map vb++List.replicate (n-i) (.int .u8 0))]) n ⟨0,by omega,by simp only[wq.1,seval,u0],by simp only[wq.1,seval,u1],by simp only[wq.1,seval,u2],by simp only[wq.1,seval],by simp only[wq.1,seval],by simp only[wq.1,seval,u8],by simp only[wq.1,seval,u9],by simp only[wq.1,seval],by simp only[wq.1,↓reduceIte];rfl,by simp only[wq.1,ud],fun i hi h1=>by simp only[wq.1,uk i hi h1],rfl⟩ ?_;clear u0 u1 u2 u8 u9 ud uk;rintro mm f h ⟨i,hmm,u0,u1,u2,u4,u5,u8,u9,u22,u23,ud,uk,rfl⟩;have hwi:=az (show i<maxLen by omega);have hrl:=GU n k;refine vn ?_;simp only[wq.1,Nat.reduceLT,u22,u23];refine vn ?_;simp only[wq.1,↓reduceIte];refine vcB.mk (fun hin=> ?_) (fun hin=> ?_)
   ·have hin:i<n:=by have:=zqs hin;omega
    have w1:IntKind.i64.wrap ((n:Int)-1)=(n:Int)-1:=iw (by omega) (by omega);have w2:IntKind.i64.wrap ((n:Int)-1-i)=((n-1-i:Nat):Int):=by rw[iw (by omega) (by omega)];omega
    have w3:=U8 k (n-1-i) (by omega);have hz:k/2^(n-1-i)<256:=Nat.lt_of_le_of_lt (Nat.div_le_self _ _) (by omega);have w4:=U7 _ hz;obtain⟨z,hzz⟩:∃z,z=k/2^(n-1-i):=⟨_,rfl⟩;rw[<-hzz]at w3 w4;have hrow:(Cf n k)[i]'(by omega)=UInt8.ofNat (48+z%2):=by simp[Cf,hzz]
    simp only[wq.1];refine aj ?_;refine aB ?_;refine vm ?_;simp only[wq.1,seval,u1,u4,u5,u23,w1,w2,w3,w4,VN,hg,hgs];have hfa:=Tt (r:=Cf n k) (z:= .int .u8 0) hin hrl;rw[hrow]at hfa;refine⟨by omega,⟨by omega,by omega⟩,by rw[zrl,zsc];omega,?_⟩;rw[hfa];refine vm ?_;simp only[wq.1,seval,u23,hwi];exact .inl ⟨mm-1,by omega,i+1,by omega,by simp only[wq.1,seval,u0],by simp only[wq.1,seval,u1],by simp only[wq.1,seval,u2],by simp only[wq.1,seval,u4],by simp only[wq.1,seval,u5],by simp only[wq.1,seval,u8],by simp only[wq.1,seval,u9],by simp only[wq.1,seval,u22],by simp only[wq.1,↓reduceIte],by simp only[wq.1,ud],fun i hi h1=>by simp only[wq.1,uk i hi h1],rfl⟩
   ·have hin:i=n:=by have:=of_decide_eq_false hin;omega
    subst hin;rw[Nat.sub_self,List.replicate_zero,zqp,zqh (by omega)]at *;obtain⟨c1,c2⟩:=sS (h:=B++[.cells ((Cf i k).map vb)]) (l:=Cf i k) (k:=4) (cap:=i) (hg _);rw[hrl]at c1 c2;obtain⟨t2,n',ps,asg,body,pend,hLL,hsz,hps2,hw⟩:=step out (Cf i k) (B++[.cells ((Cf i k).map vb)]) (hBX _) (by omega);refine vm ?_;simp only[wq.1,seval,u0,u5,c1,c2,hLL];refine⟨⟨by simpa using hsz,hps2⟩,BF hw ?_⟩;rintro j h' p hp ⟨rfl,hp4,hHD'⟩;refine⟨by simp[Ip,ud],?_⟩;simp only[wq.1,seval,Option.isNone_none];refine vm ?_;simp only[wq.1,seval,u9,hwk];exact .inl ⟨m-1,by omega,k+1,by omega,by simp only[wq.1,seval,u0,hp],by simp only[wq.1,seval,u1],by simp only[wq.1,seval,u2],by simp only[wq.1,seval,u8],by simp only[wq.1,↓reduceIte],by simp only[wq.1,ud],fun i hi h1=>by simp only[wq.1,uk i hi h1,hp4 i hi h1],by rw[hps,<-hout];exact hHD'⟩
 ·have hkN:k=N:=by have:=of_decide_eq_false hlt;omega
  subst hkN;simp only[wq.1,ud];exact⟨uk,by rw[<-hout];have:=hBX [];rwa [zqp]at this⟩
theorem aA.ex{e:E}{h:H}{k:Nat}{es:List V}(hd:V.dat (.is true k es)=true):aA e h (.is true k es) (.is false k es):=fun ok pl w x hs hv=>pW _ _ (aA.dat hd ok pl w x hs hv)
theorem P8(n:Nat)(c:UInt8):Lib.repeatL [c] n=List.replicate n c:=by
 induction n with
 |zero=>rfl
 |succ n ih=>rw[List.replicate_succ,<-ih];rfl
theorem P9[MO](op:Int)(n:Nat)(h0:0<=op)(h10:op<10)(hn:n<=8):Ev TE 66 [vi op,vi n] (.tup [aV (jy op.toNat n).1,.bool (jy op.toNat n).2]):=by
 have hM:=mLx;have hr1:=lC [49] n (by decide) (by omega);have hr0:=lC [48] n (by decide) (by omega);rw[P8]at hr1 hr0;refine ah Tryz.func66 rfl (by simp[nts]) ?_;refine vn ?_;simp only[wq.1,Nat.reduceLT,Tryz.results66];refine vn ?_;simp only[wq.1,seval];refine ag.ev hr1 rfl ?_;simp only[wq.1,seval];refine ag.ev hr0 rfl ?_;simp only[wq.1,seval];have hop:op=0\/op=1\/op=2\/op=3\/op=4\/op=5\/op=6\/op=7\/op=8\/op=9:=by omega
 rcases hop with rfl|rfl|rfl|rfl|rfl|rfl|rfl|rfl|rfl|rfl
 ·refine vm ?_;simp only[wq.1,↓reduceIte,Nat.reduceEqDiff,Nat.reduceLT,Nat.reduceLeDiff,Nat.reduceAdd,Nat.reduceSub,Int.reduceToNat,Nat.reduceDiv,Int.reduceLT,Int.reduceLE,Int.reduceNeg,Int.reduceBEq,Int.reduceBNe,Int.reduceAdd,Int.reduceSub,Nat.reduceBEq,reduceCtorEq,Nat.reduceMul,ak,Tryz.results66];exact aA.tup (au.cons aA.nils (au.cons (aA.dat rfl) au.nil))
 iterate 7
  ·refine vm ?_;simp only[wq.1,↓reduceIte,Nat.reduceEqDiff,Nat.reduceLT,Nat.reduceLeDiff,Nat.reduceAdd,Nat.reduceSub,Int.reduceToNat,Nat.reduceDiv,Int.reduceLT,Int.reduceLE,Int.reduceNeg,Int.reduceBEq,Int.reduceBNe,Int.reduceAdd,Int.reduceSub,Nat.reduceBEq,reduceCtorEq,Nat.reduceMul,ak,Tryz.results66];exact⟨⟨rfl,by decide⟩,aA.tup (au.cons (aA.ex rfl) (au.cons (aA.dat rfl) au.nil))⟩
 ·refine vn ?_;simp only[wq.1,seval];refine vn ?_;simp only[wq.1,Nat.reduceLT];refine iC ?_;refine jG (h':=[.cells [.ls 1 1 0 0 0],.cells []]) (HLe.set (i:=0) (o':= .cells [.ls 1 1 0 0 0]) rfl (OLe.cells (zrb _) (gX.cons eU gX.nil))) ?_;refine vn ?_;simp only[wq.1,seval];refine ag.ev (yL n true) rfl ?_;simp only[wq.1];refine rV (n:=46) (q:=130) (first:=[]) (captured:=[.ip (vi n),.ip (.bool true)]) (by simp only[wq.1,↓reduceIte]) (by simp only[wq.1,↓reduceIte]) rfl (by decide) ?_;intro L hLd gets;refine ag.mono (qU L hLd n true hn _ ⟨_,[],?_,rfl⟩ ?_) ?_
  ·rfl
  ·rintro out s h ⟨t,X,ht,rfl⟩ hol;refine gets _ _ _ t rfl rfl (fun lb=> ?_);have hds:∀p,V.drops p (out.map V.str)=out.map V.str:=fun p=>aC;refine vm ?_;simp only[wq.1,↓reduceIte,Nat.reduceLT,Nat.reduceAdd,Gh];refine⟨t,rfl,?_⟩;refine vm ?_;simp only[wq.1,↓reduceIte,Nat.reduceEqDiff,Nat.reduceLT,Nat.reduceBEq,reduceCtorEq,Nat.reduceMul,ht,BH,XE.jump,hLd];refine⟨⟨rfl,by decide⟩,⟨by omega,by omega,by omega⟩,_,_,rfl,fun i hi h1=>by simpa using h1,fun i=>(t i).drop fun x=>x==1,X.map (O.drop fun x=>x==1),?_,?_⟩
   ·show(t 8).drop _=_;rw[ht];rfl
   ·rw[zql,zqa];rfl
  ·rintro ae h' p ⟨hp4,hr⟩;cases ae with
   |pan v=>exact hr.elim
   |ret v =>
    obtain⟨t,X,ht,rfl⟩:=hr;have k0:=hp4 0 (by omega) (by omega);have k2:=hp4 2 (by omega) (by omega);have k3:=hp4 3 (by omega) (by omega);refine⟨?_,hp4 3 (by omega) (by omega),t,_,none,(by decide),rfl,?_⟩
    ·intro i hi;have hi:i=2:=by simpa [Ip,F9]using hi
     subst hi;exact k2
    ·simp only[wq.1,Nat.reduceAdd,Ko];refine vm ?_;simp only[wq.1,seval,k0];exact aA.tup (au.cons (bu rfl rfl) (au.cons (aA.dat rfl) au.nil))
 ·refine vn ?_;simp only[wq.1,seval];refine vn ?_;simp only[wq.1,Nat.reduceLT];refine iC ?_;refine jG (h':=[.cells [.ls 1 1 0 0 0],.cells []]) (HLe.set (i:=0) (o':= .cells [.ls 1 1 0 0 0]) rfl (OLe.cells (zrb _) (gX.cons eU gX.nil))) ?_;refine vn ?_;simp only[wq.1,seval];refine ag.ev (yL n false) rfl ?_;simp only[wq.1];refine rV (n:=46) (q:=130) (first:=[]) (captured:=[.ip (vi n),.ip (.bool false)]) (by simp only[wq.1,↓reduceIte]) (by simp only[wq.1,↓reduceIte]) rfl (by decide) ?_;intro L hLd gets;refine ag.mono (qU L hLd n false hn _ ⟨_,[],?_,rfl⟩ ?_) ?_
  ·rfl
  ·rintro out s h ⟨t,X,ht,rfl⟩ hol;refine gets _ _ _ t rfl rfl (fun lb=> ?_);have hds:∀p,V.drops p (out.map V.str)=out.map V.str:=fun p=>aC;refine vm ?_;simp only[wq.1,↓reduceIte,Nat.reduceLT,Nat.reduceAdd,Gh];refine⟨t,rfl,?_⟩;refine vm ?_;simp only[wq.1,↓reduceIte,Nat.reduceEqDiff,Nat.reduceLT,Nat.reduceBEq,reduceCtorEq,Nat.reduceMul,ht,BH,XE.jump,hLd];refine⟨⟨rfl,by decide⟩,⟨by omega,by omega,by omega⟩,_,_,rfl,fun i hi h1=>by simpa using h1,fun i=>(t i).drop fun x=>x==1,X.map (O.drop fun x=>x==1),?_,?_⟩
   ·show(t 8).drop _=_;rw[ht];rfl
   ·rw[zql,zqa];rfl
  ·rintro ae h' p ⟨hp4,hr⟩;cases ae with
   |pan v=>exact hr.elim
   |ret v =>
    obtain⟨t,X,ht,rfl⟩:=hr;have k0:=hp4 0 (by omega) (by omega);have k2:=hp4 2 (by omega) (by omega);have k3:=hp4 3 (by omega) (by omega);refine⟨?_,hp4 3 (by omega) (by omega),t,_,none,(by decide),rfl,?_⟩
    ·intro i hi;have hi:i=2:=by simpa [Ip,F9]using hi
     subst hi;exact k2
    ·simp only[wq.1,Nat.reduceAdd,Ko];refine vm ?_;simp only[wq.1,seval,k0];exact aA.tup (au.cons (bu rfl rfl) (au.cons (aA.dat rfl) au.nil))
abbrev gaF(g:Ga):List V:=[.str g.name,vi g.op,aV g.ins,aV g.rows,.bool g.off]
def xf(n:Nat)(rows:List S)(off:Bool)(op:Nat):Bool:=Ce op n&&(off==(jy op n).2&&(jy op n).1==rows)
theorem Tv{n:Nat}{rows:List S}{off:Bool}{i:Nat}(hi:i<10)(hn:∀j,j<i->xf n rows off j=false)(h:xf n rows off i=true):jg n rows off=some i:=by unfold jg;rw[List.find?_eq_some_iff_getElem];refine⟨h,i,by rw[List.length_range];exact hi,by simp,fun j hj=> ?_⟩;have:=hn j hj;unfold xf at this;simp only[List.getElem_range,this];rfl
theorem Tz{n:Nat}{rows:List S}{off:Bool}(hn:∀j,j<10->xf n rows off j=false):jg n rows off=none:=by unfold jg;rw[List.find?_eq_none];intro j hj;have:=hn j (List.mem_range.1 hj);unfold xf at this;simp only[this];decide
theorem Qa{i n:Nat}(hi:i<10):uX (i:Int) n=Ce i n:=by unfold uX;rw[decide_eq_true (by omega),decide_eq_true (by omega),zsg];rfl
theorem Qb{g:Ga}(h:(gY g).op≠10):aU g=gY g:=by unfold aU;rw[if_pos h]
theorem I7{g:Ga}{i:Nat}(h:(gY g).op=10)(hf:jg g.ins.length g.rows g.off=some i):aU g=⟨g.name,i,g.ins,[],false⟩:=by unfold aU;rw[if_neg (fun e=>e h),hf]
theorem I8{g:Ga}(h:(gY g).op=10)(hf:jg g.ins.length g.rows g.off=none):aU g=gY g:=by unfold aU;rw[if_neg (fun e=>e h),hf]
theorem ve[MO](g:Ga):Ev TE 27 [g.v] ((aU g).v):=by
 have hM:=mLx;refine Ev.bnd fun hb=> ?_;obtain⟨hl1,hl2⟩:=Rl hb;refine ah Tryz.func27 rfl (by simp[nts]) ?_;refine vn ?_;simp only[wq.1,Nat.reduceLT,Tryz.results27];refine aj (bi (Q:=fun xe f h=>xe= .normal/\f.t 1= .lp 0 0/\f.t 2= .lp 1 0/\f.d=[]/\h=[.cells (gaF (gY g)),.cells [.str [],vi 0,.nils,.nils,.bool false]]) ?_ ?_)
 ·rintro xe f h ⟨rfl,t1,t2,hd,rfl⟩;show awp _ _ _ _ _ _ _;have ho:(gY g).ins=g.ins/\(gY g).rows=g.rows/\(gY g).off=g.off/\(gY g).name=g.name:=by
   unfold gY
   repeat' split
   all_goals exact⟨rfl,rfl,rfl,rfl⟩
  obtain⟨o,hoo⟩:∃o,o=gY g:=⟨_,rfl⟩;rw[<-hoo]at ho ⊢;obtain⟨o1,o2,o3,o4⟩:=ho;by_cases h10:o.op=10
  ·have e10:(o.op != 10)=false:=by rw[h10];rfl
   have hsome:∀i,jg g.ins.length g.rows g.off=some i->aU g=⟨g.name,i,g.ins,[],false⟩:=fun i hf=>I7 (by rw[<-hoo];exact h10) hf;have hnone:jg g.ins.length g.rows g.off=none->aU g=o:=fun hf=>by rw[hoo];exact I8 (by rw[<-hoo];exact h10) hf
   refine vn ?_;simp only[wq.1,seval,t1,e10];refine vn ?_;simp only[wq.1,Nat.reduceLT];refine aF (fun m f h=>∃i:Nat,m+i=10/\f.t 1= .lp 0 0/\f.t 2= .lp 1 0/\f.t 3=vi i/\f.d=[]/\h=[.cells (gaF o),.cells [.str [],vi 0,.nils,.nils,.bool false]]/\∀j,j<i->xf g.ins.length g.rows g.off j=false) 10 ⟨0,rfl,by simp only[wq.1,seval,t1],by simp only[wq.1,seval,t2],by simp only[wq.1,↓reduceIte];rfl,by simp only[wq.1,hd],rfl,fun j hj=>absurd hj (by omega)⟩ ?_;clear t1 t2 hd;rintro m f h ⟨i,hm,t1,t2,t3,hd,rfl,hall⟩;have hwi:=az (show i<maxLen by omega);refine vn ?_;simp only[wq.1,seval,t3];refine vcB.mk (fun hlt=> ?_) (fun hlt=> ?_)
   ·have hlt:i<10:=by have:=zqs hlt;omega
    have hh:=MF (i:Int) g.ins.length hl1;rw[Qa hlt]at hh;simp only[wq.1];refine aj ?_;refine aB ?_;refine vn ?_;simp only[wq.1,seval,t1,t3,o1];refine ag.ev hh rfl ?_;cases hhn:Ce i g.ins.length with
    |false =>
     have hf:xf g.ins.length g.rows g.off i=false:=by unfold xf;rw[hhn];rfl
     simp only[wq.1,seval];refine vm ?_;simp only[wq.1,seval,t3,hwi];refine .inl ⟨m-1,by omega,i+1,by omega,by simp only[wq.1,seval,t1],by simp only[wq.1,seval,t2],by simp only[wq.1,↓reduceIte],by simp only[wq.1,hd],rfl,fun j hj=> ?_⟩;by_cases hji:j=i
     ·rw[hji];exact hf
     ·exact hall j (by omega)
    |true =>
     have hn8:=zV hhn;have hr:=P9 (i:Int) g.ins.length (by omega) (by omega) (by omega);rw[zsg]at hr;have hq:=Tn (jy i g.ins.length).1 g.rows;have hfe:xf g.ins.length g.rows g.off i=(g.off==(jy i g.ins.length).2&&(jy i g.ins.length).1==g.rows):=by unfold xf;rw[hhn];rfl
     generalize jy i g.ins.length=RB at hr hq hfe;obtain⟨R,B⟩:=RB;dsimp only at hr hq hfe;have hcomm:(B==g.off)=(g.off==B):=by cases B<;>cases g.off<;>rfl
     simp only[wq.1,seval];refine vn ?_;simp only[wq.1,seval,t1,t3,o1];refine ag.ev hr (by simp only[V.dats,V.dat,zre]) ?_;simp only[wq.1,seval];refine vn ?_;simp only[wq.1,seval,t1,o1,o2,o3,hcomm];refine Bg.ev (q:=36) (vs:=[aV R,aV g.rows]) (by simp only[wq.1,seval]) (by simp only[wq.1,seval]) rfl (fun _=>hq) (fun _=>by simp only[V.dats,V.dat,aG,zre]) ?_;simp only[wq.1,seval];rw[<-hfe];cases hfi:xf g.ins.length g.rows g.off i with
     |false =>
      refine vm ?_;simp only[wq.1,↓reduceIte];refine vm ?_;simp only[wq.1,seval,t3,hwi];refine .inl ⟨m-1,by omega,i+1,by omega,by simp only[wq.1,seval,t1],by simp only[wq.1,seval,t2],by simp only[wq.1,↓reduceIte],by simp only[wq.1,hd],rfl,fun j hj=> ?_⟩;by_cases hji:j=i
      ·rw[hji];exact hfi
      ·exact hall j (by omega)
     |true=>rw[hsome i (Tv hlt hall hfi)];refine vm ?_;simp only[wq.1,seval,t1,t2,t3,hd,o1,o4];exact aA.agg (au.cons (aA.dat rfl) (au.cons (aA.dat rfl) (au.cons (aA.dat (by simp only[V.dat,aG])) (au.cons aA.nils (au.cons (aA.dat rfl) au.nil)))))
   ·have hi:i=10:=by have:=of_decide_eq_false hlt;omega
    subst hi;rw[hnone (Tz hall)];refine vm ?_;simp only[wq.1,seval,t1,t2,hd];exact aA.dat (by simp only[V.dat,V.dats,aG,zre])
  ·have e10:(o.op != 10)=true:=by simpa using h10
   rw[Qb (by rw[<-hoo];exact h10),<-hoo];refine vm ?_;simp only[wq.1,seval,t1,t2,hd,e10];exact aA.dat (by simp only[V.dat,V.dats,aG,zre])
 ·have hone:gY g=if g.ins.length=1/\g.rows=[]/\g.off=false then if g.op=4\/g.op=6\/g.op=8 then {g with op:=2} else if g.op=5\/g.op=7\/g.op=9 then {g with op:=3} else g else g:=rfl
  have e1:((((g.ins.length:Int)==1)&&((g.rows.length:Int)==0))&& !g.off)=decide (g.ins.length=1/\g.rows=[]/\g.off=false):=by rw[Bool.eq_iff_iff,zqb];simp only[zqf,beq_iff_eq,Bool.not_eq_true',and_assoc];refine and_congr (by omega) (and_congr ?_ Iff.rfl);rw[show((g.rows.length:Int)=0)↔g.rows.length=0 by omega,List.length_eq_zero_iff]
  refine vn ?_;simp only[wq.1,seval,e1];by_cases hc:g.ins.length=1/\g.rows=[]/\g.off=false
  ·rw[if_pos hc]at hone;rw[decide_eq_true hc];have key:∀k:Int,(g.op==k)=decide (g.op=k):=fun k=>by rw[Bool.eq_iff_iff];simp
   by_cases h4:g.op=4\/g.op=6\/g.op=8
   ·rw[if_pos h4]at hone;rw[hone];rcases h4 with h4|h4|h4
    all_goals
     have a4:(g.op==4)=decide (g.op=4):=key 4;have a6:(g.op==6)=decide (g.op=6):=key 6;have a8:(g.op==8)=decide (g.op=8):=key 8;rw[h4]at a4 a6 a8;refine vm ?_;simp only[wq.1,seval,h4]
   ·rw[if_neg h4]at hone;have b4:(g.op==4)=false:=by simp;omega
    have b6:(g.op==6)=false:=by simp;omega
    have b8:(g.op==8)=false:=by simp;omega
    by_cases h5:g.op=5\/g.op=7\/g.op=9
    ·rw[if_pos h5]at hone;rw[hone];rcases h5 with h5|h5|h5
     all_goals
      refine vm ?_;simp only[wq.1,seval,h5]
    ·rw[if_neg h5]at hone;have b5:(g.op==5)=false:=by simp;omega
     have b7:(g.op==7)=false:=by simp;omega
     have b9:(g.op==9)=false:=by simp;omega
     rw[hone];refine vm ?_;simp only[wq.1,seval,b4,b6,b8,b5,b7,b9]
  ·rw[if_neg hc]at hone;rw[decide_eq_false hc,hone];refine vm ?_;simp only[wq.1,seval]
def at? :List S->S->Option Nat
 |[],_=>none
 |x::l,s=>if x=s then some 0 else(at? l s).map (·+1)
theorem bW(s:S):∀(ks:List S),iP .str (.str s) (ks.map V.str)=some (at? ks s)
 |[]=>rfl
 |k::ks=>by
  simp only[zrd,iP,keq,at?];by_cases h:k=s
  ·subst h;simp
  ·have:(s==k)=false:=by simpa using fun h'=>h h'.symm
   rw[this,bW s ks,if_neg h];cases at? ks s<;>rfl
theorem qV:∀ {l:List S} {s:S} {n:Nat},at? l s=some n->∃h:n<l.length,l[n]=s
 |[],s,n,h=>by cases h
 |x::l,s,n,h=>by
  simp only[at?]at h;split at h
  ·rename_i he;cases h;exact⟨by simp,he⟩
  ·cases hl:at? l s with
   |none=>rw[hl]at h;cases h
   |some k=>rw[hl]at h;cases h;obtain⟨h1,h2⟩:=qV hl;exact⟨by simpa using h1,by simpa using h2⟩
theorem Fb:∀ {l:List S} {s:S},s∈l->∃n,at? l s=some n
 |x::l,s,h=>by
  by_cases hx:x=s
  ·exact⟨0,by simp[at?,hx]⟩
  ·have:s∈l:=by
    rcases zrj.1 h with h|h
    ·exact absurd h.symm hx
    ·exact h
   obtain⟨n,hn⟩:=Fb this;exact⟨n+1,by simp[at?,hx,hn]⟩
theorem Qc{l:List S}{s:S}(h:s∉l):at? l s=none:=by
 cases hh:at? l s with
 |none=>rfl
 |some n=>obtain⟨h1,h2⟩:=qV hh;exact absurd (h2▸zqu h1) h
theorem xg:∀l:List S,(l.map V.str).flatMap V.vc=l.map V.str
 |[]=>rfl
 |a::l=>by rw[zrd,List.flatMap_cons,xg l];rfl
theorem yM[MO](c:List S)(hc:c.length<=1000000):EvF TE 99 [aV c] 1 c.length (c.map V.str):=by
 have hM:=mLx;have ho:=oH c;have hv:=xg c;unfold EvF;refine ax Tryz.func99 rfl (by simp[nts]) (vm ?_);simp only[wq.1,seval,Tryz.results99];intro b hb;cases b with
 |true =>
  have:c=[]:=by simpa using hb rfl
  subst this;simp only[wq.1,↓reduceIte,Nat.reduceLT,reduceCtorEq]
  all_goals try exact .inl ⟨rfl,rfl,rfl⟩
 |false=>simp only[wq.1,↓reduceIte,Nat.reduceEqDiff,Nat.reduceLT,reduceCtorEq,Nat.reduceMul,ho];refine⟨⟨rfl,by decide⟩,⟨by omega,by omega⟩,.inr ⟨0,_,rfl,zrb _,rfl⟩⟩
def yN(e:Int)(s:S):V:= .iface 110 (.agg [vi e,.str s])
theorem iE[MO]{h:H}{R:AEnd->H->(Nat->Bool)->Prop}(b:Bool)(e:Int)(s:S)(ht:b=true->R (.ret (.tup [])) h (fun _=>false))(hf:b=false->R (.pan (yN e s)) h (fun _=>false)):ag TE 55 [.bool b,vi e,.str s] h R:=by
 refine ax Tryz.func55 rfl (by simp[nts]) (vm ?_);cases b with
 |true=>simp only[wq.1,seval,Tryz.results55];exact ht rfl
 |false=>simp only[wq.1,seval,Tryz.results55];exact⟨by simp,hf rfl⟩
structure LimC(c:Ci):Prop where
 ins:c.ins.length<=200
 outs:c.outs.length<=200
 lat:c.lat.length<=200
 gates:c.gates.length<=200
 gins:∀g∈c.gates,g.ins.length<=8
theorem TA{c:Ci}(h:Pm c=true):LimC c:=by unfold Pm at h;simp only[zqf,zqb,Bool.not_eq_true',List.any_eq_false]at h;obtain⟨h1,h2,h3⟩:=h;refine⟨by omega,h2,by omega,by omega,fun g hg=> ?_⟩;have:=h3 g hg;unfold yE at this;simp only[Bool.or_eq_true,zqb,not_or,Nat.not_lt]at this;exact this.1
theorem fF{α:Type}{F:α->List S}{k:Nat}:∀l:List α,(∀x∈l,(F x).length<=k)->(l.flatMap F).length<=l.length*k
 |[],_=>by simp
 |x::l,h=>by have h1:=h x (by simp);have h2:=fF l fun y hy=>h y (by simp[hy]);rw[List.flatMap_cons,zqa,zrt,Nat.succ_mul];omega
theorem lF{α:Type}{F:α->List S}{l:List α}{i:Nat}(h:i<l.length):(l.take (i+1)).flatMap F=(l.take i).flatMap F++F l[i]:=by rw[List.take_succ_eq_append_getElem h,List.flatMap_append];simp
theorem sU{α:Type}{P:α->Prop}{l:List α}{i:Nat}(h:∀x∈l,P x):∀x∈l.take i,P x:=fun x hx=>h x (zsh hx)
def GX:Plan:=tkZ [0,1,5]<| .alt 2 (.alt 3 (.alt 4 (.one 6<| .one 7<| .take 8<| .fin) (.one 6 (.one 4<| .one 7<| .take 8<| .fin))) (.one 6 (onZ [3,4,7]<| .take 8<| .fin))) (.one 6 (onZ [2,3,4,7]<| .take 8<| .fin))
theorem Qd[MO](c:Ci)(hl:LimC c):EvF TE 57 [c.v] 1 (iD c).length ((iD c).map V.str):=by
 have hM:=mLx;obtain⟨l1,l2,l3,l4,l5⟩:=hl;have hL:∀i,((c.lat.take i).flatMap (fun q=>[q.name,q.next])).length<=200*2:=fun i=>Nat.le_trans (fF (k:=2) _ fun x _=>(by simp)) (Nat.mul_le_mul_right _ (by rw[zrl];omega));have hG:∀i,((c.gates.take i).flatMap (fun g=>g.name::g.ins)).length<=200*9:=fun i=>Nat.le_trans (fF (k:=9) _ (sU fun x hx=>by have:=l5 x hx;simp;try omega)) (Nat.mul_le_mul_right _ (by rw[zrl];omega));obtain⟨r0,hr0⟩:∃r0:List S,r0=[c.ins,c.outs].flatten:=⟨_,rfl⟩;have hrl:r0.length<=400:=by rw[hr0];simp;omega
 obtain⟨RL,hRL⟩:∃RL:Nat->List S,RL=fun i=>r0++(c.lat.take i).flatMap (fun q=>[q.name,q.next]):=⟨_,rfl⟩;have R15:RL 0=r0:=by rw[hRL];simp
 have RLl:∀i,(RL i).length<=400+200*2:=fun i=>by have:=hL i;rw[hRL];simp only[zqa];omega
 have RLs:∀i (h:i<c.lat.length),RL (i+1)=RL i++(fun q=>[q.name,q.next]) c.lat[i]:=fun i h=>by rw[hRL];simp only[lF h,zqc]
 obtain⟨RG,hRG⟩:∃RG:Nat->List S,RG=fun i=>RL c.lat.length++(c.gates.take i).flatMap (fun g=>g.name::g.ins):=⟨_,rfl⟩;have R30:RG 0=RL c.lat.length:=by rw[hRG];simp
 have RGl:∀i,(RG i).length<=400+200*2+200*9:=fun i=>by have:=hG i;have:=RLl c.lat.length;rw[hRG];simp only[zqa];omega
 have RGs:∀i (h:i<c.gates.length),RG (i+1)=RG i++(fun g=>g.name::g.ins) c.gates[i]:=fun i h=>by rw[hRG];simp only[lF h,zqc]
 have hdef:RG c.gates.length=iD c:=by rw[hRG,hRL,hr0];simp only[zrx];simp[iD,List.flatMap_singleton',<-List.map_eq_flatMap]
 obtain⟨DD,hDD⟩:∃DD,DD=iD c:=⟨_,rfl⟩;rw[<-hDD]at hdef ⊢;clear hRL hRG hL hG hDD;obtain⟨BX,hBX⟩:∃BX:O,BX= .cells [aV c.ins,aV c.outs,oK c.lat,iZ c.gates]:=⟨_,rfl⟩;have hBd:∀p,BX.drop p=BX:=fun p=>by rw[hBX];rfl
 have hcl:∀(p:Nat->Bool)(row:List S),([BX,.cells (row.map V.str)]:H).map (O.drop p)=[BX,.cells (row.map V.str)]:=fun p row=>by show [BX.drop p,O.cells (V.drops p (row.map V.str))]=_;rw[hBd,aC]
 unfold EvF;refine ax Tryz.func57 rfl (by simp[nts]) ?_;refine vn ?_;simp only[wq.1,Nat.reduceLT,Tryz.results57];refine vn ?_;simp only[wq.1,↓reduceIte,Nat.reduceEqDiff,Nat.reduceLT,Nat.reduceLeDiff,Nat.reduceAdd,reduceCtorEq,Nat.reduceMul];refine⟨⟨rfl,by decide⟩,rZ (EO [c.ins,c.outs] (by simp;omega) (by simp)) (by simp only[V.dats,V.dat,aG,zre]) aG ?_⟩;rw[<-hr0];simp only[wq.1,seval];rw[<-hBX];rw[<-R15];refine aj (bi (Q:=fun xe f h=>xe= .normal/\∃X,f.t 1= .lp 0 0/\f.t 3= .ls 1 1 0 (RL c.lat.length).length (RL c.lat.length).length/\f.d=[]/\h=[BX,.cells ((RL c.lat.length).map V.str)]++X) ?_ ?_)
 ·rintro xe f h ⟨rfl,X,t1,t3,hd,rfl⟩;show awp _ _ _ _ _ _ _;refine aj (bi (Q:=fun xe f h=>xe= .normal/\∃X,f.t 1= .lp 0 0/\f.t 3= .ls 1 1 0 (RG c.gates.length).length (RG c.gates.length).length/\f.d=[]/\h=[BX,.cells ((RG c.gates.length).map V.str)]++X) ?_ ?_)
  ·rintro xe f h ⟨rfl,X,t1,t3,hd,rfl⟩;show awp _ _ _ _ _ _ _;rw[hdef]at t3 ⊢;refine vm ?_;simp only[wq.1,seval,t3,hd];exact .inr ⟨1,_,rfl,zrb _,rfl⟩
  ·rw[<-R30]at t3 ⊢;refine vn ?_;simp only[wq.1,seval,t1,hBX];rw[<-hBX];refine aB ?_;refine aF (fun m f h=>∃(i:Nat)(X:H),m+i=c.gates.length/\i<=c.gates.length/\f.t 1= .lp 0 0/\f.t 3= .ls 1 1 0 (RG i).length (RG i).length/\f.t 30=iZ c.gates/\f.t 31=vi c.gates.length/\f.t 32=vi i/\f.d=[]/\h=[BX,.cells ((RG i).map V.str)]++X) c.gates.length ⟨0,X,by omega,by omega,by simp only[wq.1,seval,t1],by simp only[wq.1,seval,t3],by simp only[wq.1,seval],by simp only[wq.1,seval],by simp only[wq.1,↓reduceIte];rfl,by simp only[wq.1,hd],rfl⟩ ?_;clear t1 t3 hd X;rintro m f h ⟨i,X,hm,hil,t1,t3,t30,t31,t32,hd,rfl⟩;obtain⟨row,hrow⟩:∃row,row=RG i:=⟨_,rfl⟩;have hrwl:row.length<=400+200*2+200*9:=by rw[hrow];exact RGl i
   rw[<-hrow]at t3 ⊢;refine dK (h0:=[BX,.cells (row.map V.str)]) (by rw[hd];simp) ?_;rw[hcl];obtain⟨f',hf'⟩:∃f',f'=f.drop (Abs.eF ([BX,.cells (row.map V.str)]:H).length):=⟨_,rfl⟩;have u1:f'.t 1= .lp 0 0:=by rw[hf'];show(f.t 1).drop _=_;rw[t1];rfl
   have u3:f'.t 3= .ls 1 1 0 row.length row.length:=by rw[hf'];show(f.t 3).drop _=_;rw[t3];rfl
   have u30:f'.t 30=iZ c.gates:=by rw[hf'];show(f.t 30).drop _=_;rw[t30];rfl
   have u31:f'.t 31=vi c.gates.length:=by rw[hf'];show(f.t 31).drop _=_;rw[t31];rfl
   have u32:f'.t 32=vi i:=by rw[hf'];show(f.t 32).drop _=_;rw[t32];rfl
   have ud:f'.d=[]:=by rw[hf'];exact hd
   rw[<-hf'];clear hf' hd t1 t3 t30 t31 t32 X;have hw:=az (show i<maxLen by omega);have dR:∀p,V.drops p (row.map V.str)=row.map V.str:=fun p=>aC;refine vn ?_;simp only[wq.1,Nat.reduceLT,u31,u32];refine vn ?_;simp only[wq.1,↓reduceIte];refine vcB.mk (fun hlt=> ?_) (fun hlt=> ?_)
   ·have hlt:i<c.gates.length:=by have:=zqs hlt;omega
    have hft:=RGs i hlt;rw[<-hrow]at hft;obtain⟨g,hg⟩:∃g,g=c.gates[i]:=⟨_,rfl⟩;have hgg:=uM hlt .any;rw[<-hg]at hgg hft;have hg8:g.ins.length<=8:=by rw[hg];exact l5 _ (zqu hlt)
    have aI:=oH g.ins;have vI:=xg g.ins;simp only[wq.1];refine aj ?_;refine aB ?_;refine vn ?_;simp only[wq.1,↓reduceIte,Nat.reduceEqDiff,Nat.reduceLT,Nat.reduceAdd,u30,u32,hgg,hBX];rw[<-hBX];refine⟨⟨by omega,by omega⟩,?_⟩;refine gQ mixed GX (fun f' h'=>f'.t 1= .lp 0 0/\f'.t 3= .ls 1 1 0 (row++g.name::g.ins).length (row++g.name::g.ins).length/\f'.t 30=iZ c.gates/\f'.t 31=vi c.gates.length/\f'.t 32=vi i/\f'.d=[]/\h'=[BX,.cells ((row++g.name::g.ins).map V.str),O.cells [.str g.name,vi g.op,aV g.ins,aV g.rows,.bool g.off]]) (by rw[show TE.P=P from rfl];decide +kernel) (by decide +kernel) ?_ ?_
    ·simp only[wq.1,↓reduceIte,Nat.reduceEqDiff,Nat.reduceLT,Nat.reduceLeDiff,Nat.reduceAdd,Nat.reduceBEq,reduceCtorEq,Nat.reduceMul,GX,u1,u3,u30,u31,u32,ud];refine⟨⟨rfl,by decide⟩,⟨by omega,by omega,by omega⟩,aI,⟨by omega,aI,by omega,by omega⟩,by rw[Nat.add_assoc,Nat.add_comm 1],?_⟩;rw[hBd,hBd,zqc];rfl
    ·rintro f h ⟨u1,u3,u30,u31,u32,ud,rfl⟩;show awp _ _ _ _ _ _ _;refine vm ?_;simp only[wq.1,seval,u32,hw];refine .inl ⟨m-1,by omega,i+1,[O.cells [.str g.name,vi g.op,aV g.ins,aV g.rows,.bool g.off]],by omega,by omega,by simp only[wq.1,seval,u1],by rw[hft];simp only[wq.1,seval,u3],by simp only[wq.1,seval,u30],by simp only[wq.1,seval,u31],by simp only[wq.1,↓reduceIte],by simp only[wq.1,ud],?_⟩;rw[hft,zql];rfl
   ·have hi:i=c.gates.length:=by have:=of_decide_eq_false hlt;omega
    subst hrow;subst hi;simp only[wq.1,seval,u1,u3,ud];exact⟨[],rfl⟩
 ·refine vn ?_;simp only[wq.1,seval,hBX];rw[<-hBX];refine aB ?_;refine aF (fun m f h=>∃(i:Nat)(X:H),m+i=c.lat.length/\i<=c.lat.length/\f.t 1= .lp 0 0/\f.t 3= .ls 1 1 0 (RL i).length (RL i).length/\f.t 15=oK c.lat/\f.t 16=vi c.lat.length/\f.t 17=vi i/\f.d=[]/\h=[BX,.cells ((RL i).map V.str)]++X) c.lat.length ⟨0,[],by omega,by omega,by simp only[wq.1,seval],by simp only[wq.1,seval],by simp only[wq.1,seval],by simp only[wq.1,seval],by simp only[wq.1,↓reduceIte];rfl,by simp only[wq.1],rfl⟩ ?_;rintro m f h ⟨i,X,hm,hil,t1,t3,t30,t31,t32,hd,rfl⟩;obtain⟨row,hrow⟩:∃row,row=RL i:=⟨_,rfl⟩;have hrwl:row.length<=400+200*2:=by rw[hrow];exact RLl i
  rw[<-hrow]at t3 ⊢;refine dK (h0:=[BX,.cells (row.map V.str)]) (by rw[hd];simp) ?_;rw[hcl];obtain⟨f',hf'⟩:∃f',f'=f.drop (Abs.eF ([BX,.cells (row.map V.str)]:H).length):=⟨_,rfl⟩;have u1:f'.t 1= .lp 0 0:=by rw[hf'];show(f.t 1).drop _=_;rw[t1];rfl
  have u3:f'.t 3= .ls 1 1 0 row.length row.length:=by rw[hf'];show(f.t 3).drop _=_;rw[t3];rfl
  have u30:f'.t 15=oK c.lat:=by rw[hf'];show(f.t 15).drop _=_;rw[t30];rfl
  have u31:f'.t 16=vi c.lat.length:=by rw[hf'];show(f.t 16).drop _=_;rw[t31];rfl
  have u32:f'.t 17=vi i:=by rw[hf'];show(f.t 17).drop _=_;rw[t32];rfl
  have ud:f'.d=[]:=by rw[hf'];exact hd
  rw[<-hf'];clear hf' hd t1 t3 t30 t31 t32 X;have hw:=az (show i<maxLen by omega);have dR:∀p,V.drops p (row.map V.str)=row.map V.str:=fun p=>aC;refine vn ?_;simp only[wq.1,Nat.reduceLT,u31,u32];refine vn ?_;simp only[wq.1,↓reduceIte];refine vcB.mk (fun hlt=> ?_) (fun hlt=> ?_)
  ·have hlt:i<c.lat.length:=by have:=zqs hlt;omega
   have hft:=RLs i hlt;rw[<-hrow]at hft;obtain⟨q,hq⟩:∃q,q=c.lat[i]:=⟨_,rfl⟩;have hgg:=Fa hlt .any;rw[<-hq]at hgg hft;simp only[wq.1];refine vn ?_;simp only[wq.1,↓reduceIte,Nat.reduceEqDiff,Nat.reduceLT,Nat.reduceLeDiff,Nat.reduceAdd,reduceCtorEq,Nat.reduceMul,u3,u30,u32,ud,hgg,hBX];rw[<-hBX];refine⟨⟨by omega,by omega⟩,⟨rfl,by decide⟩,⟨by omega,by omega,by omega⟩,?_⟩;refine vm ?_;simp only[wq.1,seval,u32,hw];refine .inl ⟨m-1,by omega,i+1,[O.cells [.str q.name,.str q.next,vi q.init]],by omega,by omega,by simp only[wq.1,seval,u1],by simp only[wq.1,seval,hft],by simp only[wq.1,seval,u30],by simp only[wq.1,seval,u31],by simp only[wq.1,↓reduceIte],by simp only[wq.1,ud],?_⟩;rw[hft,zql];rfl
  ·have hi:i=c.lat.length:=by have:=of_decide_eq_false hlt;omega
   subst hrow;subst hi;simp only[wq.1,seval,u1,u3,ud];exact⟨[],rfl⟩
theorem TB[MO](c:Ci)(hl:LimC c):Ev TE 57 [c.v] (aV (iD c)):=(Qd c hl).ev (fun _ he=>by rw[show aV (iD c)= .is false 1 [] by rw[List.map_eq_nil_iff.1 he];rfl];exact VLe.nils) (fun h' id cap _ hid=>bu hid rfl) (fun _ he _=>by rw[List.map_eq_nil_iff.1 he];exact aA.nils)
theorem Qe[MO](c:Ci)(hl:LimC c):EvF TE 60 [c.v] 1 (di c).length ((di c).map V.str):=by
 have hM:=mLx;obtain⟨l1,l2,l3,l4,l5⟩:=hl;have hL:∀i,((c.lat.take i).flatMap (fun q=>[q.name])).length<=200*1:=fun i=>Nat.le_trans (fF (k:=1) _ fun x _=>(by simp)) (Nat.mul_le_mul_right _ (by rw[zrl];omega));have hG:∀i,((c.gates.take i).flatMap (fun g=>[g.name])).length<=200*1:=fun i=>Nat.le_trans (fF (k:=1) _ (sU fun x hx=>by have:=l5 x hx;simp;try omega)) (Nat.mul_le_mul_right _ (by rw[zrl];omega));obtain⟨r0,hr0⟩:∃r0:List S,r0=c.ins:=⟨_,rfl⟩;have hrl:r0.length<=400:=by rw[hr0];omega
 obtain⟨RL,hRL⟩:∃RL:Nat->List S,RL=fun i=>r0++(c.lat.take i).flatMap (fun q=>[q.name]):=⟨_,rfl⟩;have R12:RL 0=r0:=by rw[hRL];simp
 have RLl:∀i,(RL i).length<=400+200*1:=fun i=>by have:=hL i;rw[hRL];simp only[zqa];omega
 have RLs:∀i (h:i<c.lat.length),RL (i+1)=RL i++(fun q=>[q.name]) c.lat[i]:=fun i h=>by rw[hRL];simp only[lF h,zqc]
 obtain⟨RG,hRG⟩:∃RG:Nat->List S,RG=fun i=>RL c.lat.length++(c.gates.take i).flatMap (fun g=>[g.name]):=⟨_,rfl⟩;have R25:RG 0=RL c.lat.length:=by rw[hRG];simp
 have RGl:∀i,(RG i).length<=400+200*1+200*1:=fun i=>by have:=hG i;have:=RLl c.lat.length;rw[hRG];simp only[zqa];omega
 have RGs:∀i (h:i<c.gates.length),RG (i+1)=RG i++(fun g=>[g.name]) c.gates[i]:=fun i h=>by rw[hRG];simp only[lF h,zqc]
 have hdef:RG c.gates.length=di c:=by rw[hRG,hRL,hr0];simp only[zrx];simp[di,List.flatMap_singleton',<-List.map_eq_flatMap]
 obtain⟨DD,hDD⟩:∃DD,DD=di c:=⟨_,rfl⟩;rw[<-hDD]at hdef ⊢;clear hRL hRG hL hG hDD;obtain⟨BX,hBX⟩:∃BX:O,BX= .cells [aV c.ins,aV c.outs,oK c.lat,iZ c.gates]:=⟨_,rfl⟩;have hBd:∀p,BX.drop p=BX:=fun p=>by rw[hBX];rfl
 have hcl:∀(p:Nat->Bool)(row:List S),([BX,.cells (row.map V.str)]:H).map (O.drop p)=[BX,.cells (row.map V.str)]:=fun p row=>by show [BX.drop p,O.cells (V.drops p (row.map V.str))]=_;rw[hBd,aC]
 unfold EvF;refine ax Tryz.func60 rfl (by simp[nts]) ?_;refine vn ?_;simp only[wq.1,Nat.reduceLT,Tryz.results60];refine vn ?_;simp only[wq.1,seval];refine rZ (yM c.ins (by omega)) (by simp only[V.dats,V.dat,aG,zre]) aG ?_;simp only[wq.1,seval];rw[<-hBX,<-hr0];rw[<-R12];refine aj (bi (Q:=fun xe f h=>xe= .normal/\∃X,f.t 1= .lp 0 0/\f.t 3= .ls 1 1 0 (RL c.lat.length).length (RL c.lat.length).length/\f.d=[]/\h=[BX,.cells ((RL c.lat.length).map V.str)]++X) ?_ ?_)
 ·rintro xe f h ⟨rfl,X,t1,t3,hd,rfl⟩;show awp _ _ _ _ _ _ _;refine aj (bi (Q:=fun xe f h=>xe= .normal/\∃X,f.t 1= .lp 0 0/\f.t 3= .ls 1 1 0 (RG c.gates.length).length (RG c.gates.length).length/\f.d=[]/\h=[BX,.cells ((RG c.gates.length).map V.str)]++X) ?_ ?_)
  ·rintro xe f h ⟨rfl,X,t1,t3,hd,rfl⟩;show awp _ _ _ _ _ _ _;rw[hdef]at t3 ⊢;refine vm ?_;simp only[wq.1,seval,t3,hd];exact .inr ⟨1,_,rfl,zrb _,rfl⟩
  ·rw[<-R25]at t3 ⊢;refine vn ?_;simp only[wq.1,seval,t1,hBX];rw[<-hBX];refine aB ?_;refine aF (fun m f h=>∃(i:Nat)(X:H),m+i=c.gates.length/\i<=c.gates.length/\f.t 1= .lp 0 0/\f.t 3= .ls 1 1 0 (RG i).length (RG i).length/\f.t 25=iZ c.gates/\f.t 26=vi c.gates.length/\f.t 27=vi i/\f.d=[]/\h=[BX,.cells ((RG i).map V.str)]++X) c.gates.length ⟨0,X,by omega,by omega,by simp only[wq.1,seval,t1],by simp only[wq.1,seval,t3],by simp only[wq.1,seval],by simp only[wq.1,seval],by simp only[wq.1,↓reduceIte];rfl,by simp only[wq.1,hd],rfl⟩ ?_;clear t1 t3 hd X;rintro m f h ⟨i,X,hm,hil,t1,t3,t25,t26,t27,hd,rfl⟩;obtain⟨row,hrow⟩:∃row,row=RG i:=⟨_,rfl⟩;have hrwl:row.length<=400+200*1+200*1:=by rw[hrow];exact RGl i
   rw[<-hrow]at t3 ⊢;refine dK (h0:=[BX,.cells (row.map V.str)]) (by rw[hd];simp) ?_;rw[hcl];obtain⟨f',hf'⟩:∃f',f'=f.drop (Abs.eF ([BX,.cells (row.map V.str)]:H).length):=⟨_,rfl⟩;have u1:f'.t 1= .lp 0 0:=by rw[hf'];show(f.t 1).drop _=_;rw[t1];rfl
   have u3:f'.t 3= .ls 1 1 0 row.length row.length:=by rw[hf'];show(f.t 3).drop _=_;rw[t3];rfl
   have u25:f'.t 25=iZ c.gates:=by rw[hf'];show(f.t 25).drop _=_;rw[t25];rfl
   have u26:f'.t 26=vi c.gates.length:=by rw[hf'];show(f.t 26).drop _=_;rw[t26];rfl
   have u27:f'.t 27=vi i:=by rw[hf'];show(f.t 27).drop _=_;rw[t27];rfl
   have ud:f'.d=[]:=by rw[hf'];exact hd
   rw[<-hf'];clear hf' hd t1 t3 t25 t26 t27 X;have hw:=az (show i<maxLen by omega);have dR:∀p,V.drops p (row.map V.str)=row.map V.str:=fun p=>aC;refine vn ?_;simp only[wq.1,Nat.reduceLT,u26,u27];refine vn ?_;simp only[wq.1,↓reduceIte];refine vcB.mk (fun hlt=> ?_) (fun hlt=> ?_)
   ·have hlt:i<c.gates.length:=by have:=zqs hlt;omega
    have hft:=RGs i hlt;rw[<-hrow]at hft;obtain⟨g,hg⟩:∃g,g=c.gates[i]:=⟨_,rfl⟩;have hgg:=uM hlt .any;rw[<-hg]at hgg hft;have hg8:g.ins.length<=8:=by rw[hg];exact l5 _ (zqu hlt)
    have aI:=oH g.ins;have vI:=xg g.ins;simp only[wq.1];refine vn ?_;simp only[wq.1,↓reduceIte,Nat.reduceEqDiff,Nat.reduceLT,Nat.reduceLeDiff,Nat.reduceAdd,reduceCtorEq,Nat.reduceMul,u3,u25,u27,ud,hgg,hBX];rw[<-hBX];refine⟨⟨by omega,by omega⟩,⟨rfl,by decide⟩,⟨by omega,by omega,by omega⟩,?_⟩;refine vm ?_;simp only[wq.1,seval,u27,hw];refine .inl ⟨m-1,by omega,i+1,[O.cells [.str g.name,vi g.op,aV g.ins,aV g.rows,.bool g.off]],by omega,by omega,by simp only[wq.1,seval,u1],by simp only[wq.1,seval,hft],by simp only[wq.1,seval,u25],by simp only[wq.1,seval,u26],by simp only[wq.1,↓reduceIte],by simp only[wq.1,ud],?_⟩;rw[hft,zql]
    all_goals rfl
   ·have hi:i=c.gates.length:=by have:=of_decide_eq_false hlt;omega
    subst hrow;subst hi;simp only[wq.1,seval,u1,u3,ud];exact⟨[],rfl⟩
 ·refine vn ?_;simp only[wq.1,seval,hBX];rw[<-hBX];refine aB ?_;refine aF (fun m f h=>∃(i:Nat)(X:H),m+i=c.lat.length/\i<=c.lat.length/\f.t 1= .lp 0 0/\f.t 3= .ls 1 1 0 (RL i).length (RL i).length/\f.t 12=oK c.lat/\f.t 13=vi c.lat.length/\f.t 14=vi i/\f.d=[]/\h=[BX,.cells ((RL i).map V.str)]++X) c.lat.length ⟨0,[],by omega,by omega,by simp only[wq.1,seval],by simp only[wq.1,seval],by simp only[wq.1,seval],by simp only[wq.1,seval],by simp only[wq.1,↓reduceIte];rfl,by simp only[wq.1],rfl⟩ ?_;rintro m f h ⟨i,X,hm,hil,t1,t3,t25,t26,t27,hd,rfl⟩;obtain⟨row,hrow⟩:∃row,row=RL i:=⟨_,rfl⟩;have hrwl:row.length<=400+200*1:=by rw[hrow];exact RLl i
  rw[<-hrow]at t3 ⊢;refine dK (h0:=[BX,.cells (row.map V.str)]) (by rw[hd];simp) ?_;rw[hcl];obtain⟨f',hf'⟩:∃f',f'=f.drop (Abs.eF ([BX,.cells (row.map V.str)]:H).length):=⟨_,rfl⟩;have u1:f'.t 1= .lp 0 0:=by rw[hf'];show(f.t 1).drop _=_;rw[t1];rfl
  have u3:f'.t 3= .ls 1 1 0 row.length row.length:=by rw[hf'];show(f.t 3).drop _=_;rw[t3];rfl
  have u25:f'.t 12=oK c.lat:=by rw[hf'];show(f.t 12).drop _=_;rw[t25];rfl
  have u26:f'.t 13=vi c.lat.length:=by rw[hf'];show(f.t 13).drop _=_;rw[t26];rfl
  have u27:f'.t 14=vi i:=by rw[hf'];show(f.t 14).drop _=_;rw[t27];rfl
  have ud:f'.d=[]:=by rw[hf'];exact hd
  rw[<-hf'];clear hf' hd t1 t3 t25 t26 t27 X;have hw:=az (show i<maxLen by omega);have dR:∀p,V.drops p (row.map V.str)=row.map V.str:=fun p=>aC;refine vn ?_;simp only[wq.1,Nat.reduceLT,u26,u27];refine vn ?_;simp only[wq.1,↓reduceIte];refine vcB.mk (fun hlt=> ?_) (fun hlt=> ?_)
  ·have hlt:i<c.lat.length:=by have:=zqs hlt;omega
   have hft:=RLs i hlt;rw[<-hrow]at hft;obtain⟨q,hq⟩:∃q,q=c.lat[i]:=⟨_,rfl⟩;have hgg:=Fa hlt .any;rw[<-hq]at hgg hft;simp only[wq.1];refine vn ?_;simp only[wq.1,↓reduceIte,Nat.reduceEqDiff,Nat.reduceLT,Nat.reduceLeDiff,Nat.reduceAdd,reduceCtorEq,Nat.reduceMul,u3,u25,u27,ud,hgg,hBX];rw[<-hBX];refine⟨⟨by omega,by omega⟩,⟨rfl,by decide⟩,⟨by omega,by omega,by omega⟩,?_⟩;refine vm ?_;simp only[wq.1,seval,u27,hw];refine .inl ⟨m-1,by omega,i+1,[O.cells [.str q.name,.str q.next,vi q.init]],by omega,by omega,by simp only[wq.1,seval,u1],by simp only[wq.1,seval,hft],by simp only[wq.1,seval,u25],by simp only[wq.1,seval,u26],by simp only[wq.1,↓reduceIte],by simp only[wq.1,ud],?_⟩;rw[hft,zql];rfl
  ·have hi:i=c.lat.length:=by have:=of_decide_eq_false hlt;omega
   subst hrow;subst hi;simp only[wq.1,seval,u1,u3,ud];exact⟨[],rfl⟩
theorem MK[MO](c:Ci)(hl:LimC c):Ev TE 60 [c.v] (aV (di c)):=(Qe c hl).ev (fun _ he=>by rw[show aV (di c)= .is false 1 [] by rw[List.map_eq_nil_iff.1 he];rfl];exact VLe.nils) (fun h' id cap _ hid=>bu hid rfl) (fun _ he _=>by rw[List.map_eq_nil_iff.1 he];exact aA.nils)
theorem Qg[MO](c:Ci)(hl:LimC c):EvF TE 61 [c.v] 1 (gz c).length ((gz c).map V.str):=by
 have hM:=mLx;obtain⟨l1,l2,l3,l4,l5⟩:=hl;have hL:∀i,((c.lat.take i).flatMap (fun q=>[q.next])).length<=200*1:=fun i=>Nat.le_trans (fF (k:=1) _ fun x _=>(by simp)) (Nat.mul_le_mul_right _ (by rw[zrl];omega));have hG:∀i,((c.gates.take i).flatMap (fun g=>g.ins)).length<=200*8:=fun i=>Nat.le_trans (fF (k:=8) _ (sU fun x hx=>by have:=l5 x hx;simp;try omega)) (Nat.mul_le_mul_right _ (by rw[zrl];omega));obtain⟨r0,hr0⟩:∃r0:List S,r0=c.outs:=⟨_,rfl⟩;have hrl:r0.length<=400:=by rw[hr0];omega
 obtain⟨RL,hRL⟩:∃RL:Nat->List S,RL=fun i=>r0++(c.lat.take i).flatMap (fun q=>[q.next]):=⟨_,rfl⟩;have R12:RL 0=r0:=by rw[hRL];simp
 have RLl:∀i,(RL i).length<=400+200*1:=fun i=>by have:=hL i;rw[hRL];simp only[zqa];omega
 have RLs:∀i (h:i<c.lat.length),RL (i+1)=RL i++(fun q=>[q.next]) c.lat[i]:=fun i h=>by rw[hRL];simp only[lF h,zqc]
 obtain⟨RG,hRG⟩:∃RG:Nat->List S,RG=fun i=>RL c.lat.length++(c.gates.take i).flatMap (fun g=>g.ins):=⟨_,rfl⟩;have R25:RG 0=RL c.lat.length:=by rw[hRG];simp
 have RGl:∀i,(RG i).length<=400+200*1+200*8:=fun i=>by have:=hG i;have:=RLl c.lat.length;rw[hRG];simp only[zqa];omega
 have RGs:∀i (h:i<c.gates.length),RG (i+1)=RG i++(fun g=>g.ins) c.gates[i]:=fun i h=>by rw[hRG];simp only[lF h,zqc]
 have hdef:RG c.gates.length=gz c:=by rw[hRG,hRL,hr0];simp only[zrx];simp[gz,List.flatMap_singleton',<-List.map_eq_flatMap]
 obtain⟨DD,hDD⟩:∃DD,DD=gz c:=⟨_,rfl⟩;rw[<-hDD]at hdef ⊢;clear hRL hRG hL hG hDD;obtain⟨BX,hBX⟩:∃BX:O,BX= .cells [aV c.ins,aV c.outs,oK c.lat,iZ c.gates]:=⟨_,rfl⟩;have hBd:∀p,BX.drop p=BX:=fun p=>by rw[hBX];rfl
 have hcl:∀(p:Nat->Bool)(row:List S),([BX,.cells (row.map V.str)]:H).map (O.drop p)=[BX,.cells (row.map V.str)]:=fun p row=>by show [BX.drop p,O.cells (V.drops p (row.map V.str))]=_;rw[hBd,aC]
 unfold EvF;refine ax Tryz.func61 rfl (by simp[nts]) ?_;refine vn ?_;simp only[wq.1,Nat.reduceLT,Tryz.results61];refine vn ?_;simp only[wq.1,seval];refine rZ (yM c.outs (by omega)) (by simp only[V.dats,V.dat,aG,zre]) aG ?_;simp only[wq.1,seval];rw[<-hBX,<-hr0];rw[<-R12];refine aj (bi (Q:=fun xe f h=>xe= .normal/\∃X,f.t 1= .lp 0 0/\f.t 3= .ls 1 1 0 (RL c.lat.length).length (RL c.lat.length).length/\f.d=[]/\h=[BX,.cells ((RL c.lat.length).map V.str)]++X) ?_ ?_)
 ·rintro xe f h ⟨rfl,X,t1,t3,hd,rfl⟩;show awp _ _ _ _ _ _ _;refine aj (bi (Q:=fun xe f h=>xe= .normal/\∃X,f.t 1= .lp 0 0/\f.t 3= .ls 1 1 0 (RG c.gates.length).length (RG c.gates.length).length/\f.d=[]/\h=[BX,.cells ((RG c.gates.length).map V.str)]++X) ?_ ?_)
  ·rintro xe f h ⟨rfl,X,t1,t3,hd,rfl⟩;show awp _ _ _ _ _ _ _;rw[hdef]at t3 ⊢;refine vm ?_;simp only[wq.1,seval,t3,hd];exact .inr ⟨1,_,rfl,zrb _,rfl⟩
  ·rw[<-R25]at t3 ⊢;refine vn ?_;simp only[wq.1,seval,t1,hBX];rw[<-hBX];refine aB ?_;refine aF (fun m f h=>∃(i:Nat)(X:H),m+i=c.gates.length/\i<=c.gates.length/\f.t 1= .lp 0 0/\f.t 3= .ls 1 1 0 (RG i).length (RG i).length/\f.t 25=iZ c.gates/\f.t 26=vi c.gates.length/\f.t 27=vi i/\f.d=[]/\h=[BX,.cells ((RG i).map V.str)]++X) c.gates.length ⟨0,X,by omega,by omega,by simp only[wq.1,seval,t1],by simp only[wq.1,seval,t3],by simp only[wq.1,seval],by simp only[wq.1,seval],by simp only[wq.1,↓reduceIte];rfl,by simp only[wq.1,hd],rfl⟩ ?_;clear t1 t3 hd X;rintro m f h ⟨i,X,hm,hil,t1,t3,t25,t26,t27,hd,rfl⟩;obtain⟨row,hrow⟩:∃row,row=RG i:=⟨_,rfl⟩;have hrwl:row.length<=400+200*1+200*8:=by rw[hrow];exact RGl i
   rw[<-hrow]at t3 ⊢;refine dK (h0:=[BX,.cells (row.map V.str)]) (by rw[hd];simp) ?_;rw[hcl];obtain⟨f',hf'⟩:∃f',f'=f.drop (Abs.eF ([BX,.cells (row.map V.str)]:H).length):=⟨_,rfl⟩;have u1:f'.t 1= .lp 0 0:=by rw[hf'];show(f.t 1).drop _=_;rw[t1];rfl
   have u3:f'.t 3= .ls 1 1 0 row.length row.length:=by rw[hf'];show(f.t 3).drop _=_;rw[t3];rfl
   have u25:f'.t 25=iZ c.gates:=by rw[hf'];show(f.t 25).drop _=_;rw[t25];rfl
   have u26:f'.t 26=vi c.gates.length:=by rw[hf'];show(f.t 26).drop _=_;rw[t26];rfl
   have u27:f'.t 27=vi i:=by rw[hf'];show(f.t 27).drop _=_;rw[t27];rfl
   have ud:f'.d=[]:=by rw[hf'];exact hd
   rw[<-hf'];clear hf' hd t1 t3 t25 t26 t27 X;have hw:=az (show i<maxLen by omega);have dR:∀p,V.drops p (row.map V.str)=row.map V.str:=fun p=>aC;refine vn ?_;simp only[wq.1,Nat.reduceLT,u26,u27];refine vn ?_;simp only[wq.1,↓reduceIte];refine vcB.mk (fun hlt=> ?_) (fun hlt=> ?_)
   ·have hlt:i<c.gates.length:=by have:=zqs hlt;omega
    have hft:=RGs i hlt;rw[<-hrow]at hft;obtain⟨g,hg⟩:∃g,g=c.gates[i]:=⟨_,rfl⟩;have hgg:=uM hlt .any;rw[<-hg]at hgg hft;have hg8:g.ins.length<=8:=by rw[hg];exact l5 _ (zqu hlt)
    have aI:=oH g.ins;have vI:=xg g.ins;simp only[wq.1];refine vn ?_;simp only[wq.1,seval,u3,u25,u27,ud,hgg,hBX];rw[<-hBX];refine⟨⟨by omega,by omega⟩,aI,⟨by omega,aI,by omega,by omega⟩,?_⟩;refine vm ?_;simp only[wq.1,seval,u27,hw];refine .inl ⟨m-1,by omega,i+1,[O.cells [.str g.name,vi g.op,aV g.ins,aV g.rows,.bool g.off]],by omega,by omega,by simp only[wq.1,seval,u1],by simp only[wq.1,seval,hft],by simp only[wq.1,seval,u25],by simp only[wq.1,seval,u26],by simp only[wq.1,↓reduceIte],by simp only[wq.1,ud],?_⟩;rw[hft,zql]
    all_goals rfl
   ·have hi:i=c.gates.length:=by have:=of_decide_eq_false hlt;omega
    subst hrow;subst hi;simp only[wq.1,seval,u1,u3,ud];exact⟨[],rfl⟩
 ·refine vn ?_;simp only[wq.1,seval,hBX];rw[<-hBX];refine aB ?_;refine aF (fun m f h=>∃(i:Nat)(X:H),m+i=c.lat.length/\i<=c.lat.length/\f.t 1= .lp 0 0/\f.t 3= .ls 1 1 0 (RL i).length (RL i).length/\f.t 12=oK c.lat/\f.t 13=vi c.lat.length/\f.t 14=vi i/\f.d=[]/\h=[BX,.cells ((RL i).map V.str)]++X) c.lat.length ⟨0,[],by omega,by omega,by simp only[wq.1,seval],by simp only[wq.1,seval],by simp only[wq.1,seval],by simp only[wq.1,seval],by simp only[wq.1,↓reduceIte];rfl,by simp only[wq.1],rfl⟩ ?_;rintro m f h ⟨i,X,hm,hil,t1,t3,t25,t26,t27,hd,rfl⟩;obtain⟨row,hrow⟩:∃row,row=RL i:=⟨_,rfl⟩;have hrwl:row.length<=400+200*1:=by rw[hrow];exact RLl i
  rw[<-hrow]at t3 ⊢;refine dK (h0:=[BX,.cells (row.map V.str)]) (by rw[hd];simp) ?_;rw[hcl];obtain⟨f',hf'⟩:∃f',f'=f.drop (Abs.eF ([BX,.cells (row.map V.str)]:H).length):=⟨_,rfl⟩;have u1:f'.t 1= .lp 0 0:=by rw[hf'];show(f.t 1).drop _=_;rw[t1];rfl
  have u3:f'.t 3= .ls 1 1 0 row.length row.length:=by rw[hf'];show(f.t 3).drop _=_;rw[t3];rfl
  have u25:f'.t 12=oK c.lat:=by rw[hf'];show(f.t 12).drop _=_;rw[t25];rfl
  have u26:f'.t 13=vi c.lat.length:=by rw[hf'];show(f.t 13).drop _=_;rw[t26];rfl
  have u27:f'.t 14=vi i:=by rw[hf'];show(f.t 14).drop _=_;rw[t27];rfl
  have ud:f'.d=[]:=by rw[hf'];exact hd
  rw[<-hf'];clear hf' hd t1 t3 t25 t26 t27 X;have hw:=az (show i<maxLen by omega);have dR:∀p,V.drops p (row.map V.str)=row.map V.str:=fun p=>aC;refine vn ?_;simp only[wq.1,Nat.reduceLT,u26,u27];refine vn ?_;simp only[wq.1,↓reduceIte];refine vcB.mk (fun hlt=> ?_) (fun hlt=> ?_)
  ·have hlt:i<c.lat.length:=by have:=zqs hlt;omega
   have hft:=RLs i hlt;rw[<-hrow]at hft;obtain⟨q,hq⟩:∃q,q=c.lat[i]:=⟨_,rfl⟩;have hgg:=Fa hlt .any;rw[<-hq]at hgg hft;simp only[wq.1];refine vn ?_;simp only[wq.1,↓reduceIte,Nat.reduceEqDiff,Nat.reduceLT,Nat.reduceLeDiff,Nat.reduceAdd,reduceCtorEq,Nat.reduceMul,u3,u25,u27,ud,hgg,hBX];rw[<-hBX];refine⟨⟨by omega,by omega⟩,⟨rfl,by decide⟩,⟨by omega,by omega,by omega⟩,?_⟩;refine vm ?_;simp only[wq.1,seval,u27,hw];refine .inl ⟨m-1,by omega,i+1,[O.cells [.str q.name,.str q.next,vi q.init]],by omega,by omega,by simp only[wq.1,seval,u1],by simp only[wq.1,seval,hft],by simp only[wq.1,seval,u25],by simp only[wq.1,seval,u26],by simp only[wq.1,↓reduceIte],by simp only[wq.1,ud],?_⟩;rw[hft,zql];rfl
  ·have hi:i=c.lat.length:=by have:=of_decide_eq_false hlt;omega
   subst hrow;subst hi;simp only[wq.1,seval,u1,u3,ud];exact⟨[],rfl⟩
theorem TC[MO](c:Ci)(hl:LimC c):Ev TE 61 [c.v] (aV (gz c)):=(Qg c hl).ev (fun _ he=>by rw[show aV (gz c)= .is false 1 [] by rw[List.map_eq_nil_iff.1 he];rfl];exact VLe.nils) (fun h' id cap _ hid=>bu hid rfl) (fun _ he _=>by rw[List.map_eq_nil_iff.1 he];exact aA.nils)
end Go.Proofs.YtokppohljajhjaaGreatDoor
