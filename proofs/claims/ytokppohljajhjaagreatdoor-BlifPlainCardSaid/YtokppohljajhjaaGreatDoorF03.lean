/- Lemmas for this claim, part F03: each holds under what it names. -/
import Derived.Test.YtokppohljajhjaaGreatDoorF02
import Derived.Test.YtokppohljajhjaaGreatDoorA10
set_option linter.all false
set_option maxRecDepth 20000
set_option maxHeartbeats 4000000
namespace Go.Proofs.YtokppohljajhjaaGreatDoor
open Go Go.Proofs Go.Abs
theorem uM[MO]:Ev TE 89 [vi 2] (.bool true):=by refine ah Tryz.func89 rfl (by simp[nts]) (vm ?_);simp only[wq.1,seval,Tryz.results89];exact az.dat rfl
theorem wU(cs:S):∀s:S,Lib.containsAny s cs=s.any (cs.contains ·)
 |[]=>rfl
 |c::s=>by
  have ih:=wU cs s;have hg:=Lib.indexAny_ge cs s;unfold Lib.containsAny at ih ⊢;rw[List.any_cons,<-ih];show decide (0<=if cs.contains c then 0 else if Lib.indexAny s cs==-1 then -1 else Lib.indexAny s cs+1)=_;cases cs.contains c with
  |true=>rfl
  |false =>
   rw[if_neg (by decide),Bool.false_or];by_cases h:Lib.indexAny s cs=-1
   ·rw[h];rfl
   ·rw[if_neg (by simpa using h)];exact decide_eq_decide.2 (by omega)
theorem Ji(s:S):(!(s.any (([35,92]:S).contains ·)))= !(s.contains 35||s.contains 92):=by
 congr 1
 rw[Bool.eq_iff_iff];simp only[List.any_eq_true,Bool.or_eq_true,List.contains_iff_mem,zrj,zrp,or_false];constructor
 ·rintro⟨x,hx,rfl|rfl⟩
  ·exact .inl hx
  ·exact .inr hx
 ·rintro(h|h)
  ·exact⟨_,h,.inl rfl⟩
  ·exact⟨_,h,.inr rfl⟩
theorem yE{s:S}(h:bz s=true):s.length<=40:=by unfold bz at h;simp only[zqf,zqb]at h;exact h.2.2
theorem MM[MO](s:S)(h:bz s=true):Ev TE 115 [.str s] (.bool (lC s)):=by
 obtain⟨h1,h2⟩:=FO h;have hl:=yE h;have hlen:0<s.length:=List.length_pos_iff.2 h1;have ha:=Md s [35,92] (by omega) (by decide) (fun b hb=>by
  have:=h2 b hb;unfold gZ at this;simp only[zqf,zqb]at this;omega) (by decide)
 rw[wU]at ha;have e46:((((s.getD 0 0).toNat:Nat):Int) != 46)=(s.getD 0 0 != 46):=Pn _ 46;refine ah Tryz.func115 rfl (by simp[nts]) (vm ?_);simp only[wq.1,seval,Tryz.results115,e46];refine⟨by omega,zf.ev (q:=143) (vs:=[.str s,.str [35,92]]) (by simp only[wq.1,seval]) (by simp only[wq.1,seval]) rfl (fun _=>ha) (fun _=>rfl) ?_⟩;simp only[wq.1,seval];refine dN rfl ?_;rw[Ji];unfold lC
 congr 1
 cases s<;>rfl
theorem Eo[MO](s:S):Ev TE 90 [vi 2,.str s] (.bool (bz s&&lC s)):=by
 have hn:=sH s;refine ah Tryz.func90 rfl (by simp[nts]) (vm ?_);simp only[wq.1,seval,Tryz.results90];refine ag.ev uM rfl ?_;simp only[wq.1,seval];refine ag.ev hn rfl ?_;cases hok:bz s with
 |false=>simp only[wq.1,↓reduceIte,Nat.reduceEqDiff,Nat.reduceLT];exact az.dat rfl
 |true=>simp only[wq.1,↓reduceIte,Nat.reduceEqDiff,Nat.reduceLT,Nat.reduceLeDiff,Nat.reduceAdd,Nat.reduceSub,Int.reduceToNat,Nat.reduceDiv,Int.reduceLT,Int.reduceLE,Int.reduceNeg,Int.reduceBEq,Int.reduceBNe,Int.reduceAdd,Int.reduceSub,Nat.reduceBEq,reduceCtorEq,Nat.reduceMul,aj,Tryz.results90,aX];refine⟨by decide,ag.ev (MM s hok) rfl ?_⟩;simp only[wq.1,↓reduceIte,Nat.reduceLT];exact dN rfl (by simp)
theorem Ro:∀n:Nat,((n:Nat):Int).fdiv (2^(min 4 IntKind.u8.bits))=((n/16:Nat):Int):=fun n=>by show((n:Nat):Int).fdiv 16=_;rw[Int.fdiv_eq_ediv_of_nonneg _ (by decide)];omega
theorem Rq:∀n:Nat,n<256->IntKind.u8.wrap ((BitVec.ofInt IntKind.u8.bits (n:Int) &&& BitVec.ofInt IntKind.u8.bits 15).toNat:Int)=((n%16:Nat):Int):=by decide +kernel
theorem Ap{s:S}{i:Nat}(h:i<s.length):bC (s.take (i+1))=bC (s.take i)++Qp s[i]:=by unfold bC;rw[List.take_succ_eq_append_getElem h,List.flatMap_append,zqc];simp
theorem uN:∀s:S,(bC s).length=3+2*s.length:=fun s=>by
 unfold bC;have:∀s:S,(s.flatMap Qp).length=2*s.length:=fun s=>by
  induction s with
  |nil=>rfl
  |cons c s ih=>rw[List.flatMap_cons,zqa,ih];simp[Qp];omega
 rw[zqa,this];rfl
theorem FU[MO](s:S)(hs:s.length<=1000000):Ev TE 91 [.str s] (.str (bC s)):=by
 have hM:=mLx;refine ah Tryz.func91 rfl (by simp[nts]) ?_;refine vn ?_;simp only[wq.1,seval,Tryz.results91];refine au (iV ?_);refine Cm rfl rfl rfl rfl rfl rfl (by decide) (by decide) (q:=⟨.slice 5,1,24,.nils⟩) (by simp only[wq.1]) rfl (re:=⟨.int .u8,1,1,.int .u8 0⟩) (by simp only[wq.1]) rfl rfl ?_;refine ay rfl rfl ?_;simp only[wq.1,↓reduceIte];refine eP ?_;show awp _ _ _ _ _ _ _;refine vn ?_;simp only[wq.1,seval];refine aK (fun m f h=>∃i,m+i=s.length/\i<=s.length/\f.t 0= .str s/\f.t 3= .ls 0 1 0 (bC (s.take i)).length (bC (s.take i)).length/\f.t 8=vi s.length/\f.t 9=vi i/\f.d=[]/\h=[.cells ((bC (s.take i)).map vb)]) s.length ⟨0,rfl,by omega,by simp only[wq.1,seval],by simp only[wq.1,seval];rfl,by simp only[wq.1,seval],by simp only[wq.1,↓reduceIte];rfl,rfl,rfl⟩ ?_;rintro m f h ⟨i,hm,hil,h0,h3,h8,h9,hd,rfl⟩;have hw:=aB (show i<maxLen by omega);refine vn ?_;simp only[wq.1,Nat.reduceLT,h8,h9];refine vn ?_;simp only[wq.1,↓reduceIte];refine vcB.mk (fun hlt=> ?_) (fun hlt=> ?_)
 ·have hlt:i<s.length:=by have:=zqs hlt;omega
  obtain⟨c,hc⟩:∃c,c=s[i]:=⟨_,rfl⟩;have hgc:s.getD i 0=c:=by rw[hc];exact LD hlt
  have hcl:=c.toNat_lt;have e1:=Ro c.toNat;have e2:=Rq c.toNat hcl;have hst:=Ap hlt;rw[<-hc]at hst;have hsl:=uN (s.take i);have htl:(s.take i).length=i:=by rw[zrl];omega
  obtain⟨T,hT⟩:∃T,T=bC (s.take i):=⟨_,rfl⟩;rw[<-hT]at hst hsl h3 ⊢;have dv:∀p,V.drops p (T.map vb)=T.map vb:=fun p=>ni T;refine au ?_;refine aH ?_;refine vn ?_;simp only[wq.1,↓reduceIte,Nat.reduceEqDiff,Nat.reduceLT,h9];refine IB mixed 12 (.one 12<| .take 13<| .fin) (fun f' h'=>f'.t 0= .str s/\f'.t 3= .ls 0 1 0 (bC (s.take (i+1))).length (bC (s.take (i+1))).length/\f'.t 8=vi s.length/\f'.t 9=vi i/\f'.d=[]/\h'=[.cells ((bC (s.take (i+1))).map vb)]) (by rw[show TE.P=P from rfl];decide +kernel) ?_ ?_
  ·intro K hK;simp only[List.take_succ_cons,List.take_zero];have hx:∀k,([48,49,50,51,52,53,54,55,56,57,97,98,99,100,101,102]:S).getD k 0=Q8 k:=fun k=>rfl;simp only[wq.1,↓reduceIte,Nat.reduceEqDiff,Nat.reduceLT,Nat.reduceLeDiff,Nat.reduceAdd,Int.reduceToNat,Int.reduceLE,reduceCtorEq,Nat.reduceMul,h0,h3,hgc,e1,e2,hx];refine⟨⟨by omega,by omega⟩,⟨by omega,by omega⟩,⟨by omega,by omega⟩,⟨by omega,by omega⟩,⟨rfl,by decide⟩,hK _ ?_⟩;simp only[wq.1,seval,h0,h8,h9,hd,dv];have hmap:T.map vb++[vb (Q8 (c.toNat/16)),vb (Q8 (c.toNat%16))]=(bC (s.take (i+1))).map vb:=by rw[hst,zql];rfl
   have hlen:T.length+2=(bC (s.take (i+1))).length:=by rw[hst,zqa];rfl
   refine⟨⟨by omega,by omega,by omega⟩,by rw[hlen],?_⟩;rw[<-hmap]
  ·rintro f h ⟨h0,h3,h8,h9,hd,rfl⟩;show awp _ _ _ _ _ _ _;refine vm ?_;simp only[wq.1,seval,h9,hw];exact .inl ⟨m-1,by omega,i+1,by omega,by omega,by simp only[wq.1,seval,h0],by simp only[wq.1,seval,h3],by simp only[wq.1,seval,h8],by simp only[wq.1,↓reduceIte],by simp only[wq.1,hd],rfl⟩
 ·have hi:i=s.length:=by have:=of_decide_eq_false hlt;omega
  rw[hi,zrx]at h3 ⊢;obtain⟨e1,e2⟩:=qF (h:=[.cells ((bC s).map vb)]) (l:=bC s) (k:=0) (cap:=(bC s).length) rfl;have hsl:=uN s;refine vm ?_;simp only[wq.1,seval,h3,hd,e1,e2];exact az.dat rfl
theorem yF[MO](s:S):Ev TE 49 [vi 2,.str s] (.tup [.str (spV s),vi (if bz s then 0 else 4)]):=by
 have hn:=sH s;have hL:=Eo s;have hm:=Jb s ww;refine ah Tryz.func49 rfl (by simp[nts]) (vm ?_);simp only[wq.1,seval,Tryz.results49];refine ag.ev hn rfl ?_;unfold spV;cases hok:bz s with
 |false=>simp only[wq.1,seval];exact az.dat rfl
 |true =>
  have hl:=yE hok;have hsp:=FU s (by omega);rw[hok]at hL;simp only[wq.1,seval];refine ag.ev uM rfl ?_;simp only[wq.1,seval];refine⟨.bool true,?_⟩;simp only[wq.1,seval];refine ag.ev hm rfl ?_;have e:o8 s=if(ww.isPrefixOf s|| !lC s)=true then bC s else s:=rfl
  cases hmm:ww.isPrefixOf s with
  |true=>rw[hmm,Bool.true_or,if_pos rfl]at e;simp only[wq.1,seval];refine⟨.bool true,?_⟩;simp only[wq.1,seval];refine ag.ev hsp rfl ?_;simp only[wq.1,seval];rw[e];exact az.dat rfl
  |false =>
   simp only[wq.1,seval];refine ag.ev hL rfl ?_;cases hll:lC s with
   |true=>rw[hmm,hll]at e;simp only[wq.1,seval];have e:o8 s=s:=e;rw[e];exact az.dat rfl
   |false=>rw[hmm,hll]at e;have e:o8 s=bC s:=e;simp only[wq.1,seval];refine ag.ev hsp rfl ?_;simp only[wq.1,seval];rw[e];exact az.dat rfl
theorem PG[MO](s p:S)(hs:s.length<=1000000):Ev TE 159 [.str s,.str p] (.tup [.str (if p.isPrefixOf s=true then s.drop p.length else s),.bool (p.isPrefixOf s)]):=by
 have h:=Ag s p;have h2:Ev TE 172 [.str s,.str p] (.tup [.str (if p.isPrefixOf s=true then s.drop p.length else s),.bool (p.isPrefixOf s)]):=by
  have hpl:p.isPrefixOf s=true->p.length<=s.length:=fun h=>(List.isPrefixOf_iff_prefix.1 h).length_le;refine ah Tryz.func172 rfl (by simp[nts]) (vm ?_);simp only[wq.1,seval,Tryz.results172];refine ag.ev h rfl ?_;cases hp:p.isPrefixOf s with
  |true=>have:=hpl hp;simp only[wq.1,seval];exact⟨by omega,az.dat rfl⟩
  |false=>simp only[wq.1,seval];exact az.dat rfl
 refine ah Tryz.func159 rfl (by simp[nts]) (vm ?_);simp only[wq.1,seval,Tryz.results159];refine ag.ev h2 rfl ?_;simp only[wq.1,seval];exact az.dat rfl
theorem Jj:∀n:Nat,n<256->Lib.indexByte Q7 (UInt8.ofNat n)=yu (UInt8.ofNat n)/\-1<=yu (UInt8.ofNat n)/\yu (UInt8.ofNat n)<=15:=by decide +kernel
theorem PI(n:Int)(h0:-17<=n)(h1:n<=255):V.int .u8 (IntKind.u8.wrap n)=vb (UInt8.ofNat (n%256).toNat):=by
 have:∀k:Nat,k<273->IntKind.u8.wrap ((k:Int)-17)=((UInt8.ofNat (((k:Int)-17)%256).toNat).toNat:Int):=by decide +kernel
 have h:=this (n+17).toNat (by omega);have e:(((n+17).toNat:Nat):Int)-17=n:=by omega
 rw[e]at h;rw[h]
theorem Aq[MO](s:S)(hs:s.length<=1000000):Ev TE 141 [.str s] (.str (gJ s)):=by
 have hM:=mLx;have hcp:=PG s ww hs;obtain⟨u,hu⟩:∃u,u=if ww.isPrefixOf s=true then s.drop 3 else s:=⟨_,rfl⟩
 have hul:u.length<=1000000:=by
  rw[hu];split
  ·rw[List.length_drop];omega
  ·exact hs
 have hV:gJ s=kY u:=by unfold gJ;rw[hu]
 rw[show ww.length=3 from rfl,<-hu]at hcp;rw[hV];refine ah Tryz.func141 rfl (by simp[nts]) ?_;refine vn ?_;simp only[wq.1,seval,Tryz.results141];refine vn ?_;simp only[wq.1,Nat.reduceLT];refine jW 3 1 (by simp only[wq.1,↓reduceIte]) ?_;refine vn ?_;simp only[wq.1,seval];refine ag.ev hcp rfl ?_;simp only[wq.1,seval];refine vn ?_;simp only[wq.1];refine aK (fun m f h=>∃(r b:S),m=r.length/\r.length<=u.length/\kY u=b++kY r/\b.length<=u.length-r.length/\f.t 4= .str r/\f.t 3= .ls 0 1 0 b.length b.length/\f.d=[]/\h=[.cells (b.map vb)]) u.length ⟨u,[],rfl,zrb _,rfl,by simp,by simp only[wq.1,seval],by simp only[wq.1,seval],rfl,rfl⟩ ?_;rintro m f h ⟨r,b,rfl,hru,hub,hbl,h4,h3,hd,rfl⟩;refine vn ?_;simp only[wq.1,seval,h4];refine vcB.mk (fun hlt=> ?_) (fun hlt=> ?_)
 ·obtain⟨x,y,r,rfl⟩:∃x y r',r=x::y::r':=by
   have:=zqs hlt
   match r,this with
   |x::y::r',_=>exact⟨x,y,r',rfl⟩
   |[x],h=>simp at h
   |[],h=>simp at h
  have i1:=Ef Q7 x.toNat x.toNat_lt;have i2:=Ef Q7 y.toNat y.toNat_lt;obtain⟨p1,p2,p3⟩:=Jj x.toNat x.toNat_lt;obtain⟨q1,q2,q3⟩:=Jj y.toNat y.toNat_lt;rw[UInt8.ofNat_toNat]at i1 p1 p2 p3;rw[UInt8.ofNat_toNat]at i2 q1 q2 q3;rw[p1]at i1;rw[q1]at i2;have w1:IntKind.i64.wrap (yu x*16)=yu x*16:=gG (by omega) (by omega);have w2:IntKind.i64.wrap (yu x*16+yu y)=yu x*16+yu y:=gG (by omega) (by omega);have w3:=PI (yu x*16+yu y) (by omega) (by omega);have hun:kY u=(b++[UInt8.ofNat ((yu x*16+yu y)%256).toNat])++kY r:=by rw[hub];simp[kY]
  have dv:∀p,V.drops p (b.map vb)=b.map vb:=fun p=>ni b;simp only[zrt]at hru hbl;refine au ?_;refine aH ?_;refine vn ?_;simp only[wq.1,seval,h4];refine⟨by decide +kernel,by omega,BB.mk i1 rfl rfl ?_⟩;simp only[wq.1,seval,h4];refine⟨by omega,BB.mk i2 rfl rfl ?_⟩;simp only[wq.1,↓reduceIte,Nat.reduceEqDiff,Nat.reduceLT,w1,w2];obtain⟨B,hB⟩:∃B,B=UInt8.ofNat ((yu x*16+yu y)%256).toNat:=⟨_,rfl⟩;rw[<-hB]at hun w3;have hcv:eY P [.cells (b.map vb)] 3 5 (vi (yu x*16+yu y))=(True,vb B):=by rw[<-w3];unfold eY;simp only[tis]
  have hdr:(x::y::r).drop 2=r:=rfl;refine vm ?_;simp only[wq.1,↓reduceIte,Nat.reduceEqDiff,Nat.reduceLT,reduceCtorEq,Nat.reduceMul,h3,hd,hcv,dv];refine⟨⟨rfl,by decide⟩,⟨by omega,by omega,by omega⟩,?_⟩;refine vm ?_;simp only[wq.1,seval,h4];refine⟨by omega,.inl ⟨r.length,by omega,r,b++[B],rfl,by omega,hun,by simp;omega,by simp only[wq.1,↓reduceIte],by simp only[wq.1,seval],by simp only[wq.1,hd],by simp⟩⟩
 ·have hlt2:r.length<2:=by have:=of_decide_eq_false hlt;omega
  have hur:kY r=[]:=by
   match r,hlt2 with
   |[],_=>rfl
   |[_],_=>rfl
   |_::_::_,h=>simp only[zrt]at h;omega
  rw[hur,zqp]at hub;obtain⟨e1,e2⟩:=qF (h:=[.cells (b.map vb)]) (l:=b) (k:=0) (cap:=b.length) rfl;rw[hub];refine vm ?_;simp only[wq.1,seval,h3,hd,e1,e2];exact az.dat rfl
theorem PK[MO](s:S)(hs:s.length<=1000000):Ev TE 113 [vi 2,.str s] (.tup [.str (CP bz s).1,vi (CP bz s).2]):=by
 have hu:=Aq s hs;have hn:=sH s;have hL:=Eo s;obtain⟨u,eu⟩:∃u,u=gJ s:=⟨_,rfl⟩;have hsp:=yF u;unfold CP;rw[<-eu]at hu ⊢;have tail:∀(R:S×Int),R=(if(bz s&&lC s)=true then(s,0)else([],4))->R=R:=fun _ _=>rfl;obtain⟨T,hT⟩:∃T:S×Int,T=(if(bz s&&lC s)=true then(s,0)else([],4)):=⟨_,rfl⟩;rw[<-hT];refine ah Tryz.func113 rfl (by simp[nts]) (vm ?_);simp only[wq.1,seval,Tryz.results113];refine ag.ev uM rfl ?_;simp only[wq.1,seval];refine ag.ev hu rfl ?_;simp only[wq.1,seval];by_cases h0:u=[]
 ·have e0:(u==[])=true:=by rw[h0];rfl
  rw[if_neg (fun h=>h.1 h0)];simp only[wq.1,seval,e0];refine ag.ev hL rfl ?_;cases hok:bz s with
  |false=>rw[hok]at hT hL;have hT:T=([],4):=hT;rw[hT];simp only[wq.1,seval];exact az.dat rfl
  |true =>
   rw[hok]at hT hn;cases hll:lC s with
   |false=>rw[hll]at hT;have hT:T=([],4):=hT;rw[hT];simp only[wq.1,seval];exact az.dat rfl
   |true=>rw[hll]at hT;have hT:T=(s,0):=hT;rw[hT];simp only[wq.1,seval];refine ag.ev hn rfl ?_;simp only[wq.1,seval];exact az.dat rfl
 ·have e0:(u==[])=false:=by simpa using h0
  unfold spV at hsp;simp only[wq.1,seval,e0];refine ag.ev hsp rfl ?_;cases hku:bz u with
  |false =>
   rw[if_neg (fun h=>absurd h.2.1 (by decide))];simp only[wq.1,seval];refine ag.ev hL rfl ?_;cases hok:bz s with
   |false=>rw[hok]at hT hL;have hT:T=([],4):=hT;rw[hT];simp only[wq.1,seval];exact az.dat rfl
   |true =>
    rw[hok]at hT hn;cases hll:lC s with
    |false=>rw[hll]at hT;have hT:T=([],4):=hT;rw[hT];simp only[wq.1,seval];exact az.dat rfl
    |true=>rw[hll]at hT;have hT:T=(s,0):=hT;rw[hT];simp only[wq.1,seval];refine ag.ev hn rfl ?_;simp only[wq.1,seval];exact az.dat rfl
  |true =>
   by_cases hsu:o8 u=s
   ·rw[if_pos ⟨h0,rfl,hsu⟩];have e1:(o8 u==s)=true:=by simpa using hsu
    simp only[wq.1,seval,e1];exact az.dat rfl
   ·rw[if_neg (fun h=>hsu h.2.2)];have e1:(o8 u==s)=false:=by simpa using hsu
    simp only[wq.1,seval,e1];refine ag.ev hL rfl ?_;cases hok:bz s with
    |false=>rw[hok]at hT hL;have hT:T=([],4):=hT;rw[hT];simp only[wq.1,seval];exact az.dat rfl
    |true =>
     rw[hok]at hT hn;cases hll:lC s with
     |false=>rw[hll]at hT;have hT:T=([],4):=hT;rw[hT];simp only[wq.1,seval];exact az.dat rfl
     |true=>rw[hll]at hT;have hT:T=(s,0):=hT;rw[hT];simp only[wq.1,seval];refine ag.ev hn rfl ?_;simp only[wq.1,seval];exact az.dat rfl
theorem Jk[MO](t:Tk)(hs:t.t.length<=1000000):Ev TE 77 [vi 2,t.v] (.tup [.str (wC t).1,vi (wC t).2]):=by
 have hr:=PK t.t hs;unfold wC;refine ah Tryz.func77 rfl (by simp[nts]) (vm ?_);simp only[wq.1,seval,Tryz.results77];by_cases hk:t.k=0
 ·have e0:((t.k:Int) != 0)=false:=by rw[hk];rfl
  have e2:((t.k:Int)==2)=false:=by rw[hk];rfl
  rw[if_pos hk];simp only[wq.1,seval,e0,e2];refine⟨.bool true,?_⟩;simp only[wq.1,seval];refine ag.ev hr rfl ?_;simp only[wq.1,seval];exact az.dat rfl
 ·have e0:((t.k:Int) != 0)=true:=by simp;omega
  rw[if_neg hk];cases e2:((t.k:Int)==2)with
  |true=>simp only[wq.1,seval,e0];exact az.dat rfl
  |false=>simp only[wq.1,seval,e0];exact az.dat rfl
theorem MN(t:Tk):iD t=if(wC t).2=0 then .ok (wC t).1 else .error (t.at',(wC t).2):=by
 unfold iD wC;split
 ·rfl
 ·rfl
theorem MQ[MO](t:Tk)(s:S)(hs:t.t.length<=1000000):Ev TE 76 [t.v,.ip (vi 2),.ip (.str s)] (.bool (isT s t)):=by have hw:=Jk t hs;unfold isT;refine ah Tryz.func76 rfl (by simp[nts]) (vm ?_);simp only[wq.1,seval,Tryz.results76];refine ag.ev hw rfl ?_;simp only[wq.1,seval];exact dN rfl rfl
theorem PL[MO](l:List Tk)(s:S)(hl:∀t∈l,t.t.length<=1000000):Ev TE 35 [vi 2,gX l,.str s] (vi (I5 l s)):=by
 have hix:=PE l 76 [.ip (vi 2),.ip (.str s)] (isT s) rfl rfl fun t ht=>MQ t s (hl t ht);have hidx:idx l (isT s)=match l.findIdx? (isT s)with|some i=>(i:Int)|none=>-1:=rfl
 have hlen:l.length<=l.length:=zrb _;unfold I5;refine ah Tryz.func35 rfl (by simp[nts]) (vm ?_);simp only[wq.1,seval,Tryz.results35];refine ag.lend hix (ak.cons (az.dat (by simp only[V.dat,yD])) (ak.cons (az.fn ak.nil (ak.cons (az.lp rfl (ak.dat rfl) rfl rfl (by simp[V.vc]) rfl) (ak.cons (az.lp rfl (ak.dat rfl) rfl rfl (by simp[V.vc]) rfl) ak.nil))) ak.nil)) rfl ?_;rw[hidx];cases hfi:l.findIdx? (isT s)with
 |none=>simp only[wq.1,seval];exact az.dat rfl
 |some i =>
  have hi:i<l.length:=(List.findIdx?_eq_some_iff_getElem.1 hfi).1;have hge:decide ((i:Int)<0)=false:=by simp
  have hgd:l.getD i ⟨0,[],0⟩=l[i]:=by rw[zqg,zqk hi];rfl
  simp only[wq.1,seval,hge,ML hi];rw[hgd];exact⟨⟨by omega,by omega⟩,az.dat rfl⟩
theorem Jl[MO](op:Int)(n:Nat)(hn:n<=maxLen):Ev TE 65 [vi op,vi n] (.bool (wz op n)):=by
 have hm:=MO.ins op (.agg [vi 0,vi 0]);by_cases hr:0<=op/\op<=10
 ·rw[if_pos hr]at hm;obtain⟨k,rfl⟩:∃k:Nat,op=k:=⟨op.toNat,by omega⟩;have hk:k<=10:=by omega
  have hv:wz (k:Int) n=(decide ((n:Int)>=if(k:Int)<=1 then 0 else if(k:Int)<=3 then 1 else if(k:Int)<=9 then 2 else 0)&&decide ((n:Int)<=if(k:Int)<=1 then 0 else if(k:Int)<=3 then 1 else 8)):=by
   unfold wz;rw[decide_eq_true (by omega),decide_eq_true (by omega),zsg,Bool.true_and,Bool.true_and];have:k=0\/k=1\/k=2\/k=3\/k=4\/k=5\/k=6\/k=7\/k=8\/k=9\/k=10:=by omega
   rw[Bool.eq_iff_iff];rcases this with rfl|rfl|rfl|rfl|rfl|rfl|rfl|rfl|rfl|rfl|rfl<;>simp[BC]<;>omega
  rw[hv];refine ah Tryz.func65 rfl (by simp[nts]) (vm ?_);simp only[wq.1,↓reduceIte,Nat.reduceEqDiff,Nat.reduceLT,Nat.reduceLeDiff,Nat.reduceAdd,Int.reduceToNat,Int.reduceLE,reduceCtorEq,Nat.reduceMul,Tryz.results65,gl1,fD,hm];exact⟨by decide,fun _=>by decide,az.dat rfl⟩
 ·rw[if_neg hr]at hm;have hv:wz op n=false:=by
   unfold wz;by_cases h0:0<=op
   ·rw[decide_eq_false (show ¬op<=10 by omega)];simp
   ·rw[decide_eq_false h0];rfl
  rw[hv];refine ah Tryz.func65 rfl (by simp[nts]) (vm ?_);simp only[wq.1,seval,Tryz.results65,gl1,fD,hm];exact az.dat rfl
theorem uO{p:UInt8->Bool}:∀l:S,l.dropWhile p=[]↔∀x∈l,p x=true
 |[]=>by simp
 |a::l=>by
  rw[List.dropWhile_cons];cases h:p a with
  |true=>rw[if_pos rfl,uO l];simp[h]
  |false=>rw[if_neg (by decide)];simp[h]
theorem wV{p:UInt8->Bool}:∀ {l:S} {a:UInt8} {r:S},l.dropWhile p=a::r->p a=false
 |b::l,a,r,h=>by
  rw[List.dropWhile_cons]at h;split at h
  ·exact wV h
  ·rename_i hb;injection h with h1 _;subst h1;simpa using hb
theorem MR(s cs:S):(Lib.trimS s cs=[])↔∀x∈s,cs.contains x=true:=by
 unfold Lib.trimS Lib.trimLeftS Lib.trimRightS;rw[uO];constructor
 ·intro h;cases hd:s.reverse.dropWhile (cs.contains ·)with
  |nil=>exact fun x hx=>(uO _).1 hd x (List.mem_reverse.2 hx)
  |cons a r=>exfalso;have ha:=wV hd;have:=h a (by rw[hd];simp);rw[this]at ha;cases ha
 ·intro h x hx;exact h x (List.mem_reverse.1 ((List.dropWhile_sublist _).mem (List.mem_reverse.1 hx)))
theorem Ep(n:Nat)(s:S):(((s.length:Int)==(n:Int))&&Lib.trimS s [48,49,45]==[])=ku n s:=by
 unfold ku
 congr 1
 ·rw[Bool.eq_iff_iff,beq_iff_eq,beq_iff_eq];omega
 ·rw[Bool.eq_iff_iff,beq_iff_eq,MR,zrs];refine forall_congr' fun x=>forall_congr' fun _=> ?_;rw[List.contains_iff_mem];unfold TL;simp[or_assoc]
theorem PM[MO](s:S)(n:Nat):Ev TE 79 [.str s,vi n] (.bool (ku n s)):=by have ht:=Eg s [48,49,45] (by decide) (by decide);rw[<-Ep];refine ah Tryz.func79 rfl (by simp[nts]) (vm ?_);simp only[wq.1,seval,Tryz.results79];refine zf.ev (q:=112) (vs:=[.str s,.str [48,49,45]]) (by simp only[wq.1,seval]) (by simp only[wq.1,seval]) rfl (fun _=>ht) (fun _=>rfl) ?_;simp only[wq.1,seval];exact dN rfl rfl
theorem Jm[MO](s:S)(g:Ga):Ev TE 78 [.str s,.ip g.v] (.bool (!ku g.ins.length s)):=by have hr:=PM s g.ins.length;refine ah Tryz.func78 rfl (by simp[nts]) (vm ?_);simp only[wq.1,seval,Tryz.results78];refine ag.ev hr rfl ?_;simp only[wq.1,seval];exact dN rfl rfl
theorem Oq{g:Ga}{r:List V}(hb:V.bnds (g.v::r)):g.ins.length<=maxLen/\g.rows.length<=maxLen:=by simp only[V.bnds,V.bnd,zra]at hb;exact⟨hb.1.2.2.1.1,hb.1.2.2.2.1.1⟩
theorem Es[MO](g:Ga):Ev TE 41 [g.v] (.bool (fK g)):=by
 refine Ev.bnd fun hb=> ?_;obtain⟨hl1,hl2⟩:=Oq hb;have hh:=Jl g.op g.ins.length hl1;have hct:=Jh g.rows 78 [.ip g.v] (fun r=> !ku g.ins.length r) rfl (by simp only[V.dats,V.dat,aJ,zre]) fun r _=>Jm r g;have e1:(g.op != 10&&(decide ((0:Int)<(g.rows.length:Int))||g.off))= !(g.op==10||(g.rows.isEmpty&& !g.off)):=by
  have:decide ((0:Int)<(g.rows.length:Int))= !g.rows.isEmpty:=by cases g.rows<;>simp
  rw[this,bne];cases g.op==10<;>cases g.rows.isEmpty<;>cases g.off<;>rfl
 have e2:g.rows.any (fun r=> !ku g.ins.length r)= !g.rows.all (ku g.ins.length):=by rw[List.not_all_eq_any_not]
 rw[e2]at hct;refine ah Tryz.func41 rfl (by simp[nts]) (vm ?_);simp only[wq.1,seval,Tryz.results41];refine⟨fun h=>⟨h,fun h2=>by rw[h,h2];rfl⟩,vcB.mk (fun hc=> ?_) (fun hc=> ?_)⟩
 ·rw[e1]at hc;have hg:fK g=false:=by
   unfold fK;rw[Bool.not_eq_true']at hc;rw[hc,Bool.false_and]
  rw[hg];simp only[wq.1,seval];exact az.dat rfl
 ·rw[e1]at hc;have hg:fK g=(wz g.op g.ins.length&&(decide (g.rows.length<=128)&&g.rows.all (ku g.ins.length))):=by
   unfold fK;rw[Bool.not_eq_false']at hc;rw[hc,Bool.true_and]
  have e3:decide ((g.rows.length:Int)<=128)=decide (g.rows.length<=128):=decide_eq_decide.2 (by omega);rw[hg];simp only[wq.1,seval];refine ag.ev hh rfl ?_;cases wz g.op g.ins.length with
  |false=>simp only[wq.1,seval];refine⟨.bool true,?_⟩;simp only[wq.1];exact az.dat rfl
  |true =>
   cases h128:decide (g.rows.length<=128)with
   |false=>rw[h128]at e3;simp only[wq.1,seval,e3];refine⟨.bool true,?_⟩;simp only[wq.1];exact az.dat rfl
   |true=>rw[h128]at e3;simp only[wq.1,seval,e3];refine ag.lend hct (ak.cons (az.dat (by simp only[V.dat,aJ])) (ak.cons (az.fn ak.nil (ak.cons (az.lp rfl (ak.dat (by simp only[V.dats,V.dat,aJ,zre])) rfl (by simp only[V.dat,V.dats,aJ,zre]) (by simp[V.vc]) rfl) ak.nil)) ak.nil)) rfl ?_;simp only[wq.1,seval];exact dN rfl (by rw[Bool.not_not])
theorem Jn{l:List S}{r:List V}(hb:V.bnds (aW l::r)):l.length<=maxLen:=by simp only[V.bnds,V.bnd,zra]at hb;exact hb.1.1
theorem PN[MO](a b:List S):Ev TE 36 [aW a,aW b] (.bool (a==b)):=by
 refine Ev.bnd fun hb=> ?_;have hlen:=Jn hb;refine ah Tryz.func36 rfl (by simp[nts]) (vm ?_);simp only[wq.1,seval,Tryz.results36];refine vcB.mk (fun hc=> ?_) (fun hc=> ?_)
 ·simp only[wq.1,seval];refine dN rfl ?_;simp only[bne_iff_ne,ne_eq,Int.natCast_inj]at hc;have:¬a=b:=fun h=>hc (by rw[h]);simp[this]
 ·have hl:a.length=b.length:=by simpa [Int.natCast_inj]using hc
  simp only[wq.1,seval];refine aK (fun m f h=>∃i,m+i=a.length/\f.t 0=aW a/\f.t 1=aW b/\f.t 12= .int .i64 (a.length:Int)/\f.t 13= .int .i64 (i:Int)/\f.d=[]/\a.take i=b.take i) a.length ⟨0,by simp,rfl,rfl,rfl,rfl,rfl,by simp⟩ ?_;rintro m f h ⟨i,hm,h0,h1,h12,h13,hd,hall⟩;refine vm ?_;simp only[wq.1,seval,h12,h13];refine vcB.mk (fun hc=> ?_) (fun hc=> ?_)
  ·simp only[zqb,zqi]at hc;have hc2:i<b.length:=by omega
   simp only[wq.1,seval,h0,h1,h13,Ko hc,Ko hc2];refine⟨by decide +kernel,⟨by omega,by omega⟩,⟨by omega,by omega⟩,vcB.mk (fun hc=> ?_) (fun hc=> ?_)⟩
   ·simp only[wq.1,seval,hd];refine dN rfl ?_;have:¬a=b:=fun h=>by subst h;simp at hc
    simp[this]
   ·simp only[wq.1,seval,h13,aB (show i<maxLen by omega)];exact .inl ⟨m-1,by omega,i+1,by omega,h0,h1,h12,rfl,hd,IL hall (by omega) (by omega) (by simpa using hc)⟩
  ·simp only[zqd,zqi]at hc;simp only[wq.1,seval,hd];refine dN rfl ?_;rw[zqh (by omega),zqh (by omega)]at hall;simp[hall]
def Rt(a b:Int):Int:=IntKind.u64.wrap ((BitVec.ofInt IntKind.u64.bits a &&& BitVec.ofInt IntKind.u64.bits b).toNat:Int)
def SK(a:Int)(k:Nat):Int:=a.fdiv (2^(min k IntKind.u64.bits))
def SL(a b:Int):Int:=IntKind.u64.wrap (a+b)
def oc1(x:Int):Int:=SL (Rt (SK x 1) 6148914691236517205) (Rt x 6148914691236517205)
def oc2(x:Int):Int:=SL (Rt (SK x 2) 3689348814741910323) (Rt x 3689348814741910323)
def oc3(x:Int):Int:=Rt (SL (SK x 4) x) 1085102592571150095
def oc4(x:Int)(k:Nat):Int:=SL x (SK x k)
theorem Tc:∀k:Nat,k<256->IntKind.i64.wrap ((BitVec.ofInt IntKind.i64.bits (IntKind.i64.wrap (oc4 (oc4 (oc4 (oc3 (oc2 (oc1 (k:Int)))) 8) 16) 32)) &&& BitVec.ofInt IntKind.i64.bits 127).toNat:Int)=(oz k:Nat):=by decide +kernel
theorem Jo{h:H}(z:Int):eY P h 183 3 (.int .u64 z)=(True,.int .i64 (IntKind.i64.wrap z)):=by unfold eY;simp only[tis]
theorem PO{h:H}(z:Int):eY P h 3 124 (.int .i64 z)=(True,.int .u64 (IntKind.u64.wrap z)):=by unfold eY;simp only[tis]
theorem Td{h:H}(z:Int):eY P h 3 5 (.int .i64 z)=(True,.int .u8 (IntKind.u8.wrap z)):=by unfold eY;simp only[tis]
theorem Tf:∀k:Nat,k<256->IntKind.u64.wrap (k:Int)=k:=by decide +kernel
theorem Ru:∀z:Nat,z<256->IntKind.u8.wrap (48+IntKind.u8.wrap (IntKind.i64.wrap ((BitVec.ofInt IntKind.i64.bits (z:Int) &&& BitVec.ofInt IntKind.i64.bits 1).toNat:Int)))=((UInt8.ofNat (48+z%2)).toNat:Int):=by decide +kernel
theorem Rx(k j:Nat)(hj:j<=60):(k:Int).fdiv (2^(min j IntKind.i64.bits))=((k/2^j:Nat):Int):=by
 rw[Nat.min_eq_left (show j<=IntKind.i64.bits by show j<=64;omega)];have e:((2:Int)^j)=((2^j:Nat):Int):=by simp
 rw[e,Int.fdiv_eq_ediv_of_nonneg _ (Int.natCast_nonneg _)];rfl
theorem PQ{r:S}{i n:Nat}{z:V}(hi:i<n)(hl:r.length=n):List.take (i*1) ((r.take i).map vb++List.replicate (n-i) z)++[vb (r[i]'(by omega))]++List.drop (i*1+1) ((r.take i).map vb++List.replicate (n-i) z)=(r.take (i+1)).map vb++List.replicate (n-(i+1)) z:=by
 have e1:((r.take i).map vb).length=i:=by rw[zra,zrl];omega
 obtain⟨d,hd⟩:∃d,n-i=d+1:=⟨n-i-1,by omega⟩;rw[show n-(i+1)=d by omega,hd,Nat.mul_one,List.take_append_of_le_length (by omega),zqh (by omega),List.drop_append,e1,List.drop_of_length_le (by omega),show i+1-i=1 by omega,List.replicate_succ,List.drop_succ_cons,List.drop_zero,List.nil_append,List.take_succ_eq_append_getElem (by omega),zql];rfl
theorem Et(n k:Nat):(zS n k).length=n:=by simp[zS]
theorem Jp[MO](k:Nat)(hk:k<256):Ev TE 152 [.int .u64 k] (vi (oz k)):=by rw[<-Tc k hk];refine ah Tryz.func152 rfl (by simp[nts]) (vm ?_);simp only[wq.1,seval,Tryz.results152,Jo];exact dN rfl rfl
theorem PR[MO](k:Nat)(hk:k<256):Ev TE 131 [.int .u64 k] (vi (oz k)):=by refine ah Tryz.func131 rfl (by simp[nts]) (vm ?_);simp only[wq.1,seval,Tryz.results131];refine ag.ev (Jp k hk) rfl ?_;simp only[wq.1,seval];exact az.dat rfl
theorem wW[MO](n:Nat)(odd:Bool):Ev TE 105 [vi n,.bool odd] (.fn (.func 130) [] [.ip (vi n),.ip (.bool odd)]):=by refine ah Tryz.func105 rfl (by simp[nts]) (vm ?_);simp only[wq.1,seval,Tryz.results105];exact az.fn ak.nil (ak.cons (az.lp rfl (ak.dat rfl) rfl rfl (by simp[V.vc]) rfl) (ak.cons (az.lp rfl (ak.dat rfl) rfl rfl (by simp[V.vc]) rfl) ak.nil))
def HPr(L:(Nat->V)->LoopState->Option Code->O)(out:List S)(st:LoopState)(h:H):Prop :=
 ∃t X,t 8= .lp 0 0/\h=[.cells [.ls 1 1 0 out.length out.length],.cells (out.map V.str),.misc .dfd,L t st none]++X
def oH(n:Nat)(odd:Bool)(k:Nat):List S:=((List.range k).filter fun k=>(oz k%2==1)==odd).map (zS n)
theorem Ar{n:Nat}{odd:Bool}{k:Nat}:oH n odd (k+1)=if((oz k%2==1)==odd)=true then oH n odd k++[zS n k]else oH n odd k:=by
 unfold oH;rw[List.range_succ,List.filter_append,zql];split
 ·rename_i h;simp[List.filter,h]
 ·rename_i h;simp[List.filter,h]
theorem yG{n:Nat}{odd:Bool}{k:Nat}:(oH n odd k).length<=k:=by unfold oH;rw[zra];exact Nat.le_trans (List.length_filter_le _ _) (by rw[List.length_range];exact zrb _)
theorem pG[MO](L:(Nat->V)->LoopState->Option Code->O)(hL:∀p t st c,(L t st c).drop p=L (fun i=>(t i).drop p) st c)(n:Nat)(odd:Bool)(hn:n<=8)(h:H)(h0:HPr L [] .ready h)
 (step:∀out s h,HPr L out .ready h->out.length<=300->SY TE 3 [.str s] h fun j h'' p=>j=none/\(∀i,i<4->i≠1->p i=false)/\HPr L (out++[s]) .ready h'') :
 ag TE 130 ([]++[.yd 3]++[.ip (vi n),.ip (.bool odd)]) h fun ae h' p=>(∀i,i<4->i≠1->p i=false)/\match ae with
  | .ret _=>HPr L (Gt n odd) .ready h'
  | .pan _=>False:=by
 have hM:=mLx;have hp2:2^n<=256:=Nat.pow_le_pow_right (n:=2) (by decide) hn;have hmin:min n IntKind.i64.bits=n:=Nat.min_eq_left (by show n<=64;omega);obtain⟨N,hN⟩:∃N,N=2^n:=⟨_,rfl⟩;rw[<-hN]at hp2;have w0:IntKind.i64.wrap (1*2^n)=(N:Int):=by
  rw[Int.one_mul];have e:((2:Int)^n)=(N:Int):=by rw[hN];simp
  rw[e];exact gG (by omega) (by omega)
 have hpar:Gt n odd=oH n odd N:=by rw[hN];rfl
 rw[hpar];refine ax Tryz.func130 rfl (by simp[nts]) (vm ?_);simp only[wq.1,seval,Tryz.results130,hmin,w0];refine⟨by omega,?_⟩;refine aK (fun m f h=>∃k,m+k=N/\f.t 0= .yd 3/\f.t 1= .ip (vi n)/\f.t 2= .ip (.bool odd)/\f.t 8=vi N/\f.t 9=vi k/\f.d=[]/\(∀i,i<4->i≠1->f.k i=false)/\HPr L (oH n odd k) .ready h) N ⟨0,by omega,rfl,rfl,rfl,by simp only[wq.1,seval],by simp only[wq.1,↓reduceIte];rfl,rfl,fun _ _ _=>rfl,h0⟩ ?_;clear h0 h;rintro m f h ⟨k,hm,g0,g1,g2,g8,g9,hd,hk,t,X,ht,rfl⟩;have hwk:=aB (show k<maxLen by omega)
 -- what lies behind is forgotten
 refine dP (h0:=[.cells [.ls 1 1 0 (oH n odd k).length (oH n odd k).length],.cells ((oH n odd k).map V.str),.misc .dfd,L t .ready none]) (by rw[hd];simp) ?_;have hcl:([.cells [.ls 1 1 0 (oH n odd k).length (oH n odd k).length],.cells ((oH n odd k).map V.str),.misc .dfd,L t .ready none]:H).map (O.drop (Abs.dV 4))=[.cells [.ls 1 1 0 (oH n odd k).length (oH n odd k).length],.cells ((oH n odd k).map V.str),.misc .dfd,L (fun i=>(t i).drop (Abs.dV 4)) .ready none]:=by
  simp only[zrd,List.map_nil,hL];simp only[O.drop,aA];rfl
 show awp _ _ _ _ _ (f.drop (Abs.dV 4)) (([.cells [.ls 1 1 0 (oH n odd k).length (oH n odd k).length],.cells ((oH n odd k).map V.str),.misc .dfd,L t .ready none]:H).map (O.drop (Abs.dV 4)));rw[hcl];obtain⟨out,hout⟩:∃out,out=oH n odd k:=⟨_,rfl⟩;have hol:out.length<=k:=by rw[hout];exact yG
 obtain⟨t',ht'⟩:∃t',t'=fun i=>(t i).drop (Abs.dV 4):=⟨_,rfl⟩;have ht8:t' 8= .lp 0 0:=by rw[ht'];show(t 8).drop _=_;rw[ht];rfl
 rw[<-hout,<-ht'];obtain⟨B,hB⟩:∃B:H,B=[.cells [.ls 1 1 0 out.length out.length],.cells (out.map V.str),.misc .dfd,L t' .ready none]:=⟨_,rfl⟩;have hBl:B.length=4:=by rw[hB];rfl
 have hBX:∀X,HPr L out .ready (B++X):=fun X=>⟨t',X,ht8,by rw[hB]⟩;have hg:∀x:O,(B++[x])[4]? =some x:=fun x=>by rw[hB];rfl
 have hgs:∀x y:O,(B++[x]).set 4 y=B++[y]:=fun x y=>by rw[hB];rfl
 rw[<-hB];obtain⟨f',hf'⟩:∃f',f'=f.drop (Abs.dV 4):=⟨_,rfl⟩;have u0:f'.t 0= .yd 3:=by rw[hf'];show(f.t 0).drop _=_;rw[g0];rfl
 have u1:f'.t 1= .ip (vi n):=by rw[hf'];show(f.t 1).drop _=_;rw[g1];rfl
 have u2:f'.t 2= .ip (.bool odd):=by rw[hf'];show(f.t 2).drop _=_;rw[g2];rfl
 have u8:f'.t 8=vi N:=by rw[hf'];show(f.t 8).drop _=_;rw[g8];rfl
 have u9:f'.t 9=vi k:=by rw[hf'];show(f.t 9).drop _=_;rw[g9];rfl
 have ud:f'.d=[]:=by rw[hf'];exact hd
 have uk:∀i,i<4->i≠1->f'.k i=false:=fun i hi h1=>by rw[hf'];show(f.k i||Abs.dV 4 i)=false;rw[hk i hi h1];simp[Abs.dV];omega
 rw[<-hf'];clear hf' g0 g1 g2 g8 g9 hd hk hcl ht';refine vn ?_;simp only[wq.1,Nat.reduceLT,u8,u9];refine vn ?_;simp only[wq.1,↓reduceIte];refine vcB.mk (fun hlt=> ?_) (fun hlt=> ?_)
 ·have hlt:k<N:=by have:=zqs hlt;omega
  have hps:=Ar (n:=n) (odd:=odd) (k:=k);have hon:=PR k (by omega);have wu:=Tf k (by omega);have hod:(((oz k:Nat):Int).tmod 2==1)=(oz k%2==1):=by rw[Bool.eq_iff_iff,beq_iff_eq,beq_iff_eq,Int.tmod_eq_emod_of_nonneg (by omega)];omega
  simp only[wq.1];refine au ?_;refine aH ?_;refine vn ?_;simp only[wq.1,seval,u9];refine au ?_;refine vn ?_;simp only[wq.1,↓reduceIte,Nat.reduceEqDiff,Nat.reduceLT,Nat.reduceLeDiff,Nat.reduceAdd,Nat.reduceSub,Int.reduceToNat,Nat.reduceDiv,Int.reduceLT,Int.reduceLE,Int.reduceNeg,Int.reduceBEq,Int.reduceBNe,Int.reduceAdd,Int.reduceSub,Nat.reduceBEq,reduceCtorEq,Nat.reduceMul,aj,Tryz.results130,u0,u1,u2,u8,u9,ud,PO,wu];refine⟨by decide +kernel,BB.mk hon rfl rfl ?_⟩;simp only[wq.1,↓reduceIte,Nat.reduceEqDiff,Nat.reduceLT,Nat.reduceLeDiff,Nat.reduceAdd,Nat.reduceSub,Int.reduceToNat,Nat.reduceDiv,Int.reduceLT,Int.reduceLE,Int.reduceNeg,Int.reduceBEq,Int.reduceBNe,Int.reduceAdd,Int.reduceSub,Nat.reduceBEq,reduceCtorEq,Nat.reduceMul,aj,Tryz.results130,u0,u1,u2,u8,u9,ud,hod];refine⟨by decide,?_⟩;obtain⟨b,hb⟩:∃b,b=(oz k%2==1):=⟨_,rfl⟩;rw[<-hb]at hps ⊢;cases hbo:(b==odd)with
  |false =>
   rw[hbo,if_neg (by decide)]at hps;have hne:(b != odd)=true:=by rw[bne,hbo];rfl
   refine vm ?_;simp only[wq.1,↓reduceIte];refine vm ?_;simp only[wq.1,seval,u9,hwk];have hx:=hBX [];rw[zqp]at hx;exact .inl ⟨m-1,by omega,k+1,by omega,by simp only[wq.1,seval,u0],by simp only[wq.1,seval,u1],by simp only[wq.1,seval,u2],by simp only[wq.1,seval,u8],by simp only[wq.1,↓reduceIte],by simp only[wq.1,ud],fun i hi h1=>by simp only[wq.1,uk i hi h1],by rw[hps,<-hout];exact hx⟩
  |true =>
   rw[hbo,if_pos rfl]at hps;have hne:(b != odd)=false:=by rw[bne,hbo];rfl
   refine vm ?_;simp only[wq.1,↓reduceIte];refine vn ?_;simp only[wq.1,seval,u1,hBl];refine⟨⟨by omega,by omega⟩,?_⟩;refine vn ?_;simp only[wq.1,seval];refine aK (fun mm f h=>∃i,mm+i=n/\f.t 0= .yd 3/\f.t 1= .ip (vi n)/\f.t 2= .ip (.bool odd)/\f.t 4=vi k/\f.t 5= .ls 4 1 0 n n/\f.t 8=vi N/\f.t 9=vi k/\f.t 22=vi n/\f.t 23=vi i/\f.d=[]/\(∀i,i<4->i≠1->f.k i=false)/\h=B++[.cells (((zS n k).take i).map vb++List.replicate (n-i) (.int .u8 0))]) n ⟨0,by omega,by simp only[wq.1,seval,u0],by simp only[wq.1,seval,u1],by simp only[wq.1,seval,u2],by simp only[wq.1,seval],by simp only[wq.1,seval],by simp only[wq.1,seval,u8],by simp only[wq.1,seval,u9],by simp only[wq.1,seval],by simp only[wq.1,↓reduceIte];rfl,by simp only[wq.1,ud],fun i hi h1=>by simp only[wq.1,uk i hi h1],rfl⟩ ?_;clear u0 u1 u2 u8 u9 ud uk;rintro mm f h ⟨i,hmm,u0,u1,u2,u4,u5,u8,u9,u22,u23,ud,uk,rfl⟩;have hwi:=aB (show i<maxLen by omega);have hrl:=Et n k;refine vn ?_;simp only[wq.1,Nat.reduceLT,u22,u23];refine vn ?_;simp only[wq.1,↓reduceIte];refine vcB.mk (fun hin=> ?_) (fun hin=> ?_)
   ·have hin:i<n:=by have:=zqs hin;omega
    have w1:IntKind.i64.wrap ((n:Int)-1)=(n:Int)-1:=gG (by omega) (by omega);have w2:IntKind.i64.wrap ((n:Int)-1-i)=((n-1-i:Nat):Int):=by rw[gG (by omega) (by omega)];omega
    have w3:=Rx k (n-1-i) (by omega);have hz:k/2^(n-1-i)<256:=Nat.lt_of_le_of_lt (Nat.div_le_self _ _) (by omega);have w4:=Ru _ hz;obtain⟨z,hzz⟩:∃z,z=k/2^(n-1-i):=⟨_,rfl⟩;rw[<-hzz]at w3 w4;have hrow:(zS n k)[i]'(by omega)=UInt8.ofNat (48+z%2):=by simp[zS,hzz]
    simp only[wq.1];refine au ?_;refine aH ?_;refine vm ?_;simp only[wq.1,seval,u1,u4,u5,u23,w1,w2,w3,w4,Td,hg,hgs];have hfa:=PQ (r:=zS n k) (z:= .int .u8 0) hin hrl;rw[hrow]at hfa;refine⟨by omega,⟨by omega,by omega⟩,by rw[zrl,zsc];omega,?_⟩;rw[hfa];refine vm ?_;simp only[wq.1,seval,u23,hwi];exact .inl ⟨mm-1,by omega,i+1,by omega,by simp only[wq.1,seval,u0],by simp only[wq.1,seval,u1],by simp only[wq.1,seval,u2],by simp only[wq.1,seval,u4],by simp only[wq.1,seval,u5],by simp only[wq.1,seval,u8],by simp only[wq.1,seval,u9],by simp only[wq.1,seval,u22],by simp only[wq.1,↓reduceIte],by simp only[wq.1,ud],fun i hi h1=>by simp only[wq.1,uk i hi h1],rfl⟩
   ·have hin:i=n:=by have:=of_decide_eq_false hin;omega
    subst hin;rw[Nat.sub_self,List.replicate_zero,zqp,zqh (by omega)]at *;obtain⟨c1,c2⟩:=qF (h:=B++[.cells ((zS i k).map vb)]) (l:=zS i k) (k:=4) (cap:=i) (hg _);rw[hrl]at c1 c2;obtain⟨t2,n',ps,asg,body,pend,hLL,hsz,hps2,hw⟩:=step out (zS i k) (B++[.cells ((zS i k).map vb)]) (hBX _) (by omega);refine vm ?_;simp only[wq.1,seval,u0,u5,c1,c2,hLL];refine⟨⟨by simpa using hsz,hps2⟩,zC hw ?_⟩;rintro j h' p hp ⟨rfl,hp4,hHD'⟩;refine⟨by simp[E5,ud],?_⟩;simp only[wq.1,seval,Option.isNone_none];refine vm ?_;simp only[wq.1,seval,u9,hwk];exact .inl ⟨m-1,by omega,k+1,by omega,by simp only[wq.1,seval,u0,hp],by simp only[wq.1,seval,u1],by simp only[wq.1,seval,u2],by simp only[wq.1,seval,u8],by simp only[wq.1,↓reduceIte],by simp only[wq.1,ud],fun i hi h1=>by simp only[wq.1,uk i hi h1,hp4 i hi h1],by rw[hps,<-hout];exact hHD'⟩
 ·have hkN:k=N:=by have:=of_decide_eq_false hlt;omega
  subst hkN;simp only[wq.1,ud];exact⟨uk,by rw[<-hout];have:=hBX [];rwa [zqp]at this⟩
theorem az.ex{e:E}{h:H}{k:Nat}{es:List V}(hd:V.dat (.is true k es)=true):az e h (.is true k es) (.is false k es):=fun ok pl w x hs hv=>oh _ _ (az.dat hd ok pl w x hs hv)
theorem MS(n:Nat)(c:UInt8):Lib.repeatL [c] n=List.replicate n c:=by
 induction n with
 |zero=>rfl
 |succ n ih=>rw[List.replicate_succ,<-ih];rfl
theorem MV[MO](op:Int)(n:Nat)(h0:0<=op)(h10:op<10)(hn:n<=8):Ev TE 66 [vi op,vi n] (.tup [aW (mr op.toNat n).1,.bool (mr op.toNat n).2]):=by
 have hM:=mLx;have hr1:=kC [49] n (by decide) (by omega);have hr0:=kC [48] n (by decide) (by omega);rw[MS]at hr1 hr0;refine ah Tryz.func66 rfl (by simp[nts]) ?_;refine vn ?_;simp only[wq.1,Nat.reduceLT,Tryz.results66];refine vn ?_;simp only[wq.1,seval];refine ag.ev hr1 rfl ?_;simp only[wq.1,seval];refine ag.ev hr0 rfl ?_;simp only[wq.1,seval];have hop:op=0\/op=1\/op=2\/op=3\/op=4\/op=5\/op=6\/op=7\/op=8\/op=9:=by omega
 rcases hop with rfl|rfl|rfl|rfl|rfl|rfl|rfl|rfl|rfl|rfl
 ·refine vm ?_;simp only[wq.1,↓reduceIte,Nat.reduceEqDiff,Nat.reduceLT,Nat.reduceLeDiff,Nat.reduceAdd,Nat.reduceSub,Int.reduceToNat,Nat.reduceDiv,Int.reduceLT,Int.reduceLE,Int.reduceNeg,Int.reduceBEq,Int.reduceBNe,Int.reduceAdd,Int.reduceSub,Nat.reduceBEq,reduceCtorEq,Nat.reduceMul,aj,Tryz.results66];exact az.tup (ak.cons az.nils (ak.cons (az.dat rfl) ak.nil))
 iterate 7
  ·refine vm ?_;simp only[wq.1,↓reduceIte,Nat.reduceEqDiff,Nat.reduceLT,Nat.reduceLeDiff,Nat.reduceAdd,Nat.reduceSub,Int.reduceToNat,Nat.reduceDiv,Int.reduceLT,Int.reduceLE,Int.reduceNeg,Int.reduceBEq,Int.reduceBNe,Int.reduceAdd,Int.reduceSub,Nat.reduceBEq,reduceCtorEq,Nat.reduceMul,aj,Tryz.results66];exact⟨⟨rfl,by decide⟩,az.tup (ak.cons (az.ex rfl) (ak.cons (az.dat rfl) ak.nil))⟩
 ·refine vn ?_;simp only[wq.1,seval];refine vn ?_;simp only[wq.1,Nat.reduceLT];refine gz ?_;refine jd (h':=[.cells [.ls 1 1 0 0 0],.cells []]) (HLe.set (i:=0) (o':= .cells [.ls 1 1 0 0 0]) rfl (OLe.cells (zrb _) (fP.cons dO fP.nil))) ?_;refine vn ?_;simp only[wq.1,seval];refine ag.ev (wW n true) rfl ?_;simp only[wq.1];refine ql (n:=46) (q:=130) (first:=[]) (captured:=[.ip (vi n),.ip (.bool true)]) (by simp only[wq.1,↓reduceIte]) (by simp only[wq.1,↓reduceIte]) rfl (by decide) ?_;intro L hLd gets;refine ag.mono (pG L hLd n true hn _ ⟨_,[],?_,rfl⟩ ?_) ?_
  ·rfl
  ·rintro out s h ⟨t,X,ht,rfl⟩ hol;refine gets _ _ _ t rfl rfl (fun lb=> ?_);have hds:∀p,V.drops p (out.map V.str)=out.map V.str:=fun p=>aA;refine vm ?_;simp only[wq.1,↓reduceIte,Nat.reduceLT,Nat.reduceAdd,DY];refine⟨t,rfl,?_⟩;refine vm ?_;simp only[wq.1,↓reduceIte,Nat.reduceEqDiff,Nat.reduceLT,Nat.reduceBEq,reduceCtorEq,Nat.reduceMul,ht,zF,XE.jump,hLd];refine⟨⟨rfl,by decide⟩,⟨by omega,by omega,by omega⟩,_,_,rfl,fun i hi h1=>by simpa using h1,fun i=>(t i).drop fun x=>x==1,X.map (O.drop fun x=>x==1),?_,?_⟩
   ·show(t 8).drop _=_;rw[ht];rfl
   ·rw[zql,zqa];rfl
  ·rintro ae h' p ⟨hp4,hr⟩;cases ae with
   |pan v=>exact hr.elim
   |ret v =>
    obtain⟨t,X,ht,rfl⟩:=hr;have k0:=hp4 0 (by omega) (by omega);have k2:=hp4 2 (by omega) (by omega);have k3:=hp4 3 (by omega) (by omega);refine⟨?_,hp4 3 (by omega) (by omega),t,_,none,(by decide),rfl,?_⟩
    ·intro i hi;have hi:i=2:=by simpa [E5,DU]using hi
     subst hi;exact k2
    ·simp only[wq.1,Nat.reduceAdd,Hw];refine vm ?_;simp only[wq.1,seval,k0];exact az.tup (ak.cons (aY rfl rfl) (ak.cons (az.dat rfl) ak.nil))
 ·refine vn ?_;simp only[wq.1,seval];refine vn ?_;simp only[wq.1,Nat.reduceLT];refine gz ?_;refine jd (h':=[.cells [.ls 1 1 0 0 0],.cells []]) (HLe.set (i:=0) (o':= .cells [.ls 1 1 0 0 0]) rfl (OLe.cells (zrb _) (fP.cons dO fP.nil))) ?_;refine vn ?_;simp only[wq.1,seval];refine ag.ev (wW n false) rfl ?_;simp only[wq.1];refine ql (n:=46) (q:=130) (first:=[]) (captured:=[.ip (vi n),.ip (.bool false)]) (by simp only[wq.1,↓reduceIte]) (by simp only[wq.1,↓reduceIte]) rfl (by decide) ?_;intro L hLd gets;refine ag.mono (pG L hLd n false hn _ ⟨_,[],?_,rfl⟩ ?_) ?_
  ·rfl
  ·rintro out s h ⟨t,X,ht,rfl⟩ hol;refine gets _ _ _ t rfl rfl (fun lb=> ?_);have hds:∀p,V.drops p (out.map V.str)=out.map V.str:=fun p=>aA;refine vm ?_;simp only[wq.1,↓reduceIte,Nat.reduceLT,Nat.reduceAdd,DY];refine⟨t,rfl,?_⟩;refine vm ?_;simp only[wq.1,↓reduceIte,Nat.reduceEqDiff,Nat.reduceLT,Nat.reduceBEq,reduceCtorEq,Nat.reduceMul,ht,zF,XE.jump,hLd];refine⟨⟨rfl,by decide⟩,⟨by omega,by omega,by omega⟩,_,_,rfl,fun i hi h1=>by simpa using h1,fun i=>(t i).drop fun x=>x==1,X.map (O.drop fun x=>x==1),?_,?_⟩
   ·show(t 8).drop _=_;rw[ht];rfl
   ·rw[zql,zqa];rfl
  ·rintro ae h' p ⟨hp4,hr⟩;cases ae with
   |pan v=>exact hr.elim
   |ret v =>
    obtain⟨t,X,ht,rfl⟩:=hr;have k0:=hp4 0 (by omega) (by omega);have k2:=hp4 2 (by omega) (by omega);have k3:=hp4 3 (by omega) (by omega);refine⟨?_,hp4 3 (by omega) (by omega),t,_,none,(by decide),rfl,?_⟩
    ·intro i hi;have hi:i=2:=by simpa [E5,DU]using hi
     subst hi;exact k2
    ·simp only[wq.1,Nat.reduceAdd,Hw];refine vm ?_;simp only[wq.1,seval,k0];exact az.tup (ak.cons (aY rfl rfl) (ak.cons (az.dat rfl) ak.nil))
abbrev gaF(g:Ga):List V:=[.str g.name,vi g.op,aW g.ins,aW g.rows,.bool g.off]
def uP(n:Nat)(rows:List S)(off:Bool)(op:Nat):Bool:=BC op n&&(off==(mr op n).2&&(mr op n).1==rows)
theorem PS{n:Nat}{rows:List S}{off:Bool}{i:Nat}(hi:i<10)(hn:∀j,j<i->uP n rows off j=false)(h:uP n rows off i=true):ji n rows off=some i:=by unfold ji;rw[List.find?_eq_some_iff_getElem];refine⟨h,i,by rw[List.length_range];exact hi,by simp,fun j hj=> ?_⟩;have:=hn j hj;unfold uP at this;simp only[List.getElem_range,this];rfl
theorem PT{n:Nat}{rows:List S}{off:Bool}(hn:∀j,j<10->uP n rows off j=false):ji n rows off=none:=by unfold ji;rw[List.find?_eq_none];intro j hj;have:=hn j (List.mem_range.1 hj);unfold uP at this;simp only[this];decide
theorem MW{i n:Nat}(hi:i<10):wz (i:Int) n=BC i n:=by unfold wz;rw[decide_eq_true (by omega),decide_eq_true (by omega),zsg];rfl
theorem MX{g:Ga}(h:(fF g).op≠10):aQ g=fF g:=by unfold aQ;rw[if_pos h]
theorem FV{g:Ga}{i:Nat}(h:(fF g).op=10)(hf:ji g.ins.length g.rows g.off=some i):aQ g=⟨g.name,i,g.ins,[],false⟩:=by unfold aQ;rw[if_neg (fun e=>e h),hf]
theorem FW{g:Ga}(h:(fF g).op=10)(hf:ji g.ins.length g.rows g.off=none):aQ g=fF g:=by unfold aQ;rw[if_neg (fun e=>e h),hf]
theorem sJ[MO](g:Ga):Ev TE 27 [g.v] ((aQ g).v):=by
 have hM:=mLx;refine Ev.bnd fun hb=> ?_;obtain⟨hl1,hl2⟩:=Oq hb;refine ah Tryz.func27 rfl (by simp[nts]) ?_;refine vn ?_;simp only[wq.1,Nat.reduceLT,Tryz.results27];refine au (bg (Q:=fun xe f h=>xe= .normal/\f.t 1= .lp 0 0/\f.t 2= .lp 1 0/\f.d=[]/\h=[.cells (gaF (fF g)),.cells [.str [],vi 0,.nils,.nils,.bool false]]) ?_ ?_)
 ·rintro xe f h ⟨rfl,t1,t2,hd,rfl⟩;show awp _ _ _ _ _ _ _;have ho:(fF g).ins=g.ins/\(fF g).rows=g.rows/\(fF g).off=g.off/\(fF g).name=g.name:=by
   unfold fF
   repeat' split
   all_goals exact⟨rfl,rfl,rfl,rfl⟩
  obtain⟨o,hoo⟩:∃o,o=fF g:=⟨_,rfl⟩;rw[<-hoo]at ho ⊢;obtain⟨o1,o2,o3,o4⟩:=ho;by_cases h10:o.op=10
  ·have e10:(o.op != 10)=false:=by rw[h10];rfl
   have hsome:∀i,ji g.ins.length g.rows g.off=some i->aQ g=⟨g.name,i,g.ins,[],false⟩:=fun i hf=>FV (by rw[<-hoo];exact h10) hf;have hnone:ji g.ins.length g.rows g.off=none->aQ g=o:=fun hf=>by rw[hoo];exact FW (by rw[<-hoo];exact h10) hf
   refine vn ?_;simp only[wq.1,seval,t1,e10];refine vn ?_;simp only[wq.1,Nat.reduceLT];refine aK (fun m f h=>∃i:Nat,m+i=10/\f.t 1= .lp 0 0/\f.t 2= .lp 1 0/\f.t 3=vi i/\f.d=[]/\h=[.cells (gaF o),.cells [.str [],vi 0,.nils,.nils,.bool false]]/\∀j,j<i->uP g.ins.length g.rows g.off j=false) 10 ⟨0,rfl,by simp only[wq.1,seval,t1],by simp only[wq.1,seval,t2],by simp only[wq.1,↓reduceIte];rfl,by simp only[wq.1,hd],rfl,fun j hj=>absurd hj (by omega)⟩ ?_;clear t1 t2 hd;rintro m f h ⟨i,hm,t1,t2,t3,hd,rfl,hall⟩;have hwi:=aB (show i<maxLen by omega);refine vn ?_;simp only[wq.1,seval,t3];refine vcB.mk (fun hlt=> ?_) (fun hlt=> ?_)
   ·have hlt:i<10:=by have:=zqs hlt;omega
    have hh:=Jl (i:Int) g.ins.length hl1;rw[MW hlt]at hh;simp only[wq.1];refine au ?_;refine aH ?_;refine vn ?_;simp only[wq.1,seval,t1,t3,o1];refine ag.ev hh rfl ?_;cases hhn:BC i g.ins.length with
    |false =>
     have hf:uP g.ins.length g.rows g.off i=false:=by unfold uP;rw[hhn];rfl
     simp only[wq.1,seval];refine vm ?_;simp only[wq.1,seval,t3,hwi];refine .inl ⟨m-1,by omega,i+1,by omega,by simp only[wq.1,seval,t1],by simp only[wq.1,seval,t2],by simp only[wq.1,↓reduceIte],by simp only[wq.1,hd],rfl,fun j hj=> ?_⟩;by_cases hji:j=i
     ·rw[hji];exact hf
     ·exact hall j (by omega)
    |true =>
     have hn8:=IV hhn;have hr:=MV (i:Int) g.ins.length (by omega) (by omega) (by omega);rw[zsg]at hr;have hq:=PN (mr i g.ins.length).1 g.rows;have hfe:uP g.ins.length g.rows g.off i=(g.off==(mr i g.ins.length).2&&(mr i g.ins.length).1==g.rows):=by unfold uP;rw[hhn];rfl
     generalize mr i g.ins.length=RB at hr hq hfe;obtain⟨R,B⟩:=RB;dsimp only at hr hq hfe;have hcomm:(B==g.off)=(g.off==B):=by cases B<;>cases g.off<;>rfl
     simp only[wq.1,seval];refine vn ?_;simp only[wq.1,seval,t1,t3,o1];refine ag.ev hr (by simp only[V.dats,V.dat,zre]) ?_;simp only[wq.1,seval];refine vn ?_;simp only[wq.1,seval,t1,o1,o2,o3,hcomm];refine zf.ev (q:=36) (vs:=[aW R,aW g.rows]) (by simp only[wq.1,seval]) (by simp only[wq.1,seval]) rfl (fun _=>hq) (fun _=>by simp only[V.dats,V.dat,aJ,zre]) ?_;simp only[wq.1,seval];rw[<-hfe];cases hfi:uP g.ins.length g.rows g.off i with
     |false =>
      refine vm ?_;simp only[wq.1,↓reduceIte];refine vm ?_;simp only[wq.1,seval,t3,hwi];refine .inl ⟨m-1,by omega,i+1,by omega,by simp only[wq.1,seval,t1],by simp only[wq.1,seval,t2],by simp only[wq.1,↓reduceIte],by simp only[wq.1,hd],rfl,fun j hj=> ?_⟩;by_cases hji:j=i
      ·rw[hji];exact hfi
      ·exact hall j (by omega)
     |true=>rw[hsome i (PS hlt hall hfi)];refine vm ?_;simp only[wq.1,seval,t1,t2,t3,hd,o1,o4];exact az.agg (ak.cons (az.dat rfl) (ak.cons (az.dat rfl) (ak.cons (az.dat (by simp only[V.dat,aJ])) (ak.cons az.nils (ak.cons (az.dat rfl) ak.nil)))))
   ·have hi:i=10:=by have:=of_decide_eq_false hlt;omega
    subst hi;rw[hnone (PT hall)];refine vm ?_;simp only[wq.1,seval,t1,t2,hd];exact az.dat (by simp only[V.dat,V.dats,aJ,zre])
  ·have e10:(o.op != 10)=true:=by simpa using h10
   rw[MX (by rw[<-hoo];exact h10),<-hoo];refine vm ?_;simp only[wq.1,seval,t1,t2,hd,e10];exact az.dat (by simp only[V.dat,V.dats,aJ,zre])
 ·have hone:fF g=if g.ins.length=1/\g.rows=[]/\g.off=false then if g.op=4\/g.op=6\/g.op=8 then {g with op:=2} else if g.op=5\/g.op=7\/g.op=9 then {g with op:=3} else g else g:=rfl
  have e1:((((g.ins.length:Int)==1)&&((g.rows.length:Int)==0))&& !g.off)=decide (g.ins.length=1/\g.rows=[]/\g.off=false):=by rw[Bool.eq_iff_iff,zqb];simp only[zqf,beq_iff_eq,Bool.not_eq_true',and_assoc];refine and_congr (by omega) (and_congr ?_ Iff.rfl);rw[show((g.rows.length:Int)=0)↔g.rows.length=0 by omega,List.length_eq_zero_iff]
  refine vn ?_;simp only[wq.1,seval,e1];by_cases hc:g.ins.length=1/\g.rows=[]/\g.off=false
  ·rw[if_pos hc]at hone;rw[decide_eq_true hc];have key:∀k:Int,(g.op==k)=decide (g.op=k):=fun k=>by rw[Bool.eq_iff_iff];simp
   by_cases h4:g.op=4\/g.op=6\/g.op=8
   ·rw[if_pos h4]at hone;rw[hone];rcases h4 with h4|h4|h4
    all_goals
     have a4:(g.op==4)=decide (g.op=4):=key 4;have a6:(g.op==6)=decide (g.op=6):=key 6;have a8:(g.op==8)=decide (g.op=8):=key 8;rw[h4]at a4 a6 a8;refine vm ?_;simp only[wq.1,seval,h4]
   ·rw[if_neg h4]at hone;have b4:(g.op==4)=false:=by simp;omega
    have b6:(g.op==6)=false:=by simp;omega
    have b8:(g.op==8)=false:=by simp;omega
    by_cases h5:g.op=5\/g.op=7\/g.op=9
    ·rw[if_pos h5]at hone;rw[hone];rcases h5 with h5|h5|h5
     all_goals
      refine vm ?_;simp only[wq.1,seval,h5]
    ·rw[if_neg h5]at hone;have b5:(g.op==5)=false:=by simp;omega
     have b7:(g.op==7)=false:=by simp;omega
     have b9:(g.op==9)=false:=by simp;omega
     rw[hone];refine vm ?_;simp only[wq.1,seval,b4,b6,b8,b5,b7,b9]
  ·rw[if_neg hc]at hone;rw[decide_eq_false hc,hone];refine vm ?_;simp only[wq.1,seval]
end Go.Proofs.YtokppohljajhjaaGreatDoor
