/- Lemmas for this claim, part F16: each holds under what it names. -/
import Derived.Test.YtmlacppmbfbjgaaGreatDoorTF15
set_option linter.unusedVariables false
set_option linter.unusedSimpArgs false
set_option linter.unnecessarySimpa false
set_option maxRecDepth 20000
set_option maxHeartbeats 8000000
namespace Go.Proofs.YtmlacppmbfbjgaaGreatDoor
open Go Go.Proofs Go.Abs
theorem Ui (a b:List S) (l:List (List Lt)) (hl:l.length≤1000000) (hc:∀c∈l,c.length≤1000000):Ev TE 10 [lss l,tab a b] (.tup [lss (oZ a b l).1,vi (oZ a b l).2]):=by
 have hM:maxLen=9223372036854775807:=rfl;have hck:=yE a b;refine ai Tryz.func10 rfl (by simp[nts]) ?_;refine ag (vm ?_);simp only[wq.1,Nat.reduceLT,Tryz.results10];refine ag (vm ?_);simp only[wq.1,seval];refine ah.ev hck rfl ?_;simp only[wq.1,seval];refine ag (vm ?_);simp only[wq.1,seval];refine vcB.mk (fun hz=> ?_) (fun hz=> ?_)
 ·have hz : ni a b ≠ 0 := by simpa using hz
  unfold oZ;rw[if_neg hz];simp only[wq.1,seval];exact az.tup (ak.cons az.nils (ak.cons (az.dat rfl) ak.nil))
 have hz:ni a b=0:=by simpa using hz
 unfold oZ;rw[if_pos hz];simp only[wq.1];refine ag (vm ?_);simp only[wq.1,Nat.reduceLT];refine dC 7 1 (by simp only[wq.1,↓reduceIte]) ?_;refine ag ?_;refine ag (vm ?_);simp only[wq.1,Nat.reduceLT];refine aC ?_;refine aB (fun m f h=>∃(i:Nat) (outs:List (List Lt)) (X:H),m+i=l.length∧outs.length=i∧Ji a b (l.take i)=some outs∧f.t 0=lss l∧f.t 3= .lp 0 0∧f.t 7= .ls 1 1 0 i i∧f.t 8=vi i∧f.d=[]∧h=hRn a b outs++X) l.length ⟨0,[],[],by omega,rfl,rfl,by simp only[wq.1,seval],by simp only[wq.1,seval],by simp only[wq.1,seval],by simp only[wq.1,↓reduceIte];rfl,by simp only[wq.1],rfl⟩ ?_;rintro m f h ⟨i,outs,X,hm,hol,hren,t0,t3,t7,t8,hd,rfl⟩;refine dY (by rw[hd];simp) ?_;have cl1:(hRn a b outs).map (O.drop (aT (hRn a b outs).length))=hRn a b outs:=by
  show [O.cells [_,_],O.cells (V.drops _ _)]=_;rw[eG];rfl
 rw[cl1];by_cases hlt:i<l.length
 ·have d1 : decide ((i : Int) < (l.length : Int)) = true := by rw [zqb];omega
  have hw:=aA (show i<maxLen by omega);have hgl:=oN hlt .any;have hcl:=hc _ (zqu hlt);obtain⟨c,hce⟩:∃c,c=l[i]:=⟨_,rfl⟩;rw[←hce]at hgl hcl;refine ag ?_;refine ag (vm ?_);simp only[wq.1,seval,t0,t8,d1];refine vm ?_;simp only[wq.1,↓reduceIte];show awp _ _ _ _ _ _ _;refine ag (aC ?_);refine ag (vm ?_);simp only[wq.1,Nat.reduceLT];refine dC 9 2 (by simp only[wq.1,↓reduceIte]) ?_;refine ag ?_;refine ag (vm ?_);simp only[wq.1,seval,hd,aT];refine aC ?_;refine aB (fun m' f h=>∃(j:Nat) (ds:List Lt) (Y:H),m'+j=c.length∧ds.length=j∧Jh a b (c.take j)=some ds∧f.t 0=lss l∧f.t 3= .lp 0 0∧f.t 7= .ls 1 1 0 i i∧f.t 8=vi i∧f.t 9= .ls 2 2 0 j j∧f.t 10=vi j∧f.d=[]∧h=hRd a b outs ds++Y) c.length ⟨0,[],[],by omega,rfl,rfl,by simp only[wq.1,seval,t0],by simp only[wq.1,seval,t3,aT],by simp only[wq.1,seval,t7,aT],by simp only[wq.1,seval,t8],by simp only[wq.1,seval],by simp only[wq.1,↓reduceIte];rfl,by simp only[wq.1],rfl⟩ ?_;clear t0 t3 t7 t8 hd f;rintro m' f h ⟨j,ds,Y,hm',hdl,hrc,t0,t3,t7,t8,t9,t10,hd,rfl⟩;refine dY (by rw[hd];simp) ?_;have cl2:(hRd a b outs ds).map (O.drop (aT (hRd a b outs ds).length))=hRd a b outs ds:=by show [O.cells [_,_],O.cells (V.drops _ _),O.cells (V.drops _ _)]=_;rw[eG,fU];rfl
  rw[cl2];by_cases hlt2:j<c.length
  ·have d2 : decide ((j : Int) < (c.length : Int)) = true := by rw [zqb];omega
   have hw2:=aA (show j<maxLen by omega);have hgc:=pY hlt2 .any;have hsucc:=wO (a:=a) (b:=b) hlt2;obtain⟨x,hx⟩:∃x,x=c[j]:=⟨_,rfl⟩;rw[←hx]at hgc hsucc;have hah:=Jf a b x.1;unfold goV at hah;have hel:(lfl ds).length=j*2:=by rw[wK,hdl]
   have dcs:∀p,V.drops p (lfl ds)=lfl ds:=fun p=>fU _;have dos:∀p,V.drops p (outs.map fun c=>fH c)=outs.map fun c=>fH c:=fun p=>eG _;refine ag ?_;refine ag (vm ?_);simp only[wq.1,seval,t0,t8,t10,hgl,d2];refine⟨⟨by omega,by omega⟩,?_⟩;refine vm ?_;simp only[wq.1,↓reduceIte];show awp _ _ _ _ _ _ _;refine ag (aC ?_);refine ag (vm ?_);simp only[wq.1,seval,t0,t3,t8,t10,hgl,hgc,aT];refine⟨by decide +kernel,⟨by omega,by omega⟩,⟨by omega,by omega⟩,?_⟩;cases hgo:ug a b x.1 with
   | none=>rw[hgo]at hah;have e:=Di hlt2 (by rw[←hx];exact hgo);have e2:=Dj hlt (by rw[←hce];exact e);rw[e2];refine ul.mk hah rfl rfl ?_;simp only[wq.1,seval,Option.isSome_none];refine ag (vm ?_);simp only[wq.1,seval,hd,aT];exact az.tup (ak.cons az.nils (ak.cons (az.dat rfl) ak.nil))
   | some s =>
    rw[hgo]at hah;refine ul.mk hah rfl rfl ?_;simp only[wq.1,seval,Option.isSome_some,Option.getD_some];refine ag (vm ?_);simp only[wq.1,↓reduceIte,Nat.reduceLT];refine vm ?_;simp only[wq.1,↓reduceIte,Nat.reduceEqDiff,Nat.reduceLT,Nat.reduceLeDiff,Nat.reduceAdd,reduceCtorEq,Nat.reduceMul,t0,t8,t9,t10,hd,hgl,hgc,aT,hel,dcs,dos];refine⟨⟨by omega,by omega⟩,⟨by omega,by omega⟩,⟨rfl,by decide⟩,rfl,⟨rfl,by omega,by omega⟩,?_⟩;refine vm ?_;simp only[wq.1,seval,t10,hw2];refine .inl ⟨m'-1,by omega,j+1,ds++[(s,x.2)],[],by omega,by simp[hdl],?_,by simp only[wq.1,seval,t0],by simp only[wq.1,seval,t3,aT],by simp only[wq.1,seval,t7,aT],by simp only[wq.1,seval,t8],by simp only[wq.1,seval],by simp only[wq.1,↓reduceIte],hd,?_⟩
    ·rw[hsucc,hrc];unfold Nh;rw[hgo]
    ·rw[Aq];rfl
  ·have : j = c.length := by omega
   subst this;rw[zrx]at hrc;have d2:decide (((List.length c:Nat):Int)<(c.length:Int))=false:=by rw[zqd];omega
   refine ag ?_;refine ag (vm ?_);simp only[wq.1,seval,t0,t8,t10,hgl,d2];refine⟨⟨by omega,by omega⟩,?_⟩;refine vm ?_;simp only[wq.1,↓reduceIte];show awp _ _ _ _ _ _ _;refine nX 2 9 (fH ds) (by simp only[wq.1,seval,t9,aT]) (by simp only[wq.1,seval,t9,aT];exact qW (by show some (O.cells (V.drops _ (lfl ds)))=_;rw[fU]) hdl.symm) (by simp only[wq.1,hd]) ?_;have dos:∀p,V.drops p (outs.map fun c=>fH c)=outs.map fun c=>fH c:=fun p=>eG _;rw[show iV (·==2) 0 (hRd a b outs ds)=[.cells [bF a,bF b],.cells (outs.map fun c=>fH c),.dead] by simp[iV,O.drop,V.drops,V.drop,dos]];refine mJ (fun f'=>f'.t 0=lss l∧f'.t 3= .lp 0 0∧f'.t 7= .ls 1 1 0 i i∧f'.t 8=vi i∧f'.t 9=fH ds∧f'.d=[]) _ (fun hk=>hk _ ⟨by simp only[wq.1,seval,t0],by simp only[wq.1,seval,t3,aT],by simp only[wq.1,seval,t7,aT],by simp only[wq.1,seval,t8],by simp only[wq.1,↓reduceIte],hd⟩) ?_;clear t0 t3 t7 t8 t9 t10 hd f;rintro f ⟨t0,t3,t7,t8,t9,hd⟩;have hel:(outs.map fun c=>fH c).length=i*1:=by rw[zra];omega
   refine vm ?_;simp only[wq.1,↓reduceIte,Nat.reduceEqDiff,Nat.reduceLT,reduceCtorEq,Nat.reduceMul,t7,t9,hd,dos];refine⟨⟨rfl,by decide⟩,⟨by omega,by omega,by omega⟩,?_⟩;refine vm ?_;simp only[wq.1,seval,t8,hw];refine .inl ⟨m-1,by omega,i+1,outs++[ds],[.dead],by omega,by simp[hol],?_,by simp only[wq.1,seval,t0],by simp only[wq.1,seval,t3],by simp only[wq.1,seval],by simp only[wq.1,↓reduceIte],hd,by rw[zql];rfl⟩;rw[wP hlt,hren];unfold Nj;rw[←hce,hrc]
 ·have : i = l.length := by omega
  subst this;rw[zrx]at hren;rw[hren];have d1:decide (((List.length l:Nat):Int)<(l.length:Int))=false:=by rw[zqd];omega
  refine ag ?_;refine ag (vm ?_);simp only[wq.1,seval,t0,t8,d1];refine vm ?_;simp only[wq.1,↓reduceIte];show awp _ _ _ _ _ _ _;refine vm ?_;simp only[wq.1,seval,t7,hd,aT];exact az.tup (ak.cons (uB rfl hol.symm) (ak.cons (az.dat rfl) ak.nil))
theorem Q9:FB P 80:=by
 refine⟨by kernel_rfl,fun w a b p q=> ?_⟩;have p0:∀(x y:Value),(part 9 #[x,y] 0).run P w= .ok x w:=fun x y=>run_part_plain w (by simp[Program.plainKey,Tryz.underlying9]) (by simp);have p1:∀(x y:Value),(part 4 #[x,y] 1).run P w= .ok y w:=fun x y=>run_part_plain w (by simp[Program.plainKey,Tryz.underlying4]) (by simp);have hso:P.stoodInHeld 80=false:=by kernel_rfl
 show(Op.equalIn 10000 80 (.agg #[.string a,.bool p]) (.agg #[.string b,.bool q])).run P w= .ok (a==b&&p==q) w;rw[Op.equalIn];have e1:=yL (P:=P) (w:=w) Tryz.underlying9 9998;have e2:=wX (P:=P) (w:=w) Tryz.underlying4 9998;simp only[Sem.run_bind,run_underlying Tryz.underlying80,Result.andThen];cases h1:(a==b)<;>cases h2:(p==q)<;>simp[hso,p0,p1,e1,e2,Sem.run_bind,Result.andThen,h1,h2]
theorem Jv (l o:List (List Lt)) (hl:l.length≤1000000) (hc:∀c∈l,c.length≤1000000):Ev TE 14 [lss l,lss o] (.bool (l==o)):=by
 have hM:maxLen=9223372036854775807:=rfl;refine ai Tryz.func14 rfl (by simp[nts]) ?_;refine ag (vm ?_);simp only[wq.1,Nat.reduceLT,Tryz.results14];by_cases hn:l.length=o.length
 case neg =>
  have e1:((l.length:Int) != (o.length:Int))=true:=by rw[bne_iff_ne];omega
  have e2:(l==o)=false:=by rw[beq_eq_false_iff_ne];rintro rfl;exact hn rfl
  rw[e2];refine ag (vm ?_);simp only[wq.1,seval,e1];exact az.dat rfl
 have e1:((l.length:Int) != (o.length:Int))=false:=by rw[bne_eq_false_iff_eq];omega
 refine ag (vm ?_);simp only[wq.1,seval,e1];refine ag ?_;refine ag (vm ?_);simp only[wq.1,Nat.reduceLT];refine aC ?_;refine aB (fun m f h=>∃i,m+i=l.length∧f.t 0=lss l∧f.t 1=lss o∧f.t 5=vi i∧f.d=[]∧l.take i=o.take i) l.length ⟨0,by omega,by simp only[wq.1,seval],by simp only[wq.1,seval],by simp only[wq.1,↓reduceIte];rfl,by simp only[wq.1],rfl⟩ ?_;rintro m f h ⟨i,hm,t0,t1,t5,hd,hall⟩;by_cases hlt:i<l.length
 ·have hlo : i < o.length := by omega
  have d1:decide ((i:Int)<(l.length:Int))=true:=by rw[zqb];omega
  have hw:=aA (show i<maxLen by omega);have hgl:=oN hlt .any;have hgo:=oN hlo .any;have hcl:=hc _ (zqu hlt);have hne:l[i]≠o[i]→(l==o)=false:=AL hn hlt;have hsu:l[i]=o[i]→l.take (i+1)=o.take (i+1):=fun he=>by rw[zrg,zrg,hall,zqk hlt,zqk hlo,he]
  obtain⟨c,hce⟩:∃c,c=l[i]:=⟨_,rfl⟩;obtain⟨d,hde⟩:∃d,d=o[i]:=⟨_,rfl⟩;rw[←hce]at hgl hcl hne hsu;rw[←hde]at hgo hne hsu;refine ag ?_;refine ag (vm ?_);simp only[wq.1,seval,t0,t5,d1];refine vm ?_;simp only[wq.1,↓reduceIte];show awp _ _ _ _ _ _ _;refine ag (aC ?_);by_cases hcd:c.length=d.length
  case neg =>
   have e2:((c.length:Int) != (d.length:Int))=true:=by rw[bne_iff_ne];omega
   rw[hne (by rintro rfl;exact hcd rfl)];refine ag (vm ?_);simp only[wq.1,seval,t0,t1,t5,hd,hgl,hgo,e2];exact⟨by decide +kernel,⟨by omega,by omega⟩,⟨by omega,by omega⟩,az.dat rfl⟩
  have e2:((c.length:Int) != (d.length:Int))=false:=by rw[bne_eq_false_iff_eq];omega
  refine ag (vm ?_);simp only[wq.1,seval,t0,t1,t5,hgl,hgo,e2];refine⟨by decide +kernel,⟨by omega,by omega⟩,⟨by omega,by omega⟩,?_⟩;refine ag (vm ?_);simp only[wq.1,Nat.reduceLT];refine aC ?_;refine aB (fun m' f h=>∃k,m'+k=c.length∧f.t 0=lss l∧f.t 1=lss o∧f.t 5=vi i∧f.t 6=vi k∧f.d=[]∧c.take k=d.take k) c.length ⟨0,by omega,t0,t1,t5,by simp only[wq.1,↓reduceIte];rfl,hd,rfl⟩ ?_;clear t0 t1 t5 hd f;rintro m' f h ⟨k,hm',t0,t1,t5,t6,hd,hkall⟩;by_cases hlt2:k<c.length
  ·have hlo2 : k < d.length := by omega
   have d2:decide ((k:Int)<(c.length:Int))=true:=by rw[zqb];omega
   have hw2:=aA (show k<maxLen by omega);have hgc:=pY hlt2 .any;have hgd:=pY hlo2 .any;have hne2:c[k]≠d[k]→c≠d:=fun h he=>by subst he;exact h rfl
   have hsu2:c[k]=d[k]→c.take (k+1)=d.take (k+1):=fun he=>by rw[zrg,zrg,hkall,zqk hlt2,zqk hlo2,he]
   obtain⟨x,hx⟩:∃x,x=c[k]:=⟨_,rfl⟩;obtain⟨y,hy⟩:∃y,y=d[k]:=⟨_,rfl⟩;rw[←hx]at hgc hne2 hsu2;rw[←hy]at hgd hne2 hsu2;refine ag ?_;refine ag (vm ?_);simp only[wq.1,seval,t0,t5,t6,hgl,d2];refine⟨⟨by omega,by omega⟩,?_⟩;refine vm ?_;simp only[wq.1,↓reduceIte];show awp _ _ _ _ _ _ _;refine ag (aC ?_);cases hxy:(x==y)with
   | false=>have hxn:x≠y:=beq_eq_false_iff_ne.1 hxy;rw[hne (hne2 hxn)];refine vm ?_;simp only[wq.1,seval,t0,t1,t5,t6,hd,hgl,hgo,hgc,hgd,Q9,rE,D9,WV,hxy];exact⟨by decide +kernel,⟨by omega,by omega⟩,⟨by omega,by omega⟩,⟨by omega,by omega⟩,⟨by omega,by omega⟩,az.dat rfl⟩
   | true =>
    have hxe:x=y:=by simpa using hxy
    refine vm ?_;simp only[wq.1,seval,t0,t1,t5,t6,hgl,hgo,hgc,hgd,Q9,rE,D9,WV,hxy];refine⟨by decide +kernel,⟨by omega,by omega⟩,⟨by omega,by omega⟩,⟨by omega,by omega⟩,⟨by omega,by omega⟩,?_⟩;refine vm ?_;simp only[wq.1,seval,t6,hw2];exact .inl ⟨m'-1,by omega,k+1,by omega,t0,t1,t5,by simp only[wq.1,↓reduceIte],hd,hsu2 hxe⟩
  ·have : k = c.length := by omega
   subst this;have d2:decide (((List.length c:Nat):Int)<(c.length:Int))=false:=by rw[zqd];omega
   rw[zrx,hcd,zrx]at hkall;refine ag ?_;refine ag (vm ?_);simp only[wq.1,seval,t0,t5,t6,hgl,d2];refine⟨⟨by omega,by omega⟩,?_⟩;refine vm ?_;simp only[wq.1,↓reduceIte];show awp _ _ _ _ _ _ _;refine vm ?_;simp only[wq.1,seval,t5,hw];exact .inl ⟨m-1,by omega,i+1,by omega,t0,t1,by simp only[wq.1,↓reduceIte],hd,hsu hkall⟩
 ·have : i = l.length := by omega
  subst this;have d1:decide (((List.length l:Nat):Int)<(l.length:Int))=false:=by rw[zqd];omega
  rw[zrx,hn,zrx]at hall;subst hall;rw[show(l==l)=true from by simp];refine ag ?_;refine ag (vm ?_);simp only[wq.1,seval,t0,t5,d1];refine vm ?_;simp only[wq.1,↓reduceIte];show awp _ _ _ _ _ _ _;refine vm ?_;simp only[wq.1,seval,hd];exact az.dat rfl
theorem Rf {m:Mo} (h:m.few=true):m.g.Sm∧m.lat.length≤40∧m.g.next.length≤4000∧m.g.init.length≤4000∧m.g.ands.length≤4000∧m.g.outs.length≤4000∧m.ins.length≤4000∧m.lat.length≤4000∧m.out.length≤4000:=by simp only[Mo.few,Gr.few,I4,zqf,zqb]at h;obtain⟨⟨h1,h2,h3,h4,h5⟩,⟨h6,_⟩,⟨h7,_⟩,⟨h8,_⟩⟩:=h;exact⟨⟨by omega,by omega⟩,by omega,by omega,by omega,by omega,by omega,by omega,by omega,by omega⟩
theorem Oe (m:Mo) (hf:m.few=true) (l:List (List Lt)) (st:List Bool) (hl:l.length≤1000000) (hc:∀c∈l,c.length≤1000000):Ev TE 13 [m.v,lss l,eP st] (.tup [.bool (kJ m l st).1,vi (kJ m l st).2]):=by
 have hM:maxLen=9223372036854775807:=rfl;obtain⟨hsm,hlat,b1,b2,b3,b4,b5,b6,b7⟩:=Rf hf;have e1:=Fj m b1 b2 b3 b4 b5 b6 b7;have e2:=E9 m l (by omega) hl hc;unfold Mo.v at *;refine ai Tryz.func13 rfl (by simp[nts]) ?_;refine ag (vm ?_);simp only[wq.1,Nat.reduceLT,Tryz.results13];refine ag (vm ?_);simp only[wq.1,seval];refine ah.ev e1 rfl ?_;simp only[wq.1,seval];refine ag (vm ?_);simp only[wq.1,seval];by_cases hz:m.chk=0
 case neg =>
  have ez:(m.chk != 0)=true:=by simpa using hz
  have ev:kJ m l st=(false,m.chk):=by
   have ep:(bK m l).2=m.chk:=by unfold bK;rw[if_pos hz]
   unfold kJ;rw[if_pos (by rw[ep];exact hz),ep]
  rw[ev];simp only[wq.1,seval,ez];exact az.dat rfl
 have ez:(m.chk != 0)=false:=by simpa using hz
 simp only[wq.1,ez];refine ag (vm ?_);simp only[wq.1,seval];refine ah.ev e2 (by simp only[V.dats,V.dat,(dV l).1,zre]) ?_;simp only[wq.1,seval];have hka:=NG hz l;cases hk:qf m l with
 | false =>
  have ev:kJ m l st=(false,12):=by
   have ep:(bK m l).2=12:=by unfold bK;rw[if_neg (by simpa using hz),if_neg (by rw[hka,hk];decide)]
   unfold kJ;rw[if_pos (by rw[ep];decide),ep]
  rw[ev];simp only[wq.1,seval];exact az.dat rfl
 | true =>
  have ep:(bK m l).2=0:=by unfold bK;rw[if_neg (by simpa using hz),if_pos (by rw[hka,hk])]
  simp only[wq.1];by_cases hst:st.length=m.lat.length
  case neg =>
   have e3:((st.length:Int) != (m.lat.length:Int))=true:=by rw[bne_iff_ne];omega
   have ev:kJ m l st=(false,11):=by unfold kJ;rw[if_neg (by rw[ep];decide),if_pos hst]
   rw[ev];refine ag (vm ?_);simp only[wq.1,seval,e3];exact az.dat rfl
  have e3:((st.length:Int) != (m.lat.length:Int))=false:=by rw[bne_eq_false_iff_eq];omega
  have ev:kJ m l st=(l.all fun c=>c.any (jO m st),0):=by unfold kJ;rw[if_neg (by rw[ep];decide),if_neg (by simpa using hst),P9 hz]
  rw[ev];have e4:=Ns m l st (by omega) hl hc hst (fun c hc' x hx=>by
   have:=zrs.1 (zrs.1 hk c hc') x hx;simpa [iU]using this)
  unfold Mo.v at e4;refine ag (vm ?_);simp only[wq.1,seval,e3];refine ag (vm ?_);simp only[wq.1,seval];refine ah.ev e4 (by simp only[V.dats,V.dat,(dV l).1,zre]) ?_;simp only[wq.1,seval];refine vm ?_;simp only[wq.1,seval];exact az.tup (ak.cons (az.dat rfl) (ak.cons (az.dat rfl) ak.nil))
theorem ev_itells (m:Mo) (l:List (List Lt)) (a b:List S) (st:List Bool):Ev TE 3 [m.v,lss l,tab a b,eP st] (.bool true):=by
 have hM:maxLen=9223372036854775807:=rfl;have h11:=QB m;have hfw:=Qv l 30 (by decide);have hho:=fun(hs:m.g.Sm)=>Dl m hs l st;have hro:=fun hf=>Oe m hf l st;unfold Mo.v at *;refine ai Tryz.func3 rfl (by simp[nts]) ?_;refine ag (vm ?_);simp only[wq.1,seval,Tryz.results3];refine ag (vm ?_);simp only[wq.1,Nat.reduceLT];refine ah.ev Jt rfl ?_;simp only[wq.1,seval];refine ag (vm ?_);simp only[wq.1,seval];refine ag (vm ?_);simp only[wq.1,seval];refine ah.ev h11 rfl ?_;cases hmf:m.few with
 | false=>simp only[wq.1,seval];refine⟨.bool true,?_⟩;simp only[wq.1];refine ag (vm ?_);simp only[wq.1,seval];exact az.dat rfl
 | true =>
 simp only[wq.1,seval];refine ah.ev hfw (by simp only[V.dats,V.dat,(dV l).1,zre]) ?_;simp only[wq.1,seval];refine ag (vm ?_);simp only[wq.1,seval];refine vcB.mk (fun hc=> ?_) (fun hc=> ?_)
 ·simp only[wq.1,seval];exact az.dat rfl
 simp only[Bool.or_eq_false_iff,Bool.not_eq_false',zqd]at hc;obtain⟨⟨⟨hf,ha⟩,hb⟩,hst⟩:=hc;obtain⟨hl,hcl⟩:=Ub hf;obtain⟨hsm,hlat,_⟩:=Rf hmf;have hc2:∀c∈l,c.length≤1000000:=fun c hc=>by have:=(hcl c hc).1;omega
 have e1:=yH a b l (by omega) hc2;have e2:=Oc l (by omega) hc2;have e3:=Ui a b l (by omega) hc2;have e4:=hho hsm (by omega) (by omega) hc2 (by omega);have e5:=hro hmf (by omega) hc2;have hr:=QC a b l;have hrl:(oZ a b l).1.length≤1000000:=by rcases hr with⟨_,_,h,_⟩ | ⟨_,h⟩<;>rw[h];omega;exact Nat.zero_le _
 have hrc:∀d∈(oZ a b l).1,d.length≤1000000:=fun d hd=>by
  rcases hr with⟨_,_,_,h⟩ | ⟨_,h⟩
  ·obtain⟨c,hc,h2⟩:=h d hd;have:=(hcl c hc).1;omega
  ·rw[h]at hd;cases hd
 have e6:=Oc (oZ a b l).1 hrl hrc;have e7:=Jv (oZ a b l).1 (oZ a b l).1 hrl hrc;rw[show((oZ a b l).1==(oZ a b l).1)=true from by simp]at e7;obtain⟨rl,re,hrr⟩:∃rl re,oZ a b l=(rl,re):=⟨_,_,rfl⟩;obtain⟨hb1,he1,hhv⟩:∃x y,kJ m l st=(x,y):=⟨_,_,rfl⟩;rw[hrr]at e1 e3 e6 e7;rw[hhv]at e4 e5;dsimp only at e1 e3 e4 e5 e6 e7;simp only[wq.1];refine ag (vm ?_);simp only[wq.1,seval];refine ah.ev e1 (by simp only[V.dats,V.dat,(dV l).1,bV,zre]) ?_;simp only[wq.1,seval];refine ag (vm ?_);simp only[wq.1,seval];refine⟨by decide +kernel,ul.mk e2 rfl (by simp only[V.dats,V.dat,(dV _).1,bV,iT,zre]) ?_⟩;simp only[wq.1,seval];refine ul.mk e3 rfl (by simp only[V.dats,V.dat,(dV _).1,bV,iT,zre]) ?_;simp only[wq.1,seval];refine ag (vm ?_);simp only[wq.1,seval];refine ah.ev e4 (by simp only[V.dats,V.dat,(dV _).1,bV,iT,zre]) ?_;simp only[wq.1,seval];refine ag (vm ?_);simp only[wq.1,seval];refine⟨by decide +kernel,ul.mk e2 rfl (by simp only[V.dats,V.dat,(dV _).1,bV,iT,zre]) ?_⟩;simp only[wq.1,seval];refine ul.mk e5 rfl (by simp only[V.dats,V.dat,(dV _).1,bV,iT,zre]) ?_;simp only[wq.1,seval];refine ag (vm ?_);simp only[wq.1,seval];refine ah.ev e6 (by simp only[V.dats,V.dat,(dV _).1,bV,iT,zre]) ?_;simp only[wq.1,seval];refine ah.ev e7 (by simp only[V.dats,V.dat,(dV _).1,bV,iT,zre]) ?_;simp only[wq.1,seval];refine ag (vm ?_);simp only[wq.1,seval];refine vm ?_;simp only[wq.1,↓reduceIte];exact az.dat rfl
end Go.Proofs.YtmlacppmbfbjgaaGreatDoor
