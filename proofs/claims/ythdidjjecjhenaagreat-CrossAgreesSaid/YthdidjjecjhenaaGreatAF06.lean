/- Lemmas for this claim, part F06: each holds under what it names. -/
import Derived.Test.YthdidjjecjhenaaGreatAF05
import Derived.Test.YthdidjjecjhenaaGreatAA7
import Derived.Test.YthdidjjecjhenaaGreatAA8
set_option linter.all false
set_option maxRecDepth 20000
set_option maxHeartbeats 2000000
namespace Go.Proofs.YthdidjjecjhenaaGreat
open Go Go.Proofs Go.Abs
open List renaming length → aa, replicate → aD
open Bool renaming true → ab, false → am
open Option renaming some → ar, none → aL
open Decidable renaming decide → aM
open Go.IntKind renaming wrap → a5
open Go.Result renaming andThen → a8
open Go.Abs.O renaming cells → aw
open Go.Abs.V renaming drops → aE, dat → a6, dats → a7
section
variable{n:Nat}{bud:Int}{L:Lay}{S:St}{h:H}{a:Int}{j:Nat}{l d Lc:List Cl}
def Fq(L:Lay)(m id:Nat):Lay:={L with k:=λi=>if i=m then id else L.k i,ro:=λq=>if q=id then ar (.k m)else L.ro q}
variable{m id:Nat}
theorem PH{nc:Nat}(h0:L.ro id=aL):LX nc L (Fq L m id) :=
 ⟨rfl,rfl,rfl,rfl,rfl,rfl,rfl,λ_ _=>rfl,λ_ _ h=>h,λi r hi=>by
  show(if i=id then ar (Ro.k m)else L.ro i)=ar r;rw[if_neg λe=>by rw[e,h0]at hi;cases hi];exact hi⟩
theorem HS.pushLn(hs:HS n bud L S h){id:Nat}{out:Cl}(h0:L.ro id=aL)(hid:h[id]? =ar (aw (out.map vi))) :
 HS n bud (Fq L (aa S.ln) id) (lnS S out) (((h.map (O.drop λx => x == L.g)).set L.g (aw ((List.range (aa S.ln)).map (lnV L S) ++ [.ls id 1 0 (aa out) (aa out)]))).set L.s
  (aw [.ls L.v 5 0 (n+1) (n+1),.lm L.m,.ls L.t 1 0 (aa S.tr) (aa S.tr),vi S.hd,.ls L.l 1 0 (aa S.lv) (aa S.lv),.ls L.x 2 0 (aa S.nx) (aa S.nx),.ls L.g 1 0 (aa S.ln+1) (aa S.ln+1),vi bud])):=by
 have k:=hs.toHR.drop (p:=λx=>x==L.g) (Tf L hs.rg (.inr (.inr (.inr rfl))));have hlg:=hs.rlt _ _ hs.rg;have hls:=hs.rlt _ _ hs.rs;have RO:∀ {i:Nat} {r:Ro},L.ro i=ar r->(Fq L (aa S.ln) id).ro i=ar r:=λ{i r} hi=>(PH (nc:=0) h0).ro _ _ hi;have ne:∀ {i:Nat} {r:Ro},L.ro i=ar r->r≠ .s->r≠ .g->∀o q:O,(((h.map (O.drop λx=>x==L.g)).set L.g o).set L.s q)[i]? =(h.map (O.drop λx=>x==L.g))[i]? :=λ{i r} hi h1 h2 o q=>by rw[zqn (bW L hs.rs hi (Ne.symm h1)),zqn (bW L hs.rg hi (Ne.symm h2))]
 have hidg:L.g≠id:=λe=>by have:=hs.rg;rw[e,h0]at this;cases this
 have hids:L.s≠id:=λe=>by have:=hs.rs;rw[e,h0]at this;cases this
 have hgs:L.s≠L.g:=bW L hs.rs hs.rg (by simp);have hkn:∀i,i<aa S.ln->(Fq L (aa S.ln) id).k i=L.k i:=λi hi=>if_neg (Nat.ne_of_lt hi);have hgd:∀i,i<aa S.ln->(S.ln++[out]).getD i []=S.ln.getD i []:=λi hi=>by rw[zqg,zqj hi,<-zqg]
 have hgl:(S.ln++[out]).getD (aa S.ln) []=out:=by simp[zqg]
 refine⟨{var:=(ne k.rv (by simp) (by simp) _ _).trans k.var,map:= ?_,trl:=(ne k.rt (by simp) (by simp) _ _).trans k.trl,lvl:=(ne k.rl (by simp) (by simp) _ _).trans k.lvl,nxl:=(ne k.rx (by simp) (by simp) _ _).trans k.nxl,lnl:= ?_,lnk:=λi hi=> ?_,cla:=λq hq=>⟨(ne (k.cla q hq).2 (by simp) (by simp) _ _).trans (k.cla q hq).1,RO (k.cla q hq).2⟩,wat:=λb=> ?_,fre:=k.fre,fwt:=k.fwt,rs:=RO k.rs,rv:=RO k.rv,rm:=RO k.rm,rt:=RO k.rt,rl:=RO k.rl,rx:=RO k.rx,rg:=RO k.rg,rlt:=λi r hr=> ?_,ext:=λi o ho=> ?_},?_⟩
 ·obtain⟨ks,h1,h2⟩:=k.map;exact⟨ks,(ne k.rm (by simp) (by simp) _ _).trans h1,h2⟩
 ·show(((h.map (O.drop λx=>x==L.g)).set L.g _).set L.s _)[L.g]? =ar (aw ((List.range (aa (S.ln++[out]))).map (lnV (Fq L (aa S.ln) id) (lnS S out))));rw[zqn hgs,zqt (by simpa using hlg),zqa,zrk,List.range_succ,zql]
  congr 2
  congr 1
  ·refine zsd λi hi=> ?_;have hi:=List.mem_range.1 hi;show V.ls (L.k i) 1 0 (aa (S.ln.getD i [])) (aa (S.ln.getD i []))=V.ls ((Fq L (aa S.ln) id).k i) 1 0 (aa ((S.ln++[out]).getD i [])) (aa ((S.ln++[out]).getD i []));rw[hkn i hi,hgd i hi]
  ·show [V.ls id 1 0 (aa out) (aa out)]=[V.ls ((Fq L (aa S.ln) id).k (aa S.ln)) 1 0 (aa ((S.ln++[out]).getD (aa S.ln) [])) (aa ((S.ln++[out]).getD (aa S.ln) []))];rw[show(Fq L (aa S.ln) id).k (aa S.ln)=id from if_pos rfl,hgl]
 ·have hi:i<aa (S.ln++[out]):=hi;rw[zqa,zrk]at hi;show(((h.map (O.drop λx=>x==L.g)).set L.g _).set L.s _)[(Fq L (aa S.ln) id).k i]? =ar (aw (((S.ln++[out]).getD i []).map vi))/\(Fq L (aa S.ln) id).ro ((Fq L (aa S.ln) id).k i)=ar (Ro.k i);by_cases he:i=aa S.ln
  ·subst he;rw[show(Fq L (aa S.ln) id).k (aa S.ln)=id from if_pos rfl,hgl];refine⟨?_,if_pos rfl⟩;rw[zqn hids,zqn hidg,zqo,hid,zrw,aZ,aN]
  ·have hi2:i<aa S.ln:=by omega
   rw[hkn i hi2,hgd i hi2];exact⟨(ne (k.lnk i hi2).2 (by simp) (by simp) _ _).trans (k.lnk i hi2).1,RO (k.lnk i hi2).2⟩
 ·have kw:=k.wat b;unfold iG at kw ⊢;rw[show(Fq L (aa S.ln) id).w b=L.w b from rfl];cases hw:L.w b with
  |none=>rw[hw]at kw;exact kw
  |some i=>rw[hw]at kw;exact⟨(ne kw.2 (by simp) (by simp) _ _).trans kw.1,RO kw.2⟩
 ·have hr:(if i=id then ar (Ro.k (aa S.ln))else L.ro i)=ar r:=hr;rw[zrn,zrn,zra];split at hr
  ·rename_i e;rw[e];exact(zqe hid).1
  ·exact hs.rlt i r hr
 ·have ho:(if i=id then ar (Ro.k (aa S.ln))else L.ro i)=ar (.e o):=ho;split at ho
  ·cases ho
  ·exact⟨(ne ho (by simp) (by simp) _ _).trans (k.ext i o ho).1,(k.ext i o ho).2.mono λi r hi=>RO hi⟩
 ·rw[show(Fq L (aa S.ln) id).s=L.s from rfl,zqt (by simpa using hls)];simp[ay,lnS,Fq]
end
section
variable{n:Nat}{bud:Int}{L:Lay}{S:St}{h:H}{a:Int}{j:Nat}{l d Lc:List Cl}
def nT(seen:List Nat):Cl:=seen.map λv=>((v:Nat):Int)
variable{seen:List Nat}
theorem zq{v:Nat}:(v:Int)∈nT seen↔v∈seen:=by unfold nT;rw[zrh];exact⟨λ⟨w,h1,h2⟩=>by rwa [show w=v by omega]at h1,λh=>⟨v,h,rfl⟩⟩
theorem JA(seen:List Nat)(v:Nat):qF (.int .i64) (vi v) ((nT seen).map vi) ((nT seen).map λ_=> .bool ab) (.bool am) am=(True,.bool (aM (v∈seen))):=by
 unfold qF;rw[ET];cases hf:(nT seen).findIdx? (·==(v:Int))with
 |none =>
  have:¬v∈seen:=λhm=>by have:=List.findIdx?_eq_none_iff.1 hf v (zq.2 hm);simp at this
  simp only[cond_false,decide_eq_false this]
 |some q =>
  obtain⟨h1,h2,_⟩:=List.findIdx?_eq_some_iff_getElem.1 hf;have h2:(nT seen)[q]=v:=by simpa using h2
  have hm:v∈seen:=zq.1 (h2▸zqu h1);simp only[cond_false,zqg,zqo,zqk h1,zrw,Option.getD_some,decide_eq_true hm]
theorem Tu{v:Nat}(hv:¬v∈seen):IZ (.int .i64) (vi v) (.bool ab) ((nT seen).map vi) ((nT seen).map λ_=> .bool ab)=ar ((nT (seen++[v])).map vi,(nT (seen++[v])).map λ_=> .bool ab):=by
 unfold IZ;rw[ET];cases hf:(nT seen).findIdx? (·==(v:Int))with
 |none=>simp only[nT,zql,zrd,List.map_nil]
 |some q =>
  obtain⟨h1,h2,_⟩:=List.findIdx?_eq_some_iff_getElem.1 hf;have h2:(nT seen)[q]=v:=by simpa using h2
  exact absurd (zq.1 (h2▸zqu h1)) hv
end
section
variable{n:Nat}{bud:Int}{L:Lay}{S:St}{h:H}{a:Int}{j:Nat}{l d:List Cl}
def AU(seen:List Nat):O:= .map ((nT seen).map vi) ((nT seen).map λ_=> .bool ab)
def LH(h:H)(seen:List Nat)(x:Int)(rest:Cl)(h':H):Prop:=h'[aa h]? =ar (AU seen)/\h'[aa h+1]? =ar (aw (vi x::rest.map vi))/\aa h+2<=aa h'
variable{seen:List Nat}
theorem LI.len{rest:Cl}(k:LI S seen rest)(t:Tr n S):aa rest<=n+1:=by
 have:=gY (m:=n+1) k.rn λx hx=>by obtain⟨a,ha,rfl⟩:=zrh.1 hx;have:=t.rng _ (k.s2 a ha).1;omega
 simpa using this
variable{rs:Cl}{i:Nat}
theorem PK(hi:i<aa rs)(y:V):List.take ((i+1)*1) (y::vi (rs.getD i 0)::List.drop 1 (rs.map vi))++[vi (rs.getD 0 0)]++List.drop ((i+1)*1) (vi (rs.getD i 0)::List.drop 1 (rs.map vi))=y::(sw rs 0 i 0).map vi:=by
 match rs,hi with
 |x::r,hi =>
  rw[Nat.mul_one];cases i with
  |zero=>simp[sw]
  |succ j =>
   have hj:j<aa r:=by simpa using hi
   have e:(sw (x::r) 0 (j+1) 0).map vi=vi (r.getD j 0)::(r.map vi).set j (vi x):=by simp[sw,List.map_set]
   rw[e,List.set_eq_take_append_cons_drop,if_pos (by simpa using hj)];simp
theorem VQ(hi:i<aa rs):∃r,sw rs 0 i 0=rs.getD i 0::r:=by
 match rs,hi with
 |x::r,hi =>
  cases i with
  |zero=>exact⟨r,by simp[sw]⟩
  |succ j=>exact⟨r.set j x,by simp[sw]⟩
theorem VR(hi:i<aa rs){b:Int}(hb:b∈(sw rs 0 i 0).take (i+1)):b∈rs.take (i+1):=by
 match rs,hi with
 |x::r,hi =>
  cases i with
  |zero=>simpa [sw]using hb
  |succ j =>
   have hj:j<aa r:=by simpa using hi
   have e:sw (x::r) 0 (j+1) 0=r[j]::r.set j x:=by simp[sw,zqg,hj]
   rw[e,List.take_succ_cons,zrj]at hb;rw[List.take_succ_cons,zrj];rcases hb with rfl|hb
   ·exact .inr (lM hj (by omega))
   ·obtain⟨k,hk,hk2,rfl⟩:=jR hb;rw[List.getElem_set];split
    ·exact .inl rfl
    ·exact .inr (lM (by simpa using hk) hk2)
def XM:Plan:=tkZ [0,1,2,3,4,5,6,7,9,10]<| .alt 8 (.one 11<| .take 12<| .one 13<| .take 14<| .one 15<| .fin) (.one 11 (.one 8<| .take 12<| .one 13<| .take 14<| .one 15<| .fin))
theorem VT(hs:HS n bud L S h)(hn:n<=20000){k:Nat}(hk:k<=n)(hv:(S.v k).value≠0){R:AEnd->H->(Nat->Bool)->Prop}
 (hr:∀h',HS n bud L (vJ S k (a5 .i64 ((S.v k).score+1))) h'->aa h'=aa h->(∀i,L.ro i=aL->h'[i]? =h[i]?)->R (.ret (.tup [])) h' (λ_=>am)):ag TE 129 [.lp L.s 0,vi k] h R:=by
 have hM:=mLx;have hvar:=hs.var;have hsol:=hs.sol;have hvs:L.v≠L.s:=bW L hs.rv hs.rs (by simp);have hlv:=hs.rlt _ _ hs.rv;have hB:=hs.bump hk (s:=a5 .i64 ((S.v k).score+1));have hz:((S.v k).value==0)=am:=by simpa using hv
 have g0:((eH L S n).set (k*5+4) (vi (a5 .i64 ((S.v k).score+1)))).getD (k*5) .any=vi (S.v k).value:=by rw[zqg,zqn (by omega),<-zqg];exact vc0 hk
 refine ah Tryz.func129 rfl (by simp[nts]) (vm ?_);simp only[wq.1,seval,Tryz.results129,hsol,ay,hvar,bY,zqt,zrn,hlv,YI hk,vc4 hk,zqn,hvs,ne_eq,not_false_eq_true,g0,hz];exact⟨⟨by omega,by omega⟩,by omega,⟨by omega,by omega⟩,by omega,⟨by omega,by omega⟩,by omega,hr _ hB (by simp) λi hi=>zqn λe=>by rw[<-e,hs.rv]at hi;cases hi⟩
theorem Il(hs:HS n bud L S h)(hn:n<=20000)(i0:Inv n l d S.ln S)(hlv:0<aa S.lv)(hj:j<S.nc)(hf:∀b∈S.cl j,-b∈S.tr)(htop:∃b∈S.cl j,gG S b=aa S.lv){R:AEnd->H->(Nat->Bool)->Prop}
 (hr:∀S' out k id h' p,Sco S S'->Inv n l d S.ln S'->Lrnt n l S out k->HS n bud L S' h'->L.ro id=aL->h'[id]? =ar (aw (out.map vi))->aa h<=aa h'->(∀q,p q=ab->L.ro q=aL)->R (.ret (.tup [.ls id 1 0 (aa out) (aa out),vi k])) h' p) :
 ag TE 120 [.lp L.s 0,clV L S j] h R:=by
 have hM:=mLx;refine ah Tryz.func120 rfl (by simp[nts]) ?_;refine vn ?_;simp only[wq.1,Nat.reduceLT,Tryz.results120];refine vn ?_;simp only[wq.1,seval];refine ak ?_;refine Jg rfl (by decide) ?_;refine vC (x:= .const (.int .i64 0)) (t:=136) rfl (q:={kind:= .slice 3,size:=1,bytes:=24,zero:= .nils}) (by simp only[wq.1]) (el:=3) rfl (re:={kind:= .int .i64,size:=1,bytes:=8,zero:= .int .i64 0}) (by simp only[wq.1]) rfl (by simp only[wq.1]) (kk:= .i64) (m:=0) (by simp only[wq.1]) ?_;simp only[wq.1,seval];have hA:=hs.app [AU [],aw [vi 0]];have eA:h++[O.map [] []]++[aw [vi 0]]=h++[AU [],aw [vi 0]]:=by simp[AU,nT]
 have eA1:(h++[AU [],aw [vi 0]])[aa h]? =ar (AU []):=by simp
 have eA2:(h++[AU [],aw [vi 0]])[aa h+1]? =ar (aw [vi 0]):=by simp
 have hsolA:=hA.sol;have htl:=i0.t.len;have hwA:a5 .i64 ((aa S.tr:Int)-1)=(aa S.tr:Int)-1:=aV (by omega) (by omega);rw[eA];refine vn ?_;simp only[wq.1,seval,hsolA,ay,hwA];refine⟨by decide +kernel,?_⟩;refine ak (dh (Q:=λxe f' h'=>xe= .normal/\∃(S':St)(seen:List Nat)(rest:Cl)(q:Nat)(hq:q<aa S.tr),Sco S S'/\Inv n l d S.ln S'/\HS n bud L S' h'/\LI S seen rest/\(S.tr[q]).natAbs∈seen/\gG S S.tr[q]=aa S.lv/\Bad (l++S.ln) (Dn (-S.tr[q]::rest)) /\
  f'.t 0= .lp L.s 0/\f'.t 7= .ls (aa h+1) 1 0 (aa rest+1) (aa rest+1)/\f'.t 10=vi S.tr[q]/\f'.d=[]/\(∀i,f'.k i=ab->L.ro i=aL)/\LH h seen 0 rest h') ?_ (aB ?_))
 ·rintro xe f' h' ⟨rfl,S',seen,rest,q,hq,c1,c2,c3,c4,c5,c6,c7,g0,g7,g10,gd,gk,hl⟩;show awp _ _ _ _ _ _ _;obtain⟨hl1,hl2,hl3⟩:=hl;obtain⟨p,ep⟩:∃p,p=S.tr[q]:=⟨_,rfl⟩;rw[<-ep]at c5 c6 c7 g10;have hpn:p.natAbs<=n:=ep▸(i0.t.rng _ (zqu hq)).2;have hwn:a5 .i64 (0-p)=-p:=by rw[aV (by omega) (by omega)];omega
  have hrl:=c4.len i0.t;have hro1:L.ro (aa h+1)=aL:=by
   cases e:L.ro (aa h+1)with
   |none=>rfl
   |some r=>have:=hs.rlt _ _ e;omega
  have hcl1:aa (vi 0::rest.map vi)=aa rest+1:=by simp
  refine vm ?_;simp only[wq.1,seval,g7,g10,hl2,hwn,Nat.add_sub_cancel];refine⟨by omega,by omega,?_⟩;refine aA (λm f2 h2=>∃(i:Nat)(rs:Cl)(lv:Nat),m+i=aa rest/\rs.Perm rest/\(∀a∈rs.take i,gG S a<=lv)/\((i=0/\lv=0)\/∃a r,rs=a::r/\gG S a=lv) /\
   f2.t 0= .lp L.s 0/\f2.t 7= .ls (aa h+1) 1 0 (aa rest+1) (aa rest+1)/\f2.t 14=vi lv/\f2.t 126= .ls (aa h+1) 1 1 (aa rest) (aa rest)/\f2.t 127=vi (aa rest)/\f2.t 128=vi i/\f2.d=[]/\(∀i,f2.k i=ab->L.ro i=aL) /\
   HS n bud L S' h2/\h2[aa h+1]? =ar (aw (vi (-p)::rs.map vi))/\aa h+2<=aa h2) (aa rest)
   ⟨0,rest,0,rfl,List.Perm.refl _,by simp,.inl ⟨rfl,rfl⟩,g0,g7,by simp only[wq.1,seval];try rfl,by simp only[wq.1,seval];try rfl,by simp only[wq.1,seval];try rfl,by simp only[wq.1,↓reduceIte];try rfl,gd,gk,c3.congr (λi r hi=>zqn λe=>by rw[<-e,hro1]at hi;cases hi) (by simp),zqt (by omega),by rw[zrn];exact hl3⟩ ?_
  rintro m f2 h2 ⟨i,rs,lv,hm,hpm,hmx,hmm,e0,e7,e14,e126,e127,e128,ed,ek,hs2,hh2,hl2'⟩;have hrsl:aa rs=aa rest:=hpm.length_eq;have hcl2:aa (vi (-p)::rs.map vi)=aa rest+1:=by simp[hrsl]
  by_cases hi:i<aa rest
  ·have eb:aM ((i:Int)<(aa rest:Int))=ab:=by rw[zqb];omega
   obtain⟨a,ea⟩:∃a,a=rs[i]:=⟨_,rfl⟩;have har:a∈rs:=ea▸zqu _;obtain⟨s1,s2,s3,s4⟩:=c4.s2 a (hpm.mem_iff.1 har);have han:a.natAbs<=n:=by have:=(i0.t.rng _ s1).2;omega
   have hg:(vi (-p)::rs.map vi).getD (1+i*1) .any=vi a:=by rw[Nat.mul_one,Nat.add_comm,ea];simp[zqg,hrsl,hi]
   have hws:a5 .i64 ((i:Int)+1)=((i+1:Nat):Int):=by rw[aV (by omega) (by omega)];omega
   have hvar2:=hs2.var;have hlva:(S'.v a.natAbs).level=gG S a:=c1.level _;have hH:∀rs':Cl,HS n bud L S' (h2.set (aa h+1) (aw (vi (-p)::rs'.map vi))):=λrs'=>hs2.congr (λi r hi=>zqn λe=>by rw[<-e,hro1]at hi;cases hi) (by simp);by_cases hlt:(lv:Int)<gG S a
   ·have bd:aM ((lv:Int)<gG S a)=ab:=decide_eq_true hlt;refine vn ?_;simp only[wq.1,Nat.reduceLT,e127,e128,eb];refine vn ?_;simp only[wq.1,↓reduceIte];refine ak (aB ?_);refine vn ?_;simp only[wq.1,seval,e126,e128,hh2,hg];refine⟨⟨by omega,by omega⟩,by omega,?_⟩;refine vn ?_;simp only[wq.1,seval,e0];refine oO hs2 hn han ?_;simp only[wq.1,seval,hvar2,bY,vc1 han,hlva];refine⟨by omega,?_⟩;refine vn ?_;simp only[wq.1,seval,e14,bd];refine aX (b:=ab) (by simp only[wq.1,↓reduceIte]) (by simp only[wq.1,↓reduceIte]) (λ_=> ?_) (λh=>by cases h);obtain⟨lv2,elv⟩:∃k:Nat,gG S a=k:=⟨(gG S a).toNat,by omega⟩;rw[elv];refine vn ?_;simp only[wq.1,seval];obtain⟨rs2,ers2⟩:∃rs2,rs2=sw rs 0 i 0:=⟨_,rfl⟩;have hg1:(rs.map vi).getD 0 .any=vi (rs.getD 0 0):=by
     have:0<aa rs:=by omega
     simp[zqg,this]
    have hg2:(vi (-p)::rs.map vi).getD ((i+1)*1) .any=vi a:=by rw[Nat.mul_one,ea];simp[zqg,hrsl,hi]
    have hself:∀o,(h2.set (aa h+1) o)[aa h+1]? =ar o:=λo=>zqt (by omega);have ea2:a=rs.getD i 0:=by rw[ea];simp[zqg,hrsl,hi]
    have hsp:=PK (rs:=rs) (i:=i) (by omega) (vi (-p));rw[<-ers2,<-ea2]at hsp;have hln:aa (vi (-p)::vi a::List.drop 1 (rs.map vi))=aa rest+1:=by simp;omega
    refine bK dV XM (λf' h'=>f'.t 0= .lp L.s 0/\f'.t 7= .ls (aa h+1) 1 0 (aa rest+1) (aa rest+1)/\f'.t 14=vi lv2/\f'.t 126= .ls (aa h+1) 1 1 (aa rest) (aa rest)/\f'.t 127=vi (aa rest)/\f'.t 128=vi i/\f'.d=[]/\(∀i,f'.k i=ab->L.ro i=aL)/\h'=h2.set (aa h+1) (aw (vi (-p)::rs2.map vi))) (by decide +kernel) (by decide +kernel) ?_ ?_
    ·simp only[wq.1,seval,XM,e0,e7,e126,e127,e128,ed,hh2,hws,hg1,hg2,hself,List.set_set,hsp];have hdl:aa (List.drop 1 (rs.map vi))+1=aa rs:=by rw[List.length_drop,zra];omega
     rw[hdl]
     and_intros<;>first|omega|exact ek|rfl
    ·rintro f3 h3 ⟨k0,k7,k14,k126,k127,k128,kd,kk,rfl⟩;simp only[wq.1];refine vm ?_;simp only[wq.1,seval,k128,hws];have hp2:rs2.Perm rs:=ers2▸vK (by omega) (by omega);have e20:∃r,rs2=a::r:=by rw[ers2,ea2];exact VQ (by omega)
     obtain⟨r2,e20⟩:=e20;refine .inl ⟨m-1,by omega,i+1,rs2,lv2,by omega,hp2.trans hpm,λb hb=> ?_,.inr ⟨a,r2,e20,elv⟩,k0,k7,k14,k126,k127,rfl,kd,kk,hH rs2,hself _,by rw[zrn];exact hl2'⟩;have hb:=VR (by omega) (ers2▸hb);rw[zrg,zqk (by omega),Option.toList_some,zrf,zrc,<-ea]at hb;rcases hb with hb|rfl
     ·have:=hmx b hb;omega
     ·omega
   ·have bd:aM ((lv:Int)<gG S a)=am:=decide_eq_false hlt;refine vm ?_;simp only[wq.1,seval,e0,e126,e127,e128,eb,hh2,hg];refine⟨⟨by omega,by omega⟩,by omega,oO hs2 hn han ?_⟩;simp only[wq.1,seval,e14,e128,hvar2,bY,vc1 han,hlva,bd,hws];refine⟨by omega,.inl ⟨m-1,by omega,i+1,rs,lv,by omega,hpm,λb hb=> ?_,?_,e0,e7,e14,e126,e127,rfl,ed,ek,hs2,hh2,hl2'⟩⟩
    ·rw[zrg,zqk (by omega),Option.toList_some,zrf,zrc,<-ea]at hb;rcases hb with hb|rfl
     ·exact hmx b hb
     ·omega
    ·rcases hmm with⟨_,h2⟩|hmm
     ·omega
     ·exact .inr hmm
  ·have eb:aM ((i:Int)<(aa rest:Int))=am:=by rw[zqd];omega
   refine vm ?_;simp only[wq.1,seval,e7,e14,e127,e128,ed,eb];have hmx':∀a∈rs,gG S a<=lv:=λa ha=>hmx a (by rw[zqh (by omega)];exact ha);have eo:aa rest+1=aa (-p::rs):=by simp[hrsl]
   rw[eo];refine hr S' (-p::rs) lv (aa h+1) h2 f2.k c1 c2 ?_ hs2 hro1 hh2 (by omega) ek;rw[ep];refine Pj i0 c4 hq (ep▸c5) (ep▸c6) (ep▸c7) hpm ?_ hmx' hlv ?_
   ·rcases hmm with⟨h1,h2⟩|hmm
    ·exact .inl ⟨zse (by omega),h2⟩
    ·exact .inr hmm
   ·refine Bad.mono (λ_ h=>h) (λb hb=> ?_) (ep▸c7);unfold Dn at hb ⊢;rw[zrd,zrj]at hb ⊢;exact hb.imp id λh=>((hpm.map _).mem_iff).2 h
 refine aA (λm f' h'=>∃(S':St)(seen:List Nat)(rest:Cl)(p:Int)(k:Nat),Sco S S'/\Inv n l d S.ln S'/\HS n bud L S' h'/\LA S j m p k seen rest /\
  f'.t 0= .lp L.s 0/\f'.t 1=clV L S k/\f'.t 6= .lm (aa h)/\f'.t 7= .ls (aa h+1) 1 0 (aa rest+1) (aa rest+1)/\f'.t 8=vi (dY S seen m)/\f'.t 9=vi ((m:Int)-1)/\f'.t 10=vi p/\f'.d=[]/\(∀i,f'.k i=ab->L.ro i=aL)/\LH h seen 0 rest h') (aa S.tr)
  ⟨S,[],[],0,j,Sco.refl S,i0,hA,LA.start i0.t hj hf,rfl,rfl,rfl,by simp only[wq.1,seval];try rfl,by simp only[wq.1,seval];simp[dY],rfl,rfl,by simp only[wq.1];try rfl,λq hq=>absurd hq Bool.false_ne_true,eA1,eA2,by simp⟩ ?_
 rintro q f1 h1 ⟨S1,seen,rest,p,k,sc1,i1,hs1,la,g0,g1,g6,g7,g8,g9,g10,gd,gk,hl1⟩;refine aB ?_;refine ak (dh (Q:=λxe f' h'=>xe= .normal/\∃(S':St)(seen:List Nat)(rest:Cl),Sco S S'/\Inv n l d S.ln S'/\HS n bud L S' h'/\LC S j q seen rest /\
  f'.t 0= .lp L.s 0/\f'.t 6= .lm (aa h)/\f'.t 7= .ls (aa h+1) 1 0 (aa rest+1) (aa rest+1)/\f'.t 8=vi (dY S seen q)/\f'.t 9=vi ((q:Int)-1)/\f'.d=[]/\(∀i,f'.k i=ab->L.ro i=aL)/\LH h seen 0 rest h') ?_ ?_)
 ·rintro xe f2 h2 ⟨rfl,S2,seen2,rest2,sc2,i2,hs2,lc2,e0,e6,e7,e8,e9,ed,ek,hl2⟩;show awp _ _ _ _ _ _ _;have hsol2:=hs2.sol;have htr2:=hs2.trl;rw[sc2.tr]at htr2;have hmap:h2[aa h]? =ar (.map ((nT seen2).map vi) ((nT seen2).map λ_=> .bool ab)):=hl2.1;have hqn:=lc2.qn;have htm:aa (S.tr.map vi)=aa S.tr:=zra ..;refine ak (dh (Q:=λxe f' h'=>xe= .normal/\h'=h2/\∃(q':Nat)(hq:q'<aa S.tr),q'+1<=q/\Gap S seen2 (q'+1) q/\(S.tr[q']).natAbs∈seen2 /\
   f'.t 0= .lp L.s 0/\f'.t 6= .lm (aa h)/\f'.t 7= .ls (aa h+1) 1 0 (aa rest2+1) (aa rest2+1)/\f'.t 8=vi (dY S seen2 q)/\f'.t 9=vi (q':Int)/\f'.d=[]/\(∀i,f'.k i=ab->L.ro i=aL)) ?_ (aB ?_))
  ·rintro xe f3 h3 ⟨rfl,rfl,q',hq',hqq,hgap,hsn,k0,k6,k7,k8,k9,kd,kk⟩;show awp _ _ _ _ _ _ _;obtain⟨a,ea⟩:∃a,a=S.tr[q']:=⟨_,rfl⟩;have han:a.natAbs<=n:=ea▸(i0.t.rng _ (zqu hq')).2;have hg:(S.tr.map vi).getD (q'*1) .any=vi a:=by rw[Nat.mul_one,ea];simp[zqg,hq']
   have etr:aa S2.tr=aa S.tr:=by rw[sc2.tr]
   have hvar2:=hs2.var;obtain⟨n1,n2,n3,n4⟩:=lc2.next i0 hlv hj hf hqq hq' hgap hsn
   have hws:a5 .i64 ((q':Int)-1)=(q':Int)-1:=aV (by omega) (by omega);have hwo:a5 .i64 ((dY S seen2 q:Int)-1)=((dY S seen2 q':Nat):Int):=by have:=Jo (seen:=seen2) hqn;rw[aV (by omega) (by omega)];omega
   refine vm ?_;simp only[wq.1,seval,k0,k9,hsol2,ay,htr2,etr,hg];refine⟨⟨by omega,by omega⟩,by omega,oO hs2 hn han ?_⟩;by_cases hoz:dY S seen2 q'=0
   ·have bz:((dY S seen2 q':Int)==0)=ab:=by rw[hoz];rfl
    simp only[wq.1,seval,k0,k7,k8,k9,kd,hvar2,bY,vc2 han,hws,hwo,bz];exact⟨by omega,S2,seen2,rest2,q',hq',sc2,i2,hs2,lc2.li,hsn,n1,n3 hoz,rfl,by rw[ea],kk,hl2⟩
   ·have bz:((dY S seen2 q':Int)==0)=am:=by rw[beq_eq_false_iff_ne];omega
    obtain⟨c,n5,n6⟩:=n4 hoz;have hre:reV L S2 (S2.v a.natAbs).reason=clV L S c:=by rw[sc2.reason,ea,n5];show V.ls _ _ _ _ _=V.ls _ _ _ _ _;rw[sc2.cl]
    simp only[wq.1,seval,k8,k9,hvar2,bY,vc2 han,hre,hws,hwo,bz];exact⟨by omega,.inl ⟨q',by omega,S2,seen2,rest2,a,c,sc2,i2,hs2,ea▸n6,k0,rfl,k6,k7,rfl,rfl,rfl,kd,kk,hl2⟩⟩
  refine aA (λm f' h'=>h'=h2/\m<=q/\Gap S seen2 m q /\
   f'.t 0= .lp L.s 0/\f'.t 6= .lm (aa h)/\f'.t 7= .ls (aa h+1) 1 0 (aa rest2+1) (aa rest2+1)/\f'.t 8=vi (dY S seen2 q)/\f'.t 9=vi ((m:Int)-1)/\f'.d=[]/\(∀i,f'.k i=ab->L.ro i=aL)) q
   ⟨rfl,zrb _,λi _ h1 h2=>by omega,e0,e6,e7,e8,e9,ed,ek⟩ ?_
  rintro m f3 h3 ⟨rfl,hmq,hgap,k0,k6,k7,k8,k9,kd,kk⟩;have hm0:=SY hmq hgap lc2.op;obtain⟨u,rfl⟩:∃u,m=u+1:=⟨m-1,by omega⟩;have hu:u<aa S.tr:=by omega
  have k9:f3.t 9=vi (u:Int):=by rw[k9];congr 1;omega
  obtain⟨a,ea⟩:∃a,a=S.tr[u]:=⟨_,rfl⟩;have han:a.natAbs<=n:=ea▸(i0.t.rng _ (zqu hu)).2;have hg:(S.tr.map vi).getD (u*1) .any=vi a:=by rw[Nat.mul_one,ea];simp[zqg,hu]
  have hget:=JA seen2 a.natAbs;have etr:aa S2.tr=aa S.tr:=by rw[sc2.tr]
  by_cases hse:a.natAbs∈seen2
  ·refine vm ?_;simp only[wq.1,seval,k0,k6,k7,k8,k9,kd,hsol2,ay,htr2,etr,hg,UI hn han,hmap,hget,decide_eq_true hse];refine⟨by decide +kernel,⟨by omega,by omega⟩,by omega,⟨by omega,by omega⟩,by omega,u,hu,hmq,hgap,ea▸hse,rfl,kk⟩
  ·have hws:a5 .i64 ((u:Int)-1)=(u:Int)-1:=aV (by omega) (by omega);refine vm ?_;simp only[wq.1,seval,k0,k6,k9,hsol2,ay,htr2,etr,hg,UI hn han,hmap,hget,decide_eq_false hse,hws];refine⟨by decide +kernel,⟨by omega,by omega⟩,by omega,⟨by omega,by omega⟩,by omega,.inl ⟨u,by omega,rfl,by omega,λi hi h1 h2=> ?_,k0,k6,k7,k8,rfl,kd,kk⟩⟩;by_cases hiu:i=u
   ·subst hiu;exact ea▸hse
   ·exact hgap i hi (by omega) h2
 obtain⟨c,ec⟩:∃c,c=S.cl k:=⟨_,rfl⟩;have hclV:clV L S k= .ls (L.c k) 1 0 (aa c) (aa c):=by rw[ec];rfl
 rw[hclV]at g1;refine vn ?_;simp only[wq.1,seval,g1];refine aB ?_;refine aA (λm f' h'=>∃(S':St)(seen:List Nat)(rest:Cl)(i:Nat),m+i=aa c/\Sco S S'/\Inv n l d S.ln S'/\HS n bud L S' h'/\LA S j q p k seen rest/\(∀b∈c.take i,b≠p->Acc S seen b) /\
  f'.t 0= .lp L.s 0/\f'.t 6= .lm (aa h)/\f'.t 7= .ls (aa h+1) 1 0 (aa rest+1) (aa rest+1)/\f'.t 8=vi (dY S seen q)/\f'.t 9=vi ((q:Int)-1)/\f'.t 10=vi p/\f'.t 26= .ls (L.c k) 1 0 (aa c) (aa c)/\f'.t 27=vi (aa c)/\f'.t 28=vi i/\f'.d=[]/\(∀i,f'.k i=ab->L.ro i=aL)/\LH h seen 0 rest h') (aa c)
  ⟨S1,seen,rest,0,rfl,sc1,i1,hs1,la,by simp,g0,g6,g7,g8,g9,g10,rfl,by simp only[wq.1,seval];try rfl,by simp only[wq.1,↓reduceIte];try rfl,gd,gk,hl1⟩ ?_
 rintro m f2 h2 ⟨S2,seen2,rest2,i,hm,sc2,i2,hs2,la2,ac2,e0,e6,e7,e8,e9,e10,e26,e27,e28,ed,ek,hl2⟩;have hk:=la2.jn;have hl22:=hl2.2.2;have hcc:h2[L.c k]? =ar (aw (c.map vi)):=by
  have:=(hs2.cla k (by rw[sc2.nc];exact hk)).1;rw[sc2.cl,<-ec]at this;exact this
 have hcm:aa (c.map vi)=aa c:=zra ..;have hcn:aa c<=n:=by
  have h1:=i0.c.cnd k hk;have h2:=i0.c.crg k hk;rw[<-ec]at h1 h2;have:=gY (m:=n) (l:=c.map λa=>a.natAbs-1) (by
   rw[List.Nodup,List.pairwise_map]at h1 ⊢;refine h1.imp_of_mem λ{a b} ha hb hab=> ?_;have:=(h2 a ha).1;have:=(h2 b hb).1;omega) (by
   intro x hx;obtain⟨a,ha,rfl⟩:=zrh.1 hx;have:=h2 a ha;omega)
  simpa using this
 by_cases hi:i<aa c
 ·have eb:aM ((i:Int)<(aa c:Int))=ab:=by rw[zqb];omega
  obtain⟨a,ea⟩:∃a,a=c[i]:=⟨_,rfl⟩;have hg:(c.map vi).getD (i*1) .any=vi a:=by rw[Nat.mul_one,ea];simp[zqg,hi]
  have hac:a∈S.cl k:=by rw[<-ec,ea];exact zqu hi
  obtain⟨ha0,han⟩:=i0.c.crg k hk a hac;have etk:c.take (i+1)=c.take i++[a]:=by rw[zrg,ea];simp[hi]
  have hws:a5 .i64 ((i:Int)+1)=((i+1:Nat):Int):=by rw[aV (by omega) (by omega)];omega
  have hmap:h2[aa h]? =ar (.map ((nT seen2).map vi) ((nT seen2).map λ_=> .bool ab)):=hl2.1;have hsol2:=hs2.sol;have hvar2:=hs2.var;have hget:=JA seen2 a.natAbs;have skip:(a=p\/Acc S seen2 a)->∀b∈c.take (i+1),b≠p->Acc S seen2 b:=λhz b hb hne=>by
   rw[etk]at hb;rcases zrf.1 hb with hb|hb
   ·exact ac2 b hb hne
   ·rw[zrc.1 hb]at hne ⊢;exact hz.resolve_left hne
  by_cases hap:a=p
  ·have b1:(a==p)=ab:=by simpa using hap
   refine vm ?_;simp only[wq.1,seval,e0,e6,e10,e26,e27,e28,eb,hcc,hg,UI hn han,b1,hmap,hget,hsol2,ay,hvar2,bY,vc1 han,hws];refine⟨⟨by omega,by omega⟩,by omega,.inl ⟨m-1,by omega,S2,seen2,rest2,i+1,by omega,sc2,i2,hs2,la2,skip (.inl hap),e0,e6,e7,e8,e9,e10,e26,e27,rfl,ed,ek,hl2⟩⟩
  ·have b1:(a==p)=am:=by simpa using hap
   by_cases hse:a.natAbs∈seen2
   ·refine vm ?_;simp only[wq.1,seval,e0,e6,e10,e26,e27,e28,eb,hcc,hg,UI hn han,b1,hmap,hget,decide_eq_true hse,hsol2,ay,hvar2,bY,vc1 han,hws];refine⟨⟨by omega,by omega⟩,by omega,.inl ⟨m-1,by omega,S2,seen2,rest2,i+1,by omega,sc2,i2,hs2,la2,skip (.inr (.inr hse)),e0,e6,e7,e8,e9,e10,e26,e27,rfl,ed,ek,hl2⟩⟩
   ·by_cases hl0:gG S a=0
    ·have bl:((S2.v a.natAbs).level==0)=ab:=by rw[sc2.level];exact beq_iff_eq.2 hl0
     refine vm ?_;simp only[wq.1,seval,e0,e6,e10,e26,e27,e28,eb,hcc,hg,UI hn han,b1,hmap,hget,decide_eq_false hse,hsol2,ay,hvar2,bY,vc1 han,bl,hws];refine⟨⟨by omega,by omega⟩,by omega,⟨by omega,by omega⟩,by omega,.inl ⟨m-1,by omega,S2,seen2,rest2,i+1,by omega,sc2,i2,hs2,la2,skip (.inr (.inl hl0)),e0,e6,e7,e8,e9,e10,e26,e27,rfl,ed,ek,hl2⟩⟩
    ·have bl:((S2.v a.natAbs).level==0)=am:=by rw[sc2.level];exact beq_eq_false_iff_ne.2 hl0
     have hput:=Tu hse;have hhl:aa h<aa h2:=by have:=hl2.2.2;omega
     have hro0:L.ro (aa h)=aL:=Po hs;have hro1:L.ro (aa h+1)=aL:=by
      cases e:L.ro (aa h+1)with
      |none=>rfl
      |some r=>have:=hs.rlt _ _ e;omega
     have hmn:∀ {i r},L.ro i=ar r->aa h≠i:=λhi e=>by rw[<-e,hro0]at hi;cases hi
     have hs3:HS n bud L S2 (h2.set (aa h) (AU (seen2++[a.natAbs]))):=hs2.congr (λi r hi=>zqn (hmn hi)) (by simp);have hvz:(S2.v a.natAbs).value≠0:=by have h1:=la2.jf a hac hap;rw[sc2.value];have h2:=(i0.t.lval_neg ha0 han).2 (zsh h1);intro e;unfold mY at h2;rw[e]at h2;split at h2<;>omega
     obtain⟨mk1,mk2⟩:=la2.mark i0.t hac hap hl0 hse;refine vm ?_;simp only[wq.1,seval,e0,e6,e10,e26,e27,e28,eb,hcc,hg,UI hn han,b1,hmap,hget,decide_eq_false hse,hsol2,ay,hvar2,bY,vc1 han,bl,hput];refine⟨⟨by omega,by omega⟩,by omega,⟨by omega,by omega⟩,by omega,VT hs3 hn han hvz λh4 hs4 hl4 hk4=> ?_⟩;obtain⟨S4,eS4⟩:∃S4,S4=vJ S2 a.natAbs (a5 .i64 ((S2.v a.natAbs).score+1)):=⟨_,rfl⟩;rw[<-eS4]at hs4;have sc4:Sco S S4:=eS4▸sc2.bump _ _;have i4:Inv n l d S.ln S4:=eS4▸Td i2 ⟨by omega,han⟩ hvz;have hsol4:=hs4.sol;have hvar4:=hs4.var;have hmap4:h4[aa h]? =ar (AU (seen2++[a.natAbs])):=by rw[hk4 _ hro0];exact zqt hhl
     have hout4:h4[aa h+1]? =ar (aw (vi 0::rest2.map vi)):=by rw[hk4 _ hro1,zqn (by omega)];exact hl2.2.1
     have hl4':aa h4=aa h2:=by rw[hl4,zrn]
     have skip2:∀b∈c.take (i+1),b≠p->Acc S (seen2++[a.natAbs]) b:=λb hb hne=>by
      rw[etk]at hb;rcases zrf.1 hb with hb|hb
      ·exact(ac2 b hb hne).mono λv hv=>List.mem_append_left _ hv
      ·rw[zrc.1 hb];exact .inr (by simp)
     by_cases hD:gG S a=aa S.lv
     ·have bd:((S4.v a.natAbs).level==(aa S4.lv:Int))=ab:=by rw[sc4.level,sc4.lv];exact beq_iff_eq.2 hD
      obtain⟨la3,ho3⟩:=mk1 hD;have hwo:a5 .i64 ((dY S seen2 q:Int)+1)=((dY S seen2 q+1:Nat):Int):=by have:=Jo (seen:=seen2) la2.qn;have:=la2.qn;rw[aV (by omega) (by omega)];omega
      simp only[wq.1,seval,e0,e8,e28,hsol4,ay,hvar4,bY,vc1 han,bd,hws,hwo];refine⟨by decide +kernel,⟨by omega,by omega⟩,by omega,.inl ⟨m-1,by omega,S4,seen2++[a.natAbs],rest2,i+1,by omega,sc4,i4,hs4,la3,skip2,e0,e6,e7,by simp only[wq.1,seval,ho3],e9,e10,e26,e27,rfl,ed,ek,hmap4,hout4,by omega⟩⟩
     ·have bd:((S4.v a.natAbs).level==(aa S4.lv:Int))=am:=by rw[sc4.level,sc4.lv];exact beq_eq_false_iff_ne.2 hD
      obtain⟨la3,ho3⟩:=mk2 hD;simp only[wq.1,↓reduceIte,Nat.reduceEqDiff,Nat.reduceLT,Nat.reduceLeDiff,Nat.reduceAdd,reduceCtorEq,Nat.reduceMul,e0,e7,e28,ed,hsol4,ay,hvar4,bY,vc1 han,bd,hws,hout4];have bne:∀ {i r},L.ro i=ar r->(i==aa h+1)=am:=λ{i r} hi=>by simp only[beq_eq_false_iff_ne];rintro rfl;rw[hro1]at hi;cases hi
      have bs:=bne hs.rs;have bc:=bne (hs2.cla k (by rw[sc2.nc];exact hk)).2;have bh:(aa h==aa h+1)=am:=by simp
      have hdv:aE (λx=>x==aa h+1) (rest2.map vi)=rest2.map vi:=aN _;have hD4:HS n bud L S4 ((List.map (O.drop λx=>x==aa h+1) h4).set (aa h+1) (aw (vi 0::(rest2.map vi++[vi a])))) :=
       (hs4.dropN (p:=λx=>x==aa h+1) λi r hi=>bne hi).congr (λi r hi=>zqn λe=>by rw[<-e,hro1]at hi;cases hi) (by simp)
      rw[hdv];have hrl:=la2.li.len i0.t;have er:aa (rest2++[a])=aa rest2+1:=by simp
      have ho3':dY S seen2 q=dY S (seen2++[a.natAbs]) q:=ho3.symm;refine⟨by decide +kernel,⟨by omega,by omega⟩,by omega,⟨rfl,by decide⟩,⟨by omega,by omega,by omega⟩,.inl ⟨m-1,by omega,S4,seen2++[a.natAbs],rest2++[a],i+1,by omega,sc4,i4,hD4,la3,skip2,by simp only[wq.1,seval,aG,Tryz.results120,e0,bs],by simp only[wq.1,seval,aG,Tryz.results120,e6,bh],by simp only[wq.1,seval,aG,Tryz.results120,er],by simp only[wq.1,seval,aG,Tryz.results120,e8,ho3],by simp only[wq.1,seval,aG,Tryz.results120,e9],by simp only[wq.1,seval,aG,Tryz.results120,e10],by simp only[wq.1,seval,aG,Tryz.results120,e26,bc],by simp only[wq.1,seval,aG,Tryz.results120,e27],rfl,ed,λq hq=> ?_,?_,?_,?_⟩⟩
      ·rcases zsi hq with hq|hq
       ·exact ek q hq
       ·rw[show q=aa h+1 by simpa using hq];exact hro1
      ·rw[zqn (by omega),zqo,hmap4,zrw,AU,kU,aN,eP (λv hv=>by obtain⟨_,_,rfl⟩:=zrh.1 hv;simp only[V.drop])]
      ·rw[zqt (by rw[zra];omega)];simp
      ·rw[zrn,zra];omega
 ·have eb:aM ((i:Int)<(aa c:Int))=am:=by rw[zqd];omega
  refine vm ?_;simp only[wq.1,seval,e0,e6,e7,e8,e9,e27,e28,ed,eb];refine⟨S2,seen2,rest2,sc2,i2,hs2,la2.done i0.t (λb hb=>(i0.c.crg j hj b hb).1) hlv htop λb hb hne=>ac2 b (by rw[zqh (by omega),ec];exact hb) hne,rfl,rfl,ek,hl2⟩
end
section
variable{n:Nat}{bud:Int}{L:Lay}{S:St}{h:H}{a:Int}{j:Nat}{l d Lc:List Cl}
def DX(L:Lay)(p:Nat->Bool):Prop:=∀q r,L.ro q=ar r->p q=ab->r= .t\/r= .l\/r= .x\/r= .g\/∃a,r= .w a
theorem DX.none(L:Lay):DX L (λ_=>am):=λq r _ hp=>absurd hp Bool.false_ne_true
variable{p:Nat->Bool}
theorem DX.or{q:Nat->Bool}(hp:DX L p)(hq:DX L q):DX L (λi=>p i||q i):=λi r hi h=>(zsi h).elim (hp i r hi) (hq i r hi)
variable{L':Lay}
theorem DX.back(hl:∀i r,L.ro i=ar r->L'.ro i=ar r)(h:DX L' p):DX L p:=λq r hq=>h q r (hl q r hq)
variable{m:Nat}
theorem XN(lx:LX m L L')(hs:HS n bud L S h)(hp:Dr L' p):DX L p:=λq r hq hpq=>by
 rcases hp q hpq with⟨a,ha⟩|ha
 ·have:=lx.ro _ _ hq;rw[ha]at this;cases this;exact .inr (.inr (.inr (.inr ⟨a,rfl⟩)))
 ·rw[lx.t]at ha;subst ha;rw[hs.rt]at hq;cases hq;exact .inl rfl
variable{o:O}
theorem DX.ext(h:DX L p)(he:Ext L o):o.drop p=o:=he p h
def Nw(L:Lay)(id:Nat)(o:O):Lay:={L with ro:=λi=>if i=id then ar (.e o)else L.ro i}
variable{id:Nat}
theorem su(h0:L.ro id=aL):LX m L (Nw L id o) :=
 ⟨rfl,rfl,rfl,rfl,rfl,rfl,rfl,λ_ _=>rfl,λ_ _ h=>h,λi r hi=>by
  show(if i=id then ar (Ro.e o)else L.ro i)=ar r;rw[if_neg λe=>by rw[e,h0]at hi;cases hi];exact hi⟩
theorem HR.layE(k:HR n L S h)(h0:L.ro id=aL)(hid:h[id]? =ar o)(he:Ext (Nw L id o) o):HR n (Nw L id o) S h:=by
 have RO:∀ {i:Nat} {r:Ro},L.ro i=ar r->(Go.Proofs.YthdidjjecjhenaaGreat.Nw L id o).ro i=ar r:=λhi=>(su (m:=0) h0).ro _ _ hi;refine {var:=k.var,map:=k.map,trl:=k.trl,lvl:=k.lvl,nxl:=k.nxl,lnl:=k.lnl,lnk:=λi hi=>⟨(k.lnk i hi).1,RO (k.lnk i hi).2⟩,cla:=λq hq=>⟨(k.cla q hq).1,RO (k.cla q hq).2⟩,wat:=λb=> ?_,fre:=k.fre,fwt:=k.fwt,rs:=RO k.rs,rv:=RO k.rv,rm:=RO k.rm,rt:=RO k.rt,rl:=RO k.rl,rx:=RO k.rx,rg:=RO k.rg,rlt:=λi r hr=> ?_,ext:=λi q hq=> ?_}
 ·have kw:=k.wat b;unfold iG at kw ⊢;rw[show(Go.Proofs.YthdidjjecjhenaaGreat.Nw L id o).w b=L.w b from rfl];cases hw:L.w b with
  |none=>rw[hw]at kw;exact kw
  |some i=>rw[hw]at kw;exact⟨kw.1,RO kw.2⟩
 ·have hr:(if i=id then ar (Ro.e o)else L.ro i)=ar r:=hr;split at hr
  ·rename_i e;rw[e];exact(zqe hid).1
  ·exact k.rlt i r hr
 ·have hq':(if i=id then ar (Ro.e o)else L.ro i)=ar (.e q):=hq;split at hq'
  ·rename_i e;cases hq';exact⟨e▸hid,he⟩
  ·exact⟨(k.ext i q hq').1,(k.ext i q hq').2.mono λi r hi=>RO hi⟩
theorem HS.layE(hs:HS n bud L S h){id:Nat}{o:O}(h0:L.ro id=aL)(hid:h[id]? =ar o)(he:Ext (Nw L id o) o):HS n bud (Nw L id o) S h:=⟨hs.toHR.layE h0 hid he,hs.sol⟩
theorem VU(L:Lay)(c:Cl):Ext L (aw (c.map vi)):=λp _=>by rw[aZ,aN]
def PL:Plan:=tkZ [0,1,2,3,5]<| .alt 4 (onZ [6,7,8]<| .take 9<| .take 10<| .one 11<| .fin) (.one 6 (.alt 4 (.one 7<| .one 8<| .take 9<| .take 10<| .one 11<| .fin) (.one 7 (.one 4<| .one 8<| .take 9<| .take 10<| .one 11<| .fin))))
theorem AV(hs:HS n bud L S h)(hn:n<=20000)(i0:Inv n l d S.ln S)(hj:j<S.nc)(hf:∀b∈S.cl j,-b∈S.tr)(htop:∃b∈S.cl j,gG S b=aa S.lv)(hnc:S.nc<=20000100000)(hnx:aa S.nx<=1000000000000)(hln:aa S.ln<=1000000000000){R:AEnd->H->(Nat->Bool)->Prop}
 (r1:S.lv=[]->R (.pan (.iface 134 (.agg [vi 0]))) h (λ_=>am))
 (r2:bud<=aa S.ln->R (.pan (.iface 134 (.agg [vi 2]))) h (λ_=>am))
 (r3:∀S' L' h' p out,(aa S.ln:Int)<bud->Inv n l d S'.ln S'->S'.ln=S.ln++[out]->aa S'.nx<=aa S.nx+n->S'.nc<=S.nc+1->LX S.nc L L'->HS n bud L' S' h'->aa h<=aa h'->DX L p->R (.ret (.tup [])) h' p) :
 ag TE 101 [.lp L.s 0,clV L S j] h R:=by
 have hM:=mLx;have hsol:=hs.sol;by_cases hlv:S.lv=[]
 ·have hlvz:(((aa S.lv:Nat):Int)==0)=ab:=by rw[hlv];rfl
  refine ah Tryz.func101 rfl (by simp[nts]) (vm ?_);simp only[wq.1,seval,Tryz.results101,hsol,ay,hlvz];exact⟨by decide,r1 hlv⟩
 ·have hlvp:=List.length_pos_iff.2 hlv;have hlvz:(((aa S.lv:Nat):Int)==0)=am:=by rw[beq_eq_false_iff_ne];omega
  by_cases hb:bud<=aa S.ln
  ·have hbd:aM (bud<=(aa S.ln:Int))=ab:=decide_eq_true hb;refine ah Tryz.func101 rfl (by simp[nts]) (vm ?_);simp only[wq.1,seval,Tryz.results101,hsol,ay,hlvz,hbd];exact⟨by decide +kernel,by decide,r2 hb⟩
  ·have hbd:aM (bud<=(aa S.ln:Int))=am:=decide_eq_false hb;refine ah Tryz.func101 rfl (by simp[nts]) ?_;refine vn ?_;simp only[wq.1,seval,Tryz.results101,hsol,ay,hlvz];refine vn ?_;simp only[wq.1,seval,hsol,ay,hbd];refine⟨by decide +kernel,?_⟩;have ecl:clV L S j= .ls (L.c j) 1 0 (aa (S.cl j)) (aa (S.cl j)):=rfl;refine vn ?_;simp only[wq.1,seval,ecl];refine Il hs hn i0 hlvp hj hf htop λS1 out k id h1 p1 sc1 i1 lr1 hs1 hro1 hh1 hl1 hp1=> ?_;have hsd:(L.s:Nat)=L.s:=rfl;have hp1s:p1 L.s=am:=by
    cases e:p1 L.s with
    |false=>rfl
    |true=>have:=hp1 _ e;rw[hs.rs]at this;cases this
   simp only[wq.1,seval,bC];obtain⟨pv,rest,eout,_⟩:=lr1.fst;have honn:out≠[]:=by rw[eout];simp
   have hol:aa out<=n+1:=by
    have:=gY (m:=n+1) lr1.nd λx hx=>by obtain⟨a,ha,rfl⟩:=zrh.1 hx;have:=(lr1.rng a ha).2;omega
    simpa using this
   have hA:=hs1.app [aw (out.map vi)];have hA1:(h1++[aw (out.map vi)])[aa h1]? =ar (aw (out.map vi)):=by simp
   have hAi:(h1++[aw (out.map vi)])[id]? =ar (aw (out.map vi)):=by rw[zqj (zqe hh1).1];exact hh1
   have hAl:aa (h1++[aw (out.map vi)])=aa h1+1:=by simp
   obtain⟨hB,ehB⟩:∃hB,hB=h1++[aw (out.map vi)]:=⟨_,rfl⟩;rw[<-ehB]at hA hA1 hAi hAl;have hsol1:=hs1.sol;have hsolA:=hA.sol;have hlnA:=hA.lnl;have hhl1:=(zqe hh1).1;have hro2:L.ro (aa h1)=aL:=Po hs1;have hP:=hA.pushLn (id:=h1.length) (out:=out) hro2 hA1;have hlgA:=hA.rlt _ _ hA.rg;have hlsA:=hA.rlt _ _ hA.rs;have hgs:L.g≠L.s:=bW L hs1.rg hs1.rs (by simp);have nb:∀ {i r},L.ro i=ar r->r≠ .g->(i==L.g)=am:=λhi hr=>by simp[bW L hi hs1.rg hr]
   have b1:=nb hs1.rs (by simp);have b2:=nb hs1.rv (by simp);have b3:=nb hs1.rm (by simp);have b4:=nb hs1.rt (by simp);have b5:=nb hs1.rl (by simp);have b6:=nb hs1.rx (by simp);have hig:id≠L.g:=λe=>by have:=hs1.rg;rw[<-e,hro1]at this;cases this
   have his:id≠L.s:=λe=>by have:=hs1.rs;rw[<-e,hro1]at this;cases this
   have b7:(id==L.g)=am:=by simp[hig]
   have b8:(aa h1==L.g)=am:=by have:=hs1.rlt _ _ hs1.rg;simp;omega
   have eln:S1.ln=S.ln:=sc1.ln;have hln1:aa S1.ln<=1000000000000:=by rw[eln];exact hln
   have hrl:aa ((List.range (aa S1.ln)).map (lnV L S1))=aa S1.ln:=by simp
   have hdl:aE (λx=>x==L.g) ((List.range (aa S1.ln)).map (lnV L S1))=(List.range (aa S1.ln)).map (lnV L S1):=eP λx hx=>by obtain⟨i,hi,rfl⟩:=zrh.1 hx;exact bV (nb (hs1.lnk i (List.mem_range.1 hi)).2 (by simp))
   refine ak ?_;refine bK dV PL (λf' h'=>f'.t 0= .lp L.s 0/\f'.t 4= .ls id 1 0 (aa out) (aa out)/\f'.t 5=vi k/\f'.d=[]/\(∀q,f'.k q=ab->p1 q=ab\/q=L.g)/\HS n bud (Fq L (aa S1.ln) (aa h1)) (lnS S1 out) h'/\h'[id]? =ar (aw (out.map vi))/\aa h1<=aa h') (by decide +kernel) (by decide +kernel) ?_ ?_
   ·simp only[wq.1,seval,-Int.reduceNatCast,-Int.reduceNatCast',aG,Tryz.results101,PL,hp1s,hsol1,ay];refine⟨zo hh1 honn (by omega) ?_,zo hh1 honn (by omega) ?_⟩
    all_goals
     rw[<-ehB];simp only[wq.1,↓reduceIte,Nat.reduceEqDiff,Nat.reduceLT,Nat.reduceLeDiff,Nat.reduceAdd,Nat.reduceSub,Int.reduceToNat,Nat.reduceDiv,Int.reduceLT,Int.reduceLE,Int.reduceNeg,Int.reduceBEq,Int.reduceBNe,Int.reduceAdd,Int.reduceSub,Nat.reduceBEq,reduceCtorEq,Nat.reduceMul,aG,Tryz.results101,PL,bC,hp1s,hsolA,ay,hlnA,hrl,hdl,b1,b2,b3,b4,b5,b6,b7,b8,hlgA,hlsA,zqt,zqn,hgs,ne_eq,not_false_eq_true,zrn,zra,zqo]
    all_goals
     refine⟨⟨rfl,by decide⟩,⟨by simp,by omega,by omega⟩,λq hq=>(zsi hq).imp (λh=>h) (by simp),hP,?_,by omega⟩;rw[zqn his.symm,zqn hig.symm,zqo,hAi,zrw,aZ,aN]
   ·rintro f2 h2 ⟨g0,g4,g5,gd,gk,hs2,hh2,hl2⟩;have lr:=lr1.sco sc1;have i1':Inv n l d S1.ln S1:=by rw[eln];exact i1
    obtain⟨X,eX⟩:∃X,X=lnS S1 out:=⟨_,rfl⟩;obtain⟨L2,eL2⟩:∃L2,L2=Fq L (aa S1.ln) (aa h1):=⟨_,rfl⟩;rw[<-eX,<-eL2]at hs2;have lx2:LX S.nc L L2:=by rw[eL2];exact PH hro2
    have hro3:L2.ro id=aL:=by rw[eL2];show(if id=aa h1 then ar (Ro.k (aa S1.ln))else L.ro id)=aL;rw[if_neg (by omega)];exact hro1
    obtain⟨b0,eb0⟩:∃b0,b0=S1.lv.getD k 0:=⟨_,rfl⟩;have hkl:k<aa S1.lv:=by rw[sc1.lv];exact lr1.klt
    have hb0:b0<=aa S1.tr:=by rw[eb0,jH hkl];have h1:=i1.t.lvh _ (zqu hkl);have h2:=i1.t.hdl;omega
    have eXtr:X.tr=S1.tr:=by rw[eX];rfl
    have eXlv:X.lv=S1.lv:=by rw[eX];rfl
    have eXnx:X.nx=S1.nx:=by rw[eX];rfl
    have eXv:X.v=S1.v:=by rw[eX];rfl
    have eXnc:X.nc=S.nc:=by rw[eX];exact sc1.nc
    have htl1:=i1.t.len;have hlv1:=i1.t.lvlen;have hlv2:aa S1.lv<=aa S1.tr:=gY (i1.t.lvs.imp λh=>by omega) λx hx=>i1.lt x hx;have fin:∀nx:List (Int×Int),nx.Perm (S1.nx++(S1.tr.drop b0).map λa=>((a.natAbs:Int),(S1.v a.natAbs).score))->(∀x∈S1.nx,x∈nx)/\(∀a∈S1.tr.drop (S1.lv.getD k 0),((a.natAbs:Int),(S1.v a.natAbs).score)∈nx)/\(∀x∈nx,x∈S1.nx\/∃a∈S1.tr.drop (S1.lv.getD k 0),x.1=a.natAbs)/\aa nx<=aa S.nx+n:=by
     intro nx hp;rw[<-eb0];refine⟨λx hx=>hp.mem_iff.2 (List.mem_append_left _ hx),λa ha=>hp.mem_iff.2 (List.mem_append_right _ (zrh.2 ⟨a,ha,rfl⟩)),λx hx=> ?_,?_⟩
     ·rcases zrf.1 (hp.mem_iff.1 hx)with hx|hx
      ·exact .inl hx
      ·obtain⟨a,ha,rfl⟩:=zrh.1 hx;exact .inr ⟨a,ha,rfl⟩
     ·have:=hp.length_eq;rw[zqa,zra,List.length_drop,sc1.nx]at this;omega
    have dx1:DX L p1:=λq r hq hpq=>by rw[hp1 q hpq]at hq;cases hq
    obtain⟨nbk,nbl,nbh,nbd,nbt⟩:k<aa X.lv/\X.lv.getD k 0=b0/\b0<=aa X.tr/\(X.tr.map Int.natAbs).Nodup/\(∀a∈X.tr,a.natAbs<=n):=⟨by rw[eXlv];exact hkl,by rw[eXlv];exact eb0.symm,by rw[eXtr];exact hb0,by rw[eXtr];exact i1.t.nd,λa ha=>(i1.t.rng a (by rw[<-eXtr];exact ha)).2⟩;have nbx:aa X.nx<=2000000000000:=by rw[eXnx,sc1.nx];omega
    have nbr:aa X.tr<=20000:=by rw[eXtr];omega
    have nbv:aa X.lv<=20000:=by rw[eXlv];omega
    have hL2s:L2.s=L.s:=lx2.s;have sne:L2.s≠L2.x:=bW L2 hs2.rs hs2.rx (by simp);have ine:id≠L2.x:=λe=>by have:=hs2.rx;rw[<-e,hro3]at this;cases this
    have pback:∀p3:Nat->Bool,(∀q,p3 q=ab->q=L2.x)->p3 L.s=am/\p3 id=am/\DX L p3:=λp3 hp=>by
     refine⟨?_,?_,λq r hq hpq=> ?_⟩
     ·cases e:p3 L.s with
      |false=>rfl
      |true=>exact absurd (hp _ e) (hL2s▸sne)
     ·cases e:p3 id with
      |false=>rfl
      |true=>exact absurd (hp _ e) ine
     ·have:=hp q hpq;rw[lx2.x]at this;subst this;rw[hs.rx]at hq;cases hq;exact .inr (.inr (.inl rfl))
    have dxk:DX L f2.k:=λq r hq hpq=>(gk q hpq).elim (λh=>dx1 q r hq h) λh=>by subst h;rw[hs.rg]at hq;cases hq;exact .inr (.inr (.inr (.inl rfl)))
    show awp _ _ _ _ _ _ _
    match rest,eout with
    |[],eout =>
     have hX:=hs2.layE hro3 hh2 (VU _ _);obtain⟨L3,eL3⟩:∃L3,L3=Nw L2 id (aw (out.map vi)):=⟨_,rfl⟩;have lx3:LX S.nc L2 L3:=by rw[eL3];exact su hro3
     rw[<-eL3]at hX;have hidE:L3.ro id=ar (.e (aw (out.map vi))):=by rw[eL3];exact if_pos rfl
     have eol:aa out=1:=by rw[eout];rfl
     have hz:(((aa out:Nat):Int)==1)=ab:=by rw[eol];rfl
     have hg0:(out.map vi).getD 0 .any=vi (-pv):=by rw[eout];rfl
     have hpn:(-pv).natAbs<=n:=(lr1.rng (-pv) (by rw[eout];simp)).2;refine vm ?_;simp only[wq.1,seval,g0,g5];rw[<-hL2s,<-lx3.s];refine vN hX hn nbk nbl nbh nbr nbv nbd nbt nbx λnx h3 p3 hp3 hs3 hl3 hd3=> ?_;obtain⟨q1,q2,q3⟩:=pback p3 λq hq=>(hd3 q hq).trans lx3.x;rw[<-hL2s,<-lx3.s]at q1;have g0:f2.t 0= .lp L3.s 0:=by rw[g0,lx3.s,hL2s]
     have hid3:h3[id]? =ar (aw (out.map vi)):=(hs3.ext _ _ hidE).1;rw[eXtr,eXv,eXnx]at hp3;obtain⟨m1,m2,m3,m4⟩:=fin nx hp3;simp only[wq.1,seval,bC,q1,q2,g0,g4,gd,hz,hid3,hg0];refine⟨by omega,by simp[eol],?_⟩;have htr3:(fV X k nx).tr.length<=20000:=by show aa (X.tr.take (X.lv.getD k 0))<=_;rw[zrl];omega
     refine kW hs3 hn (a:=-pv) hpn htr3 aL (λ_ h=>by cases h) λh4 p4 hs4 hp4 hl4=> ?_;simp only[wq.1,bC,gd];have hi:=(E8 i1' lr m1 m2 m3).1 (-pv) eout;rw[<-eX]at hi;refine r3 (kR (fV X k nx) (-pv) aL) L3 h4 _ out (by omega) (by rw[show(kR (fV X k nx) (-pv) aL).ln=S1.ln++[out] by rw[eX];rfl];exact hi) (by rw[<-eln,eX];rfl) m4 (by show X.nc<=_;omega) (lx2.trans lx3) hs4 (by omega) ((dxk.or q3).or (λq r hq hpq=> ?_));have:=hp4 q hpq;rw[(lx2.trans lx3).t]at this;subst this;rw[hs.rt]at hq;cases hq;exact .inl rfl
    |b::r,eout =>
     have hX:=hs2.newC hro3 hh2;obtain⟨L3,eL3⟩:∃L3,L3=Ik L2 X.nc id:=⟨_,rfl⟩;have lx3:LX X.nc L2 L3:=by rw[eL3];exact zn hro3
     have hcid:L3.c X.nc=id:=by rw[eL3];exact if_pos rfl
     rw[<-eL3]at hX;have eol:aa out=aa r+2:=by rw[eout];rfl
     have hz:(((aa out:Nat):Int)==1)=am:=by rw[beq_eq_false_iff_ne];omega
     have hg0:(out.map vi).getD 0 .any=vi (-pv):=by rw[eout];rfl
     have hpn:(-pv).natAbs<=n:=(lr1.rng (-pv) (by rw[eout];simp)).2;have hpb:-pv≠b:=by have:=lr1.nd;rw[eout]at this;simp only[zrd,List.nodup_cons,zrj,not_or]at this;exact λe=>this.1.1 (by rw[e])
     refine vm ?_;simp only[wq.1,seval,g0,g5];rw[<-hL2s,<-lx3.s];refine vN hX hn nbk nbl nbh nbr nbv nbd nbt nbx λnx h3 p3 hp3 hs3 hl3 hd3=> ?_;obtain⟨q1,q2,q3⟩:=pback p3 λq hq=>(hd3 q hq).trans lx3.x;rw[<-hL2s,<-lx3.s]at q1;have g0:f2.t 0= .lp L3.s 0:=by rw[g0,lx3.s,hL2s]
     have hp3:nx.Perm (X.nx++(X.tr.drop b0).map λa=>((a.natAbs:Int),(X.v a.natAbs).score)):=hp3;rw[eXtr,eXv,eXnx]at hp3;obtain⟨m1,m2,m3,m4⟩:=fin nx hp3;obtain⟨Y,eY⟩:∃Y,Y=fV X k nx:=⟨_,rfl⟩;have hs3:HS n bud L3 (Fp Y out) h3:=by rw[eY];exact hs3
     have eYnc:Y.nc=X.nc:=by rw[eY];rfl
     rw[<-eYnc]at hcid;have hclv:V.ls id 1 0 (aa out) (aa out)=clV L3 (Fp Y out) Y.nc:=by
      unfold clV;rw[hcid,show(Fp Y out).cl Y.nc=out from bD _ _ _]
     simp only[wq.1,seval,bC,q1,q2,g0,g4,gd,hz];have hcl2:(Fp Y out).cl Y.nc=out:=bD _ _ _;have hwt:∀a,aa ((Fp Y out).wt a)<=30000000000:=λa=>by
      have h1:=i1.wlen a;have e:(Fp Y out).wt a=S1.wt a:=by rw[eY,eX];rfl
      rw[e];have:=sc1.nc;omega
     rw[hclv];refine zi hs3 (Nat.lt_succ_self _) (by rw[hcl2];omega) (by rw[hcl2];omega) hwt λL4 h4 p4 lx4 hs4 hl4 hp4=> ?_;have hro4:L3.ro id=ar (.c X.nc):=by rw[eL3];exact if_pos rfl
     have r1:p4 L3.s=am:=by
      cases e:p4 L3.s with
      |false=>rfl
      |true=>obtain⟨a,ha⟩:=hp4 _ e;rw[lx4.ro _ _ hX.rs]at ha;cases ha
     have r2:p4 id=am:=by
      cases e:p4 id with
      |false=>rfl
      |true=>obtain⟨a,ha⟩:=hp4 _ e;rw[lx4.ro _ _ hro4]at ha;cases ha
     rw[hcl2,eout,wQ Y hpb,<-eout]at hs4;have hc4:L4.c Y.nc=id:=(lx4.c _ (Nat.lt_succ_self _)).trans hcid;have hid4:h4[id]? =ar (aw (out.map vi)):=by
      have:=(hs4.cla Y.nc (Nat.lt_succ_self _)).1;rw[hc4,show(fP Y out).cl Y.nc=out from bD _ _ _]at this;exact this
     rw[<-hclv];simp only[wq.1,seval,bC,r1,r2,q1,q2,g0,g4,gd,hid4,hg0];have hre:V.ls id 1 0 (aa out) (aa out)=reV L4 (fP Y out) (ar Y.nc):=by
      show _=clV L4 (fP Y out) Y.nc;unfold clV;rw[hc4,show(fP Y out).cl Y.nc=out from bD _ _ _]
     have htr4:(fP Y out).tr.length<=20000:=by rw[eY];show aa (X.tr.take (X.lv.getD k 0))<=_;rw[zrl];omega
     rw[hre,<-lx4.s];refine⟨by omega,by omega,?_⟩;refine kW hs4 hn (a:=-pv) hpn htr4 (ar Y.nc) (λ_ h=>by cases h;exact Nat.lt_succ_self _) λh5 p5 hs5 hp5 hl5=> ?_;simp only[wq.1,bC,gd];have hi:=(E8 i1' lr m1 m2 m3).2 (-pv) b r eout;rw[<-eX,<-eY]at hi;have eYc:Y.nc=S.nc:=by rw[eYnc,eXnc]
     have hi:Inv n l d (S1.ln++[out]) (kR (fP Y out) (-pv) (ar Y.nc)):=by rw[eYc,<-sc1.nc];exact hi
     have lx3':LX S.nc L2 L3:=lx3.mono (by omega);have lx4':LX S.nc L3 L4:=lx4.mono (by show S.nc<=Y.nc+1;omega);have lxa:=(lx2.trans lx3').trans lx4';refine r3 (kR (fP Y out) (-pv) (ar Y.nc)) L4 h5 _ out (by omega) (by rw[show(kR (fP Y out) (-pv) (ar Y.nc)).ln=S1.ln++[out] by rw[eY,eX];rfl];exact hi) (by rw[<-eln,eY,eX];rfl) (by rw[eY];exact m4) (by show Y.nc+1<=_;omega) lxa hs5 (by omega) (((dxk.or q3).or (λq r hq hpq=> ?_)).or (λq r hq hpq=> ?_))
     ·obtain⟨a,ha⟩:=hp4 q hpq;rw[lxa.ro _ _ hq]at ha;cases ha;exact .inr (.inr (.inr (.inr ⟨a,rfl⟩)))
     ·have:=hp5 q hpq;rw[lxa.t]at this;subst this;rw[hs.rt]at hq;cases hq;exact .inl rfl
end
section
variable{n:Nat}{bud:Int}{L:Lay}{S:St}{h:H}{a:Int}{j:Nat}{l d Lc:List Cl}
def reE(L:Lay)(id:Nat)(o:O):Lay:={L with ro:=λi=>if i=id then ar (.e o)else L.ro i}
variable{id:Nat}{o:O}
theorem Ext.re{o' q:O}(hid:L.ro id=ar (.e o))(h:Ext L q):Ext (reE L id o') q:=λp hp=>h p λi r hi hpi=>by
 by_cases he:i=id
 ·subst he;have:=hp i (.e o') (if_pos rfl) hpi;simp at this
 ·exact hp i r (by show(if i=id then ar (Ro.e o')else L.ro i)=ar r;rw[if_neg he];exact hi) hpi
theorem HS.re(hs:HS n bud L S h){id:Nat}{o o':O}(hid:L.ro id=ar (.e o))(he:Ext L o'):HS n bud (reE L id o') S (h.set id o'):=by
 have ne:∀ {i r},L.ro i=ar r->r≠ .e o->i≠id:=λhi hr e=>hr (by rw[e,hid]at hi;exact(Option.some.inj hi).symm);have RO:∀ {i:Nat} {r:Ro},L.ro i=ar r->r≠ .e o->(reE L id o').ro i=ar r:=λhi hr=>by show(if _=id then ar (Ro.e o')else L.ro _)=_;rw[if_neg (ne hi hr)];exact hi
 have G:∀ {i:Nat} {r:Ro},L.ro i=ar r->r≠ .e o->(h.set id o')[i]? =h[i]? :=λhi hr=>zqn (ne hi hr).symm;have k:=hs.toHR;refine⟨{var:=(G k.rv (by simp)).trans k.var,map:= ?_,trl:=(G k.rt (by simp)).trans k.trl,lvl:=(G k.rl (by simp)).trans k.lvl,nxl:=(G k.rx (by simp)).trans k.nxl,lnl:=(G k.rg (by simp)).trans k.lnl,lnk:=λi hi=>⟨(G (k.lnk i hi).2 (by simp)).trans (k.lnk i hi).1,RO (k.lnk i hi).2 (by simp)⟩,cla:=λq hq=>⟨(G (k.cla q hq).2 (by simp)).trans (k.cla q hq).1,RO (k.cla q hq).2 (by simp)⟩,wat:=λb=> ?_,fre:=k.fre,fwt:=k.fwt,rs:=RO k.rs (by simp),rv:=RO k.rv (by simp),rm:=RO k.rm (by simp),rt:=RO k.rt (by simp),rl:=RO k.rl (by simp),rx:=RO k.rx (by simp),rg:=RO k.rg (by simp),rlt:=λi r hr=> ?_,ext:=λi q hq=> ?_},(G k.rs (by simp)).trans hs.sol⟩
 ·obtain⟨ks,h1,h2⟩:=k.map;exact⟨ks,(G k.rm (by simp)).trans h1,h2⟩
 ·have kw:=k.wat b;unfold iG at kw ⊢;rw[show(reE L id o').w b=L.w b from rfl];cases hw:L.w b with
  |none=>rw[hw]at kw;exact kw
  |some i=>rw[hw]at kw;exact⟨(G kw.2 (by simp)).trans kw.1,RO kw.2 (by simp)⟩
 ·have hr:(if i=id then ar (Ro.e o')else L.ro i)=ar r:=hr;rw[zrn];split at hr
  ·rename_i e;rw[e];exact k.rlt _ _ hid
  ·exact k.rlt i r hr
 ·have hq':(if i=id then ar (Ro.e o')else L.ro i)=ar (.e q):=hq;split at hq'
  ·rename_i e;cases hq';subst e;exact⟨zqt (k.rlt _ _ hid),he.re hid⟩
  ·rename_i e;exact⟨(zqn (Ne.symm e)).trans (k.ext i q hq').1,(k.ext i q hq').2.re hid⟩
theorem JB:(reE L id o).ro id=ar (.e o):=if_pos rfl
variable{i:Nat}
theorem zu(hi:i≠id):(reE L id o).ro i=L.ro i:=if_neg hi
variable{p:Nat->Bool}
theorem DX.re{o':O}(hid:L.ro id=ar (.e o)):DX (reE L id o') p->DX L p:=λhp i r hi hpi=>by
 by_cases he:i=id
 ·subst he;have:=hp i (.e o') JB hpi;simp at this
 ·exact hp i r (by rw[zu he];exact hi) hpi
theorem DX.e(hp:DX L p){id:Nat}{o:O}(hid:L.ro id=ar (.e o)):p id=am:=by
 cases e:p id with
 |false=>rfl
 |true=>have:=hp _ _ hid e;simp at this
theorem DX.s(hp:DX L p)(hs:HR n L S h):p L.s=am:=by
 cases e:p L.s with
 |false=>rfl
 |true=>have:=hp _ _ hs.rs e;simp at this
end
section
variable{n:Nat}{bud:Int}{L:Lay}{S:St}{h:H}{a:Int}{j:Nat}{l d Lc:List Cl}
theorem AX{R:AEnd->H->(Nat->Bool)->Prop}(hr:R (.ret (.fn (.func 117) [] [])) h (λ_=>am)):ag TE 99 [] h R:=by refine ah Tryz.func99 rfl (by simp[nts]) (vm ?_);simp only[wq.1,seval,Tryz.results99];exact hr
def YK(n:Nat)(l:List Cl)(bud:Int)(S:St)(res:Int):Prop :=
 (res=0/\Bad (l++S.ln) [])\/(res=1/\sat l (mX n S)=ab)\/(res=2/\(aa S.ln:Int)=bud)
structure Big(n:Nat)(l:List Cl)(bud:Int)(B:Nat):Prop where
 pos:0<=bud
 few:∀S,Inv n l l S.ln S->(aa S.ln:Int)<=bud->aa S.ln<=B
 nx:(n+1)*(2*B+4)<=1000000000000
 nc:aa l+B<=20000000000
 nn:n<=20000
variable{b:Nat}
theorem UN{n:Nat}{x y:Nat}(h:x<=n*(1+b))(h2:y<=x+n):y<=n*(1+(b+1)):=by
 have:n*(1+(b+1))=n*(1+b)+n:=by rw[show 1+(b+1)=(1+b)+1 by omega,Nat.mul_succ]
 omega
theorem VV{n b':Nat}{x:Nat}(h:x<=n*(1+b))(hb:b<=b'):x<=n*(1+b'):=Nat.le_trans h (Nat.mul_le_mul_left _ (by omega))
theorem Big.nx_big{B:Nat}(big:Big n l bud B){x:Nat}(h:x<=n*(1+b))(hb:b<=2*B+3):x<=1000000000000:=by have h1:n*(1+b)<=(n+1)*(2*B+4):=Nat.mul_le_mul (by omega) (by omega);have:=big.nx;omega
structure Going(n:Nat)(l:List Cl)(bud:Int)(b:Nat)(S:St):Prop where
 inv:Inv n l l S.ln S
 ln:(aa S.ln:Int)<=bud
 nc:S.nc<=aa l+aa S.ln
 nx:aa S.nx<=n*(1+b)
def xM(L:Lay):O:=aw [.lp L.s 0]
def sF(T:Nat->V)(asg body:Code)(st:LoopState):O:= .loop T 32 #[6] asg body st aL
theorem Fv{B:Nat}{T:Nat->V}{asg body:Code}(big:Big n l bud B)(g0:Going n l bud (2*aa S.ln) S)(hs:HS n bud L S h)(hT:∀p:Nat->Bool,p L.s=am->p (aa h)=am->∀i,(T i).drop p=T i)(hT1:T 1= .lp (aa h) 0)
 (hasg:∀lb f h Q,Q .normal (f.put (ar 2) (f.t 6)) h->awp TE 32 (ar lb) asg Q f h)
 (hbody : ∀ lb S' L' h' f1 (nn : Nat),Going n l bud (2 * aa S'.ln) S' -> HS n bud L' S' h' -> LX 0 L L' -> L'.ro (aa h) = ar (.e (xM L)) -> f1.t 1 = .lp (aa h) 0 -> f1.t 2 = vi nn -> 1 <= nn -> nn <= 1000000000000 -> f1.d = [] -> DX L' f1.k -> GY TE 32 (ar lb) body
  (λxe f2 h2=>xe= .normal/\∃S2 L2,Going n l bud (2*aa S2.ln) S2/\aa S'.ln+nn<=aa S2.ln/\LX 0 L' L2/\HS n bud L2 S2 h2/\DX L' f2.k/\aa h'<=aa h2)
  (λv f2 h2=>f2.d=[]/\∃S2 L2 res,v= .iface 134 (.agg [vi res])/\Inv n l l S2.ln S2/\(aa S2.ln:Int)<=bud/\YK n l bud S2 res/\LX 0 L' L2/\HS n bud L2 S2 h2/\DX L' f2.k/\aa h'<=aa h2) f1 h')
 {R:AEnd->H->(Nat->Bool)->Prop}
 (hr:∀S' L' h' p res,Inv n l l S'.ln S'->(aa S'.ln:Int)<=bud->YK n l bud S' res->LX 0 L L'->L'.ro (aa h+1)=ar (.e (.misc .dfd))->p (aa h+1)=am->HS n bud L' S' h'->DX L p->aa h+3<=aa h'->R (.pan (.iface 134 (.agg [vi res]))) h' p) :
 ag TE 117 [.yd (aa h+2)] (h++[xM L,.misc .dfd,sF T asg body .ready]) R:=by
 have hM:=mLx;have hn:=big.nn;obtain⟨id,eid⟩:∃id,id=aa h+2:=⟨_,rfl⟩;have no0:∀i,aa h<=i->L.ro i=aL:=λi hi=>by
  cases e:L.ro i with
  |none=>rfl
  |some r=>have:=hs.rlt _ _ e;omega
 have hA:=hs.app [xM L,.misc .dfd,sF T asg body .ready];have pf:∀ {M:Lay} {p:Nat->Bool} {q:Nat} {r:Ro},(∀q r,M.ro q=ar r->p q=ab->r= .t\/r= .l\/r= .x\/r= .g\/∃a,r= .w a)->M.ro q=ar r->(r= .s\/∃o,r= .e o)->p q=am:=λ{M p q r} hp hq hr=>by
  cases e:p q with
  |false=>rfl
  |true=>have:=hp q r hq e;rcases hr with rfl|⟨o,rfl⟩<;>simp at this
 obtain⟨L1,eL1⟩:∃M,M=Nw L (aa h) (xM L):=⟨_,rfl⟩;have x1:LX 0 L L1:=eL1▸su (no0 _ (zrb _));have hX1:HS n bud L1 S (h++[xM L,.misc .dfd,sF T asg body .ready]):=by rw[eL1];refine hA.layE (no0 _ (zrb _)) (by simp) (λp hp=> ?_);have:=pf hp ((su (m:=0) (no0 _ (zrb _))).ro _ _ hs.rs) (.inl rfl);simp only[xM,O.drop,aE,V.drop,this,cond_false,if_false,zrm]
 have hb1:L1.ro (aa h)=ar (.e (xM L)):=by rw[eL1];exact if_pos rfl
 have no1:∀i,aa h+1<=i->L1.ro i=aL:=λi hi=>by rw[eL1];show(if i=aa h then _ else L.ro i)=aL;rw[if_neg (by omega)];exact no0 i (by omega)
 obtain⟨L2,eL2⟩:∃M,M=Nw L1 (aa h+1) (.misc .dfd):=⟨_,rfl⟩;have x2:LX 0 L1 L2:=eL2▸su (no1 _ (zrb _));have hX2:HS n bud L2 S (h++[xM L,.misc .dfd,sF T asg body .ready]):=by rw[eL2];exact hX1.layE (no1 _ (zrb _)) (by simp) (λp hp=>rfl)
 have hb2:L2.ro (aa h+1)=ar (.e (.misc .dfd)):=by rw[eL2];exact if_pos rfl
 have no2:L2.ro id=aL:=by rw[eL2];show(if id=aa h+1 then _ else L1.ro id)=aL;rw[if_neg (by omega)];exact no1 id (by omega)
 have extL:∀(M:Lay)(st:LoopState),LX 0 L M->M.ro (aa h)=ar (.e (xM L))->Ext M (sF T asg body st):=λM st xm hm p hp=>by have q1:=pf hp (xm.ro _ _ hs.rs) (.inl rfl);have q2:=pf hp hm (.inr ⟨_,rfl⟩);show O.loop (λi=>(T i).drop p) 32 #[6] asg body st aL=_;rw[show(λi=>(T i).drop p)=T from funext (hT p q1 q2)];rfl
 obtain⟨L3,eL3⟩:∃M,M=Nw L2 id (sF T asg body .ready):=⟨_,rfl⟩;have x3:LX 0 L2 L3:=eL3▸su no2;have x03:LX 0 L L3:=(x1.trans x2).trans x3;have hX3:HS n bud L3 S (h++[xM L,.misc .dfd,sF T asg body .ready]):=by rw[eL3];have x03':LX 0 L (Nw L2 id (sF T asg body .ready)):=eL3▸x03;exact hX2.layE no2 (by rw[eid];simp) (extL _ _ x03' ((su (m:=0) no2).ro _ _ (x2.ro _ _ hb1)))
 have hb3:L3.ro id=ar (.e (sF T asg body .ready)):=by rw[eL3];exact if_pos rfl
 have hbx : L3.ro (aa h) = ar (.e (xM L)) := x3.ro _ _ (x2.ro _ _ hb1);have hbd : L3.ro (aa h + 1) = ar (.e (.misc .dfd)) := x3.ro _ _ hb2;rw [<- eid];refine ah Tryz.func117 rfl (by simp [nts]) (vm ?_);simp only [wq.1,Nat.reduceLT,Tryz.results117];refine aA (λm f' h' => ∃ (S' : St) (L' : Lay) (i : Nat),m = B - aa S'.ln /\ Going n l bud (2 * aa S'.ln) S' /\ LX 0 L3 L' /\ HS n bud L' S' h' /\ f'.t 0 = .yd id /\ f'.t 2 = vi i /\ 1 <= i /\ 32 * i <= aa S'.ln + 32 /\ f'.d = [] /\ DX L3 f'.k /\ aa h + 3 <= aa h') (B - aa S.ln)
  ⟨S,L3,1,rfl,g0,LX.refl _ _,hX3,rfl,by simp only[wq.1,↓reduceIte];try rfl,zrb _,by omega,by simp only[wq.1];try rfl,DX.none _,by simp⟩ ?_
 rintro m f1 h1 ⟨S1,L',i,hm,g1,x4,hs1,f0,f2,hi1,hi2,fd,fk,hl1⟩;have hbl:=big.few S1 g1.inv g1.ln;have hnx:=big.nx;have hnc:=big.nc;obtain⟨k,hk1,hk2⟩:=PG i i hi1 (zrb _);have hlub:WS i=((2^k:Nat):Int):=by
  unfold WS;rw[if_neg (by omega),zsg,hk1]
 have hkp:=Nat.two_pow_pos k;have hw:a5 .i64 (32*((2^k:Nat):Int))=((32*2^k:Nat):Int):=by rw[aV (by omega) (by omega)];omega
 have hw2:a5 .i64 ((i:Int)+1)=((i+1:Nat):Int):=by rw[aV (by omega) (by omega)];omega
 refine ak (ak ?_);refine jF ?_;refine aK rfl rfl ?_;simp only[wq.1,f0];refine aK rfl rfl ?_;simp only[wq.1,seval,f2];refine aK rfl rfl ?_;simp only[wq.1,↓reduceIte];refine ag.ev (VP _) (rfl) ?_;simp only[wq.1];refine aK rfl rfl ?_;simp only[wq.1,↓reduceIte,hlub,hw];have hLo:=(hs1.ext id _ (x4.ro _ _ hb3)).1;refine gX rfl rfl ?_;refine LG rfl rfl (id:=id) (t:=T) (n':=32) (ps:=#[6]) (asg:=asg) (body:=body) (rfl) ?_ hLo rfl (by decide) ?_
 ·simp only[wq.1,seval]
 intro lb;have hbx1:L'.ro (aa h)=ar (.e (xM L)):=x4.ro _ _ hbx;have hid1:L'.ro id=ar (.e (sF T asg body .ready)):=x4.ro _ _ hb3;have x04:LX 0 L L':=x03.trans x4;have hsB:=hs1.re hid1 (extL L' .busy x04 hbx1);have hne:aa h≠id:=by omega
 have hbxB:(reE L' id (sF T asg body .busy)).ro (aa h)=ar (.e (xM L)):=(zu hne).trans hbx1;have xLB:LX 0 L (reE L' id (sF T asg body .busy)):=⟨x04.s,x04.v,x04.m,x04.t,x04.l,x04.x,x04.g,x04.c,x04.w,λq r hq=>by
  rw[zu (λe=>by rw[e,no0 id (by omega)]at hq;cases hq)];exact x04.ro q r hq⟩
 refine hasg lb _ _ _ ⟨rfl,rfl,T,hLo,?_⟩;refine OJ ?_ ?_ (hbody lb S1 _ _ _ (32*2^k) g1 hsB xLB hbxB ?_ ?_ (by omega) (by omega) rfl (DX.none _))
 ·rintro xe f3 h3 ⟨rfl,S2,M2,g2,hlt,x5,hs2,dx2,hl2⟩;have hid2:M2.ro id=ar (.e (sF T asg body .busy)):=x5.ro _ _ JB;have hbx2:M2.ro (aa h)=ar (.e (xM L)):=x5.ro _ _ hbxB;have k3:f3.k id=am:=dx2.e JB;have hsR:=hs2.re hid2 (extL M2 .ready (xLB.trans x5) hbx2);have x6:LX 0 L' (reE M2 id (sF T asg body .ready)):=⟨x5.s,x5.v,x5.m,x5.t,x5.l,x5.x,x5.g,x5.c,x5.w,λq r hq=>by
   by_cases he:q=id
   ·subst he;rw[JB,<-hq,hid1]
   ·rw[zu he];exact x5.ro q r (by rw[zu he];exact hq)⟩
  have hl2':aa h+3<=aa h3:=by rw[zrn]at hl2;omega
  refine⟨rfl,⟨k3,λq hq=> ?_⟩,T,.busy,(hs2.ext id _ hid2).1,iZ ?_⟩
  ·have hq:q∈f1.d:=hq;rw[fd]at hq;cases hq
  show awp _ _ _ _ _ _ _;refine vm ?_;simp only[wq.1,↓reduceIte];refine vm ?_;simp only[wq.1,seval,f2,hw2];exact .inl ⟨B-aa S2.ln,by have:=big.few S2 g2.inv g2.ln;omega,S2,_,i+1,rfl,g2,x4.trans x6,hsR,by simp only[wq.1,seval,k3,f0],rfl,by omega,by omega,fd,fk.or (((dx2.re hid1)).back x4.ro),by rw[zrn];exact hl2'⟩
 ·rintro v f3 h3 ⟨fd3,S2,M2,res,rfl,i2,hb2',he2,x5,hs2,dx2,hl2⟩;have hl2':aa h+3<=aa h3:=by rw[zrn]at hl2;omega
  refine⟨fd3,λq hq=> ?_,?_⟩
  ·have hq:q∈f1.d:=hq;rw[fd]at hq;cases hq
  have hne1:aa h+1≠id:=by omega
  have hbd2:(reE L' id (sF T asg body .busy)).ro (aa h+1)=ar (.e (.misc .dfd)):=(zu hne1).trans (x4.ro _ _ hbd);have k1:f1.k (aa h+1)=am:=fk.e hbd;have k3:f3.k (aa h+1)=am:=dx2.e hbd2;show(match jK f1.d h3 with|some h'=>R (.pan _) h' (λq=>f1.k q||f3.k q)|none=>False);rw[fd];exact hr S2 M2 h3 _ res i2 hb2' he2 (xLB.trans x5) (x5.ro _ _ hbd2) (by rw[k1,k3];rfl) hs2 ((fk.back x03.ro).or (dx2.back xLB.ro)) hl2'
 ·simp only[wq.1,seval,hT1]
 ·simp only[wq.1,↓reduceIte]
end
end Go.Proofs.YthdidjjecjhenaaGreat
