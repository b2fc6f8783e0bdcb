/- Lemmas for this claim, part F06: each holds under what it names. -/
import Derived.Test.YthdidjjecjhenaaGreatF05
import Derived.Test.YthdidjjecjhenaaGreatA7
import Derived.Test.YthdidjjecjhenaaGreatA8
set_option linter.unusedVariables false
set_option linter.unusedSimpArgs false
set_option linter.unnecessarySimpa false
set_option maxRecDepth 20000
set_option maxHeartbeats 2000000
namespace Go.Proofs.YthdidjjecjhenaaGreat
open Go Go.Proofs Go.Abs
section
variable{n:Nat}{bud:Int}{L:Lay}{S:St}{h:H}{a:Int}{j:Nat}{l d Lc:List Cl}
def EQ(L:Lay)(m id:Nat):Lay:={L with k:=fun i=>if i=m then id else L.k i,ro:=fun q=>if q=id then some (.k m)else L.ro q}
variable{m id:Nat}
theorem OW{nc:Nat}(h0:L.ro id=none):LX nc L (EQ L m id) :=
 ⟨rfl,rfl,rfl,rfl,rfl,rfl,rfl,fun _ _=>rfl,fun _ _ h=>h,fun i r hi=>by
  show(if i=id then some (Ro.k m)else L.ro i)=some r;rw[if_neg fun e=>by rw[e,h0]at hi;cases hi];exact hi⟩
theorem HS.pushLn(hs:HS n bud L S h){id:Nat}{out:Cl}(h0:L.ro id=none)(hid:h[id]? =some (.cells (out.map vi))) :
 HS n bud (EQ L S.ln.length id) (lnS S out) (((h.map (O.drop fun x => x == L.g)).set L.g (.cells ((List.range S.ln.length).map (lnV L S) ++ [.ls id 1 0 out.length out.length]))).set L.s
  (.cells [.ls L.v 5 0 (n+1) (n+1),.lm L.m,.ls L.t 1 0 S.tr.length S.tr.length,vi S.hd,.ls L.l 1 0 S.lv.length S.lv.length,.ls L.x 2 0 S.nx.length S.nx.length,.ls L.g 1 0 (S.ln.length+1) (S.ln.length+1),vi bud])):=by
 have k:=hs.toHR.drop (p:=fun x=>x==L.g) (RX L hs.rg (.inr (.inr (.inr rfl))));have hlg:=hs.rlt _ _ hs.rg;have hls:=hs.rlt _ _ hs.rs;have RO:∀ {i:Nat} {r:Ro},L.ro i=some r->(EQ L S.ln.length id).ro i=some r:=fun {i r} hi=>(OW (nc:=0) h0).ro _ _ hi;have ne:∀ {i:Nat} {r:Ro},L.ro i=some r->r≠ .s->r≠ .g->∀o q:O,(((h.map (O.drop fun x=>x==L.g)).set L.g o).set L.s q)[i]? =(h.map (O.drop fun x=>x==L.g))[i]? :=fun {i r} hi h1 h2 o q=>by rw[zqn (bT L hs.rs hi (Ne.symm h1)),zqn (bT L hs.rg hi (Ne.symm h2))]
 have hidg:L.g≠id:=fun e=>by have:=hs.rg;rw[e,h0]at this;cases this
 have hids:L.s≠id:=fun e=>by have:=hs.rs;rw[e,h0]at this;cases this
 have hgs:L.s≠L.g:=bT L hs.rs hs.rg (by simp);have hkn:∀i,i<S.ln.length->(EQ L S.ln.length id).k i=L.k i:=fun i hi=>if_neg (Nat.ne_of_lt hi);have hgd:∀i,i<S.ln.length->(S.ln++[out]).getD i []=S.ln.getD i []:=fun i hi=>by rw[zqg,zqj hi,<-zqg]
 have hgl:(S.ln++[out]).getD S.ln.length []=out:=by simp[zqg]
 refine⟨{var:=(ne k.rv (by simp) (by simp) _ _).trans k.var,map:= ?_,trl:=(ne k.rt (by simp) (by simp) _ _).trans k.trl,lvl:=(ne k.rl (by simp) (by simp) _ _).trans k.lvl,nxl:=(ne k.rx (by simp) (by simp) _ _).trans k.nxl,lnl:= ?_,lnk:=fun i hi=> ?_,cla:=fun q hq=>⟨(ne (k.cla q hq).2 (by simp) (by simp) _ _).trans (k.cla q hq).1,RO (k.cla q hq).2⟩,wat:=fun b=> ?_,fre:=k.fre,fwt:=k.fwt,rs:=RO k.rs,rv:=RO k.rv,rm:=RO k.rm,rt:=RO k.rt,rl:=RO k.rl,rx:=RO k.rx,rg:=RO k.rg,rlt:=fun i r hr=> ?_,ext:=fun i o ho=> ?_},?_⟩
 ·obtain⟨ks,h1,h2⟩:=k.map;exact⟨ks,(ne k.rm (by simp) (by simp) _ _).trans h1,h2⟩
 ·show(((h.map (O.drop fun x=>x==L.g)).set L.g _).set L.s _)[L.g]? =some (.cells ((List.range (S.ln++[out]).length).map (lnV (EQ L S.ln.length id) (lnS S out))));rw[zqn hgs,zqt (by simpa using hlg),zqa,zrk,List.range_succ,zql]
  congr 2
  congr 1
  ·refine zsd fun i hi=> ?_;have hi:=List.mem_range.1 hi;show V.ls (L.k i) 1 0 (S.ln.getD i []).length (S.ln.getD i []).length=V.ls ((EQ L S.ln.length id).k i) 1 0 ((S.ln++[out]).getD i []).length ((S.ln++[out]).getD i []).length;rw[hkn i hi,hgd i hi]
  ·show [V.ls id 1 0 out.length out.length]=[V.ls ((EQ L S.ln.length id).k S.ln.length) 1 0 ((S.ln++[out]).getD S.ln.length []).length ((S.ln++[out]).getD S.ln.length []).length];rw[show(EQ L S.ln.length id).k S.ln.length=id from if_pos rfl,hgl]
 ·have hi:i<(S.ln++[out]).length:=hi;rw[zqa,zrk]at hi;show(((h.map (O.drop fun x=>x==L.g)).set L.g _).set L.s _)[(EQ L S.ln.length id).k i]? =some (O.cells (((S.ln++[out]).getD i []).map vi))/\(EQ L S.ln.length id).ro ((EQ L S.ln.length id).k i)=some (Ro.k i);by_cases he:i=S.ln.length
  ·subst he;rw[show(EQ L S.ln.length id).k S.ln.length=id from if_pos rfl,hgl];refine⟨?_,if_pos rfl⟩;rw[zqn hids,zqn hidg,zqo,hid,zrw,aZ,aI]
  ·have hi2:i<S.ln.length:=by omega
   rw[hkn i hi2,hgd i hi2];exact⟨(ne (k.lnk i hi2).2 (by simp) (by simp) _ _).trans (k.lnk i hi2).1,RO (k.lnk i hi2).2⟩
 ·have kw:=k.wat b;unfold gX at kw ⊢;rw[show(EQ L S.ln.length id).w b=L.w b from rfl];cases hw:L.w b with
  |none=>rw[hw]at kw;exact kw
  |some i=>rw[hw]at kw;exact⟨(ne kw.2 (by simp) (by simp) _ _).trans kw.1,RO kw.2⟩
 ·have hr:(if i=id then some (Ro.k S.ln.length)else L.ro i)=some r:=hr;rw[zrn,zrn,zra];split at hr
  ·rename_i e;rw[e];exact(zqe hid).1
  ·exact hs.rlt i r hr
 ·have ho:(if i=id then some (Ro.k S.ln.length)else L.ro i)=some (.e o):=ho;split at ho
  ·cases ho
  ·exact⟨(ne ho (by simp) (by simp) _ _).trans (k.ext i o ho).1,(k.ext i o ho).2.mono fun i r hi=>RO hi⟩
 ·rw[show(EQ L S.ln.length id).s=L.s from rfl,zqt (by simpa using hls)];simp[ax,lnS,EQ]
end
section
variable{n:Nat}{bud:Int}{L:Lay}{S:St}{h:H}{a:Int}{j:Nat}{l d Lc:List Cl}
def nM(seen:List Nat):Cl:=seen.map fun v=>((v:Nat):Int)
variable{seen:List Nat}
theorem yP{v:Nat}:(v:Int)∈nM seen↔v∈seen:=by unfold nM;rw[zrh];exact⟨fun⟨w,h1,h2⟩=>by rwa [show w=v by omega]at h1,fun h=>⟨v,h,rfl⟩⟩
theorem Je(seen:List Nat)(v:Nat):qp (.int .i64) (vi v) ((nM seen).map vi) ((nM seen).map fun _=> .bool true) (.bool false) false=(True,.bool (decide (v∈seen))):=by
 unfold qp;rw[Ew];cases hf:(nM seen).findIdx? (·==(v:Int))with
 |none =>
  have:¬v∈seen:=fun hm=>by have:=List.findIdx?_eq_none_iff.1 hf v (yP.2 hm);simp at this
  simp only[cond_false,decide_eq_false this]
 |some q =>
  obtain⟨h1,h2,_⟩:=List.findIdx?_eq_some_iff_getElem.1 hf;have h2:(nM seen)[q]=v:=by simpa using h2
  have hm:v∈seen:=yP.1 (h2▸zqu h1);simp only[cond_false,zqg,zqo,zqk h1,zrw,Option.getD_some,decide_eq_true hm]
theorem Su{v:Nat}(hv:¬v∈seen):Iw (.int .i64) (vi v) (.bool true) ((nM seen).map vi) ((nM seen).map fun _=> .bool true)=some ((nM (seen++[v])).map vi,(nM (seen++[v])).map fun _=> .bool true):=by
 unfold Iw;rw[Ew];cases hf:(nM seen).findIdx? (·==(v:Int))with
 |none=>simp only[nM,zql,zrd,List.map_nil]
 |some q =>
  obtain⟨h1,h2,_⟩:=List.findIdx?_eq_some_iff_getElem.1 hf;have h2:(nM seen)[q]=v:=by simpa using h2
  exact absurd (yP.1 (h2▸zqu h1)) hv
end
section
variable{n:Nat}{bud:Int}{L:Lay}{S:St}{h:H}{a:Int}{j:Nat}{l d:List Cl}
def zY(seen:List Nat):O:= .map ((nM seen).map vi) ((nM seen).map fun _=> .bool true)
def LH(h:H)(seen:List Nat)(x:Int)(rest:Cl)(h':H):Prop:=h'[h.length]? =some (zY seen)/\h'[h.length+1]? =some (.cells (vi x::rest.map vi))/\h.length+2<=h'.length
variable{seen:List Nat}
theorem LI.len{rest:Cl}(k:LI S seen rest)(t:Tr n S):rest.length<=n+1:=by
 have:=gI (m:=n+1) k.rn fun x hx=>by obtain⟨a,ha,rfl⟩:=zrh.1 hx;have:=t.rng _ (k.s2 a ha).1;omega
 simpa using this
variable{rs:Cl}{i:Nat}
theorem OX(hi:i<rs.length)(y:V):List.take ((i+1)*1) (y::vi (rs.getD i 0)::List.drop 1 (rs.map vi))++[vi (rs.getD 0 0)]++List.drop ((i+1)*1) (vi (rs.getD i 0)::List.drop 1 (rs.map vi))=y::(sw rs 0 i 0).map vi:=by
 match rs,hi with
 |x::r,hi =>
  rw[Nat.mul_one];cases i with
  |zero=>simp[sw]
  |succ j =>
   have hj:j<r.length:=by simpa using hi
   have e:(sw (x::r) 0 (j+1) 0).map vi=vi (r.getD j 0)::(r.map vi).set j (vi x):=by simp[sw,List.map_set]
   rw[e,List.set_eq_take_append_cons_drop,if_pos (by simpa using hj)];simp
theorem Vl(hi:i<rs.length):∃r,sw rs 0 i 0=rs.getD i 0::r:=by
 match rs,hi with
 |x::r,hi =>
  cases i with
  |zero=>exact⟨r,by simp[sw]⟩
  |succ j=>exact⟨r.set j x,by simp[sw]⟩
theorem Vm(hi:i<rs.length){b:Int}(hb:b∈(sw rs 0 i 0).take (i+1)):b∈rs.take (i+1):=by
 match rs,hi with
 |x::r,hi =>
  cases i with
  |zero=>simpa [sw]using hb
  |succ j =>
   have hj:j<r.length:=by simpa using hi
   have e:sw (x::r) 0 (j+1) 0=r[j]::r.set j x:=by simp[sw,zqg,hj]
   rw[e,List.take_succ_cons,zrj]at hb;rw[List.take_succ_cons,zrj];rcases hb with rfl|hb
   ·exact .inr (lw hj (by omega))
   ·obtain⟨k,hk,hk2,rfl⟩:=jJ hb;rw[List.getElem_set];split
    ·exact .inl rfl
    ·exact .inr (lw (by simpa using hk) hk2)
def Xg:Plan:=tkZ [0,1,2,3,4,5,6,7,9,10]<| .alt 8 (.one 11<| .take 12<| .one 13<| .take 14<| .one 15<| .fin) (.one 11 (.one 8<| .take 12<| .one 13<| .take 14<| .one 15<| .fin))
theorem Vo(hs:HS n bud L S h)(hn:n<=20000){k:Nat}(hk:k<=n)(hv:(S.v k).value≠0){R:AEnd->H->(Nat->Bool)->Prop}
 (hr:∀h',HS n bud L (uU S k (IntKind.i64.wrap ((S.v k).score+1))) h'->h'.length=h.length->(∀i,L.ro i=none->h'[i]? =h[i]?)->R (.ret (.tup [])) h' (fun _=>false)):ag TE 129 [.lp L.s 0,vi k] h R:=by
 have hM:=mLx;have hvar:=hs.var;have hsol:=hs.sol;have hvs:L.v≠L.s:=bT L hs.rv hs.rs (by simp);have hlv:=hs.rlt _ _ hs.rv;have hB:=hs.bump hk (s:=IntKind.i64.wrap ((S.v k).score+1));have hz:((S.v k).value==0)=false:=by simpa using hv
 have g0:((dP L S n).set (k*5+4) (vi (IntKind.i64.wrap ((S.v k).score+1)))).getD (k*5) .any=vi (S.v k).value:=by rw[zqg,zqn (by omega),<-zqg];exact vc0 hk
 refine ah Tryz.func129 rfl (by simp[nts]) (vm ?_);simp only[wq.1,seval,Tryz.results129,hsol,ax,hvar,bV,zqt,zrn,hlv,Yd hk,vc4 hk,zqn,hvs,ne_eq,not_false_eq_true,g0,hz];exact⟨⟨by omega,by omega⟩,by omega,⟨by omega,by omega⟩,by omega,⟨by omega,by omega⟩,by omega,hr _ hB (by simp) fun i hi=>zqn fun e=>by rw[<-e,hs.rv]at hi;cases hi⟩
theorem Hr(hs:HS n bud L S h)(hn:n<=20000)(i0:Inv n l d S.ln S)(hlv:0<S.lv.length)(hj:j<S.nc)(hf:∀b∈S.cl j,-b∈S.tr)(htop:∃b∈S.cl j,fU S b=S.lv.length){R:AEnd->H->(Nat->Bool)->Prop}
 (hr:∀S' out k id h' p,Sco S S'->Inv n l d S.ln S'->Lrnt n l S out k->HS n bud L S' h'->L.ro id=none->h'[id]? =some (.cells (out.map vi))->h.length<=h'.length->(∀q,p q=true->L.ro q=none)->R (.ret (.tup [.ls id 1 0 out.length out.length,vi k])) h' p) :
 ag TE 120 [.lp L.s 0,clV L S j] h R:=by
 have hM:=mLx;refine ah Tryz.func120 rfl (by simp[nts]) ?_;refine vn ?_;simp only[wq.1,Nat.reduceLT,Tryz.results120];refine vn ?_;simp only[wq.1,seval];refine ak ?_;refine IL rfl (by decide) ?_;refine uN (x:= .const (.int .i64 0)) (t:=136) rfl (q:={kind:= .slice 3,size:=1,bytes:=24,zero:= .nils}) (by simp only[wq.1]) (el:=3) rfl (re:={kind:= .int .i64,size:=1,bytes:=8,zero:= .int .i64 0}) (by simp only[wq.1]) rfl (by simp only[wq.1]) (kk:= .i64) (m:=0) (by simp only[wq.1]) ?_;simp only[wq.1,seval];have hA:=hs.app [zY [],O.cells [vi 0]];have eA:h++[O.map [] []]++[O.cells [vi 0]]=h++[zY [],O.cells [vi 0]]:=by simp[zY,nM]
 have eA1:(h++[zY [],O.cells [vi 0]])[h.length]? =some (zY []):=by simp
 have eA2:(h++[zY [],O.cells [vi 0]])[h.length+1]? =some (O.cells [vi 0]):=by simp
 have hsolA:=hA.sol;have htl:=i0.t.len;have hwA:IntKind.i64.wrap ((S.tr.length:Int)-1)=(S.tr.length:Int)-1:=aU (by omega) (by omega);rw[eA];refine vn ?_;simp only[wq.1,seval,hsolA,ax,hwA];refine⟨by decide +kernel,?_⟩;refine ak (dh (Q:=fun xe f' h'=>xe= .normal/\∃(S':St)(seen:List Nat)(rest:Cl)(q:Nat)(hq:q<S.tr.length),Sco S S'/\Inv n l d S.ln S'/\HS n bud L S' h'/\LI S seen rest/\(S.tr[q]).natAbs∈seen/\fU S S.tr[q]=S.lv.length/\Bad (l++S.ln) (Cm (-S.tr[q]::rest)) /\
  f'.t 0= .lp L.s 0/\f'.t 7= .ls (h.length+1) 1 0 (rest.length+1) (rest.length+1)/\f'.t 10=vi S.tr[q]/\f'.d=[]/\(∀i,f'.k i=true->L.ro i=none)/\LH h seen 0 rest h') ?_ (aB ?_))
 ·rintro xe f' h' ⟨rfl,S',seen,rest,q,hq,c1,c2,c3,c4,c5,c6,c7,g0,g7,g10,gd,gk,hl⟩;show awp _ _ _ _ _ _ _;obtain⟨hl1,hl2,hl3⟩:=hl;obtain⟨p,ep⟩:∃p,p=S.tr[q]:=⟨_,rfl⟩;rw[<-ep]at c5 c6 c7 g10;have hpn:p.natAbs<=n:=ep▸(i0.t.rng _ (zqu hq)).2;have hwn:IntKind.i64.wrap (0-p)=-p:=by rw[aU (by omega) (by omega)];omega
  have hrl:=c4.len i0.t;have hro1:L.ro (h.length+1)=none:=by
   cases e:L.ro (h.length+1)with
   |none=>rfl
   |some r=>have:=hs.rlt _ _ e;omega
  have hcl1:(vi 0::rest.map vi).length=rest.length+1:=by simp
  refine vm ?_;simp only[wq.1,seval,g7,g10,hl2,hwn,Nat.add_sub_cancel];refine⟨by omega,by omega,?_⟩;refine aC (fun m f2 h2=>∃(i:Nat)(rs:Cl)(lv:Nat),m+i=rest.length/\rs.Perm rest/\(∀a∈rs.take i,fU S a<=lv)/\((i=0/\lv=0)\/∃a r,rs=a::r/\fU S a=lv) /\
   f2.t 0= .lp L.s 0/\f2.t 7= .ls (h.length+1) 1 0 (rest.length+1) (rest.length+1)/\f2.t 14=vi lv/\f2.t 126= .ls (h.length+1) 1 1 rest.length rest.length/\f2.t 127=vi rest.length/\f2.t 128=vi i/\f2.d=[]/\(∀i,f2.k i=true->L.ro i=none) /\
   HS n bud L S' h2/\h2[h.length+1]? =some (.cells (vi (-p)::rs.map vi))/\h.length+2<=h2.length) rest.length
   ⟨0,rest,0,rfl,List.Perm.refl _,by simp,.inl ⟨rfl,rfl⟩,g0,g7,by simp only[wq.1,seval];try rfl,by simp only[wq.1,seval];try rfl,by simp only[wq.1,seval];try rfl,by simp only[wq.1,↓reduceIte];try rfl,gd,gk,c3.congr (fun i r hi=>zqn fun e=>by rw[<-e,hro1]at hi;cases hi) (by simp),zqt (by omega),by rw[zrn];exact hl3⟩ ?_
  rintro m f2 h2 ⟨i,rs,lv,hm,hpm,hmx,hmm,e0,e7,e14,e126,e127,e128,ed,ek,hs2,hh2,hl2'⟩;have hrsl:rs.length=rest.length:=hpm.length_eq;have hcl2:(vi (-p)::rs.map vi).length=rest.length+1:=by simp[hrsl]
  by_cases hi:i<rest.length
  ·have eb:decide ((i:Int)<(rest.length:Int))=true:=by rw[zqb];omega
   obtain⟨a,ea⟩:∃a,a=rs[i]:=⟨_,rfl⟩;have har:a∈rs:=ea▸zqu _;obtain⟨s1,s2,s3,s4⟩:=c4.s2 a (hpm.mem_iff.1 har);have han:a.natAbs<=n:=by have:=(i0.t.rng _ s1).2;omega
   have hg:(vi (-p)::rs.map vi).getD (1+i*1) .any=vi a:=by rw[Nat.mul_one,Nat.add_comm,ea];simp[zqg,hrsl,hi]
   have hws:IntKind.i64.wrap ((i:Int)+1)=((i+1:Nat):Int):=by rw[aU (by omega) (by omega)];omega
   have hvar2:=hs2.var;have hlva:(S'.v a.natAbs).level=fU S a:=c1.level _;have hH:∀rs':Cl,HS n bud L S' (h2.set (h.length+1) (.cells (vi (-p)::rs'.map vi))):=fun rs'=>hs2.congr (fun i r hi=>zqn fun e=>by rw[<-e,hro1]at hi;cases hi) (by simp);by_cases hlt:(lv:Int)<fU S a
   ·have bd:decide ((lv:Int)<fU S a)=true:=decide_eq_true hlt;refine vn ?_;simp only[wq.1,Nat.reduceLT,e127,e128,eb];refine vn ?_;simp only[wq.1,↓reduceIte];refine ak (aB ?_);refine vn ?_;simp only[wq.1,seval,e126,e128,hh2,hg];refine⟨⟨by omega,by omega⟩,by omega,?_⟩;refine vn ?_;simp only[wq.1,seval,e0];refine oJ hs2 hn han ?_;simp only[wq.1,seval,hvar2,bV,vc1 han,hlva];refine⟨by omega,?_⟩;refine vn ?_;simp only[wq.1,seval,e14,bd];refine aV (b:=true) (by simp only[wq.1,↓reduceIte]) (by simp only[wq.1,↓reduceIte]) (fun _=> ?_) (fun h=>by cases h);obtain⟨lv2,elv⟩:∃k:Nat,fU S a=k:=⟨(fU S a).toNat,by omega⟩;rw[elv];refine vn ?_;simp only[wq.1,seval];obtain⟨rs2,ers2⟩:∃rs2,rs2=sw rs 0 i 0:=⟨_,rfl⟩;have hg1:(rs.map vi).getD 0 .any=vi (rs.getD 0 0):=by
     have:0<rs.length:=by omega
     simp[zqg,this]
    have hg2:(vi (-p)::rs.map vi).getD ((i+1)*1) .any=vi a:=by rw[Nat.mul_one,ea];simp[zqg,hrsl,hi]
    have hself:∀o,(h2.set (h.length+1) o)[h.length+1]? =some o:=fun o=>zqt (by omega);have ea2:a=rs.getD i 0:=by rw[ea];simp[zqg,hrsl,hi]
    have hsp:=OX (rs:=rs) (i:=i) (by omega) (vi (-p));rw[<-ers2,<-ea2]at hsp;have hln:(vi (-p)::vi a::List.drop 1 (rs.map vi)).length=rest.length+1:=by simp;omega
    refine bM dV Xg (fun f' h'=>f'.t 0= .lp L.s 0/\f'.t 7= .ls (h.length+1) 1 0 (rest.length+1) (rest.length+1)/\f'.t 14=vi lv2/\f'.t 126= .ls (h.length+1) 1 1 rest.length rest.length/\f'.t 127=vi rest.length/\f'.t 128=vi i/\f'.d=[]/\(∀i,f'.k i=true->L.ro i=none)/\h'=h2.set (h.length+1) (.cells (vi (-p)::rs2.map vi))) (by decide +kernel) (by decide +kernel) ?_ ?_
    ·simp only[wq.1,seval,Xg,e0,e7,e126,e127,e128,ed,hh2,hws,hg1,hg2,hself,List.set_set,hsp];have hdl:(List.drop 1 (rs.map vi)).length+1=rs.length:=by rw[List.length_drop,zra];omega
     rw[hdl]
     and_intros<;>first|omega|exact ek|rfl
    ·rintro f3 h3 ⟨k0,k7,k14,k126,k127,k128,kd,kk,rfl⟩;simp only[wq.1];refine vm ?_;simp only[wq.1,seval,k128,hws];have hp2:rs2.Perm rs:=ers2▸uX (by omega) (by omega);have e20:∃r,rs2=a::r:=by rw[ers2,ea2];exact Vl (by omega)
     obtain⟨r2,e20⟩:=e20;refine .inl ⟨m-1,by omega,i+1,rs2,lv2,by omega,hp2.trans hpm,fun b hb=> ?_,.inr ⟨a,r2,e20,elv⟩,k0,k7,k14,k126,k127,rfl,kd,kk,hH rs2,hself _,by rw[zrn];exact hl2'⟩;have hb:=Vm (by omega) (ers2▸hb);rw[zrg,zqk (by omega),Option.toList_some,zrf,zrc,<-ea]at hb;rcases hb with hb|rfl
     ·have:=hmx b hb;omega
     ·omega
   ·have bd:decide ((lv:Int)<fU S a)=false:=decide_eq_false hlt;refine vm ?_;simp only[wq.1,seval,e0,e126,e127,e128,eb,hh2,hg];refine⟨⟨by omega,by omega⟩,by omega,oJ hs2 hn han ?_⟩;simp only[wq.1,seval,e14,e128,hvar2,bV,vc1 han,hlva,bd,hws];refine⟨by omega,.inl ⟨m-1,by omega,i+1,rs,lv,by omega,hpm,fun b hb=> ?_,?_,e0,e7,e14,e126,e127,rfl,ed,ek,hs2,hh2,hl2'⟩⟩
    ·rw[zrg,zqk (by omega),Option.toList_some,zrf,zrc,<-ea]at hb;rcases hb with hb|rfl
     ·exact hmx b hb
     ·omega
    ·rcases hmm with⟨_,h2⟩|hmm
     ·omega
     ·exact .inr hmm
  ·have eb:decide ((i:Int)<(rest.length:Int))=false:=by rw[zqd];omega
   refine vm ?_;simp only[wq.1,seval,e7,e14,e127,e128,ed,eb];have hmx':∀a∈rs,fU S a<=lv:=fun a ha=>hmx a (by rw[zqh (by omega)];exact ha);have eo:rest.length+1=(-p::rs).length:=by simp[hrsl]
   rw[eo];refine hr S' (-p::rs) lv (h.length+1) h2 f2.k c1 c2 ?_ hs2 hro1 hh2 (by omega) ek;rw[ep];refine OG i0 c4 hq (ep▸c5) (ep▸c6) (ep▸c7) hpm ?_ hmx' hlv ?_
   ·rcases hmm with⟨h1,h2⟩|hmm
    ·exact .inl ⟨zse (by omega),h2⟩
    ·exact .inr hmm
   ·refine Bad.mono (fun _ h=>h) (fun b hb=> ?_) (ep▸c7);unfold Cm at hb ⊢;rw[zrd,zrj]at hb ⊢;exact hb.imp id fun h=>((hpm.map _).mem_iff).2 h
 refine aC (fun m f' h'=>∃(S':St)(seen:List Nat)(rest:Cl)(p:Int)(k:Nat),Sco S S'/\Inv n l d S.ln S'/\HS n bud L S' h'/\LA S j m p k seen rest /\
  f'.t 0= .lp L.s 0/\f'.t 1=clV L S k/\f'.t 6= .lm h.length/\f'.t 7= .ls (h.length+1) 1 0 (rest.length+1) (rest.length+1)/\f'.t 8=vi (dM S seen m)/\f'.t 9=vi ((m:Int)-1)/\f'.t 10=vi p/\f'.d=[]/\(∀i,f'.k i=true->L.ro i=none)/\LH h seen 0 rest h') S.tr.length
  ⟨S,[],[],0,j,Sco.refl S,i0,hA,LA.start i0.t hj hf,rfl,rfl,rfl,by simp only[wq.1,seval];try rfl,by simp only[wq.1,seval];simp[dM],rfl,rfl,by simp only[wq.1];try rfl,fun q hq=>absurd hq Bool.false_ne_true,eA1,eA2,by simp⟩ ?_
 rintro q f1 h1 ⟨S1,seen,rest,p,k,sc1,i1,hs1,la,g0,g1,g6,g7,g8,g9,g10,gd,gk,hl1⟩;refine aB ?_;refine ak (dh (Q:=fun xe f' h'=>xe= .normal/\∃(S':St)(seen:List Nat)(rest:Cl),Sco S S'/\Inv n l d S.ln S'/\HS n bud L S' h'/\LC S j q seen rest /\
  f'.t 0= .lp L.s 0/\f'.t 6= .lm h.length/\f'.t 7= .ls (h.length+1) 1 0 (rest.length+1) (rest.length+1)/\f'.t 8=vi (dM S seen q)/\f'.t 9=vi ((q:Int)-1)/\f'.d=[]/\(∀i,f'.k i=true->L.ro i=none)/\LH h seen 0 rest h') ?_ ?_)
 ·rintro xe f2 h2 ⟨rfl,S2,seen2,rest2,sc2,i2,hs2,lc2,e0,e6,e7,e8,e9,ed,ek,hl2⟩;show awp _ _ _ _ _ _ _;have hsol2:=hs2.sol;have htr2:=hs2.trl;rw[sc2.tr]at htr2;have hmap:h2[h.length]? =some (.map ((nM seen2).map vi) ((nM seen2).map fun _=> .bool true)):=hl2.1;have hqn:=lc2.qn;have htm:(S.tr.map vi).length=S.tr.length:=zra ..;refine ak (dh (Q:=fun xe f' h'=>xe= .normal/\h'=h2/\∃(q':Nat)(hq:q'<S.tr.length),q'+1<=q/\Gap S seen2 (q'+1) q/\(S.tr[q']).natAbs∈seen2 /\
   f'.t 0= .lp L.s 0/\f'.t 6= .lm h.length/\f'.t 7= .ls (h.length+1) 1 0 (rest2.length+1) (rest2.length+1)/\f'.t 8=vi (dM S seen2 q)/\f'.t 9=vi (q':Int)/\f'.d=[]/\(∀i,f'.k i=true->L.ro i=none)) ?_ (aB ?_))
  ·rintro xe f3 h3 ⟨rfl,rfl,q',hq',hqq,hgap,hsn,k0,k6,k7,k8,k9,kd,kk⟩;show awp _ _ _ _ _ _ _;obtain⟨a,ea⟩:∃a,a=S.tr[q']:=⟨_,rfl⟩;have han:a.natAbs<=n:=ea▸(i0.t.rng _ (zqu hq')).2;have hg:(S.tr.map vi).getD (q'*1) .any=vi a:=by rw[Nat.mul_one,ea];simp[zqg,hq']
   have etr:S2.tr.length=S.tr.length:=by rw[sc2.tr]
   have hvar2:=hs2.var;obtain⟨n1,n2,n3,n4⟩:=lc2.next i0 hlv hj hf hqq hq' hgap hsn
   have hws:IntKind.i64.wrap ((q':Int)-1)=(q':Int)-1:=aU (by omega) (by omega);have hwo:IntKind.i64.wrap ((dM S seen2 q:Int)-1)=((dM S seen2 q':Nat):Int):=by have:=IY (seen:=seen2) hqn;rw[aU (by omega) (by omega)];omega
   refine vm ?_;simp only[wq.1,seval,k0,k9,hsol2,ax,htr2,etr,hg];refine⟨⟨by omega,by omega⟩,by omega,oJ hs2 hn han ?_⟩;by_cases hoz:dM S seen2 q'=0
   ·have bz:((dM S seen2 q':Int)==0)=true:=by rw[hoz];rfl
    simp only[wq.1,seval,k0,k7,k8,k9,kd,hvar2,bV,vc2 han,hws,hwo,bz];exact⟨by omega,S2,seen2,rest2,q',hq',sc2,i2,hs2,lc2.li,hsn,n1,n3 hoz,rfl,by rw[ea],kk,hl2⟩
   ·have bz:((dM S seen2 q':Int)==0)=false:=by rw[beq_eq_false_iff_ne];omega
    obtain⟨c,n5,n6⟩:=n4 hoz;have hre:reV L S2 (S2.v a.natAbs).reason=clV L S c:=by rw[sc2.reason,ea,n5];show V.ls _ _ _ _ _=V.ls _ _ _ _ _;rw[sc2.cl]
    simp only[wq.1,seval,k8,k9,hvar2,bV,vc2 han,hre,hws,hwo,bz];exact⟨by omega,.inl ⟨q',by omega,S2,seen2,rest2,a,c,sc2,i2,hs2,ea▸n6,k0,rfl,k6,k7,rfl,rfl,rfl,kd,kk,hl2⟩⟩
  refine aC (fun m f' h'=>h'=h2/\m<=q/\Gap S seen2 m q /\
   f'.t 0= .lp L.s 0/\f'.t 6= .lm h.length/\f'.t 7= .ls (h.length+1) 1 0 (rest2.length+1) (rest2.length+1)/\f'.t 8=vi (dM S seen2 q)/\f'.t 9=vi ((m:Int)-1)/\f'.d=[]/\(∀i,f'.k i=true->L.ro i=none)) q
   ⟨rfl,zrb _,fun i _ h1 h2=>by omega,e0,e6,e7,e8,e9,ed,ek⟩ ?_
  rintro m f3 h3 ⟨rfl,hmq,hgap,k0,k6,k7,k8,k9,kd,kk⟩;have hm0:=RQ hmq hgap lc2.op;obtain⟨u,rfl⟩:∃u,m=u+1:=⟨m-1,by omega⟩;have hu:u<S.tr.length:=by omega
  have k9:f3.t 9=vi (u:Int):=by rw[k9];congr 1;omega
  obtain⟨a,ea⟩:∃a,a=S.tr[u]:=⟨_,rfl⟩;have han:a.natAbs<=n:=ea▸(i0.t.rng _ (zqu hu)).2;have hg:(S.tr.map vi).getD (u*1) .any=vi a:=by rw[Nat.mul_one,ea];simp[zqg,hu]
  have hget:=Je seen2 a.natAbs;have etr:S2.tr.length=S.tr.length:=by rw[sc2.tr]
  by_cases hse:a.natAbs∈seen2
  ·refine vm ?_;simp only[wq.1,seval,k0,k6,k7,k8,k9,kd,hsol2,ax,htr2,etr,hg,Ub hn han,hmap,hget,decide_eq_true hse];refine⟨by decide +kernel,⟨by omega,by omega⟩,by omega,⟨by omega,by omega⟩,by omega,u,hu,hmq,hgap,ea▸hse,rfl,kk⟩
  ·have hws:IntKind.i64.wrap ((u:Int)-1)=(u:Int)-1:=aU (by omega) (by omega);refine vm ?_;simp only[wq.1,seval,k0,k6,k9,hsol2,ax,htr2,etr,hg,Ub hn han,hmap,hget,decide_eq_false hse,hws];refine⟨by decide +kernel,⟨by omega,by omega⟩,by omega,⟨by omega,by omega⟩,by omega,.inl ⟨u,by omega,rfl,by omega,fun i hi h1 h2=> ?_,k0,k6,k7,k8,rfl,kd,kk⟩⟩;by_cases hiu:i=u
   ·subst hiu;exact ea▸hse
   ·exact hgap i hi (by omega) h2
 obtain⟨c,ec⟩:∃c,c=S.cl k:=⟨_,rfl⟩;have hclV:clV L S k= .ls (L.c k) 1 0 c.length c.length:=by rw[ec];rfl
 rw[hclV]at g1;refine vn ?_;simp only[wq.1,seval,g1];refine aB ?_;refine aC (fun m f' h'=>∃(S':St)(seen:List Nat)(rest:Cl)(i:Nat),m+i=c.length/\Sco S S'/\Inv n l d S.ln S'/\HS n bud L S' h'/\LA S j q p k seen rest/\(∀b∈c.take i,b≠p->Acc S seen b) /\
  f'.t 0= .lp L.s 0/\f'.t 6= .lm h.length/\f'.t 7= .ls (h.length+1) 1 0 (rest.length+1) (rest.length+1)/\f'.t 8=vi (dM S seen q)/\f'.t 9=vi ((q:Int)-1)/\f'.t 10=vi p/\f'.t 26= .ls (L.c k) 1 0 c.length c.length/\f'.t 27=vi c.length/\f'.t 28=vi i/\f'.d=[]/\(∀i,f'.k i=true->L.ro i=none)/\LH h seen 0 rest h') c.length
  ⟨S1,seen,rest,0,rfl,sc1,i1,hs1,la,by simp,g0,g6,g7,g8,g9,g10,rfl,by simp only[wq.1,seval];try rfl,by simp only[wq.1,↓reduceIte];try rfl,gd,gk,hl1⟩ ?_
 rintro m f2 h2 ⟨S2,seen2,rest2,i,hm,sc2,i2,hs2,la2,ac2,e0,e6,e7,e8,e9,e10,e26,e27,e28,ed,ek,hl2⟩;have hk:=la2.jn;have hl22:=hl2.2.2;have hcc:h2[L.c k]? =some (.cells (c.map vi)):=by
  have:=(hs2.cla k (by rw[sc2.nc];exact hk)).1;rw[sc2.cl,<-ec]at this;exact this
 have hcm:(c.map vi).length=c.length:=zra ..;have hcn:c.length<=n:=by
  have h1:=i0.c.cnd k hk;have h2:=i0.c.crg k hk;rw[<-ec]at h1 h2;have:=gI (m:=n) (l:=c.map fun a=>a.natAbs-1) (by
   rw[List.Nodup,List.pairwise_map]at h1 ⊢;refine h1.imp_of_mem fun {a b} ha hb hab=> ?_;have:=(h2 a ha).1;have:=(h2 b hb).1;omega) (by
   intro x hx;obtain⟨a,ha,rfl⟩:=zrh.1 hx;have:=h2 a ha;omega)
  simpa using this
 by_cases hi:i<c.length
 ·have eb:decide ((i:Int)<(c.length:Int))=true:=by rw[zqb];omega
  obtain⟨a,ea⟩:∃a,a=c[i]:=⟨_,rfl⟩;have hg:(c.map vi).getD (i*1) .any=vi a:=by rw[Nat.mul_one,ea];simp[zqg,hi]
  have hac:a∈S.cl k:=by rw[<-ec,ea];exact zqu hi
  obtain⟨ha0,han⟩:=i0.c.crg k hk a hac;have etk:c.take (i+1)=c.take i++[a]:=by rw[zrg,ea];simp[hi]
  have hws:IntKind.i64.wrap ((i:Int)+1)=((i+1:Nat):Int):=by rw[aU (by omega) (by omega)];omega
  have hmap:h2[h.length]? =some (.map ((nM seen2).map vi) ((nM seen2).map fun _=> .bool true)):=hl2.1;have hsol2:=hs2.sol;have hvar2:=hs2.var;have hget:=Je seen2 a.natAbs;have skip:(a=p\/Acc S seen2 a)->∀b∈c.take (i+1),b≠p->Acc S seen2 b:=fun hz b hb hne=>by
   rw[etk]at hb;rcases zrf.1 hb with hb|hb
   ·exact ac2 b hb hne
   ·rw[zrc.1 hb]at hne ⊢;exact hz.resolve_left hne
  by_cases hap:a=p
  ·have b1:(a==p)=true:=by simpa using hap
   refine vm ?_;simp only[wq.1,seval,e0,e6,e10,e26,e27,e28,eb,hcc,hg,Ub hn han,b1,hmap,hget,hsol2,ax,hvar2,bV,vc1 han,hws];refine⟨⟨by omega,by omega⟩,by omega,.inl ⟨m-1,by omega,S2,seen2,rest2,i+1,by omega,sc2,i2,hs2,la2,skip (.inl hap),e0,e6,e7,e8,e9,e10,e26,e27,rfl,ed,ek,hl2⟩⟩
  ·have b1:(a==p)=false:=by simpa using hap
   by_cases hse:a.natAbs∈seen2
   ·refine vm ?_;simp only[wq.1,seval,e0,e6,e10,e26,e27,e28,eb,hcc,hg,Ub hn han,b1,hmap,hget,decide_eq_true hse,hsol2,ax,hvar2,bV,vc1 han,hws];refine⟨⟨by omega,by omega⟩,by omega,.inl ⟨m-1,by omega,S2,seen2,rest2,i+1,by omega,sc2,i2,hs2,la2,skip (.inr (.inr hse)),e0,e6,e7,e8,e9,e10,e26,e27,rfl,ed,ek,hl2⟩⟩
   ·by_cases hl0:fU S a=0
    ·have bl:((S2.v a.natAbs).level==0)=true:=by rw[sc2.level];exact beq_iff_eq.2 hl0
     refine vm ?_;simp only[wq.1,seval,e0,e6,e10,e26,e27,e28,eb,hcc,hg,Ub hn han,b1,hmap,hget,decide_eq_false hse,hsol2,ax,hvar2,bV,vc1 han,bl,hws];refine⟨⟨by omega,by omega⟩,by omega,⟨by omega,by omega⟩,by omega,.inl ⟨m-1,by omega,S2,seen2,rest2,i+1,by omega,sc2,i2,hs2,la2,skip (.inr (.inl hl0)),e0,e6,e7,e8,e9,e10,e26,e27,rfl,ed,ek,hl2⟩⟩
    ·have bl:((S2.v a.natAbs).level==0)=false:=by rw[sc2.level];exact beq_eq_false_iff_ne.2 hl0
     have hput:=Su hse;have hhl:h.length<h2.length:=by have:=hl2.2.2;omega
     have hro0:L.ro h.length=none:=OJ hs;have hro1:L.ro (h.length+1)=none:=by
      cases e:L.ro (h.length+1)with
      |none=>rfl
      |some r=>have:=hs.rlt _ _ e;omega
     have hmn:∀ {i r},L.ro i=some r->h.length≠i:=fun hi e=>by rw[<-e,hro0]at hi;cases hi
     have hs3:HS n bud L S2 (h2.set h.length (zY (seen2++[a.natAbs]))):=hs2.congr (fun i r hi=>zqn (hmn hi)) (by simp);have hvz:(S2.v a.natAbs).value≠0:=by have h1:=la2.jf a hac hap;rw[sc2.value];have h2:=(i0.t.lval_neg ha0 han).2 (zsh h1);intro e;unfold mJ at h2;rw[e]at h2;split at h2<;>omega
     obtain⟨mk1,mk2⟩:=la2.mark i0.t hac hap hl0 hse;refine vm ?_;simp only[wq.1,seval,e0,e6,e10,e26,e27,e28,eb,hcc,hg,Ub hn han,b1,hmap,hget,decide_eq_false hse,hsol2,ax,hvar2,bV,vc1 han,bl,hput];refine⟨⟨by omega,by omega⟩,by omega,⟨by omega,by omega⟩,by omega,Vo hs3 hn han hvz fun h4 hs4 hl4 hk4=> ?_⟩;obtain⟨S4,eS4⟩:∃S4,S4=uU S2 a.natAbs (IntKind.i64.wrap ((S2.v a.natAbs).score+1)):=⟨_,rfl⟩;rw[<-eS4]at hs4;have sc4:Sco S S4:=eS4▸sc2.bump _ _;have i4:Inv n l d S.ln S4:=eS4▸RV i2 ⟨by omega,han⟩ hvz;have hsol4:=hs4.sol;have hvar4:=hs4.var;have hmap4:h4[h.length]? =some (zY (seen2++[a.natAbs])):=by rw[hk4 _ hro0];exact zqt hhl
     have hout4:h4[h.length+1]? =some (.cells (vi 0::rest2.map vi)):=by rw[hk4 _ hro1,zqn (by omega)];exact hl2.2.1
     have hl4':h4.length=h2.length:=by rw[hl4,zrn]
     have skip2:∀b∈c.take (i+1),b≠p->Acc S (seen2++[a.natAbs]) b:=fun b hb hne=>by
      rw[etk]at hb;rcases zrf.1 hb with hb|hb
      ·exact(ac2 b hb hne).mono fun v hv=>List.mem_append_left _ hv
      ·rw[zrc.1 hb];exact .inr (by simp)
     by_cases hD:fU S a=S.lv.length
     ·have bd:((S4.v a.natAbs).level==(S4.lv.length:Int))=true:=by rw[sc4.level,sc4.lv];exact beq_iff_eq.2 hD
      obtain⟨la3,ho3⟩:=mk1 hD;have hwo:IntKind.i64.wrap ((dM S seen2 q:Int)+1)=((dM S seen2 q+1:Nat):Int):=by have:=IY (seen:=seen2) la2.qn;have:=la2.qn;rw[aU (by omega) (by omega)];omega
      simp only[wq.1,seval,e0,e8,e28,hsol4,ax,hvar4,bV,vc1 han,bd,hws,hwo];refine⟨by decide +kernel,⟨by omega,by omega⟩,by omega,.inl ⟨m-1,by omega,S4,seen2++[a.natAbs],rest2,i+1,by omega,sc4,i4,hs4,la3,skip2,e0,e6,e7,by simp only[wq.1,seval,ho3],e9,e10,e26,e27,rfl,ed,ek,hmap4,hout4,by omega⟩⟩
     ·have bd:((S4.v a.natAbs).level==(S4.lv.length:Int))=false:=by rw[sc4.level,sc4.lv];exact beq_eq_false_iff_ne.2 hD
      obtain⟨la3,ho3⟩:=mk2 hD;simp only[wq.1,↓reduceIte,Nat.reduceEqDiff,Nat.reduceLT,Nat.reduceLeDiff,Nat.reduceAdd,reduceCtorEq,Nat.reduceMul,e0,e7,e28,ed,hsol4,ax,hvar4,bV,vc1 han,bd,hws,hout4];have bne:∀ {i r},L.ro i=some r->(i==h.length+1)=false:=fun {i r} hi=>by simp only[beq_eq_false_iff_ne];rintro rfl;rw[hro1]at hi;cases hi
      have bs:=bne hs.rs;have bc:=bne (hs2.cla k (by rw[sc2.nc];exact hk)).2;have bh:(h.length==h.length+1)=false:=by simp
      have hdv:V.drops (fun x=>x==h.length+1) (rest2.map vi)=rest2.map vi:=aI _;have hD4:HS n bud L S4 ((List.map (O.drop fun x=>x==h.length+1) h4).set (h.length+1) (.cells (vi 0::(rest2.map vi++[vi a])))) :=
       (hs4.dropN (p:=fun x=>x==h.length+1) fun i r hi=>bne hi).congr (fun i r hi=>zqn fun e=>by rw[<-e,hro1]at hi;cases hi) (by simp)
      rw[hdv];have hrl:=la2.li.len i0.t;have er:(rest2++[a]).length=rest2.length+1:=by simp
      have ho3':dM S seen2 q=dM S (seen2++[a.natAbs]) q:=ho3.symm;refine⟨by decide +kernel,⟨by omega,by omega⟩,by omega,⟨rfl,by decide⟩,⟨by omega,by omega,by omega⟩,.inl ⟨m-1,by omega,S4,seen2++[a.natAbs],rest2++[a],i+1,by omega,sc4,i4,hD4,la3,skip2,by simp only[wq.1,seval,aG,Tryz.results120,e0,bs],by simp only[wq.1,seval,aG,Tryz.results120,e6,bh],by simp only[wq.1,seval,aG,Tryz.results120,er],by simp only[wq.1,seval,aG,Tryz.results120,e8,ho3],by simp only[wq.1,seval,aG,Tryz.results120,e9],by simp only[wq.1,seval,aG,Tryz.results120,e10],by simp only[wq.1,seval,aG,Tryz.results120,e26,bc],by simp only[wq.1,seval,aG,Tryz.results120,e27],rfl,ed,fun q hq=> ?_,?_,?_,?_⟩⟩
      ·rcases zsi hq with hq|hq
       ·exact ek q hq
       ·rw[show q=h.length+1 by simpa using hq];exact hro1
      ·rw[zqn (by omega),zqo,hmap4,zrw,zY,kM,aI,dQ (fun v hv=>by obtain⟨_,_,rfl⟩:=zrh.1 hv;simp only[V.drop])]
      ·rw[zqt (by rw[zra];omega)];simp
      ·rw[zrn,zra];omega
 ·have eb:decide ((i:Int)<(c.length:Int))=false:=by rw[zqd];omega
  refine vm ?_;simp only[wq.1,seval,e0,e6,e7,e8,e9,e27,e28,ed,eb];refine⟨S2,seen2,rest2,sc2,i2,hs2,la2.done i0.t (fun b hb=>(i0.c.crg j hj b hb).1) hlv htop fun b hb hne=>ac2 b (by rw[zqh (by omega),ec];exact hb) hne,rfl,rfl,ek,hl2⟩
end
section
variable{n:Nat}{bud:Int}{L:Lay}{S:St}{h:H}{a:Int}{j:Nat}{l d Lc:List Cl}
def DX(L:Lay)(p:Nat->Bool):Prop:=∀q r,L.ro q=some r->p q=true->r= .t\/r= .l\/r= .x\/r= .g\/∃a,r= .w a
theorem DX.none(L:Lay):DX L (fun _=>false):=fun q r _ hp=>absurd hp Bool.false_ne_true
variable{p:Nat->Bool}
theorem DX.or{q:Nat->Bool}(hp:DX L p)(hq:DX L q):DX L (fun i=>p i||q i):=fun i r hi h=>(zsi h).elim (hp i r hi) (hq i r hi)
variable{L':Lay}
theorem DX.back(hl:∀i r,L.ro i=some r->L'.ro i=some r)(h:DX L' p):DX L p:=fun q r hq=>h q r (hl q r hq)
variable{m:Nat}
theorem Xh(lx:LX m L L')(hs:HS n bud L S h)(hp:Dr L' p):DX L p:=fun q r hq hpq=>by
 rcases hp q hpq with⟨a,ha⟩|ha
 ·have:=lx.ro _ _ hq;rw[ha]at this;cases this;exact .inr (.inr (.inr (.inr ⟨a,rfl⟩)))
 ·rw[lx.t]at ha;subst ha;rw[hs.rt]at hq;cases hq;exact .inl rfl
variable{o:O}
theorem DX.ext(h:DX L p)(he:Ext L o):o.drop p=o:=he p h
def MJ(L:Lay)(id:Nat)(o:O):Lay:={L with ro:=fun i=>if i=id then some (.e o)else L.ro i}
variable{id:Nat}
theorem rM(h0:L.ro id=none):LX m L (MJ L id o) :=
 ⟨rfl,rfl,rfl,rfl,rfl,rfl,rfl,fun _ _=>rfl,fun _ _ h=>h,fun i r hi=>by
  show(if i=id then some (Ro.e o)else L.ro i)=some r;rw[if_neg fun e=>by rw[e,h0]at hi;cases hi];exact hi⟩
theorem HR.layE(k:HR n L S h)(h0:L.ro id=none)(hid:h[id]? =some o)(he:Ext (MJ L id o) o):HR n (MJ L id o) S h:=by
 have RO:∀ {i:Nat} {r:Ro},L.ro i=some r->(Go.Proofs.YthdidjjecjhenaaGreat.MJ L id o).ro i=some r:=fun hi=>(rM (m:=0) h0).ro _ _ hi;refine {var:=k.var,map:=k.map,trl:=k.trl,lvl:=k.lvl,nxl:=k.nxl,lnl:=k.lnl,lnk:=fun i hi=>⟨(k.lnk i hi).1,RO (k.lnk i hi).2⟩,cla:=fun q hq=>⟨(k.cla q hq).1,RO (k.cla q hq).2⟩,wat:=fun b=> ?_,fre:=k.fre,fwt:=k.fwt,rs:=RO k.rs,rv:=RO k.rv,rm:=RO k.rm,rt:=RO k.rt,rl:=RO k.rl,rx:=RO k.rx,rg:=RO k.rg,rlt:=fun i r hr=> ?_,ext:=fun i q hq=> ?_}
 ·have kw:=k.wat b;unfold gX at kw ⊢;rw[show(Go.Proofs.YthdidjjecjhenaaGreat.MJ L id o).w b=L.w b from rfl];cases hw:L.w b with
  |none=>rw[hw]at kw;exact kw
  |some i=>rw[hw]at kw;exact⟨kw.1,RO kw.2⟩
 ·have hr:(if i=id then some (Ro.e o)else L.ro i)=some r:=hr;split at hr
  ·rename_i e;rw[e];exact(zqe hid).1
  ·exact k.rlt i r hr
 ·have hq':(if i=id then some (Ro.e o)else L.ro i)=some (.e q):=hq;split at hq'
  ·rename_i e;cases hq';exact⟨e▸hid,he⟩
  ·exact⟨(k.ext i q hq').1,(k.ext i q hq').2.mono fun i r hi=>RO hi⟩
theorem HS.layE(hs:HS n bud L S h){id:Nat}{o:O}(h0:L.ro id=none)(hid:h[id]? =some o)(he:Ext (MJ L id o) o):HS n bud (MJ L id o) S h:=⟨hs.toHR.layE h0 hid he,hs.sol⟩
theorem Vp(L:Lay)(c:Cl):Ext L (.cells (c.map vi)):=fun p _=>by rw[aZ,aI]
def OY:Plan:=tkZ [0,1,2,3,5]<| .alt 4 (onZ [6,7,8]<| .take 9<| .take 10<| .one 11<| .fin) (.one 6 (.alt 4 (.one 7<| .one 8<| .take 9<| .take 10<| .one 11<| .fin) (.one 7 (.one 4<| .one 8<| .take 9<| .take 10<| .one 11<| .fin))))
theorem zZ(hs:HS n bud L S h)(hn:n<=20000)(i0:Inv n l d S.ln S)(hj:j<S.nc)(hf:∀b∈S.cl j,-b∈S.tr)(htop:∃b∈S.cl j,fU S b=S.lv.length)(hnc:S.nc<=20000100000)(hnx:S.nx.length<=1000000000000)(hln:S.ln.length<=1000000000000){R:AEnd->H->(Nat->Bool)->Prop}
 (r1:S.lv=[]->R (.pan (.iface 134 (.agg [vi 0]))) h (fun _=>false))
 (r2:bud<=S.ln.length->R (.pan (.iface 134 (.agg [vi 2]))) h (fun _=>false))
 (r3:∀S' L' h' p out,(S.ln.length:Int)<bud->Inv n l d S'.ln S'->S'.ln=S.ln++[out]->S'.nx.length<=S.nx.length+n->S'.nc<=S.nc+1->LX S.nc L L'->HS n bud L' S' h'->h.length<=h'.length->DX L p->R (.ret (.tup [])) h' p) :
 ag TE 101 [.lp L.s 0,clV L S j] h R:=by
 have hM:=mLx;have hsol:=hs.sol;by_cases hlv:S.lv=[]
 ·have hlvz:(((S.lv.length:Nat):Int)==0)=true:=by rw[hlv];rfl
  refine ah Tryz.func101 rfl (by simp[nts]) (vm ?_);simp only[wq.1,seval,Tryz.results101,hsol,ax,hlvz];exact⟨by decide,r1 hlv⟩
 ·have hlvp:=List.length_pos_iff.2 hlv;have hlvz:(((S.lv.length:Nat):Int)==0)=false:=by rw[beq_eq_false_iff_ne];omega
  by_cases hb:bud<=S.ln.length
  ·have hbd:decide (bud<=(S.ln.length:Int))=true:=decide_eq_true hb;refine ah Tryz.func101 rfl (by simp[nts]) (vm ?_);simp only[wq.1,seval,Tryz.results101,hsol,ax,hlvz,hbd];exact⟨by decide +kernel,by decide,r2 hb⟩
  ·have hbd:decide (bud<=(S.ln.length:Int))=false:=decide_eq_false hb;refine ah Tryz.func101 rfl (by simp[nts]) ?_;refine vn ?_;simp only[wq.1,seval,Tryz.results101,hsol,ax,hlvz];refine vn ?_;simp only[wq.1,seval,hsol,ax,hbd];refine⟨by decide +kernel,?_⟩;have ecl:clV L S j= .ls (L.c j) 1 0 (S.cl j).length (S.cl j).length:=rfl;refine vn ?_;simp only[wq.1,seval,ecl];refine Hr hs hn i0 hlvp hj hf htop fun S1 out k id h1 p1 sc1 i1 lr1 hs1 hro1 hh1 hl1 hp1=> ?_;have hsd:(L.s:Nat)=L.s:=rfl;have hp1s:p1 L.s=false:=by
    cases e:p1 L.s with
    |false=>rfl
    |true=>have:=hp1 _ e;rw[hs.rs]at this;cases this
   simp only[wq.1,seval,bJ];obtain⟨pv,rest,eout,_⟩:=lr1.fst;have honn:out≠[]:=by rw[eout];simp
   have hol:out.length<=n+1:=by
    have:=gI (m:=n+1) lr1.nd fun x hx=>by obtain⟨a,ha,rfl⟩:=zrh.1 hx;have:=(lr1.rng a ha).2;omega
    simpa using this
   have hA:=hs1.app [O.cells (out.map vi)];have hA1:(h1++[O.cells (out.map vi)])[h1.length]? =some (O.cells (out.map vi)):=by simp
   have hAi:(h1++[O.cells (out.map vi)])[id]? =some (O.cells (out.map vi)):=by rw[zqj (zqe hh1).1];exact hh1
   have hAl:(h1++[O.cells (out.map vi)]).length=h1.length+1:=by simp
   obtain⟨hB,ehB⟩:∃hB,hB=h1++[O.cells (out.map vi)]:=⟨_,rfl⟩;rw[<-ehB]at hA hA1 hAi hAl;have hsol1:=hs1.sol;have hsolA:=hA.sol;have hlnA:=hA.lnl;have hhl1:=(zqe hh1).1;have hro2:L.ro h1.length=none:=OJ hs1;have hP:=hA.pushLn (id:=h1.length) (out:=out) hro2 hA1;have hlgA:=hA.rlt _ _ hA.rg;have hlsA:=hA.rlt _ _ hA.rs;have hgs:L.g≠L.s:=bT L hs1.rg hs1.rs (by simp);have nb:∀ {i r},L.ro i=some r->r≠ .g->(i==L.g)=false:=fun hi hr=>by simp[bT L hi hs1.rg hr]
   have b1:=nb hs1.rs (by simp);have b2:=nb hs1.rv (by simp);have b3:=nb hs1.rm (by simp);have b4:=nb hs1.rt (by simp);have b5:=nb hs1.rl (by simp);have b6:=nb hs1.rx (by simp);have hig:id≠L.g:=fun e=>by have:=hs1.rg;rw[<-e,hro1]at this;cases this
   have his:id≠L.s:=fun e=>by have:=hs1.rs;rw[<-e,hro1]at this;cases this
   have b7:(id==L.g)=false:=by simp[hig]
   have b8:(h1.length==L.g)=false:=by have:=hs1.rlt _ _ hs1.rg;simp;omega
   have eln:S1.ln=S.ln:=sc1.ln;have hln1:S1.ln.length<=1000000000000:=by rw[eln];exact hln
   have hrl:((List.range S1.ln.length).map (lnV L S1)).length=S1.ln.length:=by simp
   have hdl:V.drops (fun x=>x==L.g) ((List.range S1.ln.length).map (lnV L S1))=(List.range S1.ln.length).map (lnV L S1):=dQ fun x hx=>by obtain⟨i,hi,rfl⟩:=zrh.1 hx;exact bK (nb (hs1.lnk i (List.mem_range.1 hi)).2 (by simp))
   refine ak ?_;refine bM dV OY (fun f' h'=>f'.t 0= .lp L.s 0/\f'.t 4= .ls id 1 0 out.length out.length/\f'.t 5=vi k/\f'.d=[]/\(∀q,f'.k q=true->p1 q=true\/q=L.g)/\HS n bud (EQ L S1.ln.length h1.length) (lnS S1 out) h'/\h'[id]? =some (.cells (out.map vi))/\h1.length<=h'.length) (by decide +kernel) (by decide +kernel) ?_ ?_
   ·simp only[wq.1,seval,-Int.reduceNatCast,-Int.reduceNatCast',aG,Tryz.results101,OY,hp1s,hsol1,ax];refine⟨yO hh1 honn (by omega) ?_,yO hh1 honn (by omega) ?_⟩
    all_goals
     rw[<-ehB];simp only[wq.1,↓reduceIte,Nat.reduceEqDiff,Nat.reduceLT,Nat.reduceLeDiff,Nat.reduceAdd,Nat.reduceSub,Int.reduceToNat,Nat.reduceDiv,Int.reduceLT,Int.reduceLE,Int.reduceNeg,Int.reduceBEq,Int.reduceBNe,Int.reduceAdd,Int.reduceSub,Nat.reduceBEq,reduceCtorEq,Nat.reduceMul,aG,Tryz.results101,OY,bJ,hp1s,hsolA,ax,hlnA,hrl,hdl,b1,b2,b3,b4,b5,b6,b7,b8,hlgA,hlsA,zqt,zqn,hgs,ne_eq,not_false_eq_true,zrn,zra,zqo]
    all_goals
     refine⟨⟨rfl,by decide⟩,⟨by simp,by omega,by omega⟩,fun q hq=>(zsi hq).imp (fun h=>h) (by simp),hP,?_,by omega⟩;rw[zqn his.symm,zqn hig.symm,zqo,hAi,zrw,aZ,aI]
   ·rintro f2 h2 ⟨g0,g4,g5,gd,gk,hs2,hh2,hl2⟩;have lr:=lr1.sco sc1;have i1':Inv n l d S1.ln S1:=by rw[eln];exact i1
    obtain⟨X,eX⟩:∃X,X=lnS S1 out:=⟨_,rfl⟩;obtain⟨L2,eL2⟩:∃L2,L2=EQ L S1.ln.length h1.length:=⟨_,rfl⟩;rw[<-eX,<-eL2]at hs2;have lx2:LX S.nc L L2:=by rw[eL2];exact OW hro2
    have hro3:L2.ro id=none:=by rw[eL2];show(if id=h1.length then some (Ro.k S1.ln.length)else L.ro id)=none;rw[if_neg (by omega)];exact hro1
    obtain⟨b0,eb0⟩:∃b0,b0=S1.lv.getD k 0:=⟨_,rfl⟩;have hkl:k<S1.lv.length:=by rw[sc1.lv];exact lr1.klt
    have hb0:b0<=S1.tr.length:=by rw[eb0,jo hkl];have h1:=i1.t.lvh _ (zqu hkl);have h2:=i1.t.hdl;omega
    have eXtr:X.tr=S1.tr:=by rw[eX];rfl
    have eXlv:X.lv=S1.lv:=by rw[eX];rfl
    have eXnx:X.nx=S1.nx:=by rw[eX];rfl
    have eXv:X.v=S1.v:=by rw[eX];rfl
    have eXnc:X.nc=S.nc:=by rw[eX];exact sc1.nc
    have htl1:=i1.t.len;have hlv1:=i1.t.lvlen;have hlv2:S1.lv.length<=S1.tr.length:=gI (i1.t.lvs.imp fun h=>by omega) fun x hx=>i1.lt x hx;have fin:∀nx:List (Int×Int),nx.Perm (S1.nx++(S1.tr.drop b0).map fun a=>((a.natAbs:Int),(S1.v a.natAbs).score))->(∀x∈S1.nx,x∈nx)/\(∀a∈S1.tr.drop (S1.lv.getD k 0),((a.natAbs:Int),(S1.v a.natAbs).score)∈nx)/\(∀x∈nx,x∈S1.nx\/∃a∈S1.tr.drop (S1.lv.getD k 0),x.1=a.natAbs)/\nx.length<=S.nx.length+n:=by
     intro nx hp;rw[<-eb0];refine⟨fun x hx=>hp.mem_iff.2 (List.mem_append_left _ hx),fun a ha=>hp.mem_iff.2 (List.mem_append_right _ (zrh.2 ⟨a,ha,rfl⟩)),fun x hx=> ?_,?_⟩
     ·rcases zrf.1 (hp.mem_iff.1 hx)with hx|hx
      ·exact .inl hx
      ·obtain⟨a,ha,rfl⟩:=zrh.1 hx;exact .inr ⟨a,ha,rfl⟩
     ·have:=hp.length_eq;rw[zqa,zra,List.length_drop,sc1.nx]at this;omega
    have dx1:DX L p1:=fun q r hq hpq=>by rw[hp1 q hpq]at hq;cases hq
    obtain⟨nbk,nbl,nbh,nbd,nbt⟩:k<X.lv.length/\X.lv.getD k 0=b0/\b0<=X.tr.length/\(X.tr.map Int.natAbs).Nodup/\(∀a∈X.tr,a.natAbs<=n):=⟨by rw[eXlv];exact hkl,by rw[eXlv];exact eb0.symm,by rw[eXtr];exact hb0,by rw[eXtr];exact i1.t.nd,fun a ha=>(i1.t.rng a (by rw[<-eXtr];exact ha)).2⟩;have nbx:X.nx.length<=2000000000000:=by rw[eXnx,sc1.nx];omega
    have nbr:X.tr.length<=20000:=by rw[eXtr];omega
    have nbv:X.lv.length<=20000:=by rw[eXlv];omega
    have hL2s:L2.s=L.s:=lx2.s;have sne:L2.s≠L2.x:=bT L2 hs2.rs hs2.rx (by simp);have ine:id≠L2.x:=fun e=>by have:=hs2.rx;rw[<-e,hro3]at this;cases this
    have pback:∀p3:Nat->Bool,(∀q,p3 q=true->q=L2.x)->p3 L.s=false/\p3 id=false/\DX L p3:=fun p3 hp=>by
     refine⟨?_,?_,fun q r hq hpq=> ?_⟩
     ·cases e:p3 L.s with
      |false=>rfl
      |true=>exact absurd (hp _ e) (hL2s▸sne)
     ·cases e:p3 id with
      |false=>rfl
      |true=>exact absurd (hp _ e) ine
     ·have:=hp q hpq;rw[lx2.x]at this;subst this;rw[hs.rx]at hq;cases hq;exact .inr (.inr (.inl rfl))
    have dxk:DX L f2.k:=fun q r hq hpq=>(gk q hpq).elim (fun h=>dx1 q r hq h) fun h=>by subst h;rw[hs.rg]at hq;cases hq;exact .inr (.inr (.inr (.inl rfl)))
    show awp _ _ _ _ _ _ _
    match rest,eout with
    |[],eout =>
     have hX:=hs2.layE hro3 hh2 (Vp _ _);obtain⟨L3,eL3⟩:∃L3,L3=MJ L2 id (.cells (out.map vi)):=⟨_,rfl⟩;have lx3:LX S.nc L2 L3:=by rw[eL3];exact rM hro3
     rw[<-eL3]at hX;have hidE:L3.ro id=some (.e (.cells (out.map vi))):=by rw[eL3];exact if_pos rfl
     have eol:out.length=1:=by rw[eout];rfl
     have hz:(((out.length:Nat):Int)==1)=true:=by rw[eol];rfl
     have hg0:(out.map vi).getD 0 .any=vi (-pv):=by rw[eout];rfl
     have hpn:(-pv).natAbs<=n:=(lr1.rng (-pv) (by rw[eout];simp)).2;refine vm ?_;simp only[wq.1,seval,g0,g5];rw[<-hL2s,<-lx3.s];refine uZ hX hn nbk nbl nbh nbr nbv nbd nbt nbx fun nx h3 p3 hp3 hs3 hl3 hd3=> ?_;obtain⟨q1,q2,q3⟩:=pback p3 fun q hq=>(hd3 q hq).trans lx3.x;rw[<-hL2s,<-lx3.s]at q1;have g0:f2.t 0= .lp L3.s 0:=by rw[g0,lx3.s,hL2s]
     have hid3:h3[id]? =some (.cells (out.map vi)):=(hs3.ext _ _ hidE).1;rw[eXtr,eXv,eXnx]at hp3;obtain⟨m1,m2,m3,m4⟩:=fin nx hp3;simp only[wq.1,seval,bJ,q1,q2,g0,g4,gd,hz,hid3,hg0];refine⟨by omega,by simp[eol],?_⟩;have htr3:(fG X k nx).tr.length<=20000:=by show(X.tr.take (X.lv.getD k 0)).length<=_;rw[zrl];omega
     refine kQ hs3 hn (a:=-pv) hpn htr3 none (fun _ h=>by cases h) fun h4 p4 hs4 hp4 hl4=> ?_;simp only[wq.1,bJ,gd];have hi:=(EG i1' lr m1 m2 m3).1 (-pv) eout;rw[<-eX]at hi;refine r3 (kK (fG X k nx) (-pv) none) L3 h4 _ out (by omega) (by rw[show(kK (fG X k nx) (-pv) none).ln=S1.ln++[out] by rw[eX];rfl];exact hi) (by rw[<-eln,eX];rfl) m4 (by show X.nc<=_;omega) (lx2.trans lx3) hs4 (by omega) ((dxk.or q3).or (fun q r hq hpq=> ?_));have:=hp4 q hpq;rw[(lx2.trans lx3).t]at this;subst this;rw[hs.rt]at hq;cases hq;exact .inl rfl
    |b::r,eout =>
     have hX:=hs2.newC hro3 hh2;obtain⟨L3,eL3⟩:∃L3,L3=Hq L2 X.nc id:=⟨_,rfl⟩;have lx3:LX X.nc L2 L3:=by rw[eL3];exact yN hro3
     have hcid:L3.c X.nc=id:=by rw[eL3];exact if_pos rfl
     rw[<-eL3]at hX;have eol:out.length=r.length+2:=by rw[eout];rfl
     have hz:(((out.length:Nat):Int)==1)=false:=by rw[beq_eq_false_iff_ne];omega
     have hg0:(out.map vi).getD 0 .any=vi (-pv):=by rw[eout];rfl
     have hpn:(-pv).natAbs<=n:=(lr1.rng (-pv) (by rw[eout];simp)).2;have hpb:-pv≠b:=by have:=lr1.nd;rw[eout]at this;simp only[zrd,List.nodup_cons,zrj,not_or]at this;exact fun e=>this.1.1 (by rw[e])
     refine vm ?_;simp only[wq.1,seval,g0,g5];rw[<-hL2s,<-lx3.s];refine uZ hX hn nbk nbl nbh nbr nbv nbd nbt nbx fun nx h3 p3 hp3 hs3 hl3 hd3=> ?_;obtain⟨q1,q2,q3⟩:=pback p3 fun q hq=>(hd3 q hq).trans lx3.x;rw[<-hL2s,<-lx3.s]at q1;have g0:f2.t 0= .lp L3.s 0:=by rw[g0,lx3.s,hL2s]
     have hp3:nx.Perm (X.nx++(X.tr.drop b0).map fun a=>((a.natAbs:Int),(X.v a.natAbs).score)):=hp3;rw[eXtr,eXv,eXnx]at hp3;obtain⟨m1,m2,m3,m4⟩:=fin nx hp3;obtain⟨Y,eY⟩:∃Y,Y=fG X k nx:=⟨_,rfl⟩;have hs3:HS n bud L3 (EP Y out) h3:=by rw[eY];exact hs3
     have eYnc:Y.nc=X.nc:=by rw[eY];rfl
     rw[<-eYnc]at hcid;have hclv:V.ls id 1 0 out.length out.length=clV L3 (EP Y out) Y.nc:=by
      unfold clV;rw[hcid,show(EP Y out).cl Y.nc=out from bC _ _ _]
     simp only[wq.1,seval,bJ,q1,q2,g0,g4,gd,hz];have hcl2:(EP Y out).cl Y.nc=out:=bC _ _ _;have hwt:∀a,((EP Y out).wt a).length<=30000000000:=fun a=>by
      have h1:=i1.wlen a;have e:(EP Y out).wt a=S1.wt a:=by rw[eY,eX];rfl
      rw[e];have:=sc1.nc;omega
     rw[hclv];refine yM hs3 (Nat.lt_succ_self _) (by rw[hcl2];omega) (by rw[hcl2];omega) hwt fun L4 h4 p4 lx4 hs4 hl4 hp4=> ?_;have hro4:L3.ro id=some (.c X.nc):=by rw[eL3];exact if_pos rfl
     have r1:p4 L3.s=false:=by
      cases e:p4 L3.s with
      |false=>rfl
      |true=>obtain⟨a,ha⟩:=hp4 _ e;rw[lx4.ro _ _ hX.rs]at ha;cases ha
     have r2:p4 id=false:=by
      cases e:p4 id with
      |false=>rfl
      |true=>obtain⟨a,ha⟩:=hp4 _ e;rw[lx4.ro _ _ hro4]at ha;cases ha
     rw[hcl2,eout,wo Y hpb,<-eout]at hs4;have hc4:L4.c Y.nc=id:=(lx4.c _ (Nat.lt_succ_self _)).trans hcid;have hid4:h4[id]? =some (.cells (out.map vi)):=by
      have:=(hs4.cla Y.nc (Nat.lt_succ_self _)).1;rw[hc4,show(fD Y out).cl Y.nc=out from bC _ _ _]at this;exact this
     rw[<-hclv];simp only[wq.1,seval,bJ,r1,r2,q1,q2,g0,g4,gd,hid4,hg0];have hre:V.ls id 1 0 out.length out.length=reV L4 (fD Y out) (some Y.nc):=by
      show _=clV L4 (fD Y out) Y.nc;unfold clV;rw[hc4,show(fD Y out).cl Y.nc=out from bC _ _ _]
     have htr4:(fD Y out).tr.length<=20000:=by rw[eY];show(X.tr.take (X.lv.getD k 0)).length<=_;rw[zrl];omega
     rw[hre,<-lx4.s];refine⟨by omega,by omega,?_⟩;refine kQ hs4 hn (a:=-pv) hpn htr4 (some Y.nc) (fun _ h=>by cases h;exact Nat.lt_succ_self _) fun h5 p5 hs5 hp5 hl5=> ?_;simp only[wq.1,bJ,gd];have hi:=(EG i1' lr m1 m2 m3).2 (-pv) b r eout;rw[<-eX,<-eY]at hi;have eYc:Y.nc=S.nc:=by rw[eYnc,eXnc]
     have hi:Inv n l d (S1.ln++[out]) (kK (fD Y out) (-pv) (some Y.nc)):=by rw[eYc,<-sc1.nc];exact hi
     have lx3':LX S.nc L2 L3:=lx3.mono (by omega);have lx4':LX S.nc L3 L4:=lx4.mono (by show S.nc<=Y.nc+1;omega);have lxa:=(lx2.trans lx3').trans lx4';refine r3 (kK (fD Y out) (-pv) (some Y.nc)) L4 h5 _ out (by omega) (by rw[show(kK (fD Y out) (-pv) (some Y.nc)).ln=S1.ln++[out] by rw[eY,eX];rfl];exact hi) (by rw[<-eln,eY,eX];rfl) (by rw[eY];exact m4) (by show Y.nc+1<=_;omega) lxa hs5 (by omega) (((dxk.or q3).or (fun q r hq hpq=> ?_)).or (fun q r hq hpq=> ?_))
     ·obtain⟨a,ha⟩:=hp4 q hpq;rw[lxa.ro _ _ hq]at ha;cases ha;exact .inr (.inr (.inr (.inr ⟨a,rfl⟩)))
     ·have:=hp5 q hpq;rw[lxa.t]at this;subst this;rw[hs.rt]at hq;cases hq;exact .inl rfl
end
section
variable{n:Nat}{bud:Int}{L:Lay}{S:St}{h:H}{a:Int}{j:Nat}{l d Lc:List Cl}
def reE(L:Lay)(id:Nat)(o:O):Lay:={L with ro:=fun i=>if i=id then some (.e o)else L.ro i}
variable{id:Nat}{o:O}
theorem Ext.re{o' q:O}(hid:L.ro id=some (.e o))(h:Ext L q):Ext (reE L id o') q:=fun p hp=>h p fun i r hi hpi=>by
 by_cases he:i=id
 ·subst he;have:=hp i (.e o') (if_pos rfl) hpi;simp at this
 ·exact hp i r (by show(if i=id then some (Ro.e o')else L.ro i)=some r;rw[if_neg he];exact hi) hpi
theorem HS.re(hs:HS n bud L S h){id:Nat}{o o':O}(hid:L.ro id=some (.e o))(he:Ext L o'):HS n bud (reE L id o') S (h.set id o'):=by
 have ne:∀ {i r},L.ro i=some r->r≠ .e o->i≠id:=fun hi hr e=>hr (by rw[e,hid]at hi;exact(Option.some.inj hi).symm);have RO:∀ {i:Nat} {r:Ro},L.ro i=some r->r≠ .e o->(reE L id o').ro i=some r:=fun hi hr=>by show(if _=id then some (Ro.e o')else L.ro _)=_;rw[if_neg (ne hi hr)];exact hi
 have G:∀ {i:Nat} {r:Ro},L.ro i=some r->r≠ .e o->(h.set id o')[i]? =h[i]? :=fun hi hr=>zqn (ne hi hr).symm;have k:=hs.toHR;refine⟨{var:=(G k.rv (by simp)).trans k.var,map:= ?_,trl:=(G k.rt (by simp)).trans k.trl,lvl:=(G k.rl (by simp)).trans k.lvl,nxl:=(G k.rx (by simp)).trans k.nxl,lnl:=(G k.rg (by simp)).trans k.lnl,lnk:=fun i hi=>⟨(G (k.lnk i hi).2 (by simp)).trans (k.lnk i hi).1,RO (k.lnk i hi).2 (by simp)⟩,cla:=fun q hq=>⟨(G (k.cla q hq).2 (by simp)).trans (k.cla q hq).1,RO (k.cla q hq).2 (by simp)⟩,wat:=fun b=> ?_,fre:=k.fre,fwt:=k.fwt,rs:=RO k.rs (by simp),rv:=RO k.rv (by simp),rm:=RO k.rm (by simp),rt:=RO k.rt (by simp),rl:=RO k.rl (by simp),rx:=RO k.rx (by simp),rg:=RO k.rg (by simp),rlt:=fun i r hr=> ?_,ext:=fun i q hq=> ?_},(G k.rs (by simp)).trans hs.sol⟩
 ·obtain⟨ks,h1,h2⟩:=k.map;exact⟨ks,(G k.rm (by simp)).trans h1,h2⟩
 ·have kw:=k.wat b;unfold gX at kw ⊢;rw[show(reE L id o').w b=L.w b from rfl];cases hw:L.w b with
  |none=>rw[hw]at kw;exact kw
  |some i=>rw[hw]at kw;exact⟨(G kw.2 (by simp)).trans kw.1,RO kw.2 (by simp)⟩
 ·have hr:(if i=id then some (Ro.e o')else L.ro i)=some r:=hr;rw[zrn];split at hr
  ·rename_i e;rw[e];exact k.rlt _ _ hid
  ·exact k.rlt i r hr
 ·have hq':(if i=id then some (Ro.e o')else L.ro i)=some (.e q):=hq;split at hq'
  ·rename_i e;cases hq';subst e;exact⟨zqt (k.rlt _ _ hid),he.re hid⟩
  ·rename_i e;exact⟨(zqn (Ne.symm e)).trans (k.ext i q hq').1,(k.ext i q hq').2.re hid⟩
theorem Jf:(reE L id o).ro id=some (.e o):=if_pos rfl
variable{i:Nat}
theorem yQ(hi:i≠id):(reE L id o).ro i=L.ro i:=if_neg hi
variable{p:Nat->Bool}
theorem DX.re{o':O}(hid:L.ro id=some (.e o)):DX (reE L id o') p->DX L p:=fun hp i r hi hpi=>by
 by_cases he:i=id
 ·subst he;have:=hp i (.e o') Jf hpi;simp at this
 ·exact hp i r (by rw[yQ he];exact hi) hpi
theorem DX.e(hp:DX L p){id:Nat}{o:O}(hid:L.ro id=some (.e o)):p id=false:=by
 cases e:p id with
 |false=>rfl
 |true=>have:=hp _ _ hid e;simp at this
theorem DX.s(hp:DX L p)(hs:HR n L S h):p L.s=false:=by
 cases e:p L.s with
 |false=>rfl
 |true=>have:=hp _ _ hs.rs e;simp at this
end
section
variable{n:Nat}{bud:Int}{L:Lay}{S:St}{h:H}{a:Int}{j:Nat}{l d Lc:List Cl}
theorem Aa{R:AEnd->H->(Nat->Bool)->Prop}(hr:R (.ret (.fn (.func 117) [] [])) h (fun _=>false)):ag TE 99 [] h R:=by refine ah Tryz.func99 rfl (by simp[nts]) (vm ?_);simp only[wq.1,seval,Tryz.results99];exact hr
def Yf(n:Nat)(l:List Cl)(bud:Int)(S:St)(res:Int):Prop :=
 (res=0/\Bad (l++S.ln) [])\/(res=1/\sat l (mG n S)=true)\/(res=2/\(S.ln.length:Int)=bud)
structure Big(n:Nat)(l:List Cl)(bud:Int)(B:Nat):Prop where
 pos:0<=bud
 few:∀S,Inv n l l S.ln S->(S.ln.length:Int)<=bud->S.ln.length<=B
 nx:(n+1)*(2*B+4)<=1000000000000
 nc:l.length+B<=20000000000
 nn:n<=20000
variable{b:Nat}
theorem Ug{n:Nat}{x y:Nat}(h:x<=n*(1+b))(h2:y<=x+n):y<=n*(1+(b+1)):=by
 have:n*(1+(b+1))=n*(1+b)+n:=by rw[show 1+(b+1)=(1+b)+1 by omega,Nat.mul_succ]
 omega
theorem Vq{n b':Nat}{x:Nat}(h:x<=n*(1+b))(hb:b<=b'):x<=n*(1+b'):=Nat.le_trans h (Nat.mul_le_mul_left _ (by omega))
theorem Big.nx_big{B:Nat}(big:Big n l bud B){x:Nat}(h:x<=n*(1+b))(hb:b<=2*B+3):x<=1000000000000:=by have h1:n*(1+b)<=(n+1)*(2*B+4):=Nat.mul_le_mul (by omega) (by omega);have:=big.nx;omega
structure Going(n:Nat)(l:List Cl)(bud:Int)(b:Nat)(S:St):Prop where
 inv:Inv n l l S.ln S
 ln:(S.ln.length:Int)<=bud
 nc:S.nc<=l.length+S.ln.length
 nx:S.nx.length<=n*(1+b)
def wY(L:Lay):O:= .cells [.lp L.s 0]
def rO(T:Nat->V)(asg body:Code)(st:LoopState):O:= .loop T 32 #[6] asg body st none
theorem ER{B:Nat}{T:Nat->V}{asg body:Code}(big:Big n l bud B)(g0:Going n l bud (2*S.ln.length) S)(hs:HS n bud L S h)(hT:∀p:Nat->Bool,p L.s=false->p h.length=false->∀i,(T i).drop p=T i)(hT1:T 1= .lp h.length 0)
 (hasg:∀lb f h Q,Q .normal (f.put (some 2) (f.t 6)) h->awp TE 32 (some lb) asg Q f h)
 (hbody : ∀ lb S' L' h' f1 (nn : Nat),Going n l bud (2 * S'.ln.length) S' -> HS n bud L' S' h' -> LX 0 L L' -> L'.ro h.length = some (.e (wY L)) -> f1.t 1 = .lp h.length 0 -> f1.t 2 = vi nn -> 1 <= nn -> nn <= 1000000000000 -> f1.d = [] -> DX L' f1.k -> Gl TE 32 (some lb) body
  (fun xe f2 h2=>xe= .normal/\∃S2 L2,Going n l bud (2*S2.ln.length) S2/\S'.ln.length+nn<=S2.ln.length/\LX 0 L' L2/\HS n bud L2 S2 h2/\DX L' f2.k/\h'.length<=h2.length)
  (fun v f2 h2=>f2.d=[]/\∃S2 L2 res,v= .iface 134 (.agg [vi res])/\Inv n l l S2.ln S2/\(S2.ln.length:Int)<=bud/\Yf n l bud S2 res/\LX 0 L' L2/\HS n bud L2 S2 h2/\DX L' f2.k/\h'.length<=h2.length) f1 h')
 {R:AEnd->H->(Nat->Bool)->Prop}
 (hr:∀S' L' h' p res,Inv n l l S'.ln S'->(S'.ln.length:Int)<=bud->Yf n l bud S' res->LX 0 L L'->L'.ro (h.length+1)=some (.e (.misc .dfd))->p (h.length+1)=false->HS n bud L' S' h'->DX L p->h.length+3<=h'.length->R (.pan (.iface 134 (.agg [vi res]))) h' p) :
 ag TE 117 [.yd (h.length+2)] (h++[wY L,.misc .dfd,rO T asg body .ready]) R:=by
 have hM:=mLx;have hn:=big.nn;obtain⟨id,eid⟩:∃id,id=h.length+2:=⟨_,rfl⟩;have no0:∀i,h.length<=i->L.ro i=none:=fun i hi=>by
  cases e:L.ro i with
  |none=>rfl
  |some r=>have:=hs.rlt _ _ e;omega
 have hA:=hs.app [wY L,.misc .dfd,rO T asg body .ready];have pf:∀ {M:Lay} {p:Nat->Bool} {q:Nat} {r:Ro},(∀q r,M.ro q=some r->p q=true->r= .t\/r= .l\/r= .x\/r= .g\/∃a,r= .w a)->M.ro q=some r->(r= .s\/∃o,r= .e o)->p q=false:=fun {M p q r} hp hq hr=>by
  cases e:p q with
  |false=>rfl
  |true=>have:=hp q r hq e;rcases hr with rfl|⟨o,rfl⟩<;>simp at this
 obtain⟨L1,eL1⟩:∃M,M=MJ L h.length (wY L):=⟨_,rfl⟩;have x1:LX 0 L L1:=eL1▸rM (no0 _ (zrb _));have hX1:HS n bud L1 S (h++[wY L,.misc .dfd,rO T asg body .ready]):=by rw[eL1];refine hA.layE (no0 _ (zrb _)) (by simp) (fun p hp=> ?_);have:=pf hp ((rM (m:=0) (no0 _ (zrb _))).ro _ _ hs.rs) (.inl rfl);simp only[wY,O.drop,V.drops,V.drop,this,cond_false,if_false,zrm]
 have hb1:L1.ro h.length=some (.e (wY L)):=by rw[eL1];exact if_pos rfl
 have no1:∀i,h.length+1<=i->L1.ro i=none:=fun i hi=>by rw[eL1];show(if i=h.length then _ else L.ro i)=none;rw[if_neg (by omega)];exact no0 i (by omega)
 obtain⟨L2,eL2⟩:∃M,M=MJ L1 (h.length+1) (.misc .dfd):=⟨_,rfl⟩;have x2:LX 0 L1 L2:=eL2▸rM (no1 _ (zrb _));have hX2:HS n bud L2 S (h++[wY L,.misc .dfd,rO T asg body .ready]):=by rw[eL2];exact hX1.layE (no1 _ (zrb _)) (by simp) (fun p hp=>rfl)
 have hb2:L2.ro (h.length+1)=some (.e (.misc .dfd)):=by rw[eL2];exact if_pos rfl
 have no2:L2.ro id=none:=by rw[eL2];show(if id=h.length+1 then _ else L1.ro id)=none;rw[if_neg (by omega)];exact no1 id (by omega)
 have extL:∀(M:Lay)(st:LoopState),LX 0 L M->M.ro h.length=some (.e (wY L))->Ext M (rO T asg body st):=fun M st xm hm p hp=>by have q1:=pf hp (xm.ro _ _ hs.rs) (.inl rfl);have q2:=pf hp hm (.inr ⟨_,rfl⟩);show O.loop (fun i=>(T i).drop p) 32 #[6] asg body st none=_;rw[show(fun i=>(T i).drop p)=T from funext (hT p q1 q2)];rfl
 obtain⟨L3,eL3⟩:∃M,M=MJ L2 id (rO T asg body .ready):=⟨_,rfl⟩;have x3:LX 0 L2 L3:=eL3▸rM no2;have x03:LX 0 L L3:=(x1.trans x2).trans x3;have hX3:HS n bud L3 S (h++[wY L,.misc .dfd,rO T asg body .ready]):=by rw[eL3];have x03':LX 0 L (MJ L2 id (rO T asg body .ready)):=eL3▸x03;exact hX2.layE no2 (by rw[eid];simp) (extL _ _ x03' ((rM (m:=0) no2).ro _ _ (x2.ro _ _ hb1)))
 have hb3:L3.ro id=some (.e (rO T asg body .ready)):=by rw[eL3];exact if_pos rfl
 have hbx : L3.ro h.length = some (.e (wY L)) := x3.ro _ _ (x2.ro _ _ hb1);have hbd : L3.ro (h.length + 1) = some (.e (.misc .dfd)) := x3.ro _ _ hb2;rw [<- eid];refine ah Tryz.func117 rfl (by simp [nts]) (vm ?_);simp only [wq.1,Nat.reduceLT,Tryz.results117];refine aC (fun m f' h' => ∃ (S' : St) (L' : Lay) (i : Nat),m = B - S'.ln.length /\ Going n l bud (2 * S'.ln.length) S' /\ LX 0 L3 L' /\ HS n bud L' S' h' /\ f'.t 0 = .yd id /\ f'.t 2 = vi i /\ 1 <= i /\ 32 * i <= S'.ln.length + 32 /\ f'.d = [] /\ DX L3 f'.k /\ h.length + 3 <= h'.length) (B - S.ln.length)
  ⟨S,L3,1,rfl,g0,LX.refl _ _,hX3,rfl,by simp only[wq.1,↓reduceIte];try rfl,zrb _,by omega,by simp only[wq.1];try rfl,DX.none _,by simp⟩ ?_
 rintro m f1 h1 ⟨S1,L',i,hm,g1,x4,hs1,f0,f2,hi1,hi2,fd,fk,hl1⟩;have hbl:=big.few S1 g1.inv g1.ln;have hnx:=big.nx;have hnc:=big.nc;obtain⟨k,hk1,hk2⟩:=OV i i hi1 (zrb _);have hlub:V9 i=((2^k:Nat):Int):=by
  unfold V9;rw[if_neg (by omega),zsg,hk1]
 have hkp:=Nat.two_pow_pos k;have hw:IntKind.i64.wrap (32*((2^k:Nat):Int))=((32*2^k:Nat):Int):=by rw[aU (by omega) (by omega)];omega
 have hw2:IntKind.i64.wrap ((i:Int)+1)=((i+1:Nat):Int):=by rw[aU (by omega) (by omega)];omega
 refine ak (ak ?_);refine kH ?_;refine aK rfl rfl ?_;simp only[wq.1,f0];refine aK rfl rfl ?_;simp only[wq.1,seval,f2];refine aK rfl rfl ?_;simp only[wq.1,↓reduceIte];refine ag.ev (Vk _) (rfl) ?_;simp only[wq.1];refine aK rfl rfl ?_;simp only[wq.1,↓reduceIte,hlub,hw];have hLo:=(hs1.ext id _ (x4.ro _ _ hb3)).1;refine iq rfl rfl ?_;refine KN rfl rfl (id:=id) (t:=T) (n':=32) (ps:=#[6]) (asg:=asg) (body:=body) (rfl) ?_ hLo rfl (by decide) ?_
 ·simp only[wq.1,seval]
 intro lb;have hbx1:L'.ro h.length=some (.e (wY L)):=x4.ro _ _ hbx;have hid1:L'.ro id=some (.e (rO T asg body .ready)):=x4.ro _ _ hb3;have x04:LX 0 L L':=x03.trans x4;have hsB:=hs1.re hid1 (extL L' .busy x04 hbx1);have hne:h.length≠id:=by omega
 have hbxB:(reE L' id (rO T asg body .busy)).ro h.length=some (.e (wY L)):=(yQ hne).trans hbx1;have xLB:LX 0 L (reE L' id (rO T asg body .busy)):=⟨x04.s,x04.v,x04.m,x04.t,x04.l,x04.x,x04.g,x04.c,x04.w,fun q r hq=>by
  rw[yQ (fun e=>by rw[e,no0 id (by omega)]at hq;cases hq)];exact x04.ro q r hq⟩
 refine hasg lb _ _ _ ⟨rfl,rfl,T,hLo,?_⟩;refine N9 ?_ ?_ (hbody lb S1 _ _ _ (32*2^k) g1 hsB xLB hbxB ?_ ?_ (by omega) (by omega) rfl (DX.none _))
 ·rintro xe f3 h3 ⟨rfl,S2,M2,g2,hlt,x5,hs2,dx2,hl2⟩;have hid2:M2.ro id=some (.e (rO T asg body .busy)):=x5.ro _ _ Jf;have hbx2:M2.ro h.length=some (.e (wY L)):=x5.ro _ _ hbxB;have k3:f3.k id=false:=dx2.e Jf;have hsR:=hs2.re hid2 (extL M2 .ready (xLB.trans x5) hbx2);have x6:LX 0 L' (reE M2 id (rO T asg body .ready)):=⟨x5.s,x5.v,x5.m,x5.t,x5.l,x5.x,x5.g,x5.c,x5.w,fun q r hq=>by
   by_cases he:q=id
   ·subst he;rw[Jf,<-hq,hid1]
   ·rw[yQ he];exact x5.ro q r (by rw[yQ he];exact hq)⟩
  have hl2':h.length+3<=h3.length:=by rw[zrn]at hl2;omega
  refine⟨rfl,⟨k3,fun q hq=> ?_⟩,T,.busy,(hs2.ext id _ hid2).1,jR ?_⟩
  ·have hq:q∈f1.d:=hq;rw[fd]at hq;cases hq
  show awp _ _ _ _ _ _ _;refine vm ?_;simp only[wq.1,↓reduceIte];refine vm ?_;simp only[wq.1,seval,f2,hw2];exact .inl ⟨B-S2.ln.length,by have:=big.few S2 g2.inv g2.ln;omega,S2,_,i+1,rfl,g2,x4.trans x6,hsR,by simp only[wq.1,seval,k3,f0],rfl,by omega,by omega,fd,fk.or (((dx2.re hid1)).back x4.ro),by rw[zrn];exact hl2'⟩
 ·rintro v f3 h3 ⟨fd3,S2,M2,res,rfl,i2,hb2',he2,x5,hs2,dx2,hl2⟩;have hl2':h.length+3<=h3.length:=by rw[zrn]at hl2;omega
  refine⟨fd3,fun q hq=> ?_,?_⟩
  ·have hq:q∈f1.d:=hq;rw[fd]at hq;cases hq
  have hne1:h.length+1≠id:=by omega
  have hbd2:(reE L' id (rO T asg body .busy)).ro (h.length+1)=some (.e (.misc .dfd)):=(yQ hne1).trans (x4.ro _ _ hbd);have k1:f1.k (h.length+1)=false:=fk.e hbd;have k3:f3.k (h.length+1)=false:=dx2.e hbd2;show(match jE f1.d h3 with|some h'=>R (.pan _) h' (fun q=>f1.k q||f3.k q)|none=>False);rw[fd];exact hr S2 M2 h3 _ res i2 hb2' he2 (xLB.trans x5) (x5.ro _ _ hbd2) (by rw[k1,k3];rfl) hs2 ((fk.back x03.ro).or (dx2.back xLB.ro)) hl2'
 ·simp only[wq.1,seval,hT1]
 ·simp only[wq.1,↓reduceIte]
end
end Go.Proofs.YthdidjjecjhenaaGreat
