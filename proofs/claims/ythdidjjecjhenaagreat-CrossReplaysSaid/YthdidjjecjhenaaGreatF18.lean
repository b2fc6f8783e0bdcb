/- Lemmas for this claim, part F18: each holds under what it names. -/
import Derived.Test.YthdidjjecjhenaaGreatF17
import Derived.Test.YthdidjjecjhenaaGreatA7
import Derived.Test.YthdidjjecjhenaaGreatRows
set_option linter.unusedVariables false
set_option linter.unusedSimpArgs false
set_option linter.unnecessarySimpa false
set_option maxRecDepth 20000
set_option maxHeartbeats 8000000
namespace Go.Proofs.YthdidjjecjhenaaGreat
open Go Go.Proofs Go.Abs
structure FewL(m:Mo):Prop where
 next:m.g.next.length<=40
 init:m.g.init.length<=40
 ands:m.g.ands.length<=60
 ins:m.ins.length<=40
 lat:m.lat.length<=40
 out:m.out.length<=60
theorem QG{m:Mo}(h:m.few=true):FewL m:=by unfold Mo.few Gr.few Lm at h;simp only[zqf,zqb]at h;obtain⟨⟨_,h1,h2,h3,_⟩,⟨h4,_⟩,⟨h5,_⟩,h6,_⟩:=h;exact⟨by omega,by omega,by omega,h4,h5,h6⟩
theorem J5{m:Mo}(h:FewL m):m.g.Sm:=⟨by have:=h.next;omega,by have:=h.ands;omega⟩
theorem Il{a b:Mo}(ha:FewL a)(hb:FewL b):JBig a b:=⟨by have:=ha.ins;have:=ha.lat;have:=hb.lat;have:=ha.ands;have:=hb.ands;have:=ha.out;omega⟩
theorem ev_replays(a b:Mo)(k n:Int)(hn0:0<=n)(hn1:n<=255):Ev TE 3 [a.v,b.v,vi k,.int .u8 n] (.bool true):=by
 have hM:=mLx;have hwk:=MG;have hfa:=JX a;have hfb:=JX b;have hcr:=fun(ha:FewL a)(hb:FewL b)=>qL a b k n (J5 ha) (J5 hb) (fun _=>Il ha hb) (fun _=>by have:=ha.out;omega) (fun _=>Gh (by omega)) (by omega);have hrp:=fun(ha:FewL a)(hb:FewL b) x=>Qj a b x (J5 ha) (J5 hb) (fun _=>Il ha hb);unfold Mo.v at hfa hfb hcr hrp ⊢;refine aF Tryz.func3 rfl (by simp[nts]) ?_;refine vn ?_;simp only[wq.1,seval,Tryz.results3];refine vn ?_;simp only[wq.1,Nat.reduceLT];refine ag.ev hwk rfl ?_;simp only[wq.1,seval];refine vn ?_;simp only[wq.1,seval];refine vn ?_;simp only[wq.1,seval];refine ag.ev hfa rfl ?_;simp only[wq.1,seval];refine DW.ev (q:=6) (vs:=[.agg [vi b.g.ins,ay b.g.next,ay b.g.init,prs b.g.ands,ay b.g.outs,jq b.ins,jq b.lat,jq b.out]]) (by simp only[wq.1,↓reduceIte]) (by simp only[wq.1,↓reduceIte]) rfl (fun _=>hfb) (fun _=>rfl) ?_;simp only[wq.1,seval];refine vn ?_;simp only[wq.1,seval];refine vcB.mk (fun hc=> ?_) (fun hc=> ?_)
 ·simp only[wq.1,seval];exact aH.dat rfl
 simp only[zsf,Bool.not_eq_false',zqf]at hc;obtain⟨⟨⟨⟨fa,fb⟩,hk6⟩,_⟩,_⟩:=hc;have la:=QG fa;have lb:=QG fb;have hcr:=hcr la lb;have hrp:=hrp la lb;have hk6:k<=6:=by rw[zqd]at hk6;omega
 simp only[wq.1];refine iU (fun f=>f.t 2=vi k/\f.t 3= .int .u8 n/\f.t 4= .lp 0 0/\f.t 5= .lp 1 0/\f.t 9= .bool true/\f.d=[]) [.cells (cCM a),.cells (cCM b)] (fun hk=>hk _ ⟨rfl,rfl,rfl,rfl,rfl,rfl⟩) ?_;rintro f ⟨t2,t3,t4,t5,t9,hd⟩;have hwn:IntKind.i64.wrap n=n:=aU (by omega) (by omega);have hcv:∀h:H,DL P h 5 3 (.int .u8 n)=(True,vi n):=fun h=>by simp only[DL,tis,hwn]
 have d2:V.dats [.agg (cCM a),.agg (cCM b),vi k,vi n]=true:=by simp only[V.dats,V.dat,zre]
 have d3:∀x:An,V.dats [.agg (cCM a),.agg (cCM b),x.v]=true:=fun x=>by simp only[An.v,V.dats,V.dat,uz,zre]
 refine vn ?_;simp only[wq.1,seval,t2,t3,t4,t5,hcv];refine jF hcr d2 fun r hr=> ?_;obtain⟨⟨x,e⟩,hx,rfl⟩:=hr;simp only[wq.1,seval,An.v];refine iU (fun f=>f.t 2=vi k/\f.t 4= .lp 0 0/\f.t 5= .lp 1 0/\f.t 9= .bool true/\f.t 11= .lp 2 0/\f.t 12=vi e/\f.d=[]) [.cells (cCM a),.cells (cCM b),.cells (anC x)] (fun hk=>hk _ ⟨t2,t4,t5,t9,rfl,rfl,hd⟩) ?_;clear t2 t3 t4 t5 t9 hd f;rintro f ⟨t2,t4,t5,t9,t11,t12,hd⟩;refine vn ?_;simp only[wq.1,seval,t11,t12];refine vcB.mk (fun hc=> ?_) (fun hc=> ?_)
 ·simp only[wq.1,seval,t9,hd];exact aH.dat rfl
 simp only[zsf,bne_eq_false_iff_eq]at hc;obtain⟨e0,x1⟩:=hc;subst e0;obtain⟨r1,r2,r3,r4⟩:=Bd (fun _=>Il la lb) hx rfl x1;dsimp only at r1 r2 r3 r4;have hrx:=hrp x;rw[r1]at hrx;simp only[wq.1,Int.reduceBNe];refine vn ?_;simp only[wq.1,seval,t4,t5,t11];refine ag.ev hrx (d3 x) ?_;simp only[wq.1,seval];have q1:decide ((x.seq.length:Int)<1)=false:=by rw[zqd];omega
 have q2:decide (k<(x.seq.length:Int))=false:=by rw[zqd];omega
 refine vn ?_;simp only[wq.1,seval,t2,t11,q1,q2];have dCa:V.dats (cCM a)=true:=by simp only[cCM,V.dats,V.dat,zre]
 have dCb:V.dats (cCM b)=true:=by simp only[cCM,V.dats,V.dat,zre]
 have dCx:V.dats (anC x)=true:=by simp only[anC,V.dats,V.dat,uz,zre]
 refine ak ?_;refine vn ?_;simp only[wq.1,Nat.reduceLT];refine aB ?_;refine aC (fun q f h=>∃(i:Nat)(X:H),q+(i+1)=x.seq.length/\f.t 4= .lp 0 0/\f.t 5= .lp 1 0/\f.t 9= .bool true/\f.t 11= .lp 2 0/\f.t 15=vi ((i+1:Nat):Int)/\f.d=[]/\h=[.cells (cCM a),.cells (cCM b),.cells (anC x)]++X) (x.seq.length-1) ⟨0,[],by omega,t4,t5,t9,t11,rfl,hd,rfl⟩ ?_;clear t2 t4 t5 t9 t11 t12 hd f;rintro q f h ⟨i,X,hq,t4,t5,t9,t11,t15,hd,rfl⟩;refine gp (by rw[hd];simp) ?_;have hcl:([.cells (cCM a),.cells (cCM b),.cells (anC x)]:H).map (O.drop (aJ ([.cells (cCM a),.cells (cCM b),.cells (anC x)]:H).length))=[.cells (cCM a),.cells (cCM b),.cells (anC x)]:=by
  show [O.cells (V.drops _ (cCM a)),O.cells (V.drops _ (cCM b)),O.cells (V.drops _ (anC x))]=_;rw[bi.dats_drops _ dCa,bi.dats_drops _ dCb,bi.dats_drops _ dCx]
 rw[hcl];refine iU (fun f=>f.t 4= .lp 0 0/\f.t 5= .lp 1 0/\f.t 9= .bool true/\f.t 11= .lp 2 0/\f.t 15=vi ((i+1:Nat):Int)/\f.d=[]) [.cells (cCM a),.cells (cCM b),.cells (anC x)] (fun hk=>hk _ ⟨by simp only[wq.1,seval,t4,aJ],by simp only[wq.1,seval,t5,aJ],by simp only[wq.1,Nat.reduceAdd,t9],by simp only[wq.1,seval,t11,aJ],by simp only[wq.1,Nat.reduceAdd,t15],hd⟩) ?_;clear t4 t5 t9 t11 t15 hd f X hcl;rintro f ⟨t4,t5,t9,t11,t15,hd⟩;refine vn ?_;simp only[wq.1,seval,t11,t15];refine vcB.mk (fun hlt=> ?_) (fun hlt=> ?_)
 ·simp only[zqb,zqi]at hlt;have hw:IntKind.i64.wrap (((i+1:Nat):Int)+1)=((i+1+1:Nat):Int):=aA (by omega);simp only[wq.1];refine ak (aB ?_);refine vn ?_;simp only[wq.1,Nat.reduceLT];refine aB ?_;refine aC (fun z f h=>∃(j:Nat)(X:H),z+j=a.out.length/\f.t 4= .lp 0 0/\f.t 5= .lp 1 0/\f.t 9= .bool true/\f.t 11= .lp 2 0/\f.t 15=vi ((i+1:Nat):Int)/\f.t 16=vi j/\f.d=[]/\h=[.cells (cCM a),.cells (cCM b),.cells (anC x)]++X) a.out.length ⟨0,[],by omega,t4,t5,t9,t11,t15,rfl,hd,rfl⟩ ?_;clear t4 t5 t9 t11 t15 hd f;rintro z f h ⟨j,X,hz,t4,t5,t9,t11,t15,t16,hd,rfl⟩;refine gp (by rw[hd];simp) ?_;have hcl:([.cells (cCM a),.cells (cCM b),.cells (anC x)]:H).map (O.drop (aJ ([.cells (cCM a),.cells (cCM b),.cells (anC x)]:H).length))=[.cells (cCM a),.cells (cCM b),.cells (anC x)]:=by
   show [O.cells (V.drops _ (cCM a)),O.cells (V.drops _ (cCM b)),O.cells (V.drops _ (anC x))]=_;rw[bi.dats_drops _ dCa,bi.dats_drops _ dCb,bi.dats_drops _ dCx]
  rw[hcl];refine iU (fun f=>f.t 4= .lp 0 0/\f.t 5= .lp 1 0/\f.t 9= .bool true/\f.t 11= .lp 2 0/\f.t 15=vi ((i+1:Nat):Int)/\f.t 16=vi j/\f.d=[]) [.cells (cCM a),.cells (cCM b),.cells (anC x)] (fun hk=>hk _ ⟨by simp only[wq.1,seval,t4,aJ],by simp only[wq.1,seval,t5,aJ],by simp only[wq.1,Nat.reduceAdd,t9],by simp only[wq.1,seval,t11,aJ],by simp only[wq.1,Nat.reduceAdd,t15],by simp only[wq.1,Nat.reduceAdd,t16],hd⟩) ?_;clear t4 t5 t9 t11 t15 t16 hd f X hcl;rintro f ⟨t4,t5,t9,t11,t15,t16,hd⟩;refine vn ?_;simp only[wq.1,seval,t4,t16];refine vcB.mk (fun hlt2=> ?_) (fun hlt2=> ?_)
  ·simp only[zqb,zqi]at hlt2;have hw2:=aA (show j<maxLen by have:=la.out;omega);have hry:=hrp {x with out:=j,seq:=x.seq.take (i+1)};rw[r4 (i+1) j (by omega) hlt hlt2]at hry;simp only[wq.1];refine ak (aB ?_);refine vn ?_;simp only[wq.1,seval,t11];refine vn ?_;simp only[wq.1,seval,t11,t15];refine⟨⟨by omega,by omega⟩,?_⟩;refine vn ?_;simp only[wq.1,seval,t16];have hmt:(x.seq.map fun c=>aX c).take (i+1)=(x.seq.take (i+1)).map fun c=>aX c:=List.map_take.symm;refine vn ?_;simp only[wq.1,seval,t4,t5,hmt];refine ag.ev hry (d3 _) ?_;simp only[wq.1,seval];refine vm ?_;simp only[wq.1,seval];refine vm ?_;simp only[wq.1,seval,t16,hw2];exact .inl ⟨z-1,by omega,j+1,_,by omega,t4,t5,t9,t11,t15,rfl,hd,rfl⟩
  ·simp only[zqd,zqi]at hlt2;simp only[wq.1];show awp _ _ _ _ _ _ _;refine vm ?_;simp only[wq.1,seval,t15,hw];exact .inl ⟨q-1,by omega,i+1,[],by omega,t4,t5,t9,t11,rfl,hd,rfl⟩
 ·simp only[zqd,zqi]at hlt;simp only[wq.1];show awp _ _ _ _ _ _ _;refine vm ?_;simp only[wq.1,seval,t9,hd];exact aH.dat rfl
theorem own:ownKnob Tryz.prog.godebug=none:=by kernel_rfl
theorem laid:laidOutB Tryz.prog=true:=by kernel_rfl
abbrev XR:Sh:= .slice (.int .i64)
abbrev Yn:Sh:= .struct [.int .i64,.int .i64]
abbrev VZ:Sh:= .slice Yn
abbrev Gi:Sh:= .slice .str
abbrev Yw:Sh:= .struct [.int .i64,XR,XR,VZ,XR]
abbrev shMo:Sh:= .struct [Yw,Gi,Gi,Gi]
theorem Dy{e:Sh}{α:Type}{F:α->V}(he:∀v,Sh.Is e v->∃a,v=F a):∀es:List V,(∀x∈es,Sh.Is e x)->∃l:List α,es=l.map F
 |[],_=>⟨[],rfl⟩
 |x::es,h=>by obtain⟨a,rfl⟩:=he x (h x (by simp));obtain⟨l,rfl⟩:=Dy he es fun y hy=>h y (by simp[hy]);exact⟨a::l,rfl⟩
variable{v:V}
theorem is_int(h:Sh.Is (.int .i64) v):∃n:Int,v=vi n:=by simp only[Sh.Is]at h;obtain⟨n,rfl,hw⟩:=h;exact⟨n,rfl⟩
theorem is_u8(h:Sh.Is (.int .u8) v):∃n:Int,v= .int .u8 n/\0<=n/\n<=255:=by simp only[Sh.Is]at h;obtain⟨n,rfl,hw⟩:=h;refine⟨n,rfl,?_⟩;simp[Lit.wf,IntKind.min,IntKind.max,IntKind.signed,IntKind.bits]at hw;omega
theorem XT(h:Sh.Is .str v):∃s:S,v= .str s:=by simp only[Sh.Is]at h;obtain⟨s,rfl⟩:=h;exact⟨_,rfl⟩
theorem Io(h:Sh.Is XR v):∃c:Cl,v=ay c:=by unfold XR at h;rw[Sh.Is]at h;obtain⟨es,rfl,h⟩:=h;obtain⟨l,rfl⟩:=Dy (F:=vi) (fun v hv=>is_int hv) es h;exact⟨l,rfl⟩
theorem Ip(h:Sh.Is Gi v):∃c:List S,v=jq c:=by unfold Gi at h;rw[Sh.Is]at h;obtain⟨es,rfl,h⟩:=h;obtain⟨l,rfl⟩:=Dy (F:=V.str) (fun v hv=>XT hv) es h;exact⟨l,rfl⟩
theorem Yo(h:Sh.Is Yn v):∃p:Pq,v=prV p:=by unfold Yn at h;rw[Sh.Is]at h;obtain⟨vs,rfl,h⟩:=h;simp only[Sh.Iss]at h;obtain⟨u0,us,rfl,h0,u1,us,rfl,h1,rfl⟩:=h;obtain⟨n,rfl⟩:=is_int h0;obtain⟨k,rfl⟩:=is_int h1;exact⟨(n,k),rfl⟩
theorem XU(h:Sh.Is VZ v):∃c:List Pq,v=prs c:=by unfold VZ at h;rw[Sh.Is]at h;obtain⟨es,rfl,h⟩:=h;obtain⟨l,rfl⟩:=Dy (F:=prV) (fun v hv=>Yo hv) es h;exact⟨l,rfl⟩
theorem is_mo(h:Sh.Is shMo v):∃m:Mo,v=m.v:=by unfold shMo at h;rw[Sh.Is]at h;obtain⟨vs,rfl,h⟩:=h;simp only[Sh.Iss]at h;obtain⟨u0,us,rfl,h0,u1,us,rfl,h1,u2,us,rfl,h2,u3,us,rfl,h3,rfl⟩:=h;unfold Yw at h0;rw[Sh.Is]at h0;obtain⟨gs,rfl,h0⟩:=h0;simp only[Sh.Iss]at h0;obtain⟨g0,us,rfl,k0,g1,us,rfl,k1,g2,us,rfl,k2,g3,us,rfl,k3,g4,us,rfl,k4,rfl⟩:=h0;obtain⟨n,rfl⟩:=is_int k0;obtain⟨a,rfl⟩:=Io k1;obtain⟨b,rfl⟩:=Io k2;obtain⟨c,rfl⟩:=XU k3;obtain⟨d,rfl⟩:=Io k4;obtain⟨x,rfl⟩:=Ip h1;obtain⟨y,rfl⟩:=Ip h2;obtain⟨z,rfl⟩:=Ip h3;exact⟨⟨⟨n,a,b,c,d⟩,x,y,z⟩,rfl⟩
end Go.Proofs.YthdidjjecjhenaaGreat
