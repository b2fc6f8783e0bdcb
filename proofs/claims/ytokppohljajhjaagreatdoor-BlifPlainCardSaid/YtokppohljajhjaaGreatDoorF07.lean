/- Lemmas for this claim, part F07: each holds under what it names. -/
import Derived.Test.YtokppohljajhjaaGreatDoorF06
import Derived.Test.YtokppohljajhjaaGreatDoorA10
import Derived.Test.YtokppohljajhjaaGreatDoorA9
set_option linter.all false
set_option maxRecDepth 100000
namespace Go.Proofs.YtokppohljajhjaaGreatDoor
open Go Go.Proofs Go.Abs
abbrev Sum(c:Ci):Prop:=c.ins.length+c.lat.length+c.gates.length<=9000000000000000000
theorem iF(c:Ci):V.dats [c.v]=true:=by show(V.dat c.v&&true)=true;rw[rq];rfl
theorem Nu[MO]{c:Ci}(h:Sum c):Ev TE 62 [c.v] (.bool (decide ((lJ c).1=0))):=by
 have hN:=Au c h;have e:((lJ c).1==0)=decide ((lJ c).1=0):=by rw[Bool.eq_iff_iff,beq_iff_eq,zqb]
 refine ah Tryz.func62 rfl (by simp[nts]) (vm ?_);simp only[wq.1,seval,Tryz.results62];refine ag.ev hN (iF c) ?_;simp only[wq.1,seval,e];exact az.dat rfl
theorem JE[MO](c:Ci):Ev TE 64 [c.v] (.fn (.func 100) [] [.ip c.v]):=by refine ah Tryz.func64 rfl (by simp[nts]) (vm ?_);simp only[wq.1,seval,Tryz.results64];exact az.fn ak.nil (ak.cons (az.lp rfl (ak.dat (by have:=rq c;unfold Ci.v at this;simpa only[V.dat]using this)) rfl (rq c) (by simp[V.vc,Ci.v]) rfl) ak.nil)
def iY(n:Nat)(out:List Nat):List Nat:=(List.range n).filter fun i=> !out.contains i
def pO(l:List S)(out:List Nat):List S:=(iY l.length out).map fun i=>l.getD i []
def mM(l:List S)(out:List Nat):O:= .map ((pO l out).map V.str) (bZ (iY l.length out))
theorem JF{n:Nat}{out:List Nat}{a:Nat}:iY n (out++[a])=(iY n out).filter (· != a):=by unfold iY;rw[List.filter_filter];refine List.filter_congr fun i _=> ?_;rw[List.contains_eq_mem,List.contains_eq_mem,Bool.eq_iff_iff];simp[and_comm]
theorem P6{l:List S}(hl:l.Nodup){out:List Nat}{a:Nat}(ha:a<l.length):(at? (pO l out) (l.getD a [])).isSome= !out.contains a:=by
 rw[oC];rw[Bool.eq_iff_iff,List.contains_iff_mem];unfold pO iY;rw[zrh];constructor
 ·rintro⟨i,hi,he⟩;rw[List.mem_filter,List.mem_range]at hi;have:i=a:=by
   rw[zqg,zqg,zqk hi.1,zqk ha]at he;exact(List.getElem_inj hl).1 he
  subst this;exact hi.2
 ·intro h;exact⟨a,List.mem_filter.2 ⟨List.mem_range.2 ha,h⟩,rfl⟩
structure NS(l:List S)(out:List Nat)(NR:Nat)(nvs:List S)(h:H):Prop where
 s1:h[1]? =some (.cells [.ls 5 1 0 out.length out.length])
 s3:h[3]? =some (mM l out)
 s4:h[4]? =some (.cells [.lm 3])
 s5:h[5]? =some (.cells (bZ out))
 s6:h[6]? =some (.misc .dfd)
 sN:h[NR]? =some (.cells (nvs.map V.str))
 r:8<=NR
theorem NS.more{l:List S}{out:List Nat}{NR:Nat}{nvs:List S}{h:H}(k:NS l out NR nvs h)(o:O):NS l out NR nvs (h++[o]):=by
 have old:∀j x,h[j]? =some x->(h++[o])[j]? =some x:=fun j x hx=>by rw[zqj (zqe hx).1];exact hx
 exact⟨old _ _ k.s1,old _ _ k.s3,old _ _ k.s4,old _ _ k.s5,old _ _ k.s6,old _ _ k.sN,k.r⟩
theorem NS.app{l:List S}{out:List Nat}{NR:Nat}{nvs:List S}{h:H}(k:NS l out NR nvs h)(nvs':List S):NS l out NR nvs' ((h.map (O.drop fun x=>x==NR)).set NR (.cells (nvs'.map V.str))):=by
 have r:=k.r;have hlt:=(zqe k.sN).1;have b:∀j,j<8->(j==NR)=false:=fun j hj=>by rw[beq_eq_false_iff_ne];omega
 have old:∀j x,j<8->h[j]? =some x->x.drop (fun x=>x==NR)=x->((h.map (O.drop fun x=>x==NR)).set NR (.cells (nvs'.map V.str)))[j]? =some x:=fun j x hj hx hd=>by rw[zqn (by omega),zqo,hx,zrw,hd]
 refine⟨old _ _ (by omega) k.s1 ?_,old _ _ (by omega) k.s3 ?_,old _ _ (by omega) k.s4 ?_,old _ _ (by omega) k.s5 ?_,old _ _ (by omega) k.s6 rfl,zqt (by simpa using hlt),r⟩
 ·show O.cells [V.drop _ _]=_;rw[V.drop,b 5 (by omega)];rfl
 ·show O.map (V.drops _ _) (V.drops _ _)=_;rw[aA,aZ];rfl
 ·show O.cells [V.drop _ _]=_;rw[V.drop,b 3 (by omega)];rfl
 ·show O.cells (V.drops _ _)=_;rw[aZ]
def yS(l:List S)(out:List Nat)(i:Nat):List S:=((List.range i).filter fun j=> !out.contains j).map fun j=>l.getD j []
theorem JG{l:List S}{out:List Nat}{i:Nat}:yS l out (i+1)=if(!out.contains i)=true then yS l out i++[l.getD i []]else yS l out i:=by
 unfold yS;rw[List.range_succ,List.filter_append,zql];split
 ·rename_i h;rw[List.filter_cons_of_pos (p:=fun j=> !out.contains j) h];rfl
 ·rename_i h;rw[List.filter_cons_of_neg (p:=fun j=> !out.contains j) h];simp
theorem Nv{l:List S}{out:List Nat}{i:Nat}:(yS l out i).length<=i:=by unfold yS;rw[zra];exact Nat.le_trans (List.length_filter_le _ _) (by rw[List.length_range];exact zrb _)
theorem JH{l:List S}(hl:l.Nodup){out:List Nat}{a:Nat}(ha:a<l.length)(ho:a∉out):Qo .str (.str (l.getD a [])) ((pO l out).map V.str) (bZ (iY l.length out))=some ((pO l (out++[a])).map V.str,bZ (iY l.length (out++[a]))):=by
 have hn:(iY l.length out).Nodup:=List.nodup_range.sublist List.filter_sublist;have hm:a∈iY l.length out:=by unfold iY;rw[List.mem_filter];exact⟨List.mem_range.2 ha,by simpa using ho⟩
 have hs:l.getD a []∈pO l out:=zrh.2 ⟨a,hm,rfl⟩;obtain⟨k,hk⟩:=C9 hs;obtain⟨h1,h2⟩:=ru hk;have h1':k<(iY l.length out).length:=by unfold pO at h1;simpa using h1
 have hka:(iY l.length out)[k]=a:=by
  have h3:(iY l.length out)[k]<l.length:=by have:=zqu h1';unfold iY at this;exact List.mem_range.1 (List.mem_filter.1 this).1
  have h4:l.getD (iY l.length out)[k] []=l.getD a []:=by rw[<-h2];simp[pO]
  rw[zqg,zqg,zqk h3,zqk ha]at h4;exact(List.getElem_inj hl).1 h4
 unfold Qo;rw[dw,hk];have e:=qK (iY l.length out) k h1' hn;rw[hka,<-JF]at e;show some (((pO l out).map V.str).eraseIdx k,(bZ (iY l.length out)).eraseIdx k)=_;unfold pO;have e3:bZ ((iY l.length out).eraseIdx k)=(bZ (iY l.length out)).eraseIdx k:=dI ..;rw[e,dI,dI,e3]
def uY(L:(Nat->V)->LoopState->Option Code->O)(c:Ci)(out:List Nat)(t:Nat->V):H:=[ciO c,.cells [.ls 5 1 0 out.length out.length],ciO c,mM (aN c) out,.cells [.lm 3],.cells (bZ out),.misc .dfd,L t .ready none]
def sHp(L:(Nat->V)->LoopState->Option Code->O)(c:Ci)(out:List Nat)(h0:H):Prop:=∃t,t 1= .lp 0 0/\t 4= .lp 1 0/\t 5= .lp 4 0/\h0=uY L c out t
theorem P7[MO](c:Ci)(hs:Sum c):Ev TE 26 [c.v] (.tup [.is false 1 (bZ (FM c).1),aW (FM c).2]):=by
 have hM:=mLx;have hR:=Nu hs;have hC:=JE c;unfold FM;refine ah Tryz.func26 rfl (by simp[nts]) ?_;refine vn ?_;simp only[wq.1,Nat.reduceLT,Tryz.results26];refine vn ?_;simp only[wq.1,seval];refine ag.ev hR (iF c) ?_;simp only[wq.1,seval];by_cases h0:(lJ c).1=0
 ·rw[if_pos h0];have ok:=(IX c).1 h0;have lm:=Ti ok.lim;have hnd:=AC ok.nets;have hg:=lm.gates;simp only[wq.1,h0];refine vn ?_;simp only[wq.1,Nat.reduceLT];refine vn ?_;simp only[wq.1,seval];refine jZ (ry c hnd (by omega)) (iF c) ?_;rintro ae h' p ⟨rfl,rfl⟩;have hsh:O.sh 2 (ciO c)=ciO c:=by
   show O.cells (V.shs 2 _)=_;rw[V.shs_dats 2 _ (by have:=rq c;unfold Ci.v at this;simpa only[V.dat]using this)]
  have hsp:O.sh 2 (plO (aN c))=plO (aN c):=by show O.map (V.shs 2 _) (V.shs 2 _)=_;rw[V.shs_dats 2 _ aJ,V.shs_dats 2 _ (kH _)];rfl
  simp only[wq.1,seval,AEnd.sh,V.sh,hsh,hsp];have hpl:plO (aN c)=mM (aN c) []:=by
   have e:iY (aN c).length []=List.range (aN c).length:=by unfold iY;rw[List.filter_eq_self.2];intro a _;rfl
   unfold plO mM;rw[e];unfold pO;rw[e,Ey (aN c) [] (fun s=>s),List.map_id']
  rw[hpl];refine gz ?_;refine jd (h':=[ciO c,.cells [.ls 5 1 0 0 0],ciO c,mM (aN c) [],.cells [.lm 3],.cells []]) (HLe.set (i:=1) (o':= .cells [.ls 5 1 0 0 0]) rfl (OLe.cells (zrb _) (fP.cons dO fP.nil))) ?_;refine au ?_;refine vn ?_;simp only[wq.1,seval];refine ag.ev hC (iF c) ?_;simp only[wq.1];refine aH ?_;refine ql (n:=54) (q:=100) (first:=[]) (captured:=[.ip c.v]) (by simp only[wq.1,↓reduceIte]) (by simp only[wq.1,↓reduceIte]) rfl (by decide) ?_;intro L hLd gets;have hgd:c.gates.length=(aN c).length:=by simp
  refine ag.mono (yJ c hnd (by omega) (fun g hg=>by have:=lm.gins g hg;omega) (b:=8) (y:=7) (sHp L c) (fun i=>i<8/\i≠5) (by decide) (fun i hi=>hi.1) ?_ ?_ _ ⟨_,?_,?_,?_,rfl⟩ rfl) ?_
  ·rintro out h0 p ⟨t,t1,t4,t5,rfl⟩ hp;refine⟨fun i=>(t i).drop p,?_,?_,?_,?_⟩
   ·show(t 1).drop p=_;rw[t1,V.drop,hp 0 (by omega)];rfl
   ·show(t 4).drop p=_;rw[t4,V.drop,hp 1 (by omega)];rfl
   ·show(t 5).drop p=_;rw[t5,V.drop,hp 4 (by omega)];rfl
   ·unfold uY;simp only[zrd,List.map_nil,hLd];have e5:V.drop p (.ls 5 1 0 out.length out.length)= .ls 5 1 0 out.length out.length:=by rw[V.drop,hp 5 (by omega)];rfl
    have e3:V.drop p (.lm 3)= .lm 3:=by rw[V.drop,hp 3 (by omega)];rfl
    have el:O.drop p (mM (aN c) out)=mM (aN c) out:=by show O.map (V.drops p _) (V.drops p _)=_;rw[aA,aZ];rfl
    have ei:O.drop p (ciO c)=ciO c:=rfl;rw[el,ei];simp only[O.drop,V.drops,e5,e3,aZ]
  ·rintro out a h ⟨t,t1,t4,t5,he⟩ hbl hol ha hao;obtain⟨X,hX⟩:∃X,X=h.drop 8:=⟨_,rfl⟩;have hh:h=uY L c out t++X:=by rw[hX,<-he,List.take_append_drop]
   clear he hX hbl;subst hh;refine gets _ _ _ t rfl rfl (fun lb=> ?_);obtain⟨HC,hHC⟩:∃HC,HC=[ciO c,.cells [.ls 5 1 0 out.length out.length],ciO c,mM (aN c) out,.cells [.lm 3],.cells (bZ out),.misc .dfd,L t .busy none]++X:=⟨_,rfl⟩;obtain⟨X3,hX3⟩:∃X3,X3=bZ (out++[a]):=⟨_,rfl⟩;have e7:(uY L c out t++X).set 7 (L t .busy none)=HC:=by rw[hHC];rfl
   have e70:(uY L c out t++X)[7]? =some (L t .ready none):=rfl;have g0:HC[0]? =some (.cells [aW c.ins,aW c.outs,vM c.lat,jD c.gates]):=by rw[hHC];rfl
   have g1:HC[1]? =some (.cells [.ls 5 1 0 out.length out.length]):=by rw[hHC];rfl
   have g5:HC[5]? =some (.cells (bZ out)):=by rw[hHC];rfl
   have hnx:bZ out++[V.int .i64 (a:Int)]=X3:=by rw[hX3,bZ,bZ,zql];rfl
   have hd3:V.drops (fun x=>x==5) X3=X3:=by rw[hX3,aZ]
   have hgg:=wF ha .any;obtain⟨g,hg⟩:∃g,g=c.gates[a]:=⟨_,rfl⟩;rw[<-hg]at hgg;refine vm ?_;simp only[wq.1,↓reduceIte,Nat.reduceLT,Nat.reduceAdd,DY];refine⟨t,e70,?_⟩;rw[e7];refine aH ?_;refine vn ?_;have g1':((HC.map (O.drop fun x=>x==5)).set 5 (.cells X3))[1]? =some (.cells [.any]):=by rw[hHC];rfl
   simp only[wq.1,↓reduceIte,Nat.reduceEqDiff,Nat.reduceLT,Nat.reduceBEq,reduceCtorEq,Nat.reduceMul,t4,g1,g5,hnx,hd3,g1'];obtain⟨t',ht'⟩:∃t':Nat->V,t'=fun i=>(t i).drop fun x=>x==5:=⟨_,rfl⟩;have t1':t' 1= .lp 0 0:=by rw[ht'];show(t 1).drop _=_;rw[t1];rfl
   have t4':t' 4= .lp 1 0:=by rw[ht'];show(t 4).drop _=_;rw[t4];rfl
   have t5':t' 5= .lp 4 0:=by rw[ht'];show(t 5).drop _=_;rw[t5];rfl
   obtain⟨HD,hHD⟩:∃HD,HD=[ciO c,.cells [.ls 5 1 0 (out.length+1) (out.length+1)],ciO c,mM (aN c) out,.cells [.lm 3],.cells X3,.misc .dfd,L t' .busy none]++X.map (O.drop fun x=>x==5):=⟨_,rfl⟩;have e8:((HC.map (O.drop fun x=>x==5)).set 5 (.cells X3)).set 1 (.cells [.ls 5 1 0 (out.length+1) (out.length+1)])=HD:=by
    have el:O.drop (fun x=>x==5) (mM (aN c) out)=mM (aN c) out:=by show O.map (V.drops _ _) (V.drops _ _)=_;rw[aA,aZ];rfl
    have ei:O.drop (fun x=>x==5) (ciO c)=ciO c:=rfl;rw[hHC,hHD,zql];simp only[zrd,List.map_nil,hLd,el,ei,<-ht'];rfl
   have f0:HD[0]? =some (.cells [aW c.ins,aW c.outs,vM c.lat,jD c.gates]):=by rw[hHD];rfl
   have f4:HD[4]? =some (.cells [.lm 3]):=by rw[hHD];rfl
   have f3:HD[3]? =some (mM (aN c) out):=by rw[hHD];rfl
   rw[e8];refine⟨⟨rfl,by decide⟩,⟨by omega,by omega,by omega⟩,?_⟩;refine II mixed (by decide +kernel) ?_;simp only[nts,List.size_toArray,zrt,List.length_nil,Nat.reduceAdd,Nat.reduceSub,List.take_succ_cons,List.take_zero];simp only[wq.1,seval,bM,bY,t1,t5,f0,f4,hgg];refine⟨⟨by omega,by omega⟩,?_⟩;have hgn:(aN c).getD a []=g.name:=by
    rw[hg,zqg,zqo,zqk ha];rfl
   have hmd:=JH hnd (out:=out) (a:=a) (by omega) hao;rw[hgn]at hmd;have hq1:ti TE.P 117=some ⟨.map 9 3,1,8,.nilm⟩:=by simp only[wq.1]
   have hqs:ti TE.P 9=some ⟨.str,1,16,.str []⟩:=by simp only[wq.1]
   refine⟨_,rfl,rfl,rfl,?_⟩;refine wO (kt':=0) (t:=117) rfl rfl (id:=3) (by simp only[wq.1,seval]) (by simp only[wq.1,seval]) (by simp only[wq.1,↓reduceIte]) hq1 rfl hqs (by simp only[wq.1,↓reduceIte,K.keyOk]) f3 (by simp only[wq.1,↓reduceIte];rw[hgd];exact hmd) ?_;obtain⟨HE,hHE⟩:∃HE,HE=HD.set 3 (mM (aN c) (out++[a])):=⟨_,rfl⟩;have hlo:O.map ((pO (aN c) (out++[a])).map V.str) (bZ (iY (aN c).length (out++[a])))=mM (aN c) (out++[a]):=rfl;rw[hlo,<-hHE];have h7:HE[7]? =some (L t' .busy none):=by rw[hHE,hHD];rfl
   simp only[wq.1,Nat.reduceBEq,zF,XE.jump,h7];have hf:HE.set 7 (L t' .ready none)=uY L c (out++[a]) t'++X.map (O.drop fun x=>x==5):=by
    have hol:(out++[a]).length=out.length+1:=by simp
    unfold uY;rw[hHE,hHD,hX3,hol];rfl
   refine⟨t',.busy,rfl,fun i hi=>by rw[beq_eq_false_iff_ne];omega,⟨t',t1',t4',t5',?_⟩,fun j hj=> ?_⟩
   ·show List.take 8 (HE.set 7 (L t' .ready none))=_;rw[hf];rfl
   ·show(HE.set 7 (L t' .ready none))[j]? =_;have b8:∀o tt,(uY L c o tt).length=8:=fun _ _=>rfl;rw[hf,zsb (by rw[b8];exact hj),zsb (by rw[b8];exact hj),zqo,b8,b8]
  ·simp only[wq.1,seval]
  ·simp only[wq.1,seval]
  ·simp only[wq.1,seval]
  ·rintro ae h' p ⟨hp4,hr⟩;cases ae with
   |pan v=>exact hr.elim
   |ret v =>
    obtain⟨⟨t,t1,t4,t5,he⟩,hl8⟩:=hr;obtain⟨X,hX⟩:∃X,X=h'.drop 8:=⟨_,rfl⟩;obtain⟨out,hout⟩:∃out,out=zX (aN c) (gins c):=⟨_,rfl⟩;rw[<-hout]at he;have hh:h'=uY L c out t++X:=by rw[hX,<-he,List.take_append_drop]
    clear he hX hl8;subst hh;refine⟨?_,hp4 7 (by decide),t,_,none,(by decide),rfl,?_⟩
    ·intro i hi;have hi:i=6:=by simpa [E5,DU]using hi
     subst hi;exact hp4 6 (by decide)
    ·have k0:=hp4 0 (by decide);have k1:=hp4 1 (by decide);have k3:=hp4 3 (by decide);have k4:=hp4 4 (by decide);have k6:=hp4 6 (by decide);have k7:=hp4 7 (by decide);obtain⟨HS,hHS⟩:∃HS,HS=(uY L c out t++X).set 7 (L t .exhausted none):=⟨_,rfl⟩;obtain⟨NR,hNR⟩:∃NR,NR=HS.length:=⟨_,rfl⟩;have hN8:8<=NR:=by rw[hNR,hHS];simp[uY]
     have s1:HS[1]? =some (.cells [.ls 5 1 0 out.length out.length]):=by rw[hHS];rfl
     have s0:HS[0]? =some (.cells [aW c.ins,aW c.outs,vM c.lat,jD c.gates]):=by rw[hHS];rfl
     have s3:HS[3]? =some (mM (aN c) out):=by rw[hHS];rfl
     have s4:HS[4]? =some (.cells [.lm 3]):=by rw[hHS];rfl
     have s5:HS[5]? =some (.cells (bZ out)):=by rw[hHS];rfl
     have s6:HS[6]? =some (.misc .dfd):=by rw[hHS];rfl
     simp only[wq.1,Nat.reduceAdd,Hw];rw[<-hHS];clear hHS;refine vn ?_;simp only[wq.1,Nat.reduceLT];refine vn ?_;simp only[wq.1,seval,k0,s0];refine jW 7 1 (by simp only[wq.1,seval]) ?_;have ns:NS (aN c) out NR [] (HS++[.cells []]):=by
      have old:∀j x,HS[j]? =some x->(HS++[O.cells []])[j]? =some x:=fun j x hx=>by rw[zqj (zqe hx).1];exact hx
      exact⟨old _ _ s1,old _ _ s3,old _ _ s4,old _ _ s5,old _ _ s6,by rw[hNR];simp,hN8⟩
     have hfin:Ed (aN c) (gins c)=yS (aN c) out c.gates.length:=by unfold Ed yS;rw[<-hout,hgd]
     rw [show zX (List.map (fun x => x.name) c.gates) (List.map (fun x => x.ins) c.gates) = out from hout.symm,show Ed (List.map (fun x => x.name) c.gates) (List.map (fun x => x.ins) c.gates) = yS (aN c) out c.gates.length from hfin];refine aK (fun m f h => ∃ i,m + i = c.gates.length /\ i <= c.gates.length /\ NS (aN c) out NR (yS (aN c) out i) h /\ f.t 4 = .lp 1 0 /\ f.t 5 = .lp 4 0 /\ f.t 7 = .ls NR 1 0 (yS (aN c) out i).length (yS (aN c) out i).length /\ f.t 32 = jD c.gates /\ f.t 33 = vi c.gates.length /\ f.t 34 = vi i /\ f.d = [6]) c.gates.length
      ⟨0,by omega,by omega,ns,by simp only[wq.1,seval,k1],by simp only[wq.1,seval,k4],by(simp only[wq.1,↓reduceIte];rw[hNR];rfl),by simp only[wq.1,seval],by simp only[wq.1,seval],by simp only[wq.1,↓reduceIte,Nat.reduceEqDiff];rfl,by simp only[wq.1]⟩ ?_
     clear ns s0 s1 s3 s4 s5 s6 k0 k1 k3 k4 k6 k7 hp4;rintro m f h ⟨i,hm,hil,ns,t4,t5,t7,t32,t33,t34,hd⟩;have hw:=aB (show i<maxLen by omega);have n4:=ns.s4;have n3:=ns.s3;have n6:=ns.s6;have nN:=ns.sN;have n1:=ns.s1;have nl:=Nv (l:=aN c) (out:=out) (i:=i);refine vn ?_;simp only[wq.1,Nat.reduceLT,t33,t34];refine vn ?_;simp only[wq.1,↓reduceIte];refine vcB.mk (fun hlt=> ?_) (fun hlt=> ?_)
     ·have hlt:i<c.gates.length:=by have:=zqs hlt;omega
      obtain⟨g,hg⟩:∃g,g=c.gates[i]:=⟨_,rfl⟩;have hgg:=wF hlt .any;rw[<-hg]at hgg;have hgn:(aN c).getD i []=g.name:=by rw[hg,zqg,zqo,zqk hlt];rfl
      have hla:=P6 hnd (out:=out) (a:=i) (by omega);have hsu:=JG (l:=aN c) (out:=out) (i:=i);rw[hgn]at hla hsu;obtain⟨cp,hcp⟩:∃cp:O,cp= .cells [.str g.name,vi g.op,aW g.ins,aW g.rows,.bool g.off]:=⟨_,rfl⟩;have ns2:=ns.more cp;have hgE:∀x:O,(h++[x])[h.length]? =some x:=fun x=>by simp
      have hgS:∀y:O,(h++[y]).set h.length (.cells [.str g.name,vi g.op,aW g.ins,aW g.rows,.bool g.off])=h++[.cells [.str g.name,vi g.op,aW g.ins,aW g.rows,.bool g.off]]:=fun y=>by simp
      have m4:∀o:O,(h++[o])[4]? =some (.cells [.lm 3]):=fun o=>(ns.more o).s4;have m3:∀o:O,(h++[o])[3]? =some (mM (aN c) out):=fun o=>(ns.more o).s3;unfold mM at m3;cases hat:at? (pO (aN c) out) g.name with
      |none=>rw[hat]at hla;rw[<-hla,if_neg (by decide)]at hsu;simp only[wq.1];refine vm ?_;simp only[wq.1,seval,t5,t32,t34,hgg,hgE,hgS,m4,m3,nU,dw,hat,hw];refine⟨⟨by omega,by omega⟩,?_⟩;refine .inl ⟨m-1,by omega,i+1,by omega,by omega,by rw[hsu,<-hcp];exact ns2,by simp only[wq.1,seval,t4],by simp only[wq.1,seval,t5],by(simp only[wq.1,seval,t7,hsu]),by simp only[wq.1,seval,t32],by simp only[wq.1,seval,t33],by simp only[wq.1,↓reduceIte],by simp only[wq.1,hd]⟩
      |some k =>
       rw[hat]at hla;rw[<-hla,if_pos (show(some k).isSome=true from rfl)]at hsu;have hkl:k<(iY c.gates.length out).length:=by
        have:=(ru hat).1;unfold pO at this;rw[zra,<-hgd]at this;exact this
       have hkv:=SN hkl .any;obtain⟨X3,hX3⟩:∃X3,X3=(yS (aN c) out (i+1)).map V.str:=⟨_,rfl⟩;have hnx:(yS (aN c) out i).map V.str++[.str g.name]=X3:=by rw[hX3,hsu,zql];rfl
       have hd3:V.drops (fun x=>x==NR) X3=X3:=by rw[hX3,aA]
       have mN:∀o:O,(h++[o])[NR]? =some (.cells ((yS (aN c) out i).map V.str)):=fun o=>(ns.more o).sN;have b6:(6==NR)=false:=by rw[beq_eq_false_iff_ne];omega
       have b1:(1==NR)=false:=by rw[beq_eq_false_iff_ne];omega
       have b4:(4==NR)=false:=by rw[beq_eq_false_iff_ne];omega
       simp only[wq.1];refine vm ?_;simp only[wq.1,↓reduceIte,Nat.reduceEqDiff,Nat.reduceLT,Nat.reduceLeDiff,Nat.reduceAdd,reduceCtorEq,Nat.reduceMul,t5,t7,t32,t34,hd,hgg,hgE,hgS,m4,m3,mN,nU,dw,hat,hkv,hnx,hd3,b6,hw];refine⟨⟨by omega,by omega⟩,⟨rfl,by decide⟩,⟨by omega,by omega,by omega⟩,?_⟩;have hln:(yS (aN c) out (i+1)).length=(yS (aN c) out i).length+1:=by rw[hsu];simp
       have ns3:=ns2.app (yS (aN c) out (i+1));rw[zql,<-hX3,hcp]at ns3;refine .inl ⟨m-1,by omega,i+1,by omega,by omega,ns3,by simp only[wq.1,seval,t4,b1],by simp only[wq.1,seval,t5,b4],by(simp only[wq.1,seval,hln]),by simp only[wq.1,seval,t32],by simp only[wq.1,seval,t33],by simp only[wq.1,↓reduceIte],by simp only[wq.1,hd]⟩
     ·have hi:i=c.gates.length:=by have:=of_decide_eq_false hlt;omega
      rw[hi]at ns t7;simp only[wq.1];refine vm ?_;simp only[wq.1,seval,t4,t7,n1,hd,eF,n6];have nr:=ns.r;refine az.tup (ak.cons (rC ?_) (ak.cons (aY (id:=NR) ?_ rfl) ak.nil))
      ·rw[zqn (by omega)];exact ns.s5
      ·rw[zqn (by omega)];exact ns.sN
 ·rw[if_neg h0];simp only[wq.1,seval,h0];exact az.tup (ak.cons az.nils (ak.cons az.nils ak.nil))
theorem uZ[MO](c:Ci)(hs:Sum c):Ev TE 9 [c.v] (.tup [vi (wR c).1,.str (wR c).2]):=by
 have hM:=mLx;have hN:=Au c hs;have hS:=P7 c hs;have hnd:V.dats (bZ (FM c).1)=true:=kH _;unfold wR;by_cases h0:(lJ c).1=0
 ·have e0:((lJ c).1 != 0)=false:=by simp[h0]
  rw[if_neg (by simpa using h0)];refine ah Tryz.func9 rfl (by simp[nts]) (vm ?_);simp only[wq.1,seval,Tryz.results9];refine ag.ev hN (iF c) ?_;simp only[wq.1,↓reduceIte,Nat.reduceEqDiff,Nat.reduceLT,Nat.reduceAdd,reduceCtorEq,e0];obtain⟨nl,hnl⟩:∃nl,nl=(FM c).2:=⟨_,rfl⟩;rw[<-hnl]at hS ⊢;cases nl with
  |nil=>refine ag.ev hS (iF c) ?_;simp only[wq.1,↓reduceIte,Nat.reduceEqDiff,Nat.reduceLT,Nat.reduceAdd];rw[show decide (0<((0:Nat):Int))=false from rfl];simp only[wq.1,seval];exact az.tup (ak.cons (az.dat rfl) (ak.cons (az.dat rfl) ak.nil))
  |cons s nl =>
   refine ag.ev hS (iF c) ?_;have hg:((s::nl).map V.str).getD 0 .any= .str s:=rfl;have hpos:decide (0<((nl.length+1:Nat):Int))=true:=by rw[zqb];omega
   simp only[wq.1,seval,hpos];exact⟨by decide +kernel,by omega,az.tup (ak.cons (az.dat rfl) (ak.cons (az.dat rfl) ak.nil))⟩
 ·have e0:((lJ c).1 != 0)=true:=by simpa using h0
  rw[if_pos h0];refine ah Tryz.func9 rfl (by simp[nts]) (vm ?_);simp only[wq.1,seval,Tryz.results9];refine ag.ev hN (iF c) ?_;simp only[wq.1,seval,e0];exact az.tup (ak.cons (az.dat rfl) (ak.cons (az.dat rfl) ak.nil))
theorem Tn:Abs.ti P 243=some {kind:= .arr 64 5 (some .u8),size:=64,bytes:=64,zero:= .agg (List.replicate 64 (.int .u8 0))}:=rfl
def z65:List V:=List.replicate 65 (.int .u8 0)
theorem Nw:Abs.ti P 230=some {kind:= .arr 65 5 (some .u8),size:=65,bytes:=65,zero:= .agg z65}:=rfl
theorem Ov{i x:Nat}{suf:S}{b:UInt8}(hi:i+1+suf.length=65)(hx:V.int .u8 (x:Int)=vb b):(List.replicate (i+1) (V.int .u8 0)++suf.map vb).take (i*1)++[V.int .u8 (x:Int)]++(List.replicate (i+1) (V.int .u8 0)++suf.map vb).drop (i*1+1)=List.replicate i (V.int .u8 0)++(b::suf).map vb:=by rw[Nat.mul_one,List.take_append_of_le_length (by simp),List.take_replicate,Nat.min_eq_left (by omega),List.drop_left' (by simp),hx,zqc];rfl
def sO:Nat->Nat->S
 |0,_=>[]
 |f+1,k=>if k<2 then [UInt8.ofNat (48+k)]else sO f (k/2)++[UInt8.ofNat (48+k%2)]
theorem JI{f k:Nat}(h:2<=k):sO (f+1) k=sO f (k/2)++[UInt8.ofNat (48+k%2)]:=by rw[sO,if_neg (by omega)]
theorem AZ:∀(f g k:Nat),k<2^f->k<2^g->0<f->0<g->sO f k=sO g k
 |f+1,g+1,k,hf,hg,_,_=>by
  rw[sO,sO];split
  ·rfl
  ·rename_i h;rw[Nat.pow_succ]at hf hg;cases f with
   |zero=>omega
   |succ f=>cases g with
    |zero=>omega
    |succ g=>rw[AZ (f+1) (g+1) (k/2) (by omega) (by omega) (by omega) (by omega)]
theorem P8[MO]:Ev TE 163 [.int .u64 2] (vi 1):=by
 have e0:IntKind.u64.wrap ((BitVec.ofInt IntKind.u64.bits 2 &&& BitVec.ofInt IntKind.u64.bits (IntKind.u64.wrap (-2))).toNat:Int)=2:=by decide +kernel
 have e1:(IntKind.u64.wrap (2*285870213051353865)).fdiv (2^min 58 IntKind.u64.bits)=1:=by decide +kernel
 have e2:(CG.map fun n=>V.int .u8 n).length=64:=rfl;have e3:(CG.map fun n=>V.int .u8 n).getD 1 .any= .int .u8 1:=rfl;obtain⟨T,hT⟩:∃T,T=CG.map fun n=>V.int .u8 n:=⟨_,rfl⟩;have g3:=gl3;rw[<-hT]at e2 e3 g3;refine ah Tryz.func163 rfl (by simp[nts]) (vm ?_);have c1:eY P [] 5 3 (.int .u8 1)=(True,vi 1):=by unfold eY;simp only[tis];rfl
 simp only[wq.1,↓reduceIte,Nat.reduceEqDiff,Nat.reduceLT,Nat.reduceLeDiff,Nat.reduceAdd,Nat.reduceSub,Int.reduceToNat,Nat.reduceDiv,Int.reduceLT,Int.reduceLE,Int.reduceNeg,Int.reduceBEq,Int.reduceBNe,Int.reduceAdd,Int.reduceSub,Nat.reduceBEq,reduceCtorEq,Nat.reduceMul,aj,Tryz.results163,g3,fD,e0,e1,e2,e3,Tn,c1];exact⟨by decide,az.dat rfl⟩
theorem Tq[MO]:Ev TE 148 [.int .u64 2] (vi 1):=by have h:=P8;refine ah Tryz.func148 rfl (by simp[nts]) (vm ?_);simp only[wq.1,seval,Tryz.results148];refine ag.ev h rfl ?_;simp only[wq.1,seval];exact az.dat rfl
theorem P9[MO]:Ev TE 147 [vi 2] (.bool true):=by
 have e:(IntKind.i64.wrap ((BitVec.ofInt IntKind.i64.bits 2 &&& BitVec.ofInt IntKind.i64.bits (IntKind.i64.wrap 1)).toNat:Int)==0)=true:=by decide +kernel
 refine ah Tryz.func147 rfl (by simp[nts]) (vm ?_);simp only[wq.1,seval,Tryz.results147,e];exact az.dat rfl
theorem Ny:∀n,n<=8->1<=n->∀k,k<2^n->(sO 65 k).length<=n/\List.replicate (n-(sO 65 k).length) 48++sO 65 k=zS n k/\(sO 65 k).count 49=oz k:=by
 have h:∀n,n<9->(if 1<=n then(List.range (2^n)).all fun k=>decide ((sO 65 k).length<=n)&&(List.replicate (n-(sO 65 k).length) 48++sO 65 k==zS n k)&&((sO 65 k).count 49==oz k)else true)=true:=by decide +kernel
 intro n hn h1 k hk;have h2:=h n (by omega);rw[if_pos h1]at h2;have h3:=zrs.1 h2 k (List.mem_range.2 hk);simp only[zqf,zqb,beq_iff_eq]at h3;exact⟨h3.1.1,h3.1.2,h3.2⟩
theorem Nz{h:H}{l:S}{ex:List V}{k cap:Nat}(hc:h[k]? =some (.cells (ex++l.map vb))):eY P h 58 9 (.ls k 1 ex.length l.length cap)=(True,.str l):=by
 have h1:dC h k=ex++l.map vb:=by simp only[dC,hc]
 have h2:dS (((dC h k).drop ex.length).take l.length)=some l:=by rw[h1,List.drop_left' rfl,zqh (by simp),uK]
 have h3:ex.length+l.length<=(dC h k).length:=by rw[h1];simp
 unfold eY;simp only[tis,h2,h3,and_self]
theorem NC[MO](k:Nat)(hk:k<256):Ev TE 121 [.nils,.int .u64 k,vi 2,.bool false,.bool false] (.tup [.is false 1 [],.str (sO 65 k)]):=by
 have hM:=mLx;have hT:=Tq;have hp:=P9;refine ah Tryz.func121 rfl (by simp[nts]) ?_;refine vn ?_;simp only[wq.1,seval,Tryz.results121];refine vn ?_;simp only[wq.1,seval];have hz:z65=List.replicate 65 (V.int .u8 0)++([]:S).map vb:=by unfold z65;simp
 have hv:V.vc (.agg z65)=z65:=rfl;have w1:IntKind.u64.wrap 2=2:=by decide
 have w2:IntKind.u64.wrap 1=1:=by decide
 obtain⟨R,hR⟩:∃R,R=sO 65 k:=⟨_,rfl⟩;rw[<-hR];refine vn ?_;simp only[wq.1,Nat.reduceLT,Nw];rw[hz];refine vn ?_;simp only[wq.1,Nat.reduceLT];refine vn ?_;simp only[wq.1,seval];refine au ?_;refine vn ?_;simp only[wq.1,seval];refine ag.ev hp rfl ?_;simp only[wq.1];refine vm ?_;simp only[wq.1,seval,PO,w1];refine ag.ev hT rfl ?_;have Jo:∀h:H,eY P h 3 183 (vi 2)=(True,.int .u64 2):=fun h=>by unfold eY;simp only[tis];rfl
 simp only[wq.1,seval,PO,w1,w2,Jo];have hand:∀u:Nat,u<256->(BitVec.ofInt IntKind.u64.bits (u:Int) &&& BitVec.ofInt IntKind.u64.bits 1).toNat=u%2:=by
  intro u hu;have h:(List.range 256).all (fun u=>(BitVec.ofInt IntKind.u64.bits (u:Int) &&& BitVec.ofInt IntKind.u64.bits 1).toNat==u%2)=true:=by decide +kernel
  exact beq_iff_eq.1 (zrs.1 h u (List.mem_range.2 hu))
 refine aK (fun m f h => ∃ (u i : Nat) (suf : S),m = u /\ u < 256 /\ 1 <= i /\ i + suf.length = 65 /\ u < 2 ^ i /\ R = sO 65 u ++ suf /\ f.t 1 = .int .u64 u /\ f.t 3 = .bool false /\ f.t 4 = .bool false /\ f.t 10 = .nils /\ f.t 12 = .lp 0 0 /\ f.t 13 = vi i /\ f.t 14 = .int .u64 1 /\ f.t 15 = .int .u64 2 /\ f.t 16 = .int .u64 1 /\ f.d = [] /\ h = [.cells (List.replicate i (.int .u8 0) ++ suf.map vb)]) k
  ⟨k,65,[],rfl,hk,by decide,rfl,Nat.lt_of_lt_of_le hk (by decide),by rw[hR,zqp],by simp only[wq.1,seval],by simp only[wq.1,seval],by simp only[wq.1,seval],by simp only[wq.1,seval],by simp only[wq.1,seval],by simp only[wq.1,↓reduceIte,Nat.reduceEqDiff];rfl,by simp only[wq.1,↓reduceIte,Nat.reduceEqDiff,Nat.reduceLT,Nat.reduceLeDiff,Nat.reduceAdd,Nat.reduceSub,Int.reduceToNat,Nat.reduceDiv,Int.reduceLT,Int.reduceLE,Int.reduceNeg,Int.reduceBEq,Int.reduceBNe,Int.reduceAdd,Int.reduceSub,Nat.reduceBEq,reduceCtorEq,Nat.reduceMul,aj,Tryz.results121],by simp only[wq.1,↓reduceIte,Nat.reduceEqDiff,Nat.reduceLT,Nat.reduceLeDiff,Nat.reduceAdd,Nat.reduceSub,Int.reduceToNat,Nat.reduceDiv,Int.reduceLT,Int.reduceLE,Int.reduceNeg,Int.reduceBEq,Int.reduceBNe,Int.reduceAdd,Int.reduceSub,Nat.reduceBEq,reduceCtorEq,Nat.reduceMul,aj,Tryz.results121],by simp only[wq.1,↓reduceIte,Nat.reduceEqDiff,Nat.reduceLT,Nat.reduceLeDiff,Nat.reduceAdd,Nat.reduceSub,Int.reduceToNat,Nat.reduceDiv,Int.reduceLT,Int.reduceLE,Int.reduceNeg,Int.reduceBEq,Int.reduceBNe,Int.reduceAdd,Int.reduceSub,Nat.reduceBEq,reduceCtorEq,Nat.reduceMul,aj,Tryz.results121],by simp only[wq.1,↓reduceIte,Nat.reduceEqDiff,Nat.reduceLT,Nat.reduceLeDiff,Nat.reduceAdd,Nat.reduceSub,Int.reduceToNat,Nat.reduceDiv,Int.reduceLT,Int.reduceLE,Int.reduceNeg,Int.reduceBEq,Int.reduceBNe,Int.reduceAdd,Int.reduceSub,Nat.reduceBEq,reduceCtorEq,Nat.reduceMul,aj,Tryz.results121],by simp⟩ ?_
 rintro m f h ⟨u,i,suf,rfl,hu,hpos,hi,hui,hRR,t1,t3,t4,t10,t12,t13,t14,t15,t16,hd,rfl⟩;refine vn ?_;simp only[wq.1,seval,t1,t15];obtain⟨j,rfl⟩:∃j,i=j+1:=⟨i-1,by omega⟩;have wj:IntKind.i64.wrap (((j+1:Nat):Int)-1)=(j:Int):=by rw[gG (by omega) (by omega)];omega
 refine vcB.mk (fun hge=> ?_) (fun hge=> ?_)
 ·have hge:2<=m:=by have:=zqs hge;omega
  have ha:=hand m hu;have hsh:(m:Int).fdiv (2^min 1 IntKind.u64.bits)=((m/2:Nat):Int):=by rw[show(2:Int)^min 1 IntKind.u64.bits=((2:Nat):Int)from rfl,Int.fdiv_eq_ediv_of_nonneg _ (by omega)];rfl
  simp only[wq.1];refine aH ?_;refine vn ?_;simp only[wq.1,seval,t13,wj];refine vn ?_;simp only[wq.1,seval,t1,t12,t16,ha,Nw];have hw0:IntKind.u64.wrap ((m%2:Nat):Int)=((m%2:Nat):Int):=by
   rcases Nat.mod_two_eq_zero_or_one m with h|h<;>rw[h]<;>decide
  have hd2:([48,49,50,51,52,53,54,55,56,57,97,98,99,100,101,102,103,104,105,106,107,108,109,110,111,112,113,114,115,116,117,118,119,120,121,122]:List UInt8).getD (IntKind.u64.wrap ((m%2:Nat):Int)).toNat 0=UInt8.ofNat (48+m%2):=by rw[hw0];rcases Nat.mod_two_eq_zero_or_one m with h|h<;>rw[h]<;>rfl
  have hf:=Ov (i:=j) (suf:=suf) (b:=UInt8.ofNat (48+m%2)) (x:=(UInt8.ofNat (48+m%2)).toNat) hi rfl;rw[hd2,hf,hw0];refine⟨⟨by omega,by omega⟩,⟨by omega,by omega⟩,(by simp<;>omega),?_⟩;have hj1:1<=j:=by
   rcases Nat.eq_zero_or_pos j with h0|h0
   ·subst h0;have h2:(2:Nat)^(0+1)=2:=rfl;rw[h2]at hui;omega
   ·exact h0
  have hm2:m/2<2^j:=by rw[Nat.pow_succ]at hui;omega
  refine vm ?_;simp only[wq.1,seval,t1,t14,hsh];refine .inl ⟨m/2,by omega,m/2,j,UInt8.ofNat (48+m%2)::suf,rfl,by omega,hj1,by simp;omega,hm2,?_,by simp only[wq.1,↓reduceIte],by simp only[wq.1,seval,t3],by simp only[wq.1,seval,t4],by simp only[wq.1,seval,t10],by simp only[wq.1,seval,t12],by simp only[wq.1,seval],by simp only[wq.1,seval,t14],by simp only[wq.1,seval,t15],by simp only[wq.1,seval,t16],by simp only[wq.1,hd],rfl⟩;rw[hRR,JI hge,AZ 64 65 (m/2) (by omega) (by omega) (by omega) (by omega),zqc];rfl
 ·have hlt:m<2:=by have:=of_decide_eq_false hge;omega
  simp only[wq.1,seval,t1,t12,t13,wj,Nw];have hd2:([48,49,50,51,52,53,54,55,56,57,97,98,99,100,101,102,103,104,105,106,107,108,109,110,111,112,113,114,115,116,117,118,119,120,121,122]:List UInt8).getD m 0=UInt8.ofNat (48+m):=by
   have:m=0\/m=1:=by omega
   rcases this with rfl|rfl<;>rfl
  have hf:=Ov (i:=j) (suf:=suf) (b:=UInt8.ofNat (48+m)) (x:=(UInt8.ofNat (48+m)).toNat) hi rfl;rw[hd2,hf];refine⟨⟨by omega,by omega⟩,⟨by omega,by omega⟩,(by simp<;>omega),?_⟩;have hb:sO 65 m=[UInt8.ofNat (48+m)]:=by rw[sO,if_pos hlt]
  rw[hb]at hRR;have hR2:R=UInt8.ofNat (48+m)::suf:=hRR;rw[<-hR2];have hRl:R.length=65-j:=by rw[hR2];simp;omega
  refine au ?_;refine vn ?_;simp only[wq.1,seval,t3];refine vm ?_;simp only[wq.1,↓reduceIte];refine au ?_;refine vn ?_;simp only[wq.1,seval,t4];refine vm ?_;simp only[wq.1,↓reduceIte];refine au (iV ?_);refine ay rfl rfl ?_;simp only[wq.1,seval];refine fQ rfl rfl ?_;have hre:Abs.ti TE.P 5=some ⟨.int .u8,1,1,.int .u8 0⟩:=by simp only[wq.1]
  obtain⟨X,hX⟩:∃X,X=List.replicate j (V.int .u8 0)++R.map vb:=⟨_,rfl⟩;have hXl:X.length=65:=by rw[hX];simp;omega
  rw[<-hX];refine vZ (t:=230) rfl Nw rfl hre (by simp only[wq.1,seval,t12]) (id:=0) (off:=0) (by simp only[wq.1,seval,t12]) rfl (by rw[hXl];decide) (by decide) rfl (a:=j) (by simp only[wq.1,↓reduceIte]) (by simp only[wq.1,↓reduceIte]) (by omega) ?_;have hcv:eY P [O.cells X] 58 9 (.ls 0 1 j (65-j) (65-j))=(True,.str R):=by
   have:=Nz (h:=[O.cells X]) (l:=R) (ex:=List.replicate j (.int .u8 0)) (k:=0) (cap:=65-j) (by rw[hX];rfl);rw[zsc,hRl]at this;exact this
  refine ay rfl rfl ?_;simp only[wq.1,↓reduceIte,hcv];refine ay rfl rfl ?_;simp only[wq.1,↓reduceIte];refine eP ?_;simp only[wq.1];refine vm ?_;simp only[wq.1,seval,t10,hd];exact az.tup (ak.cons az.nils (ak.cons (az.dat rfl) ak.nil))
theorem Qa[MO](k:Nat)(hk:k<256):Ev TE 92 [vi k,vi 2] (.str (sO 65 k)):=by
 have hF:=NC k hk;have hM:=mLx;have w:IntKind.u64.wrap (k:Int)=(k:Int):=by
  have h:(List.range 256).all (fun u=>IntKind.u64.wrap (u:Int)==(u:Int))=true:=by decide +kernel
  exact beq_iff_eq.1 (zrs.1 h k (List.mem_range.2 hk))
 have hc:∀h:H,eY P h 2 183 (vi k)=(True,.int .u64 k):=fun h=>by unfold eY;simp only[tis,w]
 have hn:decide ((k:Int)<0)=false:=by rw[zqd];omega
 refine ah Tryz.func92 rfl (by simp[nts]) (vm ?_);simp only[wq.1,seval,Tryz.results92,hc,hn];refine ag.ev hF rfl ?_;simp only[wq.1,seval];exact az.dat rfl
theorem ND[MO](k:Nat)(hk:k<256):Ev TE 93 [vi k,vi 2] (.str (sO 65 k)):=by have hF:=Qa k hk;refine ah Tryz.func93 rfl (by simp[nts]) (vm ?_);simp only[wq.1,seval,Tryz.results93];refine ag.ev hF rfl ?_;simp only[wq.1,seval];exact az.dat rfl
theorem Dn(c:UInt8)(n:Nat):Lib.repeatL [c] n=List.replicate n c:=by
 induction n with
 |zero=>rfl
 |succ n ih=>rw[Lib.repeatL,ih];rfl
theorem xk[MO](n:Nat)(odd:Bool)(h1:1<=n)(hn:n<=8):Ev TE 51 [vi n,.bool odd] (aW (Gt n odd)):=by
 have hM:=mLx;have hp2:2^n<=256:=Nat.pow_le_pow_right (n:=2) (by decide) hn;have hmin:min n IntKind.i64.bits=n:=Nat.min_eq_left (by show n<=64;omega);obtain⟨N,hN⟩:∃N,N=2^n:=⟨_,rfl⟩;have w0:IntKind.i64.wrap (1*2^n)=(N:Int):=by
  rw[Int.one_mul];have e:((2:Int)^n)=(N:Int):=by rw[hN];simp
  rw[e];exact gG (by omega) (by omega)
 have hpar:Gt n odd=oH n odd N:=by rw[hN];rfl
 rw[hpar];refine ah Tryz.func51 rfl (by simp[nts]) ?_;refine vn ?_;simp only[wq.1,Nat.reduceLT,Tryz.results51];refine vn ?_;simp only[wq.1,Nat.reduceLT];refine vn ?_;simp only[wq.1,seval,hmin,w0];refine⟨by omega,?_⟩;refine jW 5 1 (by simp only[wq.1,seval]) ?_;refine aK (fun m f h=>∃k,m+k=N/\f.t 0=vi n/\f.t 1= .bool odd/\f.t 5= .ls 0 1 0 (oH n odd k).length (oH n odd k).length/\f.t 9=vi N/\f.t 10=vi k/\f.d=[]/\h=[.cells ((oH n odd k).map V.str)]) N ⟨0,by omega,by simp only[wq.1,seval],by simp only[wq.1,seval],by(simp only[wq.1,↓reduceIte];rfl),by simp only[wq.1,seval],by simp only[wq.1,↓reduceIte,Nat.reduceEqDiff];rfl,by simp only[wq.1],rfl⟩ ?_;rintro m f h ⟨k,hm,t0,t1,t5,t9,t10,hd,rfl⟩;have hwk:=aB (show k<maxLen by omega);refine vn ?_;simp only[wq.1,Nat.reduceLT,t9,t10];refine vn ?_;simp only[wq.1,↓reduceIte];refine vcB.mk (fun hlt=> ?_) (fun hlt=> ?_)
 ·have hlt:k<N:=by have:=zqs hlt;omega
  have hps:=Ar (n:=n) (odd:=odd) (k:=k);obtain⟨b1,b2,b3⟩:=Ny n hn h1 k (hN▸hlt);obtain⟨Bk,hBk⟩:∃Bk,Bk=sO 65 k:=⟨_,rfl⟩;have hF:=ND k (by omega);have hC:=Ae Bk 49;rw[<-hBk]at b1 b2 b3 hF;have hod:(((oz k:Nat):Int).tmod 2==1)=(oz k%2==1):=by rw[Bool.eq_iff_iff,beq_iff_eq,beq_iff_eq,Int.tmod_eq_emod_of_nonneg (by omega)];omega
  have hRp:=kC [48] (n-Bk.length) (by decide) (by omega);rw[Dn]at hRp;rw[b3]at hC;have hol:=yG (n:=n) (odd:=odd) (k:=k);have wn:IntKind.i64.wrap ((n:Int)-Bk.length)=((n-Bk.length:Nat):Int):=by rw[gG (by omega) (by omega)];omega
  simp only[wq.1];refine au ?_;refine aH ?_;refine vn ?_;simp only[wq.1,seval,t10];refine vn ?_;simp only[wq.1,seval];refine ag.ev hF rfl ?_;simp only[wq.1,seval];refine vn ?_;simp only[wq.1,↓reduceIte,Nat.reduceEqDiff,Nat.reduceLT,Nat.reduceLeDiff,Nat.reduceAdd,Nat.reduceSub,Int.reduceToNat,Nat.reduceDiv,Int.reduceLT,Int.reduceLE,Int.reduceNeg,Int.reduceBEq,Int.reduceBNe,Int.reduceAdd,Int.reduceSub,Nat.reduceBEq,reduceCtorEq,Nat.reduceMul,aj,Tryz.results51];refine ag.ev hC rfl ?_;simp only[wq.1,↓reduceIte,Nat.reduceEqDiff,Nat.reduceLT,Nat.reduceLeDiff,Nat.reduceAdd,Nat.reduceSub,Int.reduceToNat,Nat.reduceDiv,Int.reduceLT,Int.reduceLE,Int.reduceNeg,Int.reduceBEq,Int.reduceBNe,Int.reduceAdd,Int.reduceSub,Nat.reduceBEq,reduceCtorEq,Nat.reduceMul,aj,Tryz.results51,aX,t0,t1,t5,t9,t10,hd,hod];refine⟨by decide,?_⟩;obtain⟨b,hb⟩:∃b,b=(oz k%2==1):=⟨_,rfl⟩;rw[<-hb]at hps ⊢;have hnr:List.replicate (n-Bk.length) 48++Bk=zS n k:=b2;cases hbo:(b==odd)with
  |false=>rw[hbo,if_neg (by decide)]at hps;refine vm ?_;simp only[wq.1,↓reduceIte];refine vm ?_;simp only[wq.1,seval,t10,hwk];exact .inl ⟨m-1,by omega,k+1,by omega,by simp only[wq.1,seval,t0],by simp only[wq.1,seval,t1],by simp only[wq.1,seval,t5,hps],by simp only[wq.1,seval,t9],by simp only[wq.1,↓reduceIte],by simp only[wq.1,hd],by rw[hps]⟩
  |true =>
   rw[hbo,if_pos rfl]at hps;refine vm ?_;simp only[wq.1,↓reduceIte,Nat.reduceEqDiff,Nat.reduceLT,Nat.reduceLeDiff,reduceCtorEq,t0,t5,wn];refine ag.ev hRp rfl ?_;obtain⟨X3,hX3⟩:∃X3,X3=(oH n odd (k+1)).map V.str:=⟨_,rfl⟩;have hnx:(oH n odd k).map V.str++[.str (zS n k)]=X3:=by rw[hX3,hps,zql];rfl
   have hd3:V.drops (fun x=>x==0) X3=X3:=by rw[hX3,aA]
   have hln:(oH n odd (k+1)).length=(oH n odd k).length+1:=by rw[hps];simp
   simp only[wq.1,↓reduceIte,Nat.reduceEqDiff,Nat.reduceLT,reduceCtorEq,Nat.reduceMul,hnr,hnx,hd3,hd];refine⟨by rw[zsc];omega,⟨rfl,by decide⟩,⟨by omega,by omega,by omega⟩,?_⟩;refine vm ?_;simp only[wq.1,seval,t10,hwk];exact .inl ⟨m-1,by omega,k+1,by omega,by simp only[wq.1,seval,t0],by simp only[wq.1,seval,t1],by simp only[wq.1,seval,hln],by simp only[wq.1,seval,t9],by simp only[wq.1,↓reduceIte],by simp only[wq.1,hd],by rw[hX3]⟩
 ·have hkN:k=N:=by have:=of_decide_eq_false hlt;omega
  subst hkN;simp only[wq.1];refine vm ?_;simp only[wq.1,seval,t5,hd];exact aY rfl rfl
theorem lq(g:Ga):V.dats [g.v]=true:=by simp only[Ga.v,V.dats,V.dat,aJ,zre]
theorem sQ[MO](g:Ga)(hl:g.ins.length<=1000000):Ev TE 10 [g.v] ((bQ g).v):=by
 have hC:=sJ g;have hM:=mLx;unfold bQ;have hci:(aQ g).ins.length=g.ins.length:=by
  have ho:(fF g).ins=g.ins:=by
   unfold fF
   repeat' split
   all_goals rfl
  unfold aQ
  repeat' split
  all_goals first|rw[ho]|rfl
 obtain⟨q,hq⟩:∃q,q=aQ g:=⟨_,rfl⟩;rw[<-hq]at hC hci ⊢;refine ah Tryz.func10 rfl (by simp[nts]) ?_;refine vn ?_;simp only[wq.1,Nat.reduceLT,Tryz.results10];refine vn ?_;simp only[wq.1,seval];refine ag.ev hC (lq g) ?_;simp only[wq.1,seval];refine au ?_;refine vn ?_;simp only[wq.1,seval];by_cases hc:q.op=10/\q.rows=[]/\q.off=true
 ·have hC2:=sJ {q with rows:=[List.replicate q.ins.length 45],off:=false};have hRp:=kC [45] q.ins.length (by decide) (by omega);rw[Dn]at hRp;rw[if_pos hc];have e1:(q.op==10&&((q.rows.length:Nat):Int)==0&&q.off)=true:=by rw[hc.1,hc.2.1,hc.2.2];rfl
  refine vm ?_;simp only[wq.1,↓reduceIte,Nat.reduceEqDiff,Nat.reduceLT,Nat.reduceLeDiff,Nat.reduceAdd,e1];refine ag.ev hRp rfl ?_;simp only[wq.1,↓reduceIte,Nat.reduceEqDiff,Nat.reduceLT,Nat.reduceLeDiff,Nat.reduceAdd,reduceCtorEq,Nat.reduceMul];refine⟨⟨rfl,by decide⟩,?_⟩;obtain⟨q2,hq2⟩:∃q2:Ga,q2={q with rows:=[List.replicate q.ins.length 45],off:=false}:=⟨_,rfl⟩;rw[<-hq2]at hC2 ⊢;refine jd (h':=[.cells [.str q2.name,vi q2.op,aW q2.ins,aW q2.rows,.bool q2.off],.cells [.str [],.int .i64 0,.nils,.nils,.bool false]]) (by
   have:=HLe.set (h:=[O.cells [V.str q.name,vi q.op,aW q.ins,V.is true 1 [V.str (List.replicate q.ins.length 45)],V.bool false],O.cells [V.str [],V.int IntKind.i64 0,V.nils,V.nils,V.bool false]]) (i:=0) (o':= .cells [.str q2.name,vi q2.op,aW q2.ins,aW q2.rows,.bool q2.off]) rfl (OLe.cells (zrb _) (by rw[hq2];exact fP.cons (VLe.refl _) (fP.cons (VLe.refl _) (fP.cons (VLe.refl _) (fP.cons oh (fP.cons (VLe.refl _) fP.nil))))));exact this) ?_
  refine vn ?_;simp only[wq.1,seval];refine ag.ev hC2 (lq q2) ?_;simp only[wq.1,seval];refine vm ?_;simp only[wq.1,seval];exact az.dat (by have:=lq (aQ q2);simpa only[Ga.v,V.dats,Bool.and_true]using this)
 ·have hC2:=sJ q;rw[if_neg hc];have e1:(q.op==10&&((q.rows.length:Nat):Int)==0&&q.off)=false:=by rw[Bool.eq_false_iff];intro h;simp only[zqf,beq_iff_eq]at h;exact hc ⟨h.1.1,List.eq_nil_of_length_eq_zero (by omega),h.2⟩
  refine vm ?_;simp only[wq.1,↓reduceIte,e1];refine vn ?_;simp only[wq.1,seval];refine ag.ev hC2 (lq q) ?_;simp only[wq.1,seval];refine vm ?_;simp only[wq.1,seval];exact az.dat (by have:=lq (aQ q);simpa only[Ga.v,V.dats,Bool.and_true]using this)
theorem NE[MO](g:Ga)(h:wz g.op g.ins.length=true)(hl:g.ins.length<=1000000):Ev TE 22 [g.v] (.tup [aW (bT g).1,.bool (bT g).2]):=by
 have hM:=mLx;unfold wz at h;simp only[zqf,zqb]at h;obtain⟨h0,h10,hh⟩:=h;have hR1:=kC [49] g.ins.length (by decide) hl;have hR0:=kC [48] g.ins.length (by decide) hl;rw[Dn]at hR1 hR0;obtain⟨k,hk⟩:∃k:Nat,g.op=k:=⟨g.op.toNat,by omega⟩;rw[hk,zsg]at hh;have hkk:k=0\/k=1\/k=2\/k=3\/k=4\/k=5\/k=6\/k=7\/k=8\/k=9\/k=10:=by omega
 rcases hkk with rfl|rfl|rfl|rfl|rfl|rfl|rfl|rfl|rfl|rfl|rfl
 ·have hv:bT g=([],false):=by unfold bT;rw[hk];rfl
  have hk:g.op=0:=hk;rw[hv];refine ah Tryz.func22 rfl (by simp[nts]) (vm ?_);simp only[wq.1,seval,Tryz.results22,hk];refine ag.ev hR1 rfl ?_;simp only[wq.1,seval];refine ag.ev hR0 rfl ?_;simp only[wq.1,seval];exact az.tup (ak.cons az.nils (ak.cons (az.dat rfl) ak.nil))
 ·have hv:bT g=([List.replicate g.ins.length 49],false):=by unfold bT;rw[hk];rfl
  have hk:g.op=1:=hk;rw[hv];refine ah Tryz.func22 rfl (by simp[nts]) (vm ?_);simp only[wq.1,seval,Tryz.results22,hk];refine ag.ev hR1 rfl ?_;simp only[wq.1,↓reduceIte,Nat.reduceEqDiff,Nat.reduceLT,Nat.reduceLeDiff];refine ag.ev hR0 rfl ?_;simp only[wq.1,↓reduceIte,Nat.reduceEqDiff,Nat.reduceLT,Nat.reduceLeDiff,Nat.reduceAdd,Int.reduceBEq,reduceCtorEq,Nat.reduceMul];exact⟨by decide +kernel,⟨rfl,by decide⟩,az.tup (ak.cons (az.ex rfl) (ak.cons (az.dat rfl) ak.nil))⟩
 ·have hv:bT g=([List.replicate g.ins.length 49],false):=by unfold bT;rw[hk];rfl
  have hk:g.op=2:=hk;rw[hv];refine ah Tryz.func22 rfl (by simp[nts]) (vm ?_);simp only[wq.1,seval,Tryz.results22,hk];refine ag.ev hR1 rfl ?_;simp only[wq.1,↓reduceIte,Nat.reduceEqDiff,Nat.reduceLT,Nat.reduceLeDiff];refine ag.ev hR0 rfl ?_;simp only[wq.1,↓reduceIte,Nat.reduceEqDiff,Nat.reduceLT,Nat.reduceLeDiff,Nat.reduceAdd,Int.reduceBEq,reduceCtorEq,Nat.reduceMul];exact⟨by decide +kernel,⟨rfl,by decide⟩,az.tup (ak.cons (az.ex rfl) (ak.cons (az.dat rfl) ak.nil))⟩
 ·have hv:bT g=([List.replicate g.ins.length 48],false):=by unfold bT;rw[hk];rfl
  have hk:g.op=3:=hk;rw[hv];refine ah Tryz.func22 rfl (by simp[nts]) (vm ?_);simp only[wq.1,seval,Tryz.results22,hk];refine ag.ev hR1 rfl ?_;simp only[wq.1,↓reduceIte,Nat.reduceEqDiff,Nat.reduceLT,Nat.reduceLeDiff];refine ag.ev hR0 rfl ?_;simp only[wq.1,↓reduceIte,Nat.reduceEqDiff,Nat.reduceLT,Nat.reduceLeDiff,Nat.reduceAdd,Int.reduceBEq,reduceCtorEq,Nat.reduceMul];exact⟨⟨rfl,by decide⟩,az.tup (ak.cons (az.ex rfl) (ak.cons (az.dat rfl) ak.nil))⟩
 ·have hv:bT g=([List.replicate g.ins.length 49],false):=by unfold bT;rw[hk];rfl
  have hk:g.op=4:=hk;rw[hv];refine ah Tryz.func22 rfl (by simp[nts]) (vm ?_);simp only[wq.1,seval,Tryz.results22,hk];refine ag.ev hR1 rfl ?_;simp only[wq.1,↓reduceIte,Nat.reduceEqDiff,Nat.reduceLT,Nat.reduceLeDiff];refine ag.ev hR0 rfl ?_;simp only[wq.1,↓reduceIte,Nat.reduceEqDiff,Nat.reduceLT,Nat.reduceLeDiff,Nat.reduceAdd,Int.reduceBEq,reduceCtorEq,Nat.reduceMul];exact⟨by decide +kernel,⟨rfl,by decide⟩,az.tup (ak.cons (az.ex rfl) (ak.cons (az.dat rfl) ak.nil))⟩
 ·have hv:bT g=([List.replicate g.ins.length 49],true):=by unfold bT;rw[hk];rfl
  have hk:g.op=5:=hk;rw[hv];refine ah Tryz.func22 rfl (by simp[nts]) (vm ?_);simp only[wq.1,seval,Tryz.results22,hk];refine ag.ev hR1 rfl ?_;simp only[wq.1,↓reduceIte,Nat.reduceEqDiff,Nat.reduceLT,Nat.reduceLeDiff];refine ag.ev hR0 rfl ?_;simp only[wq.1,↓reduceIte,Nat.reduceEqDiff,Nat.reduceLT,Nat.reduceLeDiff,Nat.reduceAdd,Int.reduceBEq,reduceCtorEq,Nat.reduceMul];exact⟨by decide +kernel,⟨rfl,by decide⟩,az.tup (ak.cons (az.ex rfl) (ak.cons (az.dat rfl) ak.nil))⟩
 ·have hv:bT g=([List.replicate g.ins.length 48],true):=by unfold bT;rw[hk];rfl
  have hk:g.op=6:=hk;rw[hv];refine ah Tryz.func22 rfl (by simp[nts]) (vm ?_);simp only[wq.1,seval,Tryz.results22,hk];refine ag.ev hR1 rfl ?_;simp only[wq.1,↓reduceIte,Nat.reduceEqDiff,Nat.reduceLT,Nat.reduceLeDiff];refine ag.ev hR0 rfl ?_;simp only[wq.1,↓reduceIte,Nat.reduceEqDiff,Nat.reduceLT,Nat.reduceLeDiff,Nat.reduceAdd,Int.reduceBEq,reduceCtorEq,Nat.reduceMul];exact⟨⟨rfl,by decide⟩,az.tup (ak.cons (az.ex rfl) (ak.cons (az.dat rfl) ak.nil))⟩
 ·have hv:bT g=([List.replicate g.ins.length 48],false):=by unfold bT;rw[hk];rfl
  have hk:g.op=7:=hk;rw[hv];refine ah Tryz.func22 rfl (by simp[nts]) (vm ?_);simp only[wq.1,seval,Tryz.results22,hk];refine ag.ev hR1 rfl ?_;simp only[wq.1,↓reduceIte,Nat.reduceEqDiff,Nat.reduceLT,Nat.reduceLeDiff];refine ag.ev hR0 rfl ?_;simp only[wq.1,↓reduceIte,Nat.reduceEqDiff,Nat.reduceLT,Nat.reduceLeDiff,Nat.reduceAdd,Int.reduceBEq,reduceCtorEq,Nat.reduceMul];exact⟨⟨rfl,by decide⟩,az.tup (ak.cons (az.ex rfl) (ak.cons (az.dat rfl) ak.nil))⟩
 ·have hv:bT g=(Gt g.ins.length true,false):=by unfold bT;rw[hk];rfl
  have hk:g.op=8:=hk;rw[hv];refine ah Tryz.func22 rfl (by simp[nts]) (vm ?_);simp only[wq.1,seval,Tryz.results22,hk];refine ag.ev hR1 rfl ?_;simp only[wq.1,seval];refine ag.ev hR0 rfl ?_;simp only[wq.1,seval];simp only[BC,zqf,zqb]at hh;refine ag.ev (xk g.ins.length true (by omega) (by omega)) rfl ?_;simp only[wq.1,seval];exact az.tup (ak.cons (az.dat (by simp only[V.dat,aJ])) (ak.cons (az.dat rfl) ak.nil))
 ·have hv:bT g=(Gt g.ins.length false,false):=by unfold bT;rw[hk];rfl
  have hk:g.op=9:=hk;rw[hv];refine ah Tryz.func22 rfl (by simp[nts]) (vm ?_);simp only[wq.1,seval,Tryz.results22,hk];refine ag.ev hR1 rfl ?_;simp only[wq.1,seval];refine ag.ev hR0 rfl ?_;simp only[wq.1,seval];simp only[BC,zqf,zqb]at hh;refine ag.ev (xk g.ins.length false (by omega) (by omega)) rfl ?_;simp only[wq.1,seval];exact az.tup (ak.cons (az.dat (by simp only[V.dat,aJ])) (ak.cons (az.dat rfl) ak.nil))
 ·have hv:bT g=(g.rows,g.off):=by unfold bT;rw[hk];rfl
  have hk:g.op=10:=hk;rw[hv];refine ah Tryz.func22 rfl (by simp[nts]) (vm ?_);simp only[wq.1,seval,Tryz.results22,hk];exact⟨by decide +kernel,az.dat (by simp only[V.dat,V.dats,aJ,zre])⟩
theorem A7:BT 62:=⟨by kernel_rfl,fun k=>by kernel_rfl⟩
def Wr(id b:Nat)(out:S)(h:H):Prop :=
 (out=[]/\h[id]? =some (.typed 62 [.nilp,.nils])/\h.length=b) \/
 (out≠[]/\h[id]? =some (.typed 62 [.lp id 0,.ls b 1 0 out.length out.length])/\h[b]? =some (.typed 5 (out.map vb)))
def A8(id b:Nat)(h h':H):Prop:=∀j,j≠id->j≠b->j<h.length->h'[j]? =h[j]? \/h'[j]? =(h[j]?).map (O.drop (·==b))
theorem fH[MO]{id b:Nat}{out s:S}{h:H}{R:AEnd->H->(Nat->Bool)->Prop}(hne:id≠b)(hw:Wr id b out h)(hs:s≠[])(hl:out.length+s.length<=20000000000000)
 (hr:∀v h' p,(∀j,p j=true->j=b)->Wr id b (out++s) h'->A8 id b h h'->R (.ret v) h' p):ag TE 23 [.lp id 0,.str s] h R:=by
 rcases hw with⟨rfl,h1,h2⟩|⟨ho,h1,h2⟩
 ·have hlt:=(zqe h1).1;refine IU A7 s (.inl rfl) h1 hs (by simpa using hl) ?_;refine hr _ _ _ (fun j hj=>by cases hj) (.inr ⟨by simpa using hs,?_,?_⟩) (fun j hj hjb hjl=> .inl ?_)
  ·rw[zqt (by simp;omega),h2];rfl
  ·rw[zqn hne,zsb (by omega),show b-h.length=0 by omega];rfl
  ·rw[zqn (Ne.symm hj),zqj hjl]
 ·have hlt:=(zqe h1).1;have hlb:=(zqe h2).1;refine LV A7 out s (.inr rfl) hne h1 h2 hl ?_;refine hr _ _ _ (fun j hj=>by simpa using hj) (.inr ⟨by simp[ho],?_,?_⟩) (fun j hj hjb hjl=> .inr ?_)
  ·rw[zqt (by simp;omega)]
  ·rw[zqn hne,zqt (by simp;omega)]
  ·rw[zqn (Ne.symm hj),zqn (Ne.symm hjb),zqo]
theorem A8.refl{id b:Nat}{h:H}:A8 id b h h:=fun j _ _ _=> .inl rfl
mutual
theorem V.drop_same(p:Nat->Bool):∀v:V,(v.drop p).drop p=v.drop p
 | .lp id off=>by
  simp only[V.drop];split
  ·rfl
  ·rename_i h;simp only[V.drop,h,if_false,zrm]
 | .ls id k off len cap=>by
  simp only[V.drop];split
  ·rfl
  ·rename_i h;simp only[V.drop,h,if_false,zrm]
 | .lm id=>by
  simp only[V.drop];split
  ·rfl
  ·rename_i h;simp only[V.drop,h,if_false,zrm]
 | .yd id=>by
  simp only[V.drop];split
  ·rfl
  ·rename_i h;simp only[V.drop,h,if_false,zrm]
 | .fn f x y=>by simp only[V.drop,V.drops_same p x,V.drops_same p y]
 | .iface t e=>by simp only[V.drop,V.drop_same p e]
 | .agg vs=>by simp only[V.drop,V.drops_same p vs]
 | .tup vs=>by simp only[V.drop,V.drops_same p vs]
 | .grd g e=>by simp only[V.drop,V.drop_same p e]
 | .row k es=>by simp only[V.drop,V.drops_same p es]
 | .any | .bool _ | .int _ _ | .str _ | .nilp | .ip _ | .nils | .is _ _ _ | .nilm | .im _ _ | .nilf | .nili=>by simp only[V.drop]
theorem V.drops_same(p:Nat->Bool):∀vs:List V,V.drops p (V.drops p vs)=V.drops p vs
 |[]=>rfl
 |v::vs=>by simp only[V.drops,V.drop_same p v,V.drops_same p vs]
end
theorem Dp(p:Nat->Bool)(o:O):(o.drop p).drop p=o.drop p:=by cases o<;>simp only[O.drop,V.drops_same,V.drop_same]
theorem A8.trans{id b:Nat}{h h1 h2:H}(k1:A8 id b h h1)(k2:A8 id b h1 h2):A8 id b h h2:=fun j a c d=>by
 have hj:=k1 j a c d;have hl:j<h1.length:=by
  have hs:h[j]? =some h[j]:=zqk d;rcases hj with hj|hj
  ·rw[hs]at hj;exact(zqe hj).1
  ·rw[hs]at hj;exact(zqe hj).1
 rcases hj with e1|e1<;>rcases k2 j a c hl with e2|e2
 ·exact .inl (e2.trans e1)
 ·exact .inr (by rw[e2,e1])
 ·exact .inr (e2.trans e1)
 ·refine .inr ?_;rw[e2,e1];cases h[j]? with
  |none=>rfl
  |some o=>simp only[zrw,Dp]
theorem A8.cells{id b j:Nat}{h h':H}{cs:List V}(k:A8 id b h h')(hj:h[j]? =some (.cells cs))(h1:j≠id)(h2:j≠b)(hd:∀p,V.drops p cs=cs):h'[j]? =some (.cells cs):=by
 rcases k j h1 h2 (zqe hj).1 with h3|h3
 ·rw[h3,hj]
 ·rw[h3,hj];show some (O.cells (V.drops _ cs))=_;rw[hd]
theorem xq[MO]{id b:Nat}{out w:S}{l:List S}{h:H}{R:AEnd->H->(Nat->Bool)->Prop}(hne:id≠b)(hw:Wr id b out h)(hww:w≠[])(hl:out.length+(fG w l).length<=20000000000000)(hll:l.length<=1000000)
 (hr:∀v h' p,(∀j,p j=true->j=b)->Wr id b (out++fG w l) h'->A8 id b h h'->R (.ret v) h' p):ag TE 20 [.lp id 0,.str w,aW l] h R:=by
 have hM:=mLx;refine ax Tryz.func20 rfl (by simp[nts]) ?_;refine vn ?_;simp only[wq.1,seval,Tryz.results20];refine fH hne hw hww (by unfold fG at hl;simp at hl;omega) ?_;intro v h1 p hp hw1 hk1;have hpi:p id=false:=by
  cases hc:p id with
  |false=>rfl
  |true=>exact absurd (hp id hc) hne
 simp only [wq.1,aX];refine au ?_;refine vn ?_;simp only [wq.1,seval];refine aH ?_;refine aK (fun m f h' => ∃ i : Nat,m + i = l.length /\ i <= l.length /\ Wr id b (out ++ w ++ (l.take i).flatMap (fun x => 32 :: spV x)) h' /\ A8 id b h h' /\ f.t 0 = .lp id 0 /\ f.t 15 = aW l /\ f.t 16 = vi l.length /\ f.t 17 = vi i /\ f.d = [] /\ (∀ j,f.k j = true -> j = b)) l.length
  ⟨0,by omega,by omega,by simpa using hw1,hk1,by simp only[wq.1,seval,hpi],by simp only[wq.1,seval],by simp only[wq.1,seval],by simp only[wq.1,↓reduceIte];rfl,by simp only[wq.1],fun j hj=>hp j hj⟩ ?_
 clear hw1 hk1 hp hpi h1 v;rintro m f h1 ⟨i,hm,hil,hw1,hk1,t0,t15,t16,t17,hd,hk⟩;have hwi:=aB (show i<maxLen by omega);refine vn ?_;simp only[wq.1,Nat.reduceLT,t16,t17];refine vn ?_;simp only[wq.1,↓reduceIte];refine vcB.mk (fun hlt=> ?_) (fun hlt=> ?_)
 ·have hlt:i<l.length:=by have:=zqs hlt;omega
  obtain⟨s,hs⟩:∃s,s=l[i]:=⟨_,rfl⟩;have hgs:(l.map V.str).getD i .any= .str s:=by rw[dG hlt,hs]
  have hS:=yF s;have hfl:(l.take (i+1)).flatMap (fun x=>32::spV x)=(l.take i).flatMap (fun x=>32::spV x)++(32::spV s):=by rw[List.take_succ_eq_append_getElem hlt,List.flatMap_append,hs];simp
  have hlen2:((l.take (i+1)).flatMap (fun x=>32::spV x)).length<=(l.flatMap (fun x=>32::spV x)).length:=by
   have:l.flatMap (fun x=>32::spV x)=(l.take (i+1)).flatMap (fun x=>32::spV x)++(l.drop (i+1)).flatMap (fun x=>32::spV x):=by rw[<-List.flatMap_append,List.take_append_drop]
   rw[this];simp
  simp only[wq.1];refine au ?_;refine aH ?_;refine vn ?_;simp only[wq.1,seval,t15,t17,hgs];refine⟨⟨by omega,by omega⟩,?_⟩;refine vn ?_;simp only[wq.1,seval];refine ag.ev hS rfl ?_;simp only[wq.1,seval];have hol:out.length+w.length+(l.flatMap (fun x=>32::spV x)).length<=20000000000000:=by
   unfold fG at hl;simp only[zqa,zrt,List.length_nil]at hl;omega
  rw[hfl]at hlen2;simp only[zqa,zrt]at hlen2;refine vm ?_;simp only[wq.1,seval,t0];refine⟨by omega,?_⟩;refine fH hne hw1 (by simp) (by simp only[zqa,zrt];omega) ?_;intro v h2 p hp hw2 hk2;have hpi:p id=false:=by
   cases hc:p id with
   |false=>rfl
   |true=>exact absurd (hp id hc) hne
  simp only[wq.1,aX,hd];refine vm ?_;simp only[wq.1,seval,t17,hwi];refine .inl ⟨m-1,by omega,i+1,by omega,by omega,?_,hk1.trans hk2,by simp only[wq.1,seval,t0,hpi],by simp only[wq.1,seval,t15],by simp only[wq.1,seval,t16],by simp only[wq.1,↓reduceIte],by simp only[wq.1,hd],fun j hj=> ?_⟩
  ·rw[hfl,<-zqc];exact hw2
  ·have hj:(f.k j||p j)=true:=hj;rw[Bool.or_eq_true]at hj;exact hj.elim (hk j) (hp j)
 ·have hi:i=l.length:=by have:=of_decide_eq_false hlt;omega
  rw[hi,zrx]at hw1;have hol:out.length+w.length+(l.flatMap (fun x=>32::spV x)).length+1<=20000000000000:=by
   unfold fG at hl;simp only[zqa,zrt,List.length_nil]at hl;omega
  simp only[wq.1];refine vm ?_;simp only[wq.1,seval,t0];refine fH hne hw1 (by simp) (by simp only[zqa,zrt,List.length_nil];omega) ?_;intro v h2 p hp hw2 hk2;have hpi:p id=false:=by
   cases hc:p id with
   |false=>rfl
   |true=>exact absurd (hp id hc) hne
  simp only[wq.1,aX,hd];refine hr _ _ _ (fun j hj=> ?_) ?_ (hk1.trans hk2)
  ·have hj:(f.k j||p j)=true:=hj;rw[Bool.or_eq_true]at hj;exact hj.elim (hk j) (hp j)
  ·unfold fG;rw[<-zqc,<-zqc];exact hw2
theorem Dq[MO]{id b NR:Nat}{out w:S}{l:List S}{h:H}{R:AEnd->H->(Nat->Bool)->Prop}(hne:id≠b)(hw:Wr id b out h)(hN:h[NR]? =some (.cells (l.map V.str)))(hNi:NR≠id)(hNb:NR≠b)(hww:w≠[])(hl:out.length+(fG w l).length<=20000000000000)(hll:l.length<=1000000)
 (hr:∀v h' p,(∀j,p j=true->j=b)->Wr id b (out++fG w l) h'->A8 id b h h'->R (.ret v) h' p):ag TE 20 [.lp id 0,.str w,.ls NR 1 0 l.length l.length] h R:=by
 have hM:=mLx;refine ax Tryz.func20 rfl (by simp[nts]) ?_;refine vn ?_;simp only[wq.1,seval,Tryz.results20];refine fH hne hw hww (by unfold fG at hl;simp at hl;omega) ?_;intro v h1 p hp hw1 hk1;have hpN:p NR=false:=by
  cases hc:p NR with
  |false=>rfl
  |true=>exact absurd (hp NR hc) hNb
 have hpi:p id=false:=by
  cases hc:p id with
  |false=>rfl
  |true=>exact absurd (hp id hc) hne
 simp only [wq.1,aX];refine au ?_;refine vn ?_;simp only [wq.1,seval,hpN];refine aH ?_;refine aK (fun m f h' => ∃ i : Nat,m + i = l.length /\ i <= l.length /\ Wr id b (out ++ w ++ (l.take i).flatMap (fun x => 32 :: spV x)) h' /\ A8 id b h h' /\ f.t 0 = .lp id 0 /\ f.t 15 = .ls NR 1 0 l.length l.length /\ f.t 16 = vi l.length /\ f.t 17 = vi i /\ f.d = [] /\ (∀ j,f.k j = true -> j = b)) l.length
  ⟨0,by omega,by omega,by simpa using hw1,hk1,by simp only[wq.1,seval,hpi],by simp only[wq.1,seval],by simp only[wq.1,seval],by simp only[wq.1,↓reduceIte];rfl,by simp only[wq.1],fun j hj=>hp j hj⟩ ?_
 clear hw1 hk1 hp hpi hpN h1 v;rintro m f h1 ⟨i,hm,hil,hw1,hk1,t0,t15,t16,t17,hd,hk⟩;have hN1:=hk1.cells hN hNi hNb (fun p=>aA);have hwi:=aB (show i<maxLen by omega);refine vn ?_;simp only[wq.1,Nat.reduceLT,t16,t17];refine vn ?_;simp only[wq.1,↓reduceIte];refine vcB.mk (fun hlt=> ?_) (fun hlt=> ?_)
 ·have hlt:i<l.length:=by have:=zqs hlt;omega
  obtain⟨s,hs⟩:∃s,s=l[i]:=⟨_,rfl⟩;have hgs:(l.map V.str).getD i .any= .str s:=by rw[dG hlt,hs]
  have hgs':(l.map V.str).getD (i*1) .any= .str s:=by rw[Nat.mul_one];exact hgs
  have hS:=yF s;have hfl:(l.take (i+1)).flatMap (fun x=>32::spV x)=(l.take i).flatMap (fun x=>32::spV x)++(32::spV s):=by rw[List.take_succ_eq_append_getElem hlt,List.flatMap_append,hs];simp
  have hlen2:((l.take (i+1)).flatMap (fun x=>32::spV x)).length<=(l.flatMap (fun x=>32::spV x)).length:=by
   have:l.flatMap (fun x=>32::spV x)=(l.take (i+1)).flatMap (fun x=>32::spV x)++(l.drop (i+1)).flatMap (fun x=>32::spV x):=by rw[<-List.flatMap_append,List.take_append_drop]
   rw[this];simp
  simp only[wq.1];refine au ?_;refine aH ?_;refine vn ?_;simp only[wq.1,seval,t15,t17,hgs',hN1];refine⟨⟨by omega,by omega⟩,by omega,?_⟩;refine vn ?_;simp only[wq.1,seval];refine ag.ev hS rfl ?_;simp only[wq.1,seval];have hol:out.length+w.length+(l.flatMap (fun x=>32::spV x)).length<=20000000000000:=by
   unfold fG at hl;simp only[zqa,zrt,List.length_nil]at hl;omega
  rw[hfl]at hlen2;simp only[zqa,zrt]at hlen2;refine vm ?_;simp only[wq.1,seval,t0];refine⟨by omega,?_⟩;refine fH hne hw1 (by simp) (by simp only[zqa,zrt];omega) ?_;intro v h2 p hp hw2 hk2;have hpN:p NR=false:=by
   cases hc:p NR with
   |false=>rfl
   |true=>exact absurd (hp NR hc) hNb
  have hpi:p id=false:=by
   cases hc:p id with
   |false=>rfl
   |true=>exact absurd (hp id hc) hne
  simp only[wq.1,aX,hd];refine vm ?_;simp only[wq.1,seval,t17,hwi];refine .inl ⟨m-1,by omega,i+1,by omega,by omega,?_,hk1.trans hk2,by simp only[wq.1,seval,t0,hpi],by simp only[wq.1,seval,t15,hpN],by simp only[wq.1,seval,t16],by simp only[wq.1,↓reduceIte],by simp only[wq.1,hd],fun j hj=> ?_⟩
  ·rw[hfl,<-zqc];exact hw2
  ·have hj:(f.k j||p j)=true:=hj;rw[Bool.or_eq_true]at hj;exact hj.elim (hk j) (hp j)
 ·have hi:i=l.length:=by have:=of_decide_eq_false hlt;omega
  rw[hi,zrx]at hw1;have hol:out.length+w.length+(l.flatMap (fun x=>32::spV x)).length+1<=20000000000000:=by
   unfold fG at hl;simp only[zqa,zrt,List.length_nil]at hl;omega
  simp only[wq.1];refine vm ?_;simp only[wq.1,seval,t0];refine fH hne hw1 (by simp) (by simp only[zqa,zrt,List.length_nil];omega) ?_;intro v h2 p hp hw2 hk2;have hpi:p id=false:=by
   cases hc:p id with
   |false=>rfl
   |true=>exact absurd (hp id hc) hne
  simp only[wq.1,aX,hd];refine hr _ _ _ (fun j hj=> ?_) ?_ (hk1.trans hk2)
  ·have hj:(f.k j||p j)=true:=hj;rw[Bool.or_eq_true]at hj;exact hj.elim (hk j) (hp j)
  ·unfold fG;rw[<-zqc,<-zqc];exact hw2
theorem NF[MO](k:Nat)(hk:k<10):Ev TE 118 [vi k] (.str [UInt8.ofNat (48+k)]):=by
 have hM:=mLx;have h:k=0\/k=1\/k=2\/k=3\/k=4\/k=5\/k=6\/k=7\/k=8\/k=9:=by omega
 have h10:decide ((k:Int)<10)=true:=by rw[zqb];omega
 have hw:=aB (show k<maxLen by omega);have ht:([48,49,50,51,52,53,54,55,56,57,97,98,99,100,101,102,103,104,105,106,107,108,109,110,111,112,113,114,115,116,117,118,119,120,121,122]:List UInt8).drop k |>.take (k+1-k) |> (·=[UInt8.ofNat (48+k)]):=by rcases h with rfl|rfl|rfl|rfl|rfl|rfl|rfl|rfl|rfl|rfl<;>rfl
 refine ah Tryz.func118 rfl (by simp[nts]) (vm ?_);simp only[wq.1,seval,Tryz.results118,h10,hw];refine⟨⟨by omega,by omega,by omega⟩,?_⟩;have ht':=ht;dsimp only at ht';rw[ht'];exact az.dat rfl
theorem JJ[MO](k:Nat)(hk:k<10):Ev TE 92 [vi k,vi 10] (.str [UInt8.ofNat (48+k)]):=by
 have hS:=NF k hk;have h1:decide ((0:Int)<=(k:Int))=true:=by rw[zqb];omega
 have h2:decide ((k:Int)<100)=true:=by rw[zqb];omega
 refine ah Tryz.func92 rfl (by simp[nts]) (vm ?_);simp only[wq.1,seval,Tryz.results92,h1,h2];refine ag.ev hS rfl ?_;simp only[wq.1,seval];exact az.dat rfl
theorem NG[MO](k:Nat)(hk:k<10):Ev TE 50 [vi k] (.str [UInt8.ofNat (48+k)]):=by have hS:=JJ k hk;refine ah Tryz.func50 rfl (by simp[nts]) (vm ?_);simp only[wq.1,seval,Tryz.results50];refine ag.ev hS rfl ?_;simp only[wq.1,seval];exact az.dat rfl
theorem yK[MO](k:Nat)(hk:k<10):Ev TE 21 [vi k] (.str [UInt8.ofNat (48+k)]):=by have hS:=NG k hk;refine ah Tryz.func21 rfl (by simp[nts]) (vm ?_);simp only[wq.1,seval,Tryz.results21];refine ag.ev hS rfl ?_;simp only[wq.1,seval];exact az.dat rfl
theorem NH[MO](i:Int)(h0:0<=i)(h2:i<=2):Ev TE 21 [.int .i64 (IntKind.i64.wrap (i+IntKind.i64.wrap (i.tdiv 2)))] (.str (I7 i)):=by
 have h:i=0\/i=1\/i=2:=by omega
 rcases h with rfl|rfl|rfl
 ·exact yK 0 (by decide)
 ·exact yK 1 (by decide)
 ·exact yK 3 (by decide)
theorem RD(s:S):(spV s).length<=500:=by
 unfold spV;by_cases h:bz s=true
 ·rw[if_pos h];have hl:=yE h;have hx:∀l:S,(l.flatMap Qp).length=2*l.length:=by
   intro l
   induction l with
   |nil=>rfl
   |cons a l ih=>rw[List.flatMap_cons,zqa,ih,zrt];unfold Qp;simp;omega
  unfold o8;split
  ·unfold bC ww;rw[zqa,hx];simp;omega
  ·omega
 ·rw[if_neg h];simp
theorem iG{w:S}{l:List S}(hw:w.length<=10)(hl:l.length<=1000):(fG w l).length<=600000:=by
 have h:∀l:List S,(l.flatMap (fun x=>32::spV x)).length<=l.length*501:=by
  intro l
  induction l with
  |nil=>simp
  |cons a l ih=>rw[List.flatMap_cons,zqa,zrt,zrt];have:=RD a;omega
 unfold fG;have:=h l;simp only[zqa,zrt,List.length_nil];omega
theorem Ez(c:Ci)(p:Nat->Bool):O.drop p (ciO c)=ciO c:=rfl
structure PW(c:Ci)(out:S)(h:H):Prop where
 w:Wr 1 2 out h
 c0:h[0]? =some (.cells [aW c.ins,aW c.outs,vM c.lat,jD c.gates])
theorem A8.c0{c:Ci}{out out':S}{h h':H}(k:A8 1 2 h h')(pw:PW c out h)(w:Wr 1 2 out' h'):PW c out' h':=⟨w,k.cells pw.c0 (by decide) (by decide) (fun p=>by
 have:=Ez c p;exact O.cells.inj this)⟩
theorem PW.more{c:Ci}{out:S}{h:H}(pw:PW c out h)(ho:out≠[])(o:O):PW c out (h++[o]):=by
 have old:∀j x,h[j]? =some x->(h++[o])[j]? =some x:=fun j x hx=>by rw[zqj (zqe hx).1];exact hx
 refine⟨.inr ?_,old _ _ pw.c0⟩;rcases pw.w with⟨h1,_⟩|⟨_,h2,h3⟩
 ·exact absurd h1 ho
 ·exact⟨ho,old _ _ h2,old _ _ h3⟩
theorem qL{p:Nat->Bool}(hp:∀j,p j=true->j=2){j:Nat}(hj:j≠2):p j=false:=by
 cases h:p j with
 |false=>rfl
 |true=>exact absurd (hp j h) hj
theorem NI[MO]{c:Ci}{out w:S}{l:List S}{x:Bool}{h:H}{R:AEnd->H->(Nat->Bool)->Prop}(pw:PW c out h)(hw:w≠[])(hw2:w.length<=10)(hl:l.length<=1000)(ho:out.length<=10000000000000)
 (hr:∀v h' p,p 0=false->p 1=false->(∀j,p j=true->j=2)->PW c (out++fG w l) h'->A8 1 2 h h'->R (.ret v) h' p):ag TE 20 [.lp 1 0,.str w,.is x 1 (l.map V.str)] h R:=by
 have hll:=iG hw2 hl;exact jB (fP.cons (VLe.refl _) (fP.cons (VLe.refl _) (fP.cons oh fP.nil))) (HLe.refl _) (xq (l:=l) (by decide) pw.w hw (by omega) (by omega) fun v h' p hp hw' hk=>hr v h' p (qL hp (by decide)) (qL hp (by decide)) hp (hk.c0 pw hw') hk)
theorem RH[MO]{c:Ci}{out w:S}{h:H}{R:AEnd->H->(Nat->Bool)->Prop}(pw:PW c out h)(hw:w≠[])(hw2:w.length<=10)(ho:out.length<=10000000000000)
 (hr:∀v h' p,p 0=false->p 1=false->(∀j,p j=true->j=2)->PW c (out++fG w []) h'->A8 1 2 h h'->R (.ret v) h' p):ag TE 20 [.lp 1 0,.str w,.nils] h R:=by
 have hll:=iG (l:=[]) hw2 (by decide);exact jB (fP.cons (VLe.refl _) (fP.cons (VLe.refl _) (fP.cons VLe.nils fP.nil))) (HLe.refl _) (xq (l:=[]) (by decide) pw.w hw (by omega) (by decide) fun v h' p hp hw' hk=>hr v h' p (qL hp (by decide)) (qL hp (by decide)) hp (hk.c0 pw hw') hk)
theorem F7[MO](c:Ci)(hs:Sum c)(h:(wR c).1≠0):Ev TE 8 [c.v] (.tup [.str [],vi 1]):=by
 have hO:=uZ c hs;have e:((wR c).1 != 0)=true:=by simpa using h
 refine ah Tryz.func8 rfl (by simp[nts]) (vm ?_);simp only[wq.1,seval,Tryz.results8];refine ag.ev hO (iF c) ?_;simp only[wq.1,seval,e];exact az.tup (ak.cons (az.dat rfl) (ak.cons (az.dat rfl) ak.nil))
end Go.Proofs.YtokppohljajhjaaGreatDoor
