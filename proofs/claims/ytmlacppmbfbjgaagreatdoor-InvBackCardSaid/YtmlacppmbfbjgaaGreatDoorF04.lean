/- Lemmas for this claim, part F04: each holds under what it names. -/
import Derived.Test.YtmlacppmbfbjgaaGreatDoorF03
import Derived.Test.YtmlacppmbfbjgaaGreatDoorA8
set_option linter.unusedVariables false
set_option linter.unusedSimpArgs false
set_option linter.unnecessarySimpa false
set_option maxRecDepth 20000
namespace Go.Proofs.YtmlacppmbfbjgaaGreatDoor
open Go Go.Proofs Go.Abs
section
variable {n:Nat} {bud:Int} {L:Lay} {S:St} {h:H}
theorem HR.congr (k : HR n L S h) {h' : H} (he : ∀ i r,L.ro i = some r → r ≠ .s → h'[i]? = h[i]?) (hl : h.length ≤ h'.length) : HR n L S h' where
 var:=by rw[he _ _ k.rv (by simp)];exact k.var
 map:=by
  obtain⟨ks,h1,h2⟩:=k.map;exact⟨ks,by rw[he _ _ k.rm (by simp)];exact h1,h2⟩
 trl:=by rw[he _ _ k.rt (by simp)];exact k.trl
 lvl:=by rw[he _ _ k.rl (by simp)];exact k.lvl
 nxl:=by rw[he _ _ k.rx (by simp)];exact k.nxl
 lnl:=by rw[he _ _ k.rg (by simp)];exact k.lnl
 lnk i hi:=by
  obtain⟨h1,h2⟩:=k.lnk i hi;exact⟨by rw[he _ _ h2 (by simp)];exact h1,h2⟩
 cla j hj:=by
  obtain⟨h1,h2⟩:=k.cla j hj;exact⟨by rw[he _ _ h2 (by simp)];exact h1,h2⟩
 wat a:=by
  have:=k.wat a;unfold fK at this ⊢;cases hw:L.w a with
  | none=>rw[hw]at this;exact this
  | some id=>rw[hw]at this;exact⟨by rw[he _ _ this.2 (by simp)];exact this.1,this.2⟩
 fre:=k.fre
 fwt:=k.fwt
 rs:=k.rs
 rv:=k.rv
 rm:=k.rm
 rt:=k.rt
 rl:=k.rl
 rx:=k.rx
 rg:=k.rg
 rlt i r hr:=Nat.lt_of_lt_of_le (k.rlt i r hr) hl
 ext i o ho:=⟨by rw[he _ _ ho (by simp)];exact(k.ext i o ho).1,(k.ext i o ho).2⟩
theorem HS.app (hs:HS n bud L S h) (k:H):HS n bud L S (h++k) :=
 ⟨hs.toHR.congr (fun i r hr _=>List.getElem?_append_left (hs.rlt i r hr)) (by simp),by rw[List.getElem?_append_left (hs.rlt _ _ hs.rs)];exact hs.sol⟩
def FH:Plan:= .take 0<| .take 1<| .take 3<| .take 4<| .alt 2 (.alt 5 (.alt 6 (.take 7<| .take 8<| .alt 9 (.one 10<| .one 11<| .fin) (.one 10 (.one 9<| .one 11<| .fin))) (.one 10 (.one 6<| .take 7<| .take 8<| .one 9<| .one 11<| .fin))) (.one 10 (.one 5<| .one 6<| .take 7<| .take 8<| .one 9<| .one 11<| .fin))) (.alt 5 (.alt 2 (.alt 6 (.take 7<| .take 8<| .alt 9 (.one 10<| .one 11<| .fin) (.one 10 (.one 9<| .one 11<| .fin))) (.one 10 (.one 6<| .take 7<| .take 8<| .one 9<| .one 11<| .fin))) (.alt 6 (.take 7<| .alt 2 (.take 8<| .alt 9 (.one 10<| .one 11<| .fin) (.one 10 (.one 9<| .one 11<| .fin))) (.one 10 (.one 2<| .take 8<| .one 9<| .one 11<| .fin))) (.one 10 (.alt 2 (.one 6<| .take 7<| .take 8<| .one 9<| .one 11<| .fin) (.one 6 (.take 7<| .one 2<| .take 8<| .one 9<| .one 11<| .fin)))))) (.one 10 (.alt 2 (.one 5<| .one 6<| .take 7<| .take 8<| .one 9<| .one 11<| .fin) (.one 5 (.alt 2 (.one 6<| .take 7<| .take 8<| .one 9<| .one 11<| .fin) (.one 6 (.take 7<| .one 2<| .take 8<| .one 9<| .one 11<| .fin)))))))
def FI:Plan:= .take 0<| .take 1<| .take 2<| .take 4<| .take 5<| .alt 3 (.one 6<| .one 7<| .take 8<| .take 9<| .take 10<| .one 11<| .fin) (.one 6 (.alt 3 (.one 7<| .take 8<| .take 9<| .take 10<| .one 11<| .fin) (.one 7 (.take 8<| .one 3<| .take 9<| .take 10<| .one 11<| .fin))))
theorem BF (nx:List (Int×Int)) (t:Int×Int):List.take (2*nx.length) (aS (nx++[t]))=aS nx:=by rw[←vO,List.take_append_of_le_length (by rw[fE];exact Nat.le_refl _),List.take_of_length_le (by rw[fE];exact Nat.le_refl _)]
theorem Ir (hs : HS n bud L S h) {nx : List (Int × Int)} {t : Int × Int} (hx : S.nx = nx ++ [t]) (hb : S.nx.length ≤ 1000000000000) {R : AEnd → H → (Nat → Bool) → Prop}
 (hr:∀h',HS n bud L (nxS S nx) h'→h.length≤h'.length→R (.ret (.iface 204 (.agg [vi t.1,vi t.2]))) h' (fun _=>false)):ah TE 203 [.lp L.s 5] h R:=by
 have hM:maxLen=9223372036854775807:=rfl;have hsol:=hs.sol;have hnx:=hs.nxl;have hls:=hs.rlt _ _ hs.rs;have hlx:=hs.rlt _ _ hs.rx;have hsx:L.s≠L.x:=aY L hs.rs hs.rx (by simp);have hlen:S.nx.length=nx.length+1:=by rw[hx];simp
 have hw:IntKind.i64.wrap (((nx.length+1:Nat):Int)-1)=(nx.length:Int):=by rw[aX (by omega) (by omega)];omega
 have ht2:List.take 2 (List.drop (nx.length*2) (aS S.nx))=[vi t.1,vi t.2]:=by have:=FC (nx:=S.nx) (i:=nx.length) (by omega);rw[this];simp[hx]
 have e1:∀o:O,(h++[o])[List.length h]? =some o:=fun o=>by simp
 have e2:∀o o':O,List.set (h++[o]) (List.length h) o'=h++[o']:=fun o o'=>by rw[List.set_append_right _ _ (Nat.le_refl _)];simp
 have e3:∀o:O,(h++[o])[L.s]? =some (.cells (ax n bud L S)):=fun o=>by rw[List.getElem?_append_left hls];exact hsol
 have e4:∀o:O,(h++[o])[L.x]? =some (.cells (aS S.nx)):=fun o=>by rw[List.getElem?_append_left hlx];exact hnx
 refine ru ?_;refine au Tryz.func203 rfl (by simp[nts]) (vm ?_);simp only[wq.1,Nat.reduceLT,Tryz.results203];refine bY mixed FH (fun f' h'=>f'.t 0= .lp L.s 5∧f'.t 3= .lp h.length 0∧f'.d=[]∧(∀j,f'.k j=false)∧h'=h++[.cells [vi t.1,vi t.2]]) (by decide +kernel) (by decide +kernel) ?_ ?_
 ·simp only [wq.1,seval,FH,hsol,ax,hnx,hlen,hw,fE,ht2,e1,e2,e3,e4]
  and_intros<;>first | omega | rfl | trivial
 ·rintro f h' ⟨h0,h3,hd,hkf,rfl⟩;simp only [wq.1];refine bY mixed FI (fun f' h' => f'.t 3 = .lp h.length 0 ∧ f'.d = [] ∧ (∀ j,f'.k j = false) ∧ h' = (h ++ [O.cells [vi t.1,vi t.2]]).set L.s
   (O.cells [.ls L.v 5 0 (n+1) (n+1),.lm L.m,.ls L.t 1 0 S.tr.length S.tr.length,vi S.hd,.ls L.l 1 0 S.lv.length S.lv.length,.ls L.x 2 0 nx.length (nx.length+1),.ls L.g 1 0 S.ln.length S.ln.length,vi bud])) (by decide +kernel) (by decide +kernel) ?_ ?_
  ·simp only[wq.1,seval,FI,h0,h3,hd,ax,hlen,hw,e3];exact⟨⟨by omega,by omega⟩,hkf⟩
  ·rintro f h' ⟨h3,hd,hkf,rfl⟩;have hne : L.s ≠ List.length h := by omega
   simp only[wq.1,seval,h3,hd,List.getElem?_set_ne hne,e1];have hkf':f.k=fun _=>false:=funext hkf;rw[hkf'];have hls2:L.s<(h++[O.cells [vi t.1,vi t.2]]).length:=by simp;omega
   have hH:=(hs.app [O.cells [vi t.1,vi t.2]]);have kX:=hH.toHR.setRow (id:=L.x) (cs:=aS nx) hs.rx S.tr S.lv nx (.inr (.inr ⟨rfl,rfl,rfl,rfl,rfl⟩));have kS:=kX.setS (.cells (ax n bud L (nxS S nx)));refine⟨by simp,(((h++[O.cells [vi t.1,vi t.2]]).set L.x (.cells (aS nx))).set L.s (.cells (ax n bud L (nxS S nx)))),?_,hr _ ⟨kS,?_⟩ ?_⟩
   ·rw [List.set_comm _ _ hsx.symm];refine HLe.trans (HLe.set (i := L.s) (List.getElem?_set_self hls2) (o' := .cells (ax n bud L (nxS S nx))) (OLe.cells (Nat.le_refl _) ?_)) ?_
    ·simp only[ax,nxS,List.length_cons,List.length_nil,List.take_succ_cons,List.take_nil,List.take_zero];exact .cons (.refl _)<| .cons (.refl _)<| .cons (.refl _)<| .cons (.refl _)<| .cons (.refl _)<| .cons (VLe.cap (by omega))<| .refl _
    ·rw [List.set_set];refine HLe.set (o := .cells (aS S.nx)) ?_ ?_
     ·rw[List.getElem?_set_ne hsx];exact e4 _
     ·have := OLe.take (aS S.nx) (2 * nx.length);rw [hx,BF] at this
      rwa [←hx]at this
   ·exact List.getElem?_set_self (by simp;omega)
   ·simp
theorem RV {α:Type} {l:List α} {m:Nat} (h:l.length=m+1):∃l0 x,l=l0++[x]∧l0.length=m:=by
 have hne:l≠[]:=by rintro rfl;simp at h
 exact⟨l.dropLast,l.getLast hne,(List.dropLast_concat_getLast hne).symm,by simp[h]⟩
theorem Lh (hs : HS n bud L S h) (hb : S.nx.length ≤ 100000000000) (hne : S.nx ≠ []) {R : AEnd → H → (Nat → Bool) → Prop}
 (hr:∀nx t h',(nx++[t]).Perm S.nx→HS n bud L (nxS S nx) h'→h.length≤h'.length→R (.ret (.iface 204 (.agg [vi t.1,vi t.2]))) h' (fun _=>false)):ah TE 175 [.iface 202 (.lp L.s 5)] h R:=by
 have hM:maxLen=9223372036854775807:=rfl;obtain⟨m,hm⟩:∃m,S.nx.length=m+1:=⟨S.nx.length-1,by have:=List.length_pos_iff.2 hne;omega⟩;have hw:IntKind.i64.wrap ((S.nx.length:Int)-1)=(m:Int):=by rw[aX (by omega) (by omega)];omega
 refine au Tryz.func175 rfl (by simp[nts]) (vm ?_);simp only[wq.1,seval,Tryz.results175];refine dh rfl (t:=202) (v:= .lp L.s 5) (v':= .ls L.x 2 0 S.nx.length S.nx.length) (g:=174) (by simp only[wq.1,↓reduceIte]) (by simp only[wq.1,↓reduceIte,dQ]) (gZ hs.sol (Jg hs) (.inl ⟨rfl,rfl⟩)) (by simp only[wq.1]) ?_;simp only[wq.1];refine vN _ ?_;simp only[wq.1,seval,hw];refine dh rfl (t:=202) (v:= .lp L.s 5) (v':= .ls L.x 2 0 S.nx.length S.nx.length) (g:=202) (by simp only[wq.1,seval]) (by simp only[wq.1,seval,dQ,je]) (gZ hs.sol (Jg hs) (.inr (.inr ⟨rfl,rfl⟩))) (by simp only[wq.1]) ?_;simp only[wq.1,↓reduceIte];refine lQ (nx:=S.nx) (i:=0) (k:=m) hs.nxl (by omega) (by omega) ?_;have hsp:=rH (l:=S.nx) (i:=0) (k:=m) (d:=((0:Int),(0:Int))) (by omega) (by omega);have hs1:=hs.setX (nx:=sw S.nx 0 m (0,0)) hsp.length_eq;simp only[wq.1,seval];refine Iq hs1 (by show(sw S.nx 0 m (0,0)).length≤_;rw[hsp.length_eq];omega) (m:=m) (by show m≤(sw S.nx 0 m (0,0)).length;rw[hsp.length_eq];omega) fun nx2 h2 b hp2 hs2 hl2 hsame=> ?_;have hp2':nx2.Perm S.nx:=hp2.trans hsp;simp only[wq.1,seval];refine dh rfl (t:=202) (v:= .lp L.s 5) (v':= .lp L.s 5) (g:=203) (by simp only[wq.1,↓reduceIte]) (by simp only[wq.1,↓reduceIte,dQ]) RU (by simp only[wq.1]) ?_;obtain⟨nx,t,e,hl⟩:=RV (l:=nx2) (m:=m) (by rw[hp2'.length_eq,hm]);refine Ir hs2 (nx:=nx) (t:=t) e (by show nx2.length≤_;rw[hp2'.length_eq];omega) fun h3 hs3 hl3=> ?_;simp only[wq.1,seval];exact hr nx t h3 (by rw[←e];exact hp2') hs3 (by rw[List.length_set]at hl2;rw[←hl2];exact hl3)
end
section
variable {n:Nat} {bud:Int} {L:Lay} {S:St} {h:H}
def Dv (S:St) (a:Int) (j:Nat):St:={S with wt:=fun b=>if b=a then S.wt a++[j]else S.wt b}
def wZ (L:Lay) (a:Int) (id:Nat):Lay:={L with w:=fun b=>if b=a then some id else L.w b,ro:=fun i=>if i=id then some (.w a)else L.ro i}
structure LX (nc : Nat) (L L' : Lay) : Prop where
 s:L'.s=L.s
 v:L'.v=L.v
 m:L'.m=L.m
 t:L'.t=L.t
 l:L'.l=L.l
 x:L'.x=L.x
 g:L'.g=L.g
 c:∀j,j<nc→L'.c j=L.c j
 w:∀a id,L.w a=some id→L'.w a=some id
 ro:∀i r,L.ro i=some r→L'.ro i=some r
theorem LX.refl (m:Nat) (L:Lay):LX m L L:=⟨rfl,rfl,rfl,rfl,rfl,rfl,rfl,fun _ _=>rfl,fun _ _ h=>h,fun _ _ h=>h⟩
theorem LX.trans {m:Nat} {A B C:Lay} (p:LX m A B) (q:LX m B C):LX m A C :=
 ⟨q.s.trans p.s,q.v.trans p.v,q.m.trans p.m,q.t.trans p.t,q.l.trans p.l,q.x.trans p.x,q.g.trans p.g,fun j hj=>(q.c j hj).trans (p.c j hj),fun a id h=>q.w a id (p.w a id h),fun i r h=>q.ro i r (p.ro i r h)⟩
theorem mW {a:Int} {id m:Nat} (h:(L.ro id=none∧L.w a=none)∨(L.ro id=some (.w a)∧L.w a=some id)):LX m L (wZ L a id) :=
 ⟨rfl,rfl,rfl,rfl,rfl,rfl,rfl,fun _ _=>rfl,fun b i hb=>by
  show(if b=a then some id else L.w b)=some i;split
  ·rename_i e;subst e;rcases h with ⟨_,h⟩ | ⟨_,h⟩
   ·rw[h]at hb;cases hb
   ·rw[h]at hb;exact hb
  ·exact hb,fun i r hi=>by
  show(if i=id then some (Ro.w a)else L.ro i)=some r;split
  ·rename_i e;subst e;rcases h with ⟨h,_⟩ | ⟨h,_⟩
   ·rw[h]at hi;cases hi
   ·rw[h]at hi;exact hi
  ·exact hi⟩
theorem HR.wstep (k : HR n L S h) {h' : H} {a : Int} {j id : Nat} (hj : j < S.nc) (hid0 : (L.ro id = none ∧ L.w a = none) ∨ (L.ro id = some (.w a) ∧ L.w a = some id))
 (get:∀i o,h[i]? =some o→o.drop (fun x=>x==id)=o→L.ro i≠none→i≠id→i≠L.m→h'[i]? =some o)
 (hid:h'[id]? =some (.cells ((S.wt a).map (clV L S)++[clV L S j])))
 (hmap:∃ks:List Int,h'[L.m]? =some (.map (ks.map vi) (ks.map fun b=>if b=a then .ls id 1 0 ((S.wt a).length+1) ((S.wt a).length+1)else FB (L.w b) 1 (S.wt b).length))∧ks.Nodup∧a∈ks∧∀b,¬b∈ks→L.w b=none∧S.wt b=[])
 (hl:h.length≤h'.length) (hil:id<h'.length):HR n (wZ L a id) (Dv S a j) h':=by
 have ne:∀ {i:Nat} {r:Ro},L.ro i=some r→r≠ .w a→i≠id:=by
  rintro i r hi hr rfl;rcases hid0 with h0 | ⟨h0,_⟩
  ·rw[hi]at h0;simp at h0
  ·rw[hi]at h0;cases h0;exact hr rfl
 have G:∀ {i:Nat} {r:Ro} {cs:List V},L.ro i=some r→r≠ .w a→h[i]? =some (.cells cs)→(∀v∈cs,v.drop (fun x=>x==id)=v)→h'[i]? =some (.cells cs) :=
  fun hi hr hc hv=>get _ _ hc (by rw[bD,dw hv]) (by rw[hi];simp) (ne hi hr) (fun e=>by have:=k.map;obtain⟨ks,h1,_⟩:=this;rw[←e,hc]at h1;cases h1)
 have GI:∀ {i:Nat} {r:Ro} {c:Cl},L.ro i=some r→r≠ .w a→h[i]? =some (.cells (c.map vi))→h'[i]? =some (.cells (c.map vi)) :=
  fun hi hr hc=>G hi hr hc fun v hv=>by
   obtain⟨a,_,rfl⟩:=List.mem_map.1 hv;exact dC
 have RO:∀ {i:Nat} {r:Ro},L.ro i=some r→r≠ .w a→(wZ L a id).ro i=some r:=fun hi hr=>by show(if _=id then some (Ro.w a)else L.ro _)=_;rw[if_neg (ne hi hr)];exact hi
 have pc:∀q,q<S.nc→((fun x=>x==id) (L.c q))=false:=fun q hq=>by simpa using ne (k.cla q hq).2 (by simp)
 have pk:∀q,q<S.ln.length→((fun x=>x==id) (L.k q))=false:=fun q hq=>by simpa using ne (k.lnk q hq).2 (by simp)
 refine {var:=G k.rv (by simp) k.var ?_,map:= ?_,trl:=GI k.rt (by simp) k.trl,lvl:=G k.rl (by simp) k.lvl ?_,nxl:=G k.rx (by simp) k.nxl ?_,lnl:=G k.rg (by simp) k.lnl ?_,lnk:=fun i hi=>⟨GI (k.lnk i hi).2 (by simp) (k.lnk i hi).1,RO (k.lnk i hi).2 (by simp)⟩,cla:=fun q hq=>⟨GI (k.cla q hq).2 (by simp) (k.cla q hq).1,RO (k.cla q hq).2 (by simp)⟩,wat:= ?_,fre:=k.fre,fwt:= ?_,rs:=RO k.rs (by simp),rv:=RO k.rv (by simp),rm:=RO k.rm (by simp),rt:=RO k.rt (by simp),rl:=RO k.rl (by simp),rx:=RO k.rx (by simp),rg:=RO k.rg (by simp),rlt:= ?_,ext:=fun i o ho=> ?_}
 ·intro v hv;unfold di at hv;obtain ⟨i,hi,hv⟩ := List.mem_flatMap.1 hv;have hi : i ≤ n := by have := List.mem_range.1 hi;omega
  simp only[fG,List.mem_cons,List.not_mem_nil,or_false]at hv;rcases hv with rfl | rfl | rfl | rfl | rfl<;>try exact dC
  show V.drop _ (reV L S (S.v i).reason)=reV L S (S.v i).reason;cases hr:(S.v i).reason with
  | none=>simp only[reV,V.drop]
  | some j=>exact aW (pc j (k.fre i hi j hr))
 ·obtain ⟨ks,h1,h2,h3,h4⟩ := hmap;refine ⟨ks,?_,h2,fun b hb => ?_⟩
  ·rw [show (wZ L a id).m = L.m from rfl,h1]
   congr 2
   refine List.map_congr_left fun b hb=> ?_;by_cases he:b=a
   ·subst he;rw[if_pos rfl];show _=FB (if b=b then some id else L.w b) 1 (if b=b then S.wt b++[j]else S.wt b).length;rw[if_pos rfl,if_pos rfl,List.length_append];rfl
   ·rw[if_neg he];show _=FB (if b=a then some id else L.w b) 1 (if b=a then S.wt a++[j]else S.wt b).length;rw[if_neg he,if_neg he]
  ·have he : b ≠ a := fun e => hb (e ▸ h3);refine ⟨?_,?_⟩
   ·show(if b=a then some id else L.w b)=none;rw[if_neg he];exact(h4 b hb).1
   ·show(if b=a then S.wt a++[j]else S.wt b)=[];rw[if_neg he];exact(h4 b hb).2
 ·intro v hv;obtain⟨a,_,rfl⟩:=List.mem_map.1 hv;exact dC
 ·intro v hv;obtain⟨t,_,hv⟩:=List.mem_flatMap.1 hv;simp only[List.mem_cons,List.not_mem_nil,or_false]at hv;rcases hv with rfl | rfl<;>exact dC
 ·intro v hv;obtain⟨i,hi,rfl⟩:=List.mem_map.1 hv;exact aW (pk i (List.mem_range.1 hi))
 ·intro b;by_cases he : b = a
  ·subst he;unfold fK;rw[show(wZ L b id).w b=some id from if_pos rfl];show h'[id]? =some (.cells ((if b=b then S.wt b++[j]else S.wt b).map (clV L S)))∧(if id=id then some (Ro.w b)else L.ro id)=some (.w b);rw[if_pos rfl,List.map_append,if_pos rfl];exact⟨hid,rfl⟩
  ·have kw:=k.wat b;unfold fK at kw ⊢;rw[show(wZ L a id).w b=L.w b from if_neg he];cases hw:L.w b with
   | none=>rw[hw]at kw;show(if b=a then S.wt a++[j]else S.wt b).map (clV L S)=[];rw[if_neg he];exact kw
   | some i =>
    rw[hw]at kw;have hr:(Ro.w b)≠ .w a:=by simpa using he
    show h'[i]? =some (.cells ((if b=a then S.wt a++[j]else S.wt b).map (clV L S)))∧_;rw[if_neg he];refine⟨G kw.2 hr kw.1 fun v hv=> ?_,RO kw.2 hr⟩;obtain⟨q,hq,rfl⟩:=List.mem_map.1 hv;exact aW (pc q (k.fwt b q hq))
 ·intro b q hq;by_cases he : b = a
  ·subst he;have hq : q ∈ (if b = b then S.wt b ++ [j] else S.wt b) := hq;rw [if_pos rfl] at hq;rcases List.mem_append.1 hq with hq | hq
   ·exact k.fwt b q hq
   ·rw[List.mem_singleton.1 hq];exact hj
  ·have hq:q∈(if b=a then S.wt a++[j]else S.wt b):=hq;rw[if_neg he]at hq;exact k.fwt b q hq
 ·intro i r hi;have hi : (if i = id then some (Ro.w a) else L.ro i) = some r := hi;split at hi
  ·rename_i e;rw[e];exact hil
  ·exact Nat.lt_of_lt_of_le (k.rlt i r hi) hl
 ·have ho : (if i = id then some (Ro.w a) else L.ro i) = some (.e o) := ho;split at ho
  ·cases ho
  ·rename_i hne;obtain⟨k1,k2⟩:=k.ext i o ho;have hd:o.drop (fun x=>x==id)=o:=k2 _ fun q r hq hpq=>by
    have e:q=id:=by simpa using hpq
    subst e;rcases hid0 with⟨h0,_⟩ | ⟨h0,_⟩
    ·rw[hq]at h0;cases h0
    ·rw[hq]at h0;cases h0;exact .inr (.inr (.inr (.inr ⟨a,rfl⟩)))
   exact⟨get i o k1 hd (by rw[ho];simp) hne (aY L ho k.rm (by simp)),k2.mono (mW (m:=0) hid0).ro⟩
theorem tZ {ks:List Int} {f:Int→V} {zero:V} (a:Int) (hz:¬a∈ks→f a=zero):tJ (.int .i64) (vi a) (ks.map vi) (ks.map f) zero false=(True,f a):=by
 unfold tJ;rw[Bg];cases hf:ks.findIdx? (·==a)with
 | none =>
  have:¬a∈ks:=fun hm=>by have:=List.findIdx?_eq_none_iff.1 hf a hm;simp at this
  simp only[cond_false,hz this]
 | some q =>
  obtain⟨h1,h2,_⟩:=List.findIdx?_eq_some_iff_getElem.1 hf;have h2:ks[q]=a:=by simpa using h2
  simp only[cond_false,List.getD_eq_getElem?_getD,List.getElem?_map,List.getElem?_eq_getElem h1,Option.map_some,Option.getD_some,h2]
theorem kL {ks:List Int} (hn:ks.Nodup) (f:Int→V) (a:Int) (v:V) :
 ∃ks':List Int,Jd (.int .i64) (vi a) v (ks.map vi) (ks.map f)=some (ks'.map vi,ks'.map fun b=>if b=a then v else f b)∧ks'.Nodup∧a∈ks'∧∀b∈ks,b∈ks':=by
 unfold Jd;rw[Bg];cases hf:ks.findIdx? (·==a)with
 | none =>
  have hm:¬a∈ks:=fun hm=>by have:=List.findIdx?_eq_none_iff.1 hf a hm;simp at this
  refine⟨ks++[a],?_,?_,by simp,fun b hb=>by simp[hb]⟩
  ·simp only [List.map_append,List.map_cons,List.map_nil,if_true]
   congr 3
   exact List.map_congr_left fun b hb=>(if_neg fun(e:b=a)=>hm (e▸hb)).symm
  ·rw[List.nodup_append];exact⟨hn,by simp,fun x hx y hy=>by rw[List.mem_singleton.1 hy];exact fun e=>hm (e▸hx)⟩
 | some q =>
  obtain⟨h1,h2,_⟩:=List.findIdx?_eq_some_iff_getElem.1 hf;have h2:ks[q]=a:=by simpa using h2
  refine⟨ks,?_,hn,h2▸List.getElem_mem h1,fun b hb=>hb⟩;show some ((ks.map vi).set q (vi a),(ks.map f).set q v)=_
  congr 2
  ·rw[←List.map_set,←h2,List.set_getElem_self h1]
  ·refine List.ext_getElem (by simp) fun i hi1 hi2 => ?_;rw [List.getElem_set];simp only [List.getElem_map];have hik : i < ks.length := by simpa using hi2
   split
   ·rename_i e;subst e;rw[if_pos h2]
   ·rename_i e;rw[if_neg fun e2=>e ?_];exact(List.getElem_inj (h₀:=h1) (h₁:=hik) hn).1 (h2.trans e2.symm)
end
section
variable {n:Nat} {bud:Int} {L:Lay} {S:St} {h:H}
def Iu:Plan:= .take 0<| .take 1<| .take 2<| .take 4<| .take 5<| .take 6<| .take 7<| .take 9<| .take 11<| .alt 3 (.alt 8 (.alt 10 (.one 12<| .one 13<| .one 14<| .fin) (.one 12 (.one 10<| .one 13<| .one 14<| .fin))) (.one 12 (.one 8<| .one 10<| .one 13<| .one 14<| .fin))) (.alt 8 (.alt 3 (.alt 10 (.one 12<| .one 13<| .one 14<| .fin) (.one 12 (.one 10<| .one 13<| .one 14<| .fin))) (.alt 10 (.alt 3 (.one 12<| .one 13<| .one 14<| .fin) (.one 12 (.alt 3 (.one 13<| .one 14<| .fin) (.one 13 (.one 3<| .one 14<| .fin))))) (.one 12 (.alt 3 (.one 10<| .one 13<| .one 14<| .fin) (.one 10 (.alt 3 (.one 13<| .one 14<| .fin) (.one 13 (.one 3<| .one 14<| .fin)))))))) (.one 12 (.alt 3 (.one 8<| .one 10<| .one 13<| .one 14<| .fin) (.one 8 (.alt 3 (.one 10<| .one 13<| .one 14<| .fin) (.one 10 (.alt 3 (.one 13<| .one 14<| .fin) (.one 13 (.one 3<| .one 14<| .fin)))))))))
def tC (S:St) (j:Nat) (c:Cl):St:=c.foldl (fun S a=>Dv S a j) S
theorem FK (S:St) (j:Nat):∀c:Cl,(tC S j c).cl=S.cl∧(tC S j c).nc=S.nc:=by
 intro c
 induction c generalizing S with
 | nil=>exact⟨rfl,rfl⟩
 | cons a c ih=>exact ih (Dv S a j)
theorem qG {p : Nat → Bool} (f : Int → V) : ∀ ks : List Int,V.drops p (ks.map f) = ks.map fun b => (f b).drop p
 | []=>rfl
 | b::ks=>by simp only[List.map_cons,V.drops,qG f ks]
theorem O7 (S:St) (a b:Int) (j:Nat):((Dv S a j).wt b).length≤(S.wt b).length+1:=by
 show(if b=a then S.wt a++[j]else S.wt b).length≤_;split
 ·rename_i e;subst e;simp
 ·omega
theorem BG (j : Nat) (b : Int) : ∀ (c : Cl) (S : St),((tC S j c).wt b).length ≤ (S.wt b).length + c.length
 | [],S=>by simp[tC]
 | a::c,S=>by have h1:=BG j b c (Dv S a j);have h2:=O7 S a b j;have e:tC S j (a::c)=tC (Dv S a j) j c:=rfl;rw[e,List.length_cons];omega
theorem Lj (hs:HS n bud L S h):L.ro h.length=none:=by
 cases e:L.ro h.length with
 | none=>rfl
 | some r=>exact absurd (hs.rlt _ _ e) (Nat.lt_irrefl _)
theorem Ll {id:Nat} {o:O} {i:Nat} (hi:h[i]? =some o) (hv:o.drop (fun x=>x==id)=o):(h.map (O.drop fun x=>x==id))[i]? =some o:=by rw[List.getElem?_map,hi,Option.map_some,hv]
theorem Lm {id:Nat} {cs:List V} {i:Nat} (hi:h[i]? =some (.cells cs)) (hv:∀v∈cs,v.drop (fun x=>x==id)=v):(h.map (O.drop fun x=>x==id))[i]? =some (.cells cs):=by rw[List.getElem?_map,hi,Option.map_some,bD,dw hv]
def mwV (L:Lay) (S:St) (a:Int):V:=FB (L.w a) 1 (S.wt a).length
theorem HR.mapv (k:HR n L S h):∃ks:List Int,h[L.m]? =some (.map (ks.map vi) (ks.map (mwV L S)))∧ks.Nodup∧∀a,¬a∈ks→L.w a=none∧S.wt a=[]:=k.map
theorem vP (hs : HS n bud L S h) {j : Nat} (hj : j < S.nc) (h2 : 2 ≤ (S.cl j).length) (hcl : (S.cl j).length ≤ 1000000) (hw : ∀ a,(S.wt a).length ≤ 1000000) {R : AEnd → H → (Nat → Bool) → Prop}
 (hr:∀L' h' p,LX S.nc L L'→HS n bud L' (tC S j ((S.cl j).take 2)) h'→h.length≤h'.length→(∀i,p i=true→∃a,L'.ro i=some (.w a))→R (.ret (.tup [])) h' p):ah TE 149 [.lp L.s 0,clV L S j] h R:=by
 have hM : maxLen = 9223372036854775807 := rfl;unfold clV;refine au Tryz.func149 rfl (by simp [nts]) (vm ?_);simp only [wq.1,seval,Tryz.results149];refine ⟨by omega,?_⟩;refine aA (fun m f h' => ∃ (i : Nat) (L' : Lay),m = 2 - i ∧ i ≤ 2 ∧ f.t 0 = .lp L.s 0 ∧ f.t 1 = .ls (L.c j) 1 0 (S.cl j).length (S.cl j).length ∧ f.t 7 = .ls (L.c j) 1 0 2 (S.cl j).length ∧ f.t 8 = vi 2 ∧ f.t 9 = vi i ∧ f.d = [] ∧ (∀ q,f.k q = true → ∃ a,L'.ro q = some (.w a)) ∧ LX S.nc L L' ∧ HS n bud L' (tC S j ((S.cl j).take i)) h' ∧ h.length ≤ h'.length) 2
  ⟨0,L,rfl,by omega,rfl,rfl,rfl,rfl,rfl,rfl,(fun q hq=>absurd hq Bool.false_ne_true),LX.refl _ L,hs,Nat.le_refl _⟩ ?_
 rintro m f h' ⟨i,L',hm,hi,h0,h1,h7,h8,h9,hd,hkf,hx,hs',hlen⟩;obtain⟨S1,hS1⟩:∃S1,S1=tC S j ((S.cl j).take i):=⟨_,rfl⟩;have ecl:S1.cl=S.cl:=by rw[hS1];exact(FK _ _ _).1
 have enc:S1.nc=S.nc:=by rw[hS1];exact(FK _ _ _).2
 have hw0:∀b,(S1.wt b).length≤1000002:=fun b=>by have h1:=BG j b ((S.cl j).take i) S;have h2:=hw b;rw[←hS1,List.length_take]at h1;omega
 rw[←hS1]at hs';refine vm ?_;simp only[wq.1,seval,h8,h9];by_cases hi2:i=2
 ·subst hi2;have e:decide (((2:Nat):Int)<2)=false:=rfl;simp only[wq.1,e,hd];exact hr L' h' f.k hx (hS1▸hs') hlen hkf
 ·have e : decide ((i : Int) < 2) = true := by rw [decide_eq_true_eq];omega
  have hij:i<(S.cl j).length:=by omega
  have hj':j<S1.nc:=by rw[enc];exact hj
  have hc:=(hs'.cla j hj').1;rw[ecl,hx.c j hj]at hc;have hg:((S.cl j).map vi).getD (i*1) .any=vi (S.cl j)[i]:=by simp[List.getD_eq_getElem?_getD,hij]
  obtain⟨a,ha⟩:∃a,a=(S.cl j)[i]:=⟨_,rfl⟩;rw[←ha]at hg;simp only[wq.1,↓reduceIte,Nat.reduceEqDiff,Nat.reduceLT,e,h7,h9,hc,hg];refine⟨by omega,by omega,?_⟩;refine bY mixed Iu (fun f' h''=>∃L2,LX S.nc L' L2∧HS n bud L2 (Dv S1 a j) h''∧f'.t 0= .lp L.s 0∧f'.t 1= .ls (L.c j) 1 0 (S.cl j).length (S.cl j).length∧f'.t 7= .ls (L.c j) 1 0 2 (S.cl j).length∧f'.t 8=vi 2∧f'.t 9=vi i∧f'.d=[]∧(∀q,f'.k q=true→∃a,L2.ro q=some (.w a))∧h'.length≤h''.length) (by decide +kernel) (by decide +kernel) ?_ ?_
  ·obtain ⟨ks,hm1,hm2,hm3⟩ := hs'.mapv;have hsol := hs'.sol;have hls := hs'.rlt _ _ hs'.rs;have hlm := hs'.rlt _ _ hs'.rm;rw [hx.s] at hsol hls;have en1 : ∀ o : O,(h' ++ [o])[L.s]? = some (.cells (ax n bud L' S1)) := fun o => by rw [List.getElem?_append_left hls];exact hsol
   have en2:∀o:O,(h'++[o])[L'.m]? =some (.map (ks.map vi) (ks.map (mwV L' S1))):=fun o=>by rw[List.getElem?_append_left hlm];exact hm1
   have hms:L'.m≠L.s:=by rw[←hx.s];exact aY L' hs'.rm hs'.rs (by simp)
   have en3:∀(o q:O),(List.set (h'++[o]) L'.m q)[L.s]? =some (.cells (ax n bud L' S1)):=fun o q=>by rw[List.getElem?_set_ne hms];exact en1 o
   have hfm:∀id len,List.flatMap V.vc [V.ls id 1 0 len len]=[V.ls id 1 0 len len]:=fun _ _=>rfl;have hft:∀id len,kQ 1 [V.ls id 1 0 len len]=true:=fun _ _=>rfl;have hget:=tZ (ks:=ks) (f:=mwV L' S1) (zero:=V.nils) a fun hn=>by unfold mwV;rw[(hm3 a hn).1];rfl
   cases hw:L'.w a with
   | none =>
    have hnil:mwV L' S1 a= .nils:=by unfold mwV;rw[hw];rfl
    rw[hnil]at hget;obtain⟨ks2,hp1,hp2,hp3,hp4⟩:=kL hm2 (mwV L' S1) a (.ls h'.length 1 0 1 1);simp only[wq.1,↓reduceIte,Nat.reduceEqDiff,Nat.reduceLT,Nat.reduceLeDiff,Nat.reduceAdd,reduceCtorEq,Nat.reduceMul,Iu,h0,h1,h7,h8,h9,hd,hsol,ax,hm1,hget,en1,en2,hp1];refine⟨⟨rfl,by decide⟩,by omega,wZ L' a h'.length,mW (.inl ⟨?_,hw⟩),⟨hs'.toHR.wstep hj' (.inl ⟨?_,hw⟩) ?_ ?_ ⟨ks2,?_,hp2,hp3,fun b hb=>hm3 b fun hb2=>hb (hp4 b hb2)⟩ (by simp) (by simp),?_⟩,fun q hq=> ?_,by simp⟩
    ·exact Lj hs'
    ·exact Lj hs'
    ·intro q cs hq hv hr hne hqm;have hlt:=(List.getElem?_eq_some_iff.1 hq).1;have hqm:=hqm.symm;rw[List.getElem?_set_ne hqm,List.getElem?_append_left hlt];exact hq
    ·have hwt : S1.wt a = [] := by have := hs'.wat a;unfold fK at this;rw [hw] at this;simpa using this
     rw[List.getElem?_set_ne (by omega),hwt];simp[clV,ecl,hx.c j hj]
    ·have hwt : S1.wt a = [] := by have := hs'.wat a;unfold fK at this;rw [hw] at this;simpa using this
     rw[List.getElem?_set_self (by simp;omega),hwt];rfl
    ·rw[show(wZ L' a h'.length).s=L'.s from rfl,hx.s];exact en3 _ _
    ·obtain⟨b,hb⟩:=hkf q hq;exact⟨b,(mW (m:=0) (.inl ⟨Lj hs',hw⟩)).ro _ _ hb⟩
   | some id =>
    have hrow:=hs'.wat a;unfold fK at hrow;rw[hw]at hrow;obtain⟨hr1,hr2⟩:=hrow;have hv1:mwV L' S1 a= .ls id 1 0 (S1.wt a).length (S1.wt a).length:=by unfold mwV;rw[hw];rfl
    rw[hv1]at hget;have hlen2:((S1.wt a).map (clV L' S1)).length=(S1.wt a).length:=List.length_map ..;have hsi:L.s≠id:=by rw[←hx.s];exact aY L' hs'.rs hr2 (by simp)
    have b1:(L.s==id)=false:=by simp[hsi]
    have b2:(L'.m==id)=false:=by simp[aY L' hs'.rm hr2 (by simp)]
    have b3:(L.c j==id)=false:=by rw[←hx.c j hj];simp[aY L' (hs'.cla j hj').2 hr2 (by simp)]
    obtain⟨ks2,hp1,hp2,hp3,hp4⟩:=kL hm2 (fun b=>(mwV L' S1 b).drop fun x=>x==id) a (.ls id 1 0 ((S1.wt a).length+1) ((S1.wt a).length+1));have q1:∀o:O,((List.map (O.drop fun x=>x==id) h').set id o)[L'.m]? =some (.map (ks.map vi) (ks.map fun b=>(mwV L' S1 b).drop fun x=>x==id)):=fun o=>by rw[List.getElem?_set_ne (aY L' hr2 hs'.rm (by simp)),List.getElem?_map,hm1,Option.map_some,jI,dw (fun v hv=>by obtain⟨_,_,rfl⟩:=List.mem_map.1 hv;exact dC),qG]
    have nb:∀ {i r},L'.ro i=some r→r≠ .w a→(i==id)=false:=fun hi hr=>by simp[aY L' hi hr2 hr]
    have hsol2:∀v∈ax n bud L' S1,v.drop (fun x=>x==id)=v:=fun v hv=>by
     simp only[ax,List.mem_cons,List.not_mem_nil,or_false]at hv;rcases hv with rfl | rfl | rfl | rfl | rfl | rfl | rfl | rfl<;>first | exact dC | exact aW (nb hs'.rv (by simp)) | exact aW (nb hs'.rt (by simp)) | exact aW (nb hs'.rl (by simp)) | exact aW (nb hs'.rx (by simp)) | exact aW (nb hs'.rg (by simp)) | skip
     rw[V.drop,b2];rfl
    have q2:∀o:O,((List.map (O.drop fun x=>x==id) h').set id o)[L.s]? =some (.cells (ax n bud L' S1)):=fun o=>by rw[List.getElem?_set_ne hsi.symm];exact Lm hsol hsol2
    have q3:V.drops (fun x=>x==id) (List.map (clV L' S1) (S1.wt a))=List.map (clV L' S1) (S1.wt a):=dw fun v hv=>by obtain⟨q,hq,rfl⟩:=List.mem_map.1 hv;exact aW (nb (hs'.cla q (hs'.fwt a q hq)).2 (by simp))
    have q4:∀o q:O,(((List.map (O.drop fun x=>x==id) h').set id o).set L'.m q)[L.s]? =some (.cells (ax n bud L' S1)):=fun o q=>by rw[List.getElem?_set_ne hms];exact q2 o
    have hwb:=hw0 a;have key:∃L2,LX S.nc L' L2∧HS n bud L2 (Dv S1 a j) (((List.map (O.drop fun x=>x==id) h').set id (.cells (List.map (clV L' S1) (S1.wt a)++[.ls (L.c j) 1 0 (S.cl j).length (S.cl j).length]))).set L'.m (.map (ks2.map vi) (ks2.map fun b=>if b=a then .ls id 1 0 ((S1.wt a).length+1) ((S1.wt a).length+1)else(mwV L' S1 b).drop fun x=>x==id))) ∧
     (∀q,(f.k q||q==id)=true→∃a,L2.ro q=some (.w a))∧h'.length≤(((List.map (O.drop fun x=>x==id) h').set id (.cells (List.map (clV L' S1) (S1.wt a)++[.ls (L.c j) 1 0 (S.cl j).length (S.cl j).length]))).set L'.m (.map (ks2.map vi) (ks2.map fun b=>if b=a then .ls id 1 0 ((S1.wt a).length+1) ((S1.wt a).length+1)else(mwV L' S1 b).drop fun x=>x==id))).length:=by
     have hil:=hs'.rlt _ _ hr2;refine⟨wZ L' a id,mW (.inr ⟨hr2,hw⟩),⟨hs'.toHR.wstep hj' (.inr ⟨hr2,hw⟩) ?_ ?_ ⟨ks2,?_,hp2,hp3,fun b hb=>hm3 b fun hb2=>hb (hp4 b hb2)⟩ (by simp) (by simpa using hil),?_⟩,fun q hq=> ?_,by simp⟩
     ·intro q cs hq hv hr hne hqm;have hqm:=hqm.symm;rw[List.getElem?_set_ne hqm,List.getElem?_set_ne (Ne.symm hne)];exact Ll hq hv
     ·rw[List.getElem?_set_ne (aY L' hs'.rm hr2 (by simp)),List.getElem?_set_self (by simpa using hil)];simp[clV,ecl,hx.c j hj]
     ·rw [List.getElem?_set_self (by simpa using hlm)]
      congr 2
      refine List.map_congr_left fun b hb=> ?_;by_cases he:b=a
      ·rw[if_pos he,if_pos he]
      ·rw[if_neg he,if_neg he];unfold mwV;have kw:=hs'.wat b;unfold fK at kw;cases hwb:L'.w b with
       | none=>simp only[FB,V.drop]
       | some i=>rw[hwb]at kw;exact aW (nb kw.2 (by simpa using he))
     ·rw[show(wZ L' a id).s=L'.s from rfl,hx.s];exact q4 _ _
     ·rcases Bool.or_eq_true_iff.1 hq with hq | hq
      ·obtain⟨b,hb⟩:=hkf q hq;exact⟨b,(mW (m:=0) (.inr ⟨hr2,hw⟩)).ro _ _ hb⟩
      ·exact⟨a,by rw[show q=id by simpa using hq];exact if_pos rfl⟩
    simp only[wq.1,seval,Iu,h0,h1,h7,h8,h9,hd,hsol,ax,hm1,hget,hp1,hr1,b1,b2,b3,q1,q2,q3]
    and_intros<;>first | exact key | omega | rfl | decide
  ·rintro f2 h2 ⟨L2,hx2,hs2,g0,g1,g7,g8,g9,gd,gk,gl⟩;have hw2 : IntKind.i64.wrap ((i : Int) + 1) = ((i + 1 : Nat) : Int) := by rw [aX (by omega) (by omega)];omega
   simp only[wq.1,seval,g9,hw2];have e2:Dv S1 a j=tC S j ((S.cl j).take (i+1)):=by
    rw[List.take_add_one,List.getElem?_eq_getElem hij,←ha,hS1];unfold tC;rw[List.foldl_append];rfl
   exact .inl ⟨2-(i+1),by omega,i+1,L2,rfl,by omega,by simp only[wq.1,seval,g0],by simp only[wq.1,seval,g1],by simp only[wq.1,seval,g7],by simp only[wq.1,seval,g8],by simp only[wq.1,↓reduceIte],by simp only[wq.1,gd],gk,hx.trans hx2,e2▸hs2,by omega⟩
end
section
variable {n:Nat} {bud:Int} {L:Lay} {S:St} {h:H} {a:Int} {j:Nat}
theorem Lp (hs:HS n bud L S h) (hj:j<S.nc) (hw:L.w a=none):∃ks ks2:List Int,h[L.m]? =some (.map (ks.map vi) (ks.map (mwV L S))) ∧
 tJ (.int .i64) (vi a) (ks.map vi) (ks.map (mwV L S)) .nils false=(True,.nils) ∧
 Jd (.int .i64) (vi a) (.ls h.length 1 0 1 1) (ks.map vi) (ks.map (mwV L S))=some (ks2.map vi,ks2.map fun b=>if b=a then .ls h.length 1 0 1 1 else mwV L S b) ∧
 HS n bud (wZ L a h.length) (Dv S a j) (List.set (h++[O.cells [.ls (L.c j) 1 0 (S.cl j).length (S.cl j).length]]) L.m (.map (ks2.map vi) (ks2.map fun b=>if b=a then .ls h.length 1 0 1 1 else mwV L S b))):=by
 obtain⟨ks,hm1,hm2,hm3⟩:=hs.mapv;have hsol:=hs.sol;have hls:=hs.rlt _ _ hs.rs;have hlm:=hs.rlt _ _ hs.rm;have hms:L.m≠L.s:=aY L hs.rm hs.rs (by simp);have hget:=tZ (ks:=ks) (f:=mwV L S) (zero:=V.nils) a fun hn=>by unfold mwV;rw[(hm3 a hn).1];rfl
 have hnil:mwV L S a= .nils:=by unfold mwV;rw[hw];rfl
 rw[hnil]at hget;obtain⟨ks2,hp1,hp2,hp3,hp4⟩:=kL hm2 (mwV L S) a (.ls h.length 1 0 1 1);refine⟨ks,ks2,hm1,hget,hp1,hs.toHR.wstep hj (.inl ⟨Lj hs,hw⟩) ?_ ?_ ⟨ks2,?_,hp2,hp3,fun b hb=>hm3 b fun hb2=>hb (hp4 b hb2)⟩ (by simp) (by simp),?_⟩
 ·intro q cs hq hv hr hne hqm;have hlt:=(List.getElem?_eq_some_iff.1 hq).1;have hqm:=hqm.symm;rw[List.getElem?_set_ne hqm,List.getElem?_append_left hlt];exact hq
 ·have hwt : S.wt a = [] := by have := hs.wat a;unfold fK at this;rw [hw] at this;simpa using this
  rw[List.getElem?_set_ne (by omega),hwt];simp[clV]
 ·have hwt : S.wt a = [] := by have := hs.wat a;unfold fK at this;rw [hw] at this;simpa using this
  rw[List.getElem?_set_self (by simp;omega),hwt];rfl
 ·rw[show(wZ L a h.length).s=L.s from rfl,List.getElem?_set_ne hms,List.getElem?_append_left hls];exact hsol
theorem Lr (hs:HS n bud L S h) (hj:j<S.nc) {id:Nat} (hw:L.w a=some id):∃ks ks2:List Int,h[L.m]? =some (.map (ks.map vi) (ks.map (mwV L S)))∧h[id]? =some (.cells ((S.wt a).map (clV L S)))∧L.ro id=some (.w a) ∧
 tJ (.int .i64) (vi a) (ks.map vi) (ks.map (mwV L S)) .nils false=(True,.ls id 1 0 (S.wt a).length (S.wt a).length) ∧
 Jd (.int .i64) (vi a) (.ls id 1 0 ((S.wt a).length+1) ((S.wt a).length+1)) (ks.map vi) (ks.map fun b=>(mwV L S b).drop fun x=>x==id)=some (ks2.map vi,ks2.map fun b=>if b=a then .ls id 1 0 ((S.wt a).length+1) ((S.wt a).length+1)else(mwV L S b).drop fun x=>x==id) ∧
 HS n bud (wZ L a id) (Dv S a j) (((List.map (O.drop fun x=>x==id) h).set id (.cells (List.map (clV L S) (S.wt a)++[.ls (L.c j) 1 0 (S.cl j).length (S.cl j).length]))).set L.m (.map (ks2.map vi) (ks2.map fun b=>if b=a then .ls id 1 0 ((S.wt a).length+1) ((S.wt a).length+1)else(mwV L S b).drop fun x=>x==id))) ∧
 (∀o:O,((List.map (O.drop fun x=>x==id) h).set id o)[L.m]? =some (.map (ks.map vi) (ks.map fun b=>(mwV L S b).drop fun x=>x==id))) ∧
 (∀o:O,((List.map (O.drop fun x=>x==id) h).set id o)[L.s]? =some (.cells (ax n bud L S))) ∧
 (V.drops (fun x=>x==id) (List.map (clV L S) (S.wt a))=List.map (clV L S) (S.wt a)) ∧
 (∀o q:O,(((List.map (O.drop fun x=>x==id) h).set id o).set L.m q)[L.s]? =some (.cells (ax n bud L S))):=by
 obtain⟨ks,hm1,hm2,hm3⟩:=hs.mapv;have hsol:=hs.sol;have hls:=hs.rlt _ _ hs.rs;have hlm:=hs.rlt _ _ hs.rm;have hms:L.m≠L.s:=aY L hs.rm hs.rs (by simp);have hget:=tZ (ks:=ks) (f:=mwV L S) (zero:=V.nils) a fun hn=>by unfold mwV;rw[(hm3 a hn).1];rfl
 have hrow:=hs.wat a;unfold fK at hrow;rw[hw]at hrow;obtain⟨hr1,hr2⟩:=hrow;have hv1:mwV L S a= .ls id 1 0 (S.wt a).length (S.wt a).length:=by unfold mwV;rw[hw];rfl
 rw[hv1]at hget;have hsi:L.s≠id:=aY L hs.rs hr2 (by simp);have b2:(L.m==id)=false:=by simp[aY L hs.rm hr2 (by simp)]
 obtain⟨ks2,hp1,hp2,hp3,hp4⟩:=kL hm2 (fun b=>(mwV L S b).drop fun x=>x==id) a (.ls id 1 0 ((S.wt a).length+1) ((S.wt a).length+1));have q1:∀o:O,((List.map (O.drop fun x=>x==id) h).set id o)[L.m]? =some (.map (ks.map vi) (ks.map fun b=>(mwV L S b).drop fun x=>x==id)):=fun o=>by rw[List.getElem?_set_ne (aY L hr2 hs.rm (by simp)),List.getElem?_map,hm1,Option.map_some,jI,dw (fun v hv=>by obtain⟨_,_,rfl⟩:=List.mem_map.1 hv;exact dC),qG]
 have nb:∀ {i r},L.ro i=some r→r≠ .w a→(i==id)=false:=fun hi hr=>by simp[aY L hi hr2 hr]
 have hsol2:∀v∈ax n bud L S,v.drop (fun x=>x==id)=v:=fun v hv=>by
  simp only[ax,List.mem_cons,List.not_mem_nil,or_false]at hv;rcases hv with rfl | rfl | rfl | rfl | rfl | rfl | rfl | rfl<;>first | exact dC | exact aW (nb hs.rv (by simp)) | exact aW (nb hs.rt (by simp)) | exact aW (nb hs.rl (by simp)) | exact aW (nb hs.rx (by simp)) | exact aW (nb hs.rg (by simp)) | skip
  rw[V.drop,b2];rfl
 have q2:∀o:O,((List.map (O.drop fun x=>x==id) h).set id o)[L.s]? =some (.cells (ax n bud L S)):=fun o=>by rw[List.getElem?_set_ne hsi.symm];exact Lm hsol hsol2
 have q3:V.drops (fun x=>x==id) (List.map (clV L S) (S.wt a))=List.map (clV L S) (S.wt a):=dw fun v hv=>by obtain⟨q,hq,rfl⟩:=List.mem_map.1 hv;exact aW (nb (hs.cla q (hs.fwt a q hq)).2 (by simp))
 have q4:∀o q:O,(((List.map (O.drop fun x=>x==id) h).set id o).set L.m q)[L.s]? =some (.cells (ax n bud L S)):=fun o q=>by rw[List.getElem?_set_ne hms];exact q2 o
 have hil:=hs.rlt _ _ hr2;refine⟨ks,ks2,hm1,hr1,hr2,hget,hp1,⟨hs.toHR.wstep hj (.inr ⟨hr2,hw⟩) ?_ ?_ ⟨ks2,?_,hp2,hp3,fun b hb=>hm3 b fun hb2=>hb (hp4 b hb2)⟩ (by simp) (by simpa using hil),q4 _ _⟩,q1,q2,q3,q4⟩
 ·intro q cs hq hv hr hne hqm;have hqm:=hqm.symm;rw[List.getElem?_set_ne hqm,List.getElem?_set_ne (Ne.symm hne)];exact Ll hq hv
 ·rw[List.getElem?_set_ne (aY L hs.rm hr2 (by simp)),List.getElem?_set_self (by simpa using hil)];simp[clV]
 ·rw [List.getElem?_set_self (by simpa using hlm)]
  congr 2
  refine List.map_congr_left fun b hb=> ?_;by_cases he:b=a
  ·rw[if_pos he,if_pos he]
  ·rw[if_neg he,if_neg he];unfold mwV;have kw:=hs.wat b;unfold fK at kw;cases hwb:L.w b with
   | none=>simp only[FB,V.drop]
   | some i=>rw[hwb]at kw;exact aW (nb kw.2 (by simpa using he))
theorem HR.setC (k:HR n L S h) (hj:j<S.nc) {c:Cl} (hl:c.length=(S.cl j).length):HR n L (swS S j c) (h.set (L.c j) (.cells (c.map vi))):=by
 have hc:=(k.cla j hj).2;have hlen:∀q,((swS S j c).cl q).length=(S.cl q).length:=fun q=>by
  show(upd S.cl j c q).length=_;by_cases he:q=j
  ·subst he;rw[aO,hl]
  ·rw[aU he]
 have hcv:clV L (swS S j c)=clV L S:=funext fun q=>by unfold clV;rw[hlen]
 have hvc:di L (swS S j c) n=di L S n:=by
  unfold di fG;have:reV L (swS S j c)=reV L S:=funext fun r=>by cases r<;>simp only[reV,hcv]
  rw[this];rfl
 refine {var:= ?_,map:= ?_,trl:= ?_,lvl:= ?_,nxl:= ?_,lnl:= ?_,lnk:= ?_,cla:= ?_,wat:= ?_,fre:=k.fre,fwt:=k.fwt,rs:=k.rs,rv:=k.rv,rm:=k.rm,rt:=k.rt,rl:=k.rl,rx:=k.rx,rg:=k.rg,rlt:=fun i q hq=>by rw[List.length_set];exact k.rlt i q hq,ext:=fun i o ho=>⟨by rw[aK hc ho (by simp)];exact(k.ext i o ho).1,(k.ext i o ho).2⟩}
 ·rw[aK hc k.rv (by simp),hvc];exact k.var
 ·obtain⟨ks,h1,h2⟩:=k.map;exact⟨ks,by rw[aK hc k.rm (by simp)];exact h1,h2⟩
 ·rw[aK hc k.rt (by simp)];exact k.trl
 ·rw[aK hc k.rl (by simp)];exact k.lvl
 ·rw[aK hc k.rx (by simp)];exact k.nxl
 ·rw[aK hc k.rg (by simp)];exact k.lnl
 ·intro i hi;obtain⟨h1,h2⟩:=k.lnk i hi;exact⟨by rw[aK hc h2 (by simp)];exact h1,h2⟩
 ·intro q hq;obtain ⟨h1,h2⟩ := k.cla q hq;refine ⟨?_,h2⟩;show (h.set (L.c j) _)[L.c q]? = some (.cells ((upd S.cl j c q).map vi));by_cases he : q = j
  ·subst he;rw[aO,List.getElem?_set_self (k.rlt _ _ hc)]
  ·rw[aU he,aK hc h2 (by simpa using Ne.symm he)];exact h1
 ·intro b;have:=k.wat b;unfold fK at this ⊢;rw[hcv];cases hw:L.w b with
  | none=>rw[hw]at this;exact this
  | some id=>rw[hw]at this;exact⟨by rw[aK hc this.2 (by simp)];exact this.1,this.2⟩
theorem HS.setC (hs:HS n bud L S h) (hj:j<S.nc) {c:Cl} (hl:c.length=(S.cl j).length):HS n bud L (swS S j c) (h.set (L.c j) (.cells (c.map vi))) :=
 ⟨hs.toHR.setC hj hl,by rw[aK (hs.cla j hj).2 hs.rs (by simp)];exact hs.sol⟩
end
section
variable {n:Nat} {bud:Int} {L:Lay} {S:St} {h:H} {a:Int} {j:Nat}
def UQ:Plan:= .take 0<| .take 1<| .take 2<| .take 3<| .take 5<| .take 6<| .alt 4 (.one 7<| .take 8<| .one 9<| .take 10<| .one 11<| .fin) (.one 7 (.one 4<| .take 8<| .one 9<| .take 10<| .one 11<| .fin))
theorem uf (nt : Int) : ∀ c : Cl,(TW nt c).length = c.length
 | []=>rfl
 | [_]=>rfl
 | x::y::r=>by show(if x=nt then y::x::r else x::y::r).length=_;split<;>rfl
theorem qH (nt : Int) : ∀ (c : Cl) (b : Int),b ∈ TW nt c ↔ b ∈ c
 | [],_=>Iff.rfl
 | [_],_=>Iff.rfl
 | x::y::r,b=>by
  show b∈(if x=nt then y::x::r else x::y::r)↔_;split
  ·simp only[List.mem_cons];exact⟨fun h=>h.elim (fun h=> .inr (.inl h)) (fun h=>h.elim .inl fun h=> .inr (.inr h)),fun h=>h.elim (fun h=> .inr (.inl h)) (fun h=>h.elim .inl fun h=> .inr (.inr h))⟩
  ·exact Iff.rfl
theorem Ei (hs : HS n bud L S h) (hn : n ≤ 20000) (hj : j < S.nc) {nt u w : Int} {r : Cl} (hcl : TW nt (S.cl j) = u :: w :: r) (h2 : 2 ≤ (S.cl j).length) (hlen : (S.cl j).length ≤ 1000000) (hlit : ∀ a ∈ S.cl j,a ≠ 0 ∧ a.natAbs ≤ n)
 (hv:∀i,1≤i→i≤n→-1≤(S.v i).value∧(S.v i).value≤1) (hw:∀a,(S.wt a).length≤1000000) (htr:S.tr.length≤20000) {R:AEnd→H→(Nat→Bool)→Prop}
 (r1:∀h',0<lh S u→HS n bud L (swS S j (u::w::r)) h'→h'.length=h.length→R (.ret (.tup [.bool true,.bool false])) h' (fun _=>false))
 (r2:∀L' h' p i (hi:i<r.length),0≤lh S r[i]→(∀k (hk:k<i),lh S (r[k]'(by omega))<0)→¬0<lh S u→LX S.nc L L'→HS n bud L' (Dv (swS S j (u::r[i]::r.set i nt)) r[i] j) h'→h.length≤h'.length→(∀q,p q=true→L'.ro q=some (.w r[i]))→R (.ret (.tup [.bool false,.bool false])) h' p)
 (r3:∀h',lh S u<0→(∀k (hk:k<r.length),lh S r[k]<0)→HS n bud L (swS S j (u::w::r)) h'→h'.length=h.length→R (.ret (.tup [.bool true,.bool true])) h' (fun _=>false))
 (r4:∀h' p,lh S u=0→(∀k (hk:k<r.length),lh S r[k]<0)→HS n bud L (jF (swS S j (u::w::r)) u (some j)) h'→h.length≤h'.length→(∀q,p q=true→q=L.t)→R (.ret (.tup [.bool true,.bool false])) h' p) :
 ah TE 171 [.lp L.s 0,clV L S j,vi nt] h R:=by
 have hM:maxLen=9223372036854775807:=rfl;have hc:=(hs.cla j hj).1;have hlr:=hs.rlt _ _ (hs.cla j hj).2;unfold clV;refine au Tryz.func171 rfl (by simp[nts]) (OG mixed (fun f' h'=>f'.t 0= .lp L.s 0∧f'.t 1= .ls (L.c j) 1 0 (S.cl j).length (S.cl j).length∧f'.t 2=vi nt∧f'.d=[]∧(∀q,f'.k q=false)∧HS n bud L (swS S j (u::w::r)) h'∧h'.length=h.length) ?_ ?_)
 ·obtain⟨x,y,r0,ec⟩:∃x y r0,S.cl j=x::y::r0:=by
   match S.cl j,h2 with
   | x::y::r0,_=>exact⟨x,y,r0,rfl⟩
  rw[ec]at hc hcl ⊢;have hl3:(x::y::r0).length=r0.length+2:=rfl;simp only[wq.1,seval,hc];refine⟨by omega,vcB.mk (fun hx=> ?_) (fun hx=> ?_)⟩
  ·have hx : x = nt := by simpa using hx
   have e:y=u∧x=w∧r0=r:=by simp only[TW,if_pos hx,List.cons.injEq]at hcl;exact⟨hcl.1,hcl.2.1,hcl.2.2⟩
   obtain⟨rfl,rfl,rfl⟩:=e;have hH:=hs.setC hj (c:=y::x::r0) (by rw[ec];rfl);simp only[wq.1];refine bY mixed UQ (fun f' h'=>f'.t 0= .lp L.s 0∧f'.t 1= .ls (L.c j) 1 0 (r0.length+2) (r0.length+2)∧f'.t 2=vi nt∧f'.d=[]∧(∀q,f'.k q=false)∧h'=h.set (L.c j) (.cells ((y::x::r0).map vi))) (by decide +kernel) (by decide +kernel) ?_ ?_
   ·simp only [wq.1,seval,UQ,hc,hlr,List.getElem?_set_self,List.set_set]
    and_intros<;>first | omega | rfl | trivial
   ·rintro f' h' ⟨g0,g1,g2,gd,gk,rfl⟩;simp only [wq.1,g0,g1,g2,gd]
    and_intros<;>first | rfl | exact gk | exact hH | exact List.length_set ..
  ·have hx : ¬ x = nt := by simpa using hx
   have e:x=u∧y=w∧r0=r:=by simp only[TW,if_neg hx,List.cons.injEq]at hcl;exact⟨hcl.1,hcl.2.1,hcl.2.2⟩
   obtain⟨rfl,rfl,rfl⟩:=e;simp only[wq.1,seval];rw[←ec,Fv];exact hs
 ·rintro f1 h1 ⟨g0,g1,g2,gd,gk,hs1,hl1⟩;have hl3 : (S.cl j).length = r.length + 2 := by rw [← uf nt (S.cl j),hcl];rfl
  have hmem:∀b∈u::w::r,b≠0∧b.natAbs≤n:=fun b hb=>hlit b ((qH nt (S.cl j) b).1 (hcl▸hb));obtain⟨hu0,hu⟩:=hmem u (by simp);have hc1:=(hs1.cla j hj).1;rw[show(swS S j (u::w::r)).cl j=u::w::r from aO _ _ _]at hc1;have hg0:(vi u::vi w::r.map vi).getD 0 .any=vi u:=rfl;have hl5:(vi u::vi w::r.map vi).length=r.length+2:=by simp
  rw[hl3]at g1;rw[List.map_cons,List.map_cons]at hc1;have lv0:∀b,lh (swS S j (u::w::r)) b=lh S b:=fun _=>rfl;have gk':f1.k=fun _=>false:=funext gk;refine vm ?_;simp only[wq.1,seval,Tryz.results171,g0,g1,hc1];refine⟨by omega,jW hs1 hn hu (hv _ (by omega) hu) ?_⟩;rw[lv0];simp only[wq.1,seval];refine vcB.mk (fun hx=> ?_) (fun hx=> ?_)
  ·simp only[wq.1,seval,gd];rw[gk'];exact r1 h1 (by simpa using hx) hs1 hl1
  have hx:¬0<lh S u:=by simpa using hx
  simp only[wq.1,↓reduceIte,Nat.reduceEqDiff,Nat.reduceLT,Nat.reduceLeDiff,Nat.reduceAdd,Nat.reduceSub,Int.reduceToNat,Nat.reduceDiv,Int.reduceLT,Int.reduceLE,Int.reduceNeg,Int.reduceBEq,Int.reduceBNe,Int.reduceAdd,Int.reduceSub,Nat.reduceBEq,reduceCtorEq,Nat.reduceMul,ay,Tryz.results171,g0,g1,g2,gd,hc1,hl5];refine⟨by omega,?_⟩;have hl6:(((r.length+2:Nat):Int)-2).toNat=r.length:=by omega
  refine aA (fun m f' h' => ∃ i : Nat,m + i = r.length ∧ f'.t 0 = .lp L.s 0 ∧ f'.t 1 = .ls (L.c j) 1 0 (r.length + 2) (r.length + 2) ∧ f'.t 2 = vi nt ∧ f'.t 32 = .ls (L.c j) 1 2 r.length r.length ∧ f'.t 33 = vi r.length ∧ f'.t 34 = vi i ∧ f'.d = [] ∧ (∀ q,f'.k q = false) ∧ h' = h1 ∧ ∀ k (hk : k < r.length),k < i → lh S r[k] < 0) r.length
   ⟨0,rfl,by simp only[wq.1,↓reduceIte,Nat.reduceEqDiff,Nat.reduceLT,Nat.reduceLeDiff,Nat.reduceAdd,Nat.reduceSub,Int.reduceToNat,Nat.reduceDiv,Int.reduceLT,Int.reduceLE,Int.reduceNeg,Int.reduceBEq,Int.reduceBNe,Int.reduceAdd,Int.reduceSub,Nat.reduceBEq,reduceCtorEq,Nat.reduceMul,ay,Tryz.results171,g0],by simp only[wq.1,↓reduceIte,Nat.reduceEqDiff,Nat.reduceLT,Nat.reduceLeDiff,Nat.reduceAdd,Nat.reduceSub,Int.reduceToNat,Nat.reduceDiv,Int.reduceLT,Int.reduceLE,Int.reduceNeg,Int.reduceBEq,Int.reduceBNe,Int.reduceAdd,Int.reduceSub,Nat.reduceBEq,reduceCtorEq,Nat.reduceMul,ay,Tryz.results171,g1],by simp only[wq.1,↓reduceIte,Nat.reduceEqDiff,Nat.reduceLT,Nat.reduceLeDiff,Nat.reduceAdd,Nat.reduceSub,Int.reduceToNat,Nat.reduceDiv,Int.reduceLT,Int.reduceLE,Int.reduceNeg,Int.reduceBEq,Int.reduceBNe,Int.reduceAdd,Int.reduceSub,Nat.reduceBEq,reduceCtorEq,Nat.reduceMul,ay,Tryz.results171,g2],by simp only[wq.1,↓reduceIte,Nat.reduceEqDiff,Nat.reduceLT,Nat.reduceLeDiff,Nat.reduceAdd,Nat.reduceSub,Int.reduceToNat,Nat.reduceDiv,Int.reduceLT,Int.reduceLE,Int.reduceNeg,Int.reduceBEq,Int.reduceBNe,Int.reduceAdd,Int.reduceSub,Nat.reduceBEq,reduceCtorEq,Nat.reduceMul,ay,Tryz.results171,hl6];rfl,by simp only[wq.1,↓reduceIte,Nat.reduceEqDiff,Nat.reduceLT,Nat.reduceLeDiff,Nat.reduceAdd,Nat.reduceSub,Int.reduceToNat,Nat.reduceDiv,Int.reduceLT,Int.reduceLE,Int.reduceNeg,Int.reduceBEq,Int.reduceBNe,Int.reduceAdd,Int.reduceSub,Nat.reduceBEq,reduceCtorEq,Nat.reduceMul,ay,Tryz.results171,hl6];rfl,by simp only[wq.1,↓reduceIte,Nat.reduceEqDiff,Nat.reduceLT,Nat.reduceLeDiff,Nat.reduceAdd,Nat.reduceSub,Int.reduceToNat,Nat.reduceDiv,Int.reduceLT,Int.reduceLE,Int.reduceNeg,Int.reduceBEq,Int.reduceBNe,Int.reduceAdd,Int.reduceSub,Nat.reduceBEq,reduceCtorEq,Nat.reduceMul,ay,Tryz.results171];rfl,by simp only[wq.1,↓reduceIte,Nat.reduceEqDiff,Nat.reduceLT,Nat.reduceLeDiff,Nat.reduceAdd,Nat.reduceSub,Int.reduceToNat,Nat.reduceDiv,Int.reduceLT,Int.reduceLE,Int.reduceNeg,Int.reduceBEq,Int.reduceBNe,Int.reduceAdd,Int.reduceSub,Nat.reduceBEq,reduceCtorEq,Nat.reduceMul,ay,Tryz.results171,gd],gk,rfl,fun _ _ hk=>absurd hk (Nat.not_lt_zero _)⟩ ?_
  rintro m f2 h2 ⟨i,hm,e0,e1,e2,e32,e33,e34,ed,ek,rfl,hneg⟩;have ek':f2.k=fun _=>false:=funext ek;refine vm ?_;simp only[wq.1,seval,e33,e34];by_cases hi:i<r.length
  ·have eb : decide ((i : Int) < (r.length : Int)) = true := by rw [decide_eq_true_eq];omega
   have hg:(vi u::vi w::r.map vi).getD (2+i*1) .any=vi r[i]:=by rw[show 2+i*1=i+1+1 by omega];simp[List.getD_eq_getElem?_getD,hi]
   obtain⟨hri0,hri⟩:=hmem r[i] (by simp[List.getElem_mem]);simp only[wq.1,seval,eb,e0,e32,e34,hc1,hg];refine⟨by omega,by omega,jW hs1 hn hri (hv _ (by omega) hri) ?_⟩;rw[lv0];simp only[wq.1,seval];refine vcB.mk (fun hy=> ?_) (fun hy=> ?_)
   ·have hy : 0 ≤ lh S r[i] := by simpa using hy
    simp only[wq.1,seval,e1,e2,hc1];have hlc:L.c j<h2.length:=hs1.rlt _ _ (hs1.cla j hj).2;have hw3:IntKind.i64.wrap ((i:Int)+2)=((i+2:Nat):Int):=by rw[aX (by omega) (by omega)];omega
    have hl7:(vi u::vi r[i]::r.map vi).length=r.length+2:=by simp
    have hfold:List.take ((i+2)*1) (vi u::vi r[i]::r.map vi)++[vi nt]++List.drop ((i+2)*1) (vi r[i]::r.map vi)=vi u::vi r[i]::(r.set i nt).map vi:=by have:=mV (cs:=vi u::vi r[i]::r.map vi) (i:=(i+2)*1) (v:=vi nt) (by simp;omega);rw[List.drop_succ_cons]at this;rw[this,show(i+2)*1=i+1+1 by omega];simp[List.map_set]
    simp only[wq.1,seval,hw3,hlc,List.getElem?_set_self,hfold,List.set_set];have hsC:=hs1.setC hj (c:=u::r[i]::r.set i nt) (by simp[swS,clS,aO]);have eS:swS (swS S j (u::w::r)) j (u::r[i]::r.set i nt)=swS S j (u::r[i]::r.set i nt):=by
     unfold swS clS
     congr 1
     funext q
     by_cases he:q=j
     ·subst he;simp[aO]
     ·simp[aU he]
    rw[eS]at hsC;refine⟨by omega,⟨by omega,by omega⟩,by omega,?_⟩;obtain⟨h4,eh4⟩:∃h4,h4=h2.set (L.c j) (.cells (vi u::vi r[i]::List.map vi (r.set i nt))):=⟨_,rfl⟩;rw[List.map_cons,List.map_cons]at hsC;rw[←eh4]at hsC ⊢;have hl8:h4.length=h.length:=by rw[eh4,List.length_set];exact hl1
    obtain⟨b,eb2⟩:∃b,b=r[i]:=⟨_,rfl⟩;rw[←eb2];obtain⟨S0,eS0⟩:∃S0,S0=swS S j (u::r[i]::r.set i nt):=⟨_,rfl⟩;rw[←eS0]at hsC;have ecl:(S0.cl j).length=r.length+2:=by rw[eS0];simp[swS,clS,aO]
    have hj0:j<S0.nc:=by rw[eS0];exact hj
    refine bY mixed Iu (fun f' h''=>∃L2,LX S.nc L L2∧HS n bud L2 (Dv S0 b j) h''∧f'.d=[]∧(∀q,f'.k q=true→L2.ro q=some (.w b))∧h4.length≤h''.length) (by decide +kernel) (by decide +kernel) ?_ ?_
    ·have hsol:=hsC.sol;have hls:=hsC.rlt _ _ hsC.rs;have hlm:=hsC.rlt _ _ hsC.rm;cases hwb:L.w b with
     | none =>
      obtain⟨ks,ks2,hm1,hget,hp1,hH⟩:=Lp hsC hj0 hwb;rw[ecl]at hH;have hms:L.m≠L.s:=aY L hsC.rm hsC.rs (by simp);have en1:∀o:O,(h4++[o])[L.s]? =some (.cells (ax n bud L S0)):=fun o=>by rw[List.getElem?_append_left hls];exact hsol
      have en2:∀o:O,(h4++[o])[L.m]? =some (.map (ks.map vi) (ks.map (mwV L S0))):=fun o=>by rw[List.getElem?_append_left hlm];exact hm1
      have en3:∀(o q:O),(List.set (h4++[o]) L.m q)[L.s]? =some (.cells (ax n bud L S0)):=fun o q=>by rw[List.getElem?_set_ne hms];exact en1 o
      have key:∃L2,LX S.nc L L2∧HS n bud L2 (Dv S0 b j) (List.set (h4++[O.cells [.ls (L.c j) 1 0 (r.length+2) (r.length+2)]]) L.m (.map (ks2.map vi) (ks2.map fun a=>if a=b then .ls h4.length 1 0 1 1 else mwV L S0 a)))∧(∀q,f2.k q=true→L2.ro q=some (.w b))∧h4.length≤(List.set (h4++[O.cells [.ls (L.c j) 1 0 (r.length+2) (r.length+2)]]) L.m (.map (ks2.map vi) (ks2.map fun a=>if a=b then .ls h4.length 1 0 1 1 else mwV L S0 a))).length :=
       ⟨_,mW (.inl ⟨Lj hsC,hwb⟩),hH,fun q hq=>(by rw[ek]at hq;cases hq),by simp⟩
      simp only[wq.1,seval,Iu,e0,e1,ed,hsol,ax,hm1,hget,en1,en2,hp1]
      and_intros<;>first | exact key | omega | rfl | decide
     | some id =>
      obtain⟨ks,ks2,hm1,hr1,hro,hget,hp1,hH,q1,q2,q3,q4⟩:=Lr hsC hj0 hwb;rw[ecl]at hH;have hlen2:((S0.wt b).map (clV L S0)).length=(S0.wt b).length:=List.length_map ..;have hwb2:(S0.wt b).length≤1000000:=by rw[eS0];exact hw b
      have b1:(L.s==id)=false:=by simp[aY L hsC.rs hro (by simp)]
      have b2:(L.m==id)=false:=by simp[aY L hsC.rm hro (by simp)]
      have b3:(L.c j==id)=false:=by simp[aY L (hsC.cla j hj0).2 hro (by simp)]
      have key:∃L2,LX S.nc L L2∧HS n bud L2 (Dv S0 b j) (((List.map (O.drop fun x=>x==id) h4).set id (.cells (List.map (clV L S0) (S0.wt b)++[.ls (L.c j) 1 0 (r.length+2) (r.length+2)]))).set L.m (.map (ks2.map vi) (ks2.map fun a=>if a=b then .ls id 1 0 ((S0.wt b).length+1) ((S0.wt b).length+1)else(mwV L S0 a).drop fun x=>x==id))) ∧
       (∀q,(f2.k q||q==id)=true→L2.ro q=some (.w b))∧h4.length≤(((List.map (O.drop fun x=>x==id) h4).set id (.cells (List.map (clV L S0) (S0.wt b)++[.ls (L.c j) 1 0 (r.length+2) (r.length+2)]))).set L.m (.map (ks2.map vi) (ks2.map fun a=>if a=b then .ls id 1 0 ((S0.wt b).length+1) ((S0.wt b).length+1)else(mwV L S0 a).drop fun x=>x==id))).length :=
       ⟨_,mW (.inr ⟨hro,hwb⟩),hH,fun q hq=>by
        rw[ek,Bool.false_or]at hq;rw[show q=id by simpa using hq];exact if_pos rfl,by simp⟩
      simp only[wq.1,seval,Iu,e0,e1,ed,hsol,ax,hm1,hget,hp1,hr1,b1,b2,b3,q1,q2,q3]
      and_intros<;>first | exact key | omega | rfl | decide
    ·rintro f3 h5 ⟨L2,hx2,hs5,d5,k5,l5⟩;simp only[wq.1,seval,d5];subst eb2;exact r2 L2 h5 f3.k i hi hy (fun k hk=>hneg k (by omega) hk) hx hx2 (eS0▸hs5) (by omega) k5
   ·have hy : lh S r[i] < 0 := by simpa using hy
    have hw2:IntKind.i64.wrap ((i:Int)+1)=((i+1:Nat):Int):=by rw[aX (by omega) (by omega)];omega
    simp only[wq.1,seval,e34,hw2];exact .inl ⟨m-1,by omega,i+1,by omega,by simp only[wq.1,seval,e0],by simp only[wq.1,seval,e1],by simp only[wq.1,seval,e2],by simp only[wq.1,seval,e32],by simp only[wq.1,seval,e33],by simp only[wq.1,↓reduceIte],by simp only[wq.1,ed],ek,rfl,fun k hk hki=>by
     by_cases he:k=i
     ·subst he;exact hy
     ·exact hneg k hk (by omega)⟩
  ·have eb : decide ((i : Int) < (r.length : Int)) = false := by rw [decide_eq_false_iff_not];omega
   simp only[wq.1,seval,eb,e0,e1,hc1];have hall:∀k (hk:k<r.length),lh S r[k]<0:=fun k hk=>hneg k hk (by omega);refine⟨by omega,jW hs1 hn hu (hv _ (by omega) hu) ?_⟩;rw[lv0];simp only[wq.1,seval];refine vcB.mk (fun hy=> ?_) (fun hy=> ?_)
   ·have hy : lh S u < 0 := by simpa using hy
    simp only[wq.1,seval,ed];rw[ek'];exact r3 h2 hy hall hs1 hl1
   ·have hy:lh S u=0:=by
     have:¬lh S u<0:=by simpa using hy
     omega
    simp only[wq.1,seval,e0,e1,hc1];have ev:V.ls (L.c j) 1 0 (r.length+2) (r.length+2)=reV L (swS S j (u::w::r)) (some j):=by
     simp[reV,clV,swS,clS,aO]
    rw[ev];refine⟨by omega,jJ hs1 hn hu htr (some j) (fun q hq=>by cases hq;exact hj) fun h3 p hs3 hp hl3=> ?_⟩;simp only[wq.1,seval,ed,ek',aZ];exact r4 h3 p hy hall hs3 (by rw[←hl1];exact hl3) hp
end
end Go.Proofs.YtmlacppmbfbjgaaGreatDoor
