/- Lemmas for this claim, part F19: each holds under what it names. -/
import Derived.Test.YtmlacppmbfbjgaaGreatDoorF18
import Derived.Shelf.Strings.OnBuilder
set_option linter.unusedVariables false
set_option linter.unusedSimpArgs false
set_option linter.unnecessarySimpa false
set_option maxRecDepth 100000
set_option maxHeartbeats 16000000
namespace Go.Proofs.YtmlacppmbfbjgaaGreatDoor
open Go Go.Proofs Go.Abs Go.RowKit Go.Shelf Go.Lib Go.Sort
theorem VC : Builder.Extra Tryz.prog NC where
 sizeBuilder:=by kernel_rfl
 liesBuilder:=by kernel_rfl
 t5:=Tryz.underlying5
 a5:=Tryz.isAgg5
 z5:=Tryz.sizeOf5
 v5:=Tryz.zeroValue5
 infoByte:=by kernel_rfl
 cellsByte:=by kernel_rfl
 sizeByte:=by kernel_rfl
 neB5:=by decide
theorem P7 {w:World} {b o:Nat} {v:Value} (h:w.cell? ⟨b,o,none⟩=some v):b<w.heap.size:=by
 rcases Nat.lt_or_ge b w.heap.size with h1 | h1
 ·exact h1
 ·exfalso;unfold World.cell? at h;simp[Array.getElem?_eq_none h1]at h
theorem I9 {w w':World} (x:Below w.heap.size w w'):WExt w w':=⟨x.os,x.tape,x.output,x.size,x.block⟩
theorem yt : ∀ l : List S,(l.map fun s : S => (⟨s.toArray⟩ : ByteArray)).map (·.data.toList) = l
 | []=>rfl
 | a::l=>by rw[List.map_cons,List.map_cons,yt l]
theorem P8 (l:List S) (sep:S) (hn:l.length≤100000000) (hj:(Lib.join l sep).length≤100000000):Ev TE 40 [dF l,.str sep] (.str (Lib.join l sep)):=by
 intro ok w vs hs hl;simp only[VList]at hl;obtain⟨y,ys,rfl,h1,y2,ys2,rfl,h2,rfl⟩:=hl;have:=yg h2;subst this;simp only[VRel]at h1;obtain⟨a,cp,rfl,hle,hcp,_,hel⟩:=h1;rw[List.length_map]at hle;have fin:Calls TE.P 40 (Value.slice a (l.map V.str).length cp::Value.string ⟨sep.toArray⟩::[]).toArray w fun en w'=>en= .returned (.string ⟨(Lib.join l sep).toArray⟩)∧Below w.heap.size w w':=by
  rw[List.length_map];rcases l with _ | ⟨s0,l0⟩
  ·exact(Any.strings_Join_none VB VC a cp ⟨sep.toArray⟩ w).mono fun e w' ⟨he,hw⟩=>⟨he,hw▸Below.refl _ _⟩
  ·obtain⟨b,off,rfl,hv⟩:=hel.resolve_left (by simp);obtain⟨xs,hx1,hx2,hx3⟩:=VElems.list hv (by intro v hv;obtain⟨s,_,rfl⟩:=List.mem_map.1 hv;rfl);have hxs:=GK hx3;subst hxs;have bH:∀(j:Nat) (x:ByteArray),((s0::l0).map fun s:S=>(⟨s.toArray⟩:ByteArray))[j]? =some x→w.cell? ⟨b,off+j,none⟩=some (.string x):=fun j x hj=>by
    refine hx2 j _ ?_;rw[List.getElem?_map]at hj ⊢;cases hg:(s0::l0)[j]? with
    | none=>rw[hg]at hj;simp at hj
    | some s=>rw[hg]at hj;simp at hj;subst hj;rfl
   have hmm:=yt (s0::l0);have:=Any.strings_Join VB VC b off cp ((s0::l0).map fun s:S=>(⟨s.toArray⟩:ByteArray)) ⟨sep.toArray⟩ w bH (P7 (bH 0 _ rfl)) (by simp at hn ⊢;omega) (by simpa using hle) (by rw[hmm];show(Lib.join (s0::l0) sep).length≤_;omega);rw[hmm,List.length_map]at this;exact this
 refine Calls.mono fin ?_;rintro en w' ⟨rfl,hb⟩;refine⟨_,rfl,I9 hb,?_⟩;simp only[VRel];exact⟨_,rfl,by simp,by have hM:maxLen=9223372036854775807:=rfl;omega⟩
theorem EL (b:Nat) (w:World) (c1:w.drew.cell? ⟨b,1,none⟩=some (.slice none 0 0)) :
 Calls Tryz.prog 41 #[.pointer (some ⟨b,0,none⟩)] w fun e w'=>e= .returned (.string ⟨#[]⟩)∧w'=w.drew:=by
 have hSD:(Builtin.unsafeSliceData_ #[92] 138 #[.slice none 0 0]).run Tryz.prog w.drew= .ok (.pointer none) w.drew :=
  Lib.run_unsafeSliceData_nil w.drew _ _ _ _
 have hUS:(Builtin.unsafeString_ #[138,3] 9 #[.pointer none,.int .i64 0]).run Tryz.prog w.drew= .ok (.string .empty) w.drew :=
  Lib.run_unsafeString_none w.drew 138 3 9 none
 go_enter Tryz.func41,Tryz.ntmps41
 go_wp2
 go_region
 all_goals (go_wp2;go_ret;exact⟨rfl,rfl⟩)
theorem P9 {T id:Nat} {a:V} {h:H} {R:AEnd→H→(Nat→Bool)→Prop} (hh:h[id]? =some (.typed T [a,.nils])) (hr:R (.ret (.str [])) h (fun _=>false)):ah TE 41 [.lp id 0] h R:=by
 intro ok pl w vs hs hv;simp only[VList,VRel]at hv;obtain⟨y,ys,rfl,⟨b,hpb,rfl⟩,rfl⟩:=hv;have hpb:pl id=some b:=hpb;obtain⟨o,ho,hat⟩:=hs.obj id b hpb;rw[hh]at ho;cases ho;obtain⟨arr,fz,g1,g2,g3,g4⟩:=hat;have g1:w.heap[b]? =some (.cells arr T fz):=g1;obtain⟨x1,e1,r1⟩:=VList.get 1 .nils g4 rfl;have e1:arr[1]? =some x1:=by
  rw[List.getElem?_take_of_lt (by simp)]at e1;simpa using e1
 simp only[VRel]at r1;have hcell:w.drew.cell? ⟨b,1,none⟩=some (.slice none 0 0):=by
  rw[Lib.cell_of_heap (w:=w.drew) g1,e1,r1]
 refine(EL b w hcell).mono ?_;rintro en w' ⟨rfl,rfl⟩;have x:WExt w w.drew:=WExt.drew w;exact⟨fun _=>false,pl,h,.ret (.str []),hs.wext x,x.keeps hs,by show VRel _ _ _;simp only[VRel];exact⟨_,rfl,by simp,by decide⟩,hr⟩
def bI : S → H
 | []=>[.typed 94 [.nilp,.nils]]
 | c::s=>[.typed 94 [.lp 0 0,.ls 1 1 0 (c::s).length (c::s).length],.typed 5 ((c::s).map vb)]
theorem zZ {out:S} {p:Nat→Bool} (h0:p 0=false) (h1:out≠[]→p 1=false):(bI out).map (O.drop p)=bI out:=by
 cases out with
 | nil=>rfl
 | cons c s=>have h1:=h1 (by simp);show [O.typed _ (V.drops p [.lp 0 0,.ls 1 1 0 _ _]),O.typed _ (V.drops p ((c::s).map vb))]=_;rw[uo];simp only[V.drops,V.drop,h0,h1,if_false,Bool.false_eq_true];rfl
theorem QR (out:S):1≤(bI out).length∧(out≠[]→(bI out).length=2):=by
 cases out with
 | nil=>exact⟨Nat.le_refl _,fun h=>absurd rfl h⟩
 | cons c s=>exact⟨by simp[bI],fun _=>rfl⟩
theorem QS (out:S):(bI out).map (O.drop (bP (bI out).length))=bI out:=by obtain⟨h1,h2⟩:=QR out;exact zZ (by show decide (_≤0)=false;rw[decide_eq_false_iff_not];omega) (fun h=>by rw[h2 h];rfl)
theorem Qa {out s:S} {R:AEnd→H→(Nat→Bool)→Prop} (hs:s≠[]) (hl:out.length+s.length≤20000000000000) (hr:∀v p,p 0=false→R (.ret v) (bI (out++s)) p):ah TE 39 [.lp 0 0,.str s] (bI out) R:=by
 cases out with
 | nil =>
  refine NJ yj s (.inl rfl) rfl hs (by simpa using hl) ?_;cases s with
  | nil=>exact absurd rfl hs
  | cons x s=>exact hr _ _ rfl
 | cons c out=>refine P6 yj (c::out) s (.inr rfl) (by decide) rfl rfl hl ?_;have e:(((bI (c::out)).map (O.drop (·==1))).set 1 (O.typed 5 ((c::out++s).map vb))).set 0 (.typed 94 [.lp 0 0,.ls 1 1 0 (c::out++s).length (c::out++s).length])=bI (c::out++s):=rfl;rw[e];exact hr _ _ rfl
theorem VD {out:S} {R:AEnd→H→(Nat→Bool)→Prop} (hl:out.length≤20000000000000) (hr:∀h p,R (.ret (.str out)) h p):ah TE 41 [.lp 0 0] (bI out) R:=by
 cases out with
 | nil=>exact P9 (a:= .nilp) (T:=94) rfl (hr _ _)
 | cons c out=>exact TF (c::out) rfl rfl (by simp) hl (hr _ _)
theorem uq {x:Lt} (h:bi x.1=true):(oJ x).length≤41:=by simp only[bi,Bool.and_eq_true,decide_eq_true_eq]at h;unfold oJ;rw[List.length_cons];omega
theorem EM {ws:List S} {k:Nat} (h:∀w∈ws,w.length≤k):(Lib.join ws [32]).length≤ws.length*(k+1):=by
 induction ws with
 | nil=>simp[Lib.join_nil]
 | cons w ws ih =>
  have h1:=h w (by simp);have h2:=ih fun x hx=>h x (by simp[hx]);cases ws with
  | nil=>rw[Lib.join_one];simp;omega
  | cons v ws=>rw[lZ,List.length_append,List.length_cons,List.length_cons,Nat.succ_mul];omega
theorem yu {p : Nat → Bool} : ∀ {a : H} {k : Nat},(∀ i,k ≤ i → i < k + a.length → p i = false) → jB p k a = a.map (O.drop p)
 | [],_,_=>rfl
 | o::a,k,h=>by rw[jB,if_neg (by rw[h k (Nat.le_refl _) (by simp)];decide),List.map_cons,yu fun i h1 h2=>h i (by omega) (by rw[List.length_cons];omega)]
theorem yw {p : Nat → Bool} {b : H} : ∀ {a : H} {k : Nat},jB p k (a ++ b) = jB p k a ++ jB p (k + a.length) b
 | [],k=>rfl
 | o::a,k=>by rw[List.cons_append,jB,jB,List.cons_append,yw,List.length_cons,show k+1+a.length=k+(a.length+1) by omega]
theorem Qb {a:H} {b b' o:O}:(a++[b]++[o]).set a.length b'=a++[b']++[o]:=by rw[List.append_assoc,List.set_append_right _ _ (Nat.le_refl _),Nat.sub_self,List.append_assoc];rfl
theorem NK {α : Type} {f : α → S} {K : Nat} : ∀ k : List α,(∀ c ∈ k,(f c).length ≤ K) → (k.flatMap f).length ≤ k.length * K
 | [],_=>by simp
 | c::k,h=>by have h1:=h c (by simp);have h2:=NK k fun x hx=>h x (by simp[hx]);rw[List.flatMap_cons,List.length_append,List.length_cons,Nat.succ_mul];omega
theorem wO (l:List (List Lt)) (hl:l.length≤1000) (hc:∀c∈l,c.length≤1000):Ev TE 15 [lss l] (.tup [.str (gX l).1,vi (gX l).2]):=by
 have hM:maxLen=9223372036854775807:=rfl;refine ak Tryz.func15 rfl (by simp[nts]) ?_;refine ag (vm ?_);simp only[wq.1,seval,Tryz.results15];refine ag (gB ?_);refine dW rfl rfl ?_;refine H9 (t:=94) (q:=⟨.struct [(0,91),(1,92)],2,32,.agg [.nilp,.nils]⟩) rfl (by simp only[wq.1]) rfl ?_;refine fP ?_;simp only[wq.1];refine ag ?_;refine ag (vm ?_);simp only[wq.1,seval];refine aI ?_;refine aA (fun q f h=>∃(i:Nat) (X:H),q+i=l.length∧(l.take i).all okC=true∧f.t 4= .lp 0 0∧f.t 10=lss l∧f.t 11=vi l.length∧f.t 12=vi i∧f.d=[]∧h=bI ((l.take i).flatMap iJ)++X) l.length ⟨0,[],by omega,rfl,by simp only[wq.1,seval],by simp only[wq.1,seval],by simp only[wq.1,seval],by simp only[wq.1,↓reduceIte];rfl,by simp only[wq.1],rfl⟩ ?_;rintro q f h ⟨i,X,hq,hall,t4,t10,t11,t12,hd,rfl⟩;refine gV (by rw[hd];simp) ?_;rw[QS];obtain⟨out,hout⟩:∃out,out=(l.take i).flatMap iJ:=⟨_,rfl⟩;have hol:out.length≤i*42001:=by
  rw[hout];have hlp:∀c∈l.take i,(iJ c).length≤42001:=fun c hcm=>by
   have h1:=hc c (List.mem_of_mem_take hcm);have h2:=List.all_eq_true.1 hall c hcm;have h3:=EM (ws:=c.map oJ) (k:=41) (fun w hw=>by obtain⟨x,hx,rfl⟩:=List.mem_map.1 hw;exact uq (List.all_eq_true.1 h2 x hx));unfold iJ;rw[List.length_map]at h3;rw[List.length_append,List.length_singleton];omega
  have hmi:(l.take i).length≤i:=by rw[List.length_take];omega
  exact Nat.le_trans (NK _ hlp) (Nat.mul_le_mul_right _ hmi)
 rw[←hout];obtain⟨hN1,hN2⟩:=QR out;have z0:bP (bI out).length 0=false:=by show decide (_≤0)=false;rw[decide_eq_false_iff_not];omega
 refine pg (fun f'=>f'.t 4= .lp 0 0∧f'.t 10=lss l∧f'.t 11=vi l.length∧f'.t 12=vi i∧f'.d=[]) _ (fun hk=>hk _ ⟨by simp only[wq.1,↓reduceIte,t4,z0],by simp only[wq.1,t10],by simp only[wq.1,t11],by simp only[wq.1,t12],by simp only[wq.1,hd]⟩) ?_;clear t4 t10 t11 t12 hd f;rintro f ⟨t4,t10,t11,t12,hd⟩;refine ag (vm ?_);simp only[wq.1,Nat.reduceLT,t11,t12];refine ag (bu (b:=decide ((i:Int)<l.length)) (by simp only[wq.1,↓reduceIte]) (by simp only[wq.1,↓reduceIte]) (fun hlt=> ?_) (fun hlt=> ?_))
 ·simp only[decide_eq_true_eq,Int.ofNat_lt]at hlt;have hw:=aC (show i<maxLen by omega);have hgl:=xq hlt .any;have hcl:=hc _ (List.getElem_mem hlt);have hsu:okC l[i]=true→(l.take (i+1)).all okC=true:=fun h=>by
   rw[List.take_add_one,List.getElem?_eq_getElem hlt,List.all_append,hall];simpa using h
  have hfl:okC l[i]=false→gX l=([],4):=fun h=>by unfold gX;rw[if_neg];intro h2;have:=List.all_eq_true.1 h2 _ (List.getElem_mem hlt);rw[h]at this;cases this
  have hos:(l.take (i+1)).flatMap iJ=out++iJ l[i]:=by rw[List.take_add_one,List.getElem?_eq_getElem hlt,List.flatMap_append,←hout];simp
  obtain⟨c,hce⟩:∃c,c=l[i]:=⟨_,rfl⟩;rw[←hce]at hgl hcl hsu hfl hos;refine vm ?_;simp only[wq.1];refine ag (aI ?_);refine ag (vm ?_);simp only[wq.1,seval,t10,t12,hgl];refine⟨⟨by omega,by omega⟩,?_⟩;refine ag (vm ?_);simp only[wq.1,Nat.reduceLT];refine fJ 7 1 (by simp only[wq.1,↓reduceIte]) ?_;refine ag ?_;refine ag (vm ?_);simp only[wq.1,seval,hd];refine aI ?_;have hbc:∀ws:List S,(bI out++[O.cells (ws.map V.str)]).map (O.drop (bP (bI out++[O.cells (ws.map V.str)]).length))=bI out++[O.cells (ws.map V.str)]:=fun ws=>by
   have hl3:(bI out++[O.cells (ws.map V.str)]).length=(bI out).length+1:=by simp
   rw[hl3,List.map_append,zZ (by show decide (_≤0)=false;rw[decide_eq_false_iff_not];omega) (fun h=>by rw[hN2 h];rfl)];show _++[O.cells (V.drops _ _)]=_;rw[jK]
  obtain⟨N,hN⟩:∃N,N=(bI out).length:=⟨_,rfl⟩;rw[←hN]at hN1 hN2;have zl:∀ws:List S,(bI out++[O.cells (ws.map V.str)]).length=N+1:=fun ws=>by simp[hN]
  have z0':bP (N+1) 0=false:=rfl;have zN:bP (N+1) N=false:=by show decide (_≤N)=false;rw[decide_eq_false_iff_not];omega
  refine aA (fun q' f h=>∃(j:Nat) (Y:H),q'+j=c.length∧okC (c.take j)=true∧f.t 4= .lp 0 0∧f.t 7= .ls N 1 0 j j∧f.t 10=lss l∧f.t 11=vi l.length∧f.t 12=vi i∧f.t 16=iI c∧f.t 17=vi c.length∧f.t 18=vi j∧f.d=[]∧h=bI out++[.cells (((c.take j).map oJ).map V.str)]++Y) c.length ⟨0,[],by omega,rfl,by simp only[wq.1,seval,t4],by simp only[wq.1,seval];rw[hN],by simp only[wq.1,seval,t10],by simp only[wq.1,seval,t11],by simp only[wq.1,seval,t12],by simp only[wq.1,seval],by simp only[wq.1,seval],by simp only[wq.1,↓reduceIte];rfl,by simp only[wq.1],by simp⟩ ?_;clear t4 t10 t11 t12 hd f;rintro q' f h ⟨j,Y,hq',hkj,t4,t7,t10,t11,t12,t16,t17,t18,hd,rfl⟩;refine gV (by rw[hd];simp) ?_;rw[hbc,zl];refine pg (fun f'=>f'.t 4= .lp 0 0∧f'.t 7= .ls N 1 0 j j∧f'.t 10=lss l∧f'.t 11=vi l.length∧f'.t 12=vi i∧f'.t 16=iI c∧f'.t 17=vi c.length∧f'.t 18=vi j∧f'.d=[]) _ (fun hk=>hk _ ⟨by simp only[wq.1,↓reduceIte,t4,z0'],by simp only[wq.1,↓reduceIte,t7,zN],by simp only[wq.1,t10],by simp only[wq.1,t11],by simp only[wq.1,t12],by simp only[wq.1,t16],by simp only[wq.1,t17],by simp only[wq.1,t18],by simp only[wq.1,hd]⟩) ?_;clear t4 t7 t10 t11 t12 t16 t17 t18 hd f;rintro f ⟨t4,t7,t10,t11,t12,t16,t17,t18,hd⟩;have hwl:((c.take j).map oJ).length=min j c.length:=by simp
  obtain⟨ws,hws⟩:∃ws,ws=(c.take j).map oJ:=⟨_,rfl⟩;rw[←hws]at hwl ⊢;obtain⟨H0,hH0⟩:∃H0,H0=bI out++[O.cells (ws.map V.str)]:=⟨_,rfl⟩;rw[←hH0];have y0:H0[N]? =some (.cells (ws.map V.str)):=by rw[hH0,hN];exact jD
  have yl:H0.length=N+1:=by rw[hH0];exact zl ws
  refine ag (vm ?_);simp only[wq.1,Nat.reduceLT,t17,t18];refine ag (bu (b:=decide ((j:Int)<c.length)) (by simp only[wq.1,↓reduceIte]) (by simp only[wq.1,↓reduceIte]) (fun hlt2=> ?_) (fun hlt2=> ?_))
  ·simp only[decide_eq_true_eq,Int.ofNat_lt]at hlt2;have hw2:=aC (show j<maxLen by omega);have hgc:=zK hlt2 .any;have hxm:=List.getElem_mem hlt2;have hsx:bi c[j].1=true→okC (c.take (j+1))=true:=fun h=>by
    unfold okC at hkj ⊢;rw[List.take_add_one,List.getElem?_eq_getElem hlt2,List.all_append,hkj];simpa using h
   have hax:bi c[j].1=false→okC c=false:=fun h=>by unfold okC;rw[List.all_eq_false];exact⟨_,hxm,by rw[h];simp⟩
   have hwn:(c.take (j+1)).map oJ=ws++[oJ c[j]]:=by rw[List.take_add_one,List.getElem?_eq_getElem hlt2,List.map_append,←hws];rfl
   obtain⟨x,hx⟩:∃x,x=c[j]:=⟨_,rfl⟩;rw[←hx]at hgc hxm hsx hax hwn;have hlo:∀o:O,(H0++[o])[N+1]? =some o:=fun o=>by rw[←yl];exact jD
   have hso:∀o o':O,(H0++[o]).set (N+1) o'=H0++[o']:=fun o o'=>by rw[←yl];exact qy
   have yN:∀o:O,(H0++[o])[N]? =some (.cells (ws.map V.str)):=fun o=>by rw[List.getElem?_append_left (by omega)];exact y0
   refine vm ?_;simp only[wq.1];refine ag (aI ?_);refine ag (vm ?_);simp only[wq.1,seval,t16,t18,hgc,yl,hlo,hso];refine⟨⟨by omega,by omega⟩,?_⟩;refine ag ?_;refine ag (vm ?_);simp only[wq.1,seval,hlo];refine ah.ev (uh x.1) rfl ?_;simp only[wq.1,seval];cases hok:bi x.1 with
   | false=>rw[hfl (hax hok)];refine vm ?_;simp only[wq.1,seval,hd];exact az.dat rfl
   | true =>
    have hll:=uq hok;have hls:=MM x (by simp only[bi,Bool.and_eq_true,decide_eq_true_eq]at hok;omega);have hdr0:H0.map (O.drop fun k=>k==N)=H0:=by rw[hH0,List.map_append,zZ (by show(0==N)=false;rw[beq_eq_false_iff_ne];omega) (fun h=>by have:=hN2 h;show(1==N)=false;rw[this];rfl)];show _++[O.cells (V.drops _ _)]=_;rw[jK]
    have dws:∀p,V.drops p (ws.map V.str)=ws.map V.str:=fun p=>jK _;have hel:(ws.map V.str).length=j*1:=by rw[List.length_map];omega
    refine vm ?_;simp only[wq.1,↓reduceIte];show awp _ _ _ _ _ _ _;refine vm ?_;simp only[wq.1,seval,-Int.reduceNatCast,-Int.reduceNatCast',t7,hlo];refine ah.ev hls rfl ?_;simp only[wq.1,↓reduceIte,Nat.reduceEqDiff,Nat.reduceLT,reduceCtorEq,Nat.reduceMul,hd,yN,hdr0];have k0:((0:Nat)==N)=false:=by rw[beq_eq_false_iff_ne];omega
    refine⟨⟨rfl,by decide⟩,⟨by omega,by omega,by omega⟩,?_⟩;refine vm ?_;simp only[wq.1,seval,t18,hw2];refine .inl ⟨q'-1,by omega,j+1,[.cells [.str x.1,.bool x.2]],by omega,hsx hok,by simp only[wq.1,seval,t4,k0],by simp only[wq.1,seval],by simp only[wq.1,seval,t10],by simp only[wq.1,seval,t11],by simp only[wq.1,seval,t12],by simp only[wq.1,seval,t16],by simp only[wq.1,seval,t17],by simp only[wq.1,↓reduceIte],by simp only[wq.1,hd],?_⟩;rw[hH0,hN,Qb,hwn,List.map_append];rfl
  ·simp only [decide_eq_false_iff_not,Int.ofNat_lt] at hlt2;have : j = c.length := by omega
   subst this;rw[List.take_length]at hkj hws;have hdat:jB (·==N) 0 H0=bI out++[.dead]:=by
    rw[hH0,yw,yu (fun i h1 h2=>by show(i==N)=false;rw[beq_eq_false_iff_ne];omega),zZ (by show(0==N)=false;rw[beq_eq_false_iff_ne];omega) (fun h=>by have:=hN2 h;show(1==N)=false;rw[this];rfl),Nat.zero_add,←hN];show _++[if(N==N)=true then O.dead else _]=_;rw[beq_self_eq_true,if_pos rfl]
   refine vm ?_;simp only[wq.1];show awp _ _ _ _ _ _ _;refine vz N 7 (dF ws) (by simp only[wq.1,seval,t7]) (by simp only[wq.1,seval,t7];exact kF (by rw[nT,y0];simp;show O.cells (V.drops _ _)=_;rw[jK]) (by omega)) (by simp only[wq.1,hd]) ?_;rw[hdat];refine gV (by rw[show Fr.d _=[]from by simp only[wq.1,hd]];simp) ?_;rw[QS,←hN];have k0:((0:Nat)==N)=false:=by rw[beq_eq_false_iff_ne];omega
   have kN:bP N 0=false:=by show decide (N≤0)=false;rw[decide_eq_false_iff_not];omega
   refine pg (fun f'=>f'.t 4= .lp 0 0∧f'.t 7=dF ws∧f'.t 10=lss l∧f'.t 11=vi l.length∧f'.t 12=vi i∧f'.d=[]) _ (fun hk=>hk _ ⟨by simp only[wq.1,seval,t4,k0,kN],by simp only[wq.1,↓reduceIte],by simp only[wq.1,seval,t10],by simp only[wq.1,seval,t11],by simp only[wq.1,seval,t12],by simp only[wq.1,hd]⟩) ?_;clear t4 t7 t10 t11 t12 t16 t17 t18 hd f;rintro f ⟨t4,t7,t10,t11,t12,hd⟩;have hjl:=EM (ws:=ws) (k:=41) (fun w hw=>by rw[hws]at hw;obtain⟨x,hx,rfl⟩:=List.mem_map.1 hw;exact uq (List.all_eq_true.1 hkj x hx));have hjn:=P8 ws [32] (by omega) (by omega);have hlp:iJ c=Lib.join ws [32]++[10]:=by unfold iJ;rw[hws]
   refine vm ?_;simp only[wq.1,seval,t7];refine ah.ev hjn (by simp only[V.dats,V.dat,bK,Bool.and_self]) ?_;simp only[wq.1,seval,t4];refine⟨by omega,?_⟩;rw[←hlp];have hlpl:(iJ c).length≤42001:=by rw[hlp,List.length_append,List.length_singleton];omega
   refine Qa (by rw[hlp];simp) (by omega) (fun v p hp=> ?_);simp only[wq.1,aZ,hd];refine vm ?_;simp only[wq.1,seval,t12,hw];exact .inl ⟨q-1,by omega,i+1,[],by omega,hsu hkj,by simp only[wq.1,seval,t4,hp],by simp only[wq.1,seval,t10],by simp only[wq.1,seval,t11],by simp only[wq.1,↓reduceIte],by simp only[wq.1,hd],by rw[hos,List.append_nil]⟩
 ·simp only [decide_eq_false_iff_not,Int.ofNat_lt] at hlt;have : i = l.length := by omega
  subst this;rw[List.take_length]at hall hout;have hp:gX l=(out,0):=by unfold gX;rw[if_pos hall,hout]
  rw[hp];refine vm ?_;simp only[wq.1];refine vm ?_;simp only[wq.1,seval,t4];refine VD (by omega) (fun h p=> ?_);simp only[wq.1,seval,aZ,hd];exact az.dat rfl
def qU (x:Lt):Bool:=decide (x.1.length≤60)
def wP (c:List Lt):Bool:=(c.take 13).all qU&&decide (c.length≤12)
def TG (l:List (List Lt)) (n:Nat):Bool:=(l.take (n+1)).all wP&&decide (l.length≤n)
theorem TJ {l:List (List Lt)} {n:Nat} (h:TG l n=true):l.length≤n∧∀c∈l,c.length≤12∧∀x∈c,x.1.length≤60:=by simp only[TG,Bool.and_eq_true,decide_eq_true_eq]at h;refine⟨h.2,fun c hc=> ?_⟩;rw[List.take_of_length_le (by omega)]at h;have:=List.all_eq_true.1 h.1 c hc;simp only[wP,Bool.and_eq_true,decide_eq_true_eq]at this;refine⟨this.2,fun x hx=> ?_⟩;rw[List.take_of_length_le (by omega)]at this;have:=List.all_eq_true.1 this.1 x hx;simpa [qU]using this
theorem Qc (l:List (List Lt)) (n:Nat) (hn:n≤1000):Ev TE 8 [lss l,vi n] (.bool (TG l n)):=by
 have hM:maxLen=9223372036854775807:=rfl;refine ak Tryz.func8 rfl (by simp[nts]) ?_;refine ag (vm ?_);simp only[wq.1,Nat.reduceLT,Tryz.results8];refine ag ?_;refine ag (vm ?_);simp only[wq.1,Nat.reduceLT];refine aI ?_;refine aA (fun q f h=>∃i,q+i=n+2∧i≤n+1∧i≤l.length∧f.t 0=lss l∧f.t 1=vi n∧f.t 5=vi i∧f.d=[]∧(∀c∈l.take i,wP c=true)) (n+2) ⟨0,by omega,by omega,by omega,by simp only[wq.1,seval],by simp only[wq.1,seval],by simp only[wq.1,↓reduceIte];rfl,by simp only[wq.1],by simp⟩ ?_;rintro q f h ⟨i,hq,hin,hil,t0,t1,t5,hd,hall⟩;by_cases hlt:i<l.length∧i≤n
 ·obtain ⟨hlt,hle⟩ := hlt;have d1 : decide ((i : Int) < (l.length : Int)) = true := by rw [decide_eq_true_eq];omega
  have d2:decide ((i:Int)≤(n:Int))=true:=by rw[decide_eq_true_eq];omega
  have hw:=aC (show i<maxLen by omega);have hgl:=xq hlt .any;have hsu:wP l[i]=true→∀c∈l.take (i+1),wP c=true:=fun h=>bM (P:=fun c=>wP c=true) hlt hall h;have hno:wP l[i]=false→TG l n=false:=fun h=>by unfold TG;rw[Bool.and_eq_false_iff,List.all_eq_false];exact .inl ⟨l[i],List.mem_take_iff_getElem.2 ⟨i,by omega,rfl⟩,by rw[h];simp⟩
  obtain⟨c,hce⟩:∃c,c=l[i]:=⟨_,rfl⟩;rw[←hce]at hgl hsu hno;refine ag ?_;refine ag (vm ?_);simp only[wq.1,seval,t0,t1,t5,d1,d2];refine vm ?_;simp only[wq.1,↓reduceIte];show awp _ _ _ _ _ _ _;refine ag (aI ?_);refine ag ?_;refine ag (vm ?_);simp only[wq.1,Nat.reduceLT];refine aI ?_;refine aA (fun q' f h=>∃k,q'+k=14∧k≤13∧k≤c.length∧f.t 0=lss l∧f.t 1=vi n∧f.t 5=vi i∧f.t 6=vi k∧f.d=[]∧(∀x∈c.take k,qU x=true)) 14 ⟨0,by omega,by omega,by omega,by simp only[wq.1,seval,t0],by simp only[wq.1,seval,t1],by simp only[wq.1,seval,t5],by simp only[wq.1,↓reduceIte];rfl,by simp only[wq.1,hd],by simp⟩ ?_;clear t0 t1 t5 hd f;rintro q' f h ⟨k,hq',hk13,hkl,t0,t1,t5,t6,hd,hkall⟩;by_cases hlt2:k<c.length∧k≤12
  ·obtain ⟨hlt2,hle2⟩ := hlt2;have d3 : decide ((k : Int) < (c.length : Int)) = true := by rw [decide_eq_true_eq];omega
   have d4:decide ((k:Int)≤12)=true:=by rw[decide_eq_true_eq];omega
   have hw2:=aC (show k<maxLen by omega);have hgc:=zK hlt2 .any;have hsx:qU c[k]=true→∀x∈c.take (k+1),qU x=true:=fun h=>bM (P:=fun x=>qU x=true) hlt2 hkall h;have hnx:qU c[k]=false→wP c=false:=fun h=>by unfold wP;rw[Bool.and_eq_false_iff,List.all_eq_false];exact .inl ⟨c[k],List.mem_take_iff_getElem.2 ⟨k,by omega,rfl⟩,by rw[h];simp⟩
   obtain⟨x,hx⟩:∃x,x=c[k]:=⟨_,rfl⟩;rw[←hx]at hgc hsx hnx;refine ag ?_;refine ag (vm ?_);simp only[wq.1,seval,t0,t5,t6,hgl,d3,d4];refine⟨⟨by omega,by omega⟩,?_⟩;refine vm ?_;simp only[wq.1,↓reduceIte];show awp _ _ _ _ _ _ _;refine ag (aI ?_);refine ag (vm ?_);simp only[wq.1,seval,t0,t5,t6,hgl,hgc];refine⟨⟨by omega,by omega⟩,⟨by omega,by omega⟩,?_⟩;cases d5:decide (60<(x.1.length:Int))with
   | true=>rw[hno (hnx (by unfold qU;simp only[decide_eq_true_eq]at d5;rw[decide_eq_false_iff_not];omega))];refine vm ?_;simp only[wq.1,seval,hd];exact az.dat rfl
   | false=>refine vm ?_;simp only[wq.1,↓reduceIte];refine vm ?_;simp only[wq.1,seval,t6,hw2];exact .inl ⟨q'-1,by omega,k+1,by omega,by omega,by omega,by simp only[wq.1,seval,t0],by simp only[wq.1,seval,t1],by simp only[wq.1,seval,t5],by simp only[wq.1,↓reduceIte],by simp only[wq.1,hd],hsx (by unfold qU;simp only[decide_eq_false_iff_not]at d5;rw[decide_eq_true_eq];omega)⟩
  ·have hcv:wP c=decide (c.length≤12):=by
    unfold wP;by_cases h:k<c.length
    ·have e : k = 13 := by omega
     rw[e]at hkall;rw[List.all_eq_true.2 hkall,Bool.true_and]
    ·rw[List.take_of_length_le (by omega)]at hkall;rw[List.all_eq_true.2 fun x hx=>hkall x (List.mem_of_mem_take hx),Bool.true_and]
   by_cases h:k<c.length
   ·have d3 : decide ((k : Int) < (c.length : Int)) = true := by rw [decide_eq_true_eq];omega
    have d4:decide ((k:Int)≤12)=false:=by rw[decide_eq_false_iff_not];omega
    refine ag ?_;refine ag (vm ?_);simp only[wq.1,seval,t0,t5,t6,hgl,d3,d4];refine⟨⟨by omega,by omega⟩,?_⟩;refine vm ?_;simp only[wq.1,↓reduceIte];show awp _ _ _ _ _ _ _;refine ag (vm ?_);simp only[wq.1,seval,t0,t5,hgl];refine⟨⟨by omega,by omega⟩,?_⟩;cases d6:decide (12<(c.length:Int))with
    | true=>rw[hno (by rw[hcv,decide_eq_false_iff_not];simp only[decide_eq_true_eq]at d6;omega)];refine vm ?_;simp only[wq.1,seval,hd];exact az.dat rfl
    | false=>refine vm ?_;simp only[wq.1,↓reduceIte];refine vm ?_;simp only[wq.1,seval,t5,hw];exact .inl ⟨q-1,by omega,i+1,by omega,by omega,by omega,by simp only[wq.1,seval,t0],by simp only[wq.1,seval,t1],by simp only[wq.1,↓reduceIte],by simp only[wq.1,hd],hsu (by rw[hcv,decide_eq_true_eq];simp only[decide_eq_false_iff_not]at d6;omega)⟩
   ·have d3 : decide ((k : Int) < (c.length : Int)) = false := by rw [decide_eq_false_iff_not];omega
    refine ag ?_;refine ag (vm ?_);simp only[wq.1,seval,t0,t5,t6,hgl,d3];refine⟨⟨by omega,by omega⟩,?_⟩;refine vm ?_;simp only[wq.1,↓reduceIte];show awp _ _ _ _ _ _ _;refine ag (vm ?_);simp only[wq.1,seval,t0,t5,hgl];refine⟨⟨by omega,by omega⟩,?_⟩;cases d6:decide (12<(c.length:Int))with
    | true=>rw[hno (by rw[hcv,decide_eq_false_iff_not];simp only[decide_eq_true_eq]at d6;omega)];refine vm ?_;simp only[wq.1,seval,hd];exact az.dat rfl
    | false=>refine vm ?_;simp only[wq.1,↓reduceIte];refine vm ?_;simp only[wq.1,seval,t5,hw];exact .inl ⟨q-1,by omega,i+1,by omega,by omega,by omega,by simp only[wq.1,seval,t0],by simp only[wq.1,seval,t1],by simp only[wq.1,↓reduceIte],by simp only[wq.1,hd],hsu (by rw[hcv,decide_eq_true_eq];simp only[decide_eq_false_iff_not]at d6;omega)⟩
 ·have hb:(decide ((i:Int)<(l.length:Int))=false)∨(decide ((i:Int)<(l.length:Int))=true∧decide ((i:Int)≤(n:Int))=false):=by
   by_cases h:i<l.length
   ·exact .inr ⟨by rw[decide_eq_true_eq];omega,by rw[decide_eq_false_iff_not];omega⟩
   ·exact .inl (by rw[decide_eq_false_iff_not];omega)
  have hv:TG l n=decide ((l.length:Int)≤(n:Int)):=by
   unfold TG;by_cases h:i<l.length
   ·have e : i = n + 1 := by omega
    rw[e]at hall;rw[List.all_eq_true.2 hall,Bool.true_and];exact decide_eq_decide.2 (by omega)
   ·rw[List.take_of_length_le (by omega)]at hall;rw[List.all_eq_true.2 fun c hc=>hall c (List.mem_of_mem_take hc),Bool.true_and];exact decide_eq_decide.2 (by omega)
  rw[hv];rcases hb with d1 | ⟨d1,d2⟩
  ·refine ag ?_;refine ag (vm ?_);simp only[wq.1,seval,t0,t1,t5,d1];refine vm ?_;simp only[wq.1,↓reduceIte];show awp _ _ _ _ _ _ _;refine vm ?_;simp only[wq.1,seval,t0,t1,hd];exact az.dat rfl
  ·refine ag ?_;refine ag (vm ?_);simp only[wq.1,seval,t0,t1,t5,d1,d2];refine vm ?_;simp only[wq.1,↓reduceIte];show awp _ _ _ _ _ _ _;refine vm ?_;simp only[wq.1,seval,t0,t1,hd];exact az.dat rfl
theorem TK {m:Mo} {bud:Int} (h:bud≤2000):Vt m bud:=fun cl n hn hz=>by obtain⟨B,hB⟩:=(Nu (m:=m)) cl n hn hz;obtain⟨v1,v2,v3,v4⟩:=tX hz;refine⟨2000,by omega,fun S _ h=>by omega,?_,by omega,by omega⟩;have:(n+1)*(2*2000+4)≤20001*(2*2000+4):=Nat.mul_le_mul_right _ (by omega);omega
abbrev tQP:S:=[43,113,32,45,112,10]
abbrev lQP:List (List Lt):=[[([113],false),([112],true)]]
theorem TL:iE tQP= .tup [lss lQP,.agg [vi 0,vi 0,vi 0]]:=by
 have h:jq tQP=(lQP,0,0):=by decide +kernel
 unfold iE;rw[h];rfl
theorem Qd:iE [113,10]= .tup [lss [],.agg [vi 2,vi 1,vi 1]]:=by
 have h:jq [113,10]=([],0,2):=by decide +kernel
 have h2:iD [113,10] 0=(1,1):=by decide +kernel
 unfold iE;rw[h];show V.tup [lss [],nC [113,10] 0 2]=_;unfold nC;rw[if_neg (by decide),h2]
theorem TM:gX lQP=(tQP,0):=by decide +kernel
theorem VE:og [[113]] [[114]]=0:=by decide +kernel
theorem WM:mkT [[113]] [[114]]=([[113]],[[114]]):=by unfold mkT;rw[if_pos VE]
theorem Wh:wB [[113]] [[114]] Ad=([[([114],true)]],0):=by decide +kernel
theorem TN:Gs m0 Ad [false]=(true,0):=by decide +kernel
theorem NL:(dG m0 Ad).2=0:=by decide +kernel
theorem NM:(dG m0 []).2=0:=by decide +kernel
theorem Dl:(dG m0 lQP).2=12:=by decide +kernel
theorem Qe {a:Ve×Int} (h:lY m0 Ad 0 1099511627776 a):a=(Ve.z,0):=by unfold lY at h;rw[if_neg (by rw[NL];decide),if_neg (by decide)]at h;exact Ti h
theorem Qg {a:Ve×Int} (h:lY m0 [] 0 1099511627776 a):a=(⟨1,2,0,[true]⟩,0):=by unfold lY at h;rw[if_neg (by rw[NM];decide),if_neg (by decide)]at h;exact Tj h
theorem Qh {a:Ve×Int} (h:lY m0 lQP 0 1000 a):a=(Ve.z,12):=by unfold lY at h;rw[if_pos (by rw[Dl];decide),Dl]at h;exact h
theorem TP:VLe (.is true 1 [.is true 2 [.agg [.str [113],.bool true]]]) (lss Ad):=by
 intro c y hy;refine dB c y (VLe.is (x:=true) (es:=[.is true 2 [.agg [.str [113],.bool true]]]) (es':=[iI [([113],true)]]) rfl (fun i v v' h1 h2=> ?_) c y hy)
 match i with
 | 0=>cases h1;cases h2;exact dB
 | i+1=>cases h1
theorem Ja:Ev TE 6 [] (.bool true):=by
 have hsm : m0.g.Sm := ⟨by decide,by decide⟩;have e1 := qR tQP (by decide);rw [TL] at e1;have e2 := wO lQP (by decide) (by decide);rw [TM] at e2;have e3 := wK m0 Ad 0 1099511627776 hsm (by decide) (by decide) (by decide) Nv;have e4 := wK m0 [] 0 1099511627776 hsm (by decide) (by decide) (by decide) Nv;have e5 := wK m0 lQP 0 1000 hsm (by decide) (by decide) (by decide) (TK (by decide));have e6 := MQ m0 hsm Ad [false] (by decide) (by decide) (by decide) (by decide);rw [TN] at e6;have e7 := QJ [[113]] [[114]] (by decide) (by decide);rw [VE,WM] at e7;have e8 := rW [[113]] [[114]] Ad (by decide) (by decide);rw [Wh] at e8;have e9 := qR [113,10] (by decide);rw [Qd] at e9;have e10 := zW lQP lQP;have e11 := zW lQP [[([114],true)]];rw [show (lQP == lQP) = true by decide +kernel] at e10;rw [show (lQP == [[([114],true)]]) = false by decide +kernel] at e11;refine ak Tryz.func6 rfl (by simp [nts]) ?_;refine ag (vm ?_);simp only [wq.1,Nat.reduceLT,Tryz.results6];refine ag (vm ?_);simp only [wq.1,seval];refine ah.ev e1 rfl ?_;simp only [wq.1,seval];refine ag (vm ?_);simp only [wq.1,seval];refine ah.ev e2 (by simp only [V.dats,V.dat,(bV lQP).1,Bool.and_self]) ?_;simp only [wq.1,seval,-Int.reduceNatCast,-Int.reduceNatCast',ay,Tryz.results6,aZ];refine ag (vm ?_);simp only [wq.1,↓reduceIte,Nat.reduceEqDiff,Nat.reduceLT,Nat.reduceLeDiff,Nat.reduceAdd,Nat.reduceSub,Int.reduceToNat,Nat.reduceDiv,Int.reduceLT,Int.reduceLE,Int.reduceNeg,Int.reduceBEq,Int.reduceBNe,Int.reduceAdd,Int.reduceSub,Nat.reduceBEq,reduceCtorEq,Nat.reduceMul,ay,Tryz.results6];refine ⟨⟨rfl,by decide⟩,⟨rfl,by decide⟩,⟨rfl,by decide⟩,⟨rfl,by decide⟩,⟨rfl,by decide⟩,?_⟩;refine uU (h' := [.cells [vi 0,vi 0,vi 0],.cells [vi 0,aG [2],aG [0],prs [],aG [2],dF [],dF [[113]],dF [[122]]]])
  (HLe.set (i:=1) (o':= .cells [vi 0,aG [2],aG [0],prs [],aG [2],dF [],dF [[113]],dF [[122]]]) rfl (OLe.cells (Nat.le_refl _) (gK.cons (VLe.refl _) (gK.cons dB (gK.cons dB (gK.cons iV (gK.cons dB (gK.cons iV (gK.cons dB (gK.cons dB (gK.refl _))))))))))) ?_
 refine ag (vm ?_);simp only[wq.1,↓reduceIte,Nat.reduceEqDiff,Nat.reduceLT,Nat.reduceLeDiff,Nat.reduceAdd,Nat.reduceSub,Int.reduceToNat,Nat.reduceDiv,Int.reduceLT,Int.reduceLE,Int.reduceNeg,Int.reduceBEq,Int.reduceBNe,Int.reduceAdd,Int.reduceSub,Nat.reduceBEq,reduceCtorEq,Nat.reduceMul,ay,Tryz.results6];refine⟨⟨rfl,by decide⟩,⟨rfl,by decide⟩,?_⟩;refine E5 (FLe.one 6 (v:=lss Ad) TP) (HLe.refl _) ?_;refine ag (vm ?_);simp only[wq.1,seval];refine oC e3 (by simp only[V.dats,V.dat,(bV Ad).1,Bool.and_self]) fun r hr=> ?_;obtain⟨a,ha,rfl⟩:=hr;rw[Qe ha];simp only[wq.1,seval];refine ag (vm ?_);simp only[wq.1,seval];refine oC (EvR.les e4 (gK.cons (VLe.refl _) (gK.cons iV (gK.refl _)))) rfl fun r hr=> ?_;obtain⟨a,ha,rfl⟩:=hr;rw[Qg ha];simp only[wq.1,seval];refine ag (vm ?_);simp only[wq.1,seval];refine oC e5 (by simp only[V.dats,V.dat,(bV lQP).1,Bool.and_self]) fun r hr=> ?_;obtain⟨a,ha,rfl⟩:=hr;rw[Qh ha];simp only[wq.1,↓reduceIte,Nat.reduceEqDiff,Nat.reduceLT,Nat.reduceAdd];refine ag (vm ?_);simp only[wq.1,↓reduceIte,Nat.reduceEqDiff,Nat.reduceLT,Nat.reduceAdd,reduceCtorEq,Nat.reduceMul];refine⟨⟨rfl,by decide⟩,?_⟩;refine ah.ev (e6.les (gK.cons (VLe.refl _) (gK.cons (VLe.refl _) (gK.cons dB gK.nil)))) (by simp only[V.dats,V.dat,(bV Ad).1,Bool.and_self]) ?_;simp only[wq.1,seval,-Int.reduceNatCast,-Int.reduceNatCast',ay,Tryz.results6,aZ];refine ag (vm ?_);simp only[wq.1,↓reduceIte,Nat.reduceEqDiff,Nat.reduceLT,Nat.reduceLeDiff,Nat.reduceAdd,Nat.reduceSub,Int.reduceToNat,Nat.reduceDiv,Int.reduceLT,Int.reduceLE,Int.reduceNeg,Int.reduceBEq,Int.reduceBNe,Int.reduceAdd,Int.reduceSub,Nat.reduceBEq,reduceCtorEq,Nat.reduceMul,ay,Tryz.results6];refine⟨⟨rfl,by decide⟩,⟨rfl,by decide⟩,?_⟩;refine ah.ev (e7.les (gK.cons dB (gK.cons dB gK.nil))) rfl ?_;simp only[wq.1,seval];refine ag (vm ?_);simp only[wq.1,seval];refine ah.ev e8 (by simp only[V.dats,V.dat,(bV Ad).1,Bool.and_self]) ?_;simp only[wq.1,seval];refine ag (vm ?_);simp only[wq.1,seval];refine ah.ev e9 rfl ?_;simp only[wq.1,seval,-Int.reduceNatCast,-Int.reduceNatCast',ay,Tryz.results6,aZ];have q1:(((1:Nat):Int)==1)=true:=rfl;have q2:(Ve.z.res==0)=true:=rfl;refine ag (vm ?_);simp only[wq.1,seval,-Int.reduceNatCast,-Int.reduceNatCast',ay,Tryz.results6,TD,QN,uF,Jz,q1,q2];refine⟨by decide,by decide,by decide,by decide,by decide,?_⟩;refine ah.ev e10 (by simp only[V.dats,V.dat,(bV lQP).1,Bool.and_self]) ?_;simp only[wq.1,seval];refine ah.ev e11 (by simp only[V.dats,V.dat,(bV lQP).1,(bV [[([114],true)]]).1,Bool.and_self]) ?_;simp only[wq.1,seval];refine vm ?_;simp only[wq.1,↓reduceIte];exact az.dat rfl
def Gr.few (g:Gr):Bool:=(decide (g.ins≤100)||decide (4000<g.ins))&&(decide ((g.next.length:Int)≤40)&&(decide ((g.init.length:Int)≤40)&&(decide ((g.ands.length:Int)≤60)&&decide ((g.outs.length:Int)≤60))))
def Mo.few (m:Mo):Bool:=m.g.few&&(VY 40 m.ins&&(VY 40 m.lat&&VY 60 m.out))
theorem Qi (x:Lt):1≤(oJ x).length:=by unfold oJ;simp
theorem GL : ∀ {ws : List S},(∀ w ∈ ws,1 ≤ w.length) → ws.length ≤ (Lib.join ws [32]).length
 | [],_=>Nat.zero_le _
 | [w],h=>by rw[Lib.join_one];exact h w (by simp)
 | w::v::ws,h=>by have:=GL (ws:=v::ws) fun x hx=>h x (by simp[hx]);have:=h w (by simp);simp only[lZ,List.length_append,List.length_cons]at *;omega
theorem Qj (c:List Lt):1≤(iJ c).length∧c.length≤(iJ c).length:=by have:=GL (ws:=c.map oJ) (fun w hw=>by obtain⟨x,hx,rfl⟩:=List.mem_map.1 hw;exact Qi x);unfold iJ;rw[List.length_append,List.length_singleton];rw[List.length_map]at this;omega
theorem GM : ∀ (l : List (List Lt)),l.length ≤ (l.flatMap iJ).length ∧ ∀ c ∈ l,c.length ≤ (l.flatMap iJ).length
 | []=>⟨Nat.zero_le _,fun c hc=>by cases hc⟩
 | c::l=>by
  obtain⟨h1,h2⟩:=GM l;have:=Qj c;rw[List.flatMap_cons,List.length_append,List.length_cons];refine⟨by omega,fun d hd=> ?_⟩;rcases List.mem_cons.1 hd with rfl | hd
  ·omega
  ·have:=h2 d hd;omega
theorem Qk {c:List Lt} (h:okC c=true):(iJ c).length≤c.length*42+1:=by have:=EM (ws:=c.map oJ) (k:=41) (fun w hw=>by obtain⟨x,hx,rfl⟩:=List.mem_map.1 hw;exact uq (List.all_eq_true.1 h x hx));unfold iJ;rw[List.length_append,List.length_singleton];rw[List.length_map]at this;omega
theorem GN {k : Nat} : ∀ {l : List (List Lt)},l.all okC = true → (∀ c ∈ l,c.length ≤ k) → (l.flatMap iJ).length ≤ l.length * (k * 42 + 1)
 | [],_,_=>by simp
 | c::l,h,hk=>by rw[List.all_cons,Bool.and_eq_true]at h;have h1:=Qk h.1;have h2:=GN h.2 fun d hd=>hk d (by simp[hd]);have h3:=hk c (by simp);have h4:c.length*42≤k*42:=Nat.mul_le_mul_right _ h3;rw[List.flatMap_cons,List.length_append,List.length_cons,Nat.succ_mul];omega
theorem Jb (l:List (List Lt)):((gX l).2=0∧iE (gX l).1= .tup [lss l,.agg [vi 0,vi 0,vi 0]])∨((gX l).2=4∧(gX l).1=[]∧iE []= .tup [lss [],.agg [vi 0,vi 0,vi 0]]):=by
 unfold gX;split
 ·rename_i h;refine .inl ⟨rfl,?_⟩;unfold iE;rw[show(l.flatMap iJ,(0:Int)).1=l.flatMap iJ from rfl,CX h];rfl
 ·exact .inr ⟨rfl,rfl,rfl⟩
theorem Jc (s:S):∃y,(y.length≤s.length∧∀c∈y,c.length≤s.length)∧((iE s= .tup [lss y,.agg [vi 0,vi 0,vi 0]]∧gX y=(s,0))∨(y=[]∧∃e a b:Int,(e==0)=false∧iE s= .tup [lss y,.agg [vi e,vi a,vi b]])):=by
 rcases hp:jq s with⟨y,p,e⟩;by_cases he:e=0
 ·subst he;have h := CY hp;refine ⟨y,?_,.inl ⟨by unfold iE;rw [hp];rfl,h⟩⟩;unfold gX at h;split at h
  ·simp only[Prod.mk.injEq,and_true]at h;have:=GM y;rw[h]at this;exact this
  ·simp at h
 ·have:=IW hp he;subst this;refine⟨[],⟨Nat.zero_le _,fun c hc=>by cases hc⟩,.inr ⟨rfl,e,(iD s p).1,(iD s p).2,beq_eq_false_iff_ne.2 he,?_⟩⟩;unfold iE;rw[hp];show V.tup [lss [],nC s p e]=_;unfold nC;rw[if_neg he]
theorem Ql (a b:List S) (l:List (List Lt)):((wB a b l).2=0∧wB (inv a b).1 (inv a b).2 (wB a b l).1=(l,0)∧(wB a b l).1.length=l.length∧∀d∈(wB a b l).1,∃c∈l,d.length=c.length)∨(((wB a b l).2==0)=false∧(wB a b l).1=[]):=by
 by_cases h:(wB a b l).2=0
 ·have e : wB a b l = ((wB a b l).1,0) := by rw [← h]
  obtain⟨h1,h2,h3⟩:=Nl e;refine .inl ⟨h,?_,h2,h3⟩;have hz:og a b=0:=by
   unfold wB at h;by_cases hz:og a b=0
   ·exact hz
   ·rw[if_neg hz]at h;exact absurd h hz
  unfold inv;rw[if_pos hz];exact h1
 ·refine .inr ⟨beq_eq_false_iff_ne.2 h,?_⟩;unfold wB at h ⊢;split
  ·rename_i hz;rw[if_pos hz]at h;cases hr:Jl a b l with
   | none=>rfl
   | some o=>rw[hr]at h;exact absurd rfl h
  ·rfl
theorem ev_iback (l:List (List Lt)) (s:S) (a b:List S):Ev TE 4 [lss l,.str s,tab a b] (.bool true):=by
 have hM:maxLen=9223372036854775807:=rfl;have hfw:=Qc l 30 (by decide);refine ak Tryz.func4 rfl (by simp[nts]) ?_;refine ag (vm ?_);simp only[wq.1,Nat.reduceLT,Tryz.results4];refine ag (vm ?_);simp only[wq.1,Nat.reduceLT];refine ah.ev Ja rfl ?_;simp only[wq.1,seval];refine ag (vm ?_);simp only[wq.1,seval];refine ag (vm ?_);simp only[wq.1,seval];refine ah.ev hfw (by simp only[V.dats,V.dat,(bV l).1,Bool.and_self]) ?_;simp only[wq.1,seval];refine ag (vm ?_);simp only[wq.1,seval];refine vcB.mk (fun hc=> ?_) (fun hc=> ?_)
 ·simp only[wq.1,seval];exact az.dat rfl
 simp only[Bool.or_eq_false_iff,Bool.not_eq_false',decide_eq_false_iff_not]at hc;obtain⟨⟨⟨hf,hs6⟩,ha⟩,hb⟩:=hc;obtain⟨hl,hcl⟩:=TJ hf;have e1:=wO l (by omega) (fun c hc=>by have:=(hcl c hc).1;omega);have hp:=Jb l;have hplen:(gX l).1.length≤20000:=by
  unfold gX;split
  ·rename_i h;have:=GN (k:=12) h (fun c hc=>(hcl c hc).1);show(l.flatMap iJ).length≤_;omega
  ·exact Nat.zero_le _
 have e2:=qR (gX l).1 hplen;have e3:=qR s (by omega);obtain⟨y,⟨hyl,hyc⟩,hy⟩:=Jc s;have e4:=wO y (by omega) (fun c hc=>by have:=hyc c hc;omega);have e5:=rW a b l (by omega) (fun c hc=>by have:=(hcl c hc).1;omega);have hr:=Ql a b l;have e6:=SN a b (by omega) (by omega);have e7:=rW (inv a b).1 (inv a b).2 (wB a b l).1 (by rcases hr with⟨_,_,h,_⟩ | ⟨_,h⟩<;>rw[h];omega;exact Nat.zero_le _) (fun d hd=>by
  rcases hr with⟨_,_,_,h⟩ | ⟨_,h⟩
  ·obtain⟨c,hc,h2⟩:=h d hd;have:=(hcl c hc).1;omega
  ·rw[h]at hd;cases hd)
 obtain⟨pt,pe,hpp⟩:∃pt pe,gX l=(pt,pe):=⟨_,_,rfl⟩;obtain⟨rl,re,hrr⟩:∃rl re,wB a b l=(rl,re):=⟨_,_,rfl⟩;obtain⟨ul,ue,huu⟩:∃ul ue,wB (inv a b).1 (inv a b).2 rl=(ul,ue):=⟨_,_,rfl⟩;rw[hpp]at e1 e2 hp;rw[hrr]at e5 e7 hr;dsimp only at e1 e2 hp e5 e7 hr;rw[huu]at e7 hr;dsimp only at e7 hr;have e8:=zW l l;rw[show(l==l)=true from by simp]at e8;simp only[wq.1];refine ag (vm ?_);simp only[wq.1,seval];refine ah.ev e1 (by simp only[V.dats,V.dat,(bV l).1,Bool.and_self]) ?_;simp only[wq.1,seval];refine ag (vm ?_);simp only[wq.1,seval];have hcalls:∃x:List (List Lt),iE pt= .tup [lss x,.agg [vi 0,vi 0,vi 0]]∧(((pe==0)=true∧x=l)∨((pe==0)=false∧pt=[]∧x=[])):=by
  rcases hp with⟨rfl,h⟩ | ⟨rfl,rfl,h⟩
  ·exact⟨l,h,.inl ⟨rfl,rfl⟩⟩
  ·exact⟨[],h,.inr ⟨rfl,rfl,rfl⟩⟩
 clear hp;obtain⟨x,hx,hp⟩:=hcalls;rw[hx]at e2;refine ah.ev e2 rfl ?_;simp only[wq.1,seval];refine ag (vm ?_);simp only[wq.1,seval];have hyy:∃ge ga gb:Int,iE s= .tup [lss y,.agg [vi ge,vi ga,vi gb]]∧(((ge==0)=true∧gX y=(s,0))∨((ge==0)=false∧y=[])):=by
  rcases hy with⟨h1,h2⟩ | ⟨h1,e,a',b',h2,h3⟩
  ·exact⟨0,0,0,h1,.inl ⟨rfl,h2⟩⟩
  ·exact⟨e,a',b',h3,.inr ⟨h2,h1⟩⟩
 clear hy;obtain⟨ge,ga,gb,hgy,hy⟩:=hyy;rw[hgy]at e3;refine ah.ev e3 rfl ?_;simp only[wq.1,seval];refine ag (vm ?_);simp only[wq.1,seval];refine ah.ev e4 (by simp only[V.dats,V.dat,(bV y).1,Bool.and_self]) ?_;simp only[wq.1,seval];refine ag (vm ?_);rcases hp with⟨p1,rfl⟩ | ⟨p1,rfl,rfl⟩<;>rcases hy with⟨g1,hy⟩ | ⟨g1,rfl⟩
 ·rw [hy];have p2 : (pe != 0) = false := by simpa using p1
  have g2:(ge != 0)=false:=by simpa using g1
  simp only[wq.1,seval,p1];refine ah.ev e8 (by simp only[V.dats,V.dat,(bV _).1,Bool.and_self]) ?_;simp only[wq.1,seval,g1,p2,g2];have hz0:decide (0<(((0:Nat):Int)))=false:=rfl
  repeat(refine⟨.bool true,?_⟩;simp only[wq.1,seval,ay,Tryz.results4,p1,g1,p2,g2,hz0])
  try(simp only[wq.1,seval,ay,Tryz.results4,p1,g1,p2,g2,hz0])
  refine ag (vm ?_);simp only[wq.1,seval];refine ah.ev e5 (by simp only[V.dats,V.dat,(bV _).1,bK,Bool.and_self]) ?_;simp only[wq.1,seval];refine ag (vm ?_);simp only[wq.1,seval];refine ah.ev e6 rfl ?_;simp only[wq.1,seval];refine ah.ev e7 (by simp only[V.dats,V.dat,(bV _).1,bK,Bool.and_self]) ?_;simp only[wq.1,seval];rcases hr with⟨r1,r2,r3,r4⟩ | ⟨r1,rfl⟩
  ·cases r1;cases r2;have r0:((0:Int)==0)=true:=rfl;refine ag (vm ?_);simp only[wq.1,seval];refine ah.ev e8 (by simp only[V.dats,V.dat,(bV _).1,Bool.and_self]) ?_;simp only[wq.1,seval];refine vm ?_;simp only[wq.1,↓reduceIte];exact az.dat rfl
  ·have r2 : (re != 0) = true := by simpa using r1
   have q0:(((0:Nat):Int)==0)=true:=rfl;refine ag (vm ?_);simp only[wq.1,seval,r1,r2,q0];refine⟨.bool true,?_⟩;simp only[wq.1];refine vm ?_;simp only[wq.1,↓reduceIte];exact az.dat rfl
 ·skip
  have p2:(pe != 0)=false:=by simpa using p1
  have g2:(ge != 0)=true:=by simpa using g1
  simp only[wq.1,seval,p1];refine ah.ev e8 (by simp only[V.dats,V.dat,(bV _).1,Bool.and_self]) ?_;simp only[wq.1,seval,g1,p2,g2];have hz0:decide (0<(((0:Nat):Int)))=false:=rfl
  repeat(refine⟨.bool true,?_⟩;simp only[wq.1,seval,ay,Tryz.results4,p1,g1,p2,g2,hz0])
  try(simp only[wq.1,hz0])
  refine ag (vm ?_);simp only[wq.1,seval];refine ah.ev e5 (by simp only[V.dats,V.dat,(bV _).1,bK,Bool.and_self]) ?_;simp only[wq.1,seval];refine ag (vm ?_);simp only[wq.1,seval];refine ah.ev e6 rfl ?_;simp only[wq.1,seval];refine ah.ev e7 (by simp only[V.dats,V.dat,(bV _).1,bK,Bool.and_self]) ?_;simp only[wq.1,seval];rcases hr with⟨r1,r2,r3,r4⟩ | ⟨r1,rfl⟩
  ·cases r1;cases r2;have r0:((0:Int)==0)=true:=rfl;refine ag (vm ?_);simp only[wq.1,seval];refine ah.ev e8 (by simp only[V.dats,V.dat,(bV _).1,Bool.and_self]) ?_;simp only[wq.1,seval];refine vm ?_;simp only[wq.1,↓reduceIte];exact az.dat rfl
  ·have r2 : (re != 0) = true := by simpa using r1
   have q0:(((0:Nat):Int)==0)=true:=rfl;refine ag (vm ?_);simp only[wq.1,seval,r1,r2,q0];refine⟨.bool true,?_⟩;simp only[wq.1];refine vm ?_;simp only[wq.1,↓reduceIte];exact az.dat rfl
 ·rw [hy];have p2 : (pe != 0) = true := by simpa using p1
  have g2:(ge != 0)=false:=by simpa using g1
  simp only[wq.1,seval,p1,g1,p2,g2];have hz0:decide (0<(((0:Nat):Int)))=false:=rfl
  repeat(refine⟨.bool true,?_⟩;simp only[wq.1])
  try(simp only[wq.1,seval,ay,Tryz.results4,p1,g1,p2,g2,hz0])
  refine ag (vm ?_);simp only[wq.1,seval];refine ah.ev e5 (by simp only[V.dats,V.dat,(bV _).1,bK,Bool.and_self]) ?_;simp only[wq.1,seval];refine ag (vm ?_);simp only[wq.1,seval];refine ah.ev e6 rfl ?_;simp only[wq.1,seval];refine ah.ev e7 (by simp only[V.dats,V.dat,(bV _).1,bK,Bool.and_self]) ?_;simp only[wq.1,seval];rcases hr with⟨r1,r2,r3,r4⟩ | ⟨r1,rfl⟩
  ·cases r1;cases r2;have r0:((0:Int)==0)=true:=rfl;refine ag (vm ?_);simp only[wq.1,seval];refine ah.ev e8 (by simp only[V.dats,V.dat,(bV _).1,Bool.and_self]) ?_;simp only[wq.1,seval];refine vm ?_;simp only[wq.1,↓reduceIte];exact az.dat rfl
  ·have r2 : (re != 0) = true := by simpa using r1
   have q0:(((0:Nat):Int)==0)=true:=rfl;refine ag (vm ?_);simp only[wq.1,seval,r1,r2,q0];refine⟨.bool true,?_⟩;simp only[wq.1];refine vm ?_;simp only[wq.1,↓reduceIte];exact az.dat rfl
 ·skip
  have p2:(pe != 0)=true:=by simpa using p1
  have g2:(ge != 0)=true:=by simpa using g1
  simp only[wq.1,seval,p1,g1,p2,g2];have hz0:decide (0<(((0:Nat):Int)))=false:=rfl
  repeat(refine⟨.bool true,?_⟩;simp only[wq.1,hz0])
  try(simp only[wq.1,seval,ay,Tryz.results4,p1,g1,p2,g2,hz0])
  refine ag (vm ?_);simp only[wq.1,seval];refine ah.ev e5 (by simp only[V.dats,V.dat,(bV _).1,bK,Bool.and_self]) ?_;simp only[wq.1,seval];refine ag (vm ?_);simp only[wq.1,seval];refine ah.ev e6 rfl ?_;simp only[wq.1,seval];refine ah.ev e7 (by simp only[V.dats,V.dat,(bV _).1,bK,Bool.and_self]) ?_;simp only[wq.1,seval];rcases hr with⟨r1,r2,r3,r4⟩ | ⟨r1,rfl⟩
  ·cases r1;cases r2;have r0:((0:Int)==0)=true:=rfl;refine ag (vm ?_);simp only[wq.1,seval];refine ah.ev e8 (by simp only[V.dats,V.dat,(bV _).1,Bool.and_self]) ?_;simp only[wq.1,seval];refine vm ?_;simp only[wq.1,↓reduceIte];exact az.dat rfl
  ·have r2 : (re != 0) = true := by simpa using r1
   have q0:(((0:Nat):Int)==0)=true:=rfl;refine ag (vm ?_);simp only[wq.1,seval,r1,r2,q0];refine⟨.bool true,?_⟩;simp only[wq.1];refine vm ?_;simp only[wq.1,↓reduceIte];exact az.dat rfl
end Go.Proofs.YtmlacppmbfbjgaaGreatDoor
