/- Lemmas for this claim, part F15: each holds under what it names. -/
import Derived.Test.YtmlacppmbfbjgaaGreatDoorTF14
import Derived.Shelf.Strings.OnBuilder
set_option linter.unusedVariables false
set_option linter.unusedSimpArgs false
set_option linter.unnecessarySimpa false
set_option maxRecDepth 100000
set_option maxHeartbeats 8000000
namespace Go.Proofs.YtmlacppmbfbjgaaGreatDoor
open Go Go.Proofs Go.Abs Go.RowKit Go.Shelf Go.Lib Go.Sort
theorem VX : Builder.Extra Tryz.prog NQ where
 sizeBuilder:=by kernel_rfl
 liesBuilder:=by kernel_rfl
 t5:=Tryz.underlying5
 a5:=Tryz.isAgg5
 z5:=Tryz.sizeOf5
 v5:=Tryz.zeroValue5
 infoByte:=by kernel_rfl
 cellsByte:=by kernel_rfl
 sizeByte:=by kernel_rfl
 neB5:=by decide
theorem Qp {w:World} {b o:Nat} {v:Value} (h:w.cell? ⟨b,o,none⟩=some v):b<w.heap.size:=by
 rcases Nat.lt_or_ge b w.heap.size with h1 | h1
 ·exact h1
 ·exfalso;unfold World.cell? at h;simp[Array.getElem?_eq_none h1]at h
theorem Js {w w':World} (x:Below w.heap.size w w'):WExt w w':=⟨x.os,x.tape,x.output,x.size,x.block⟩
theorem yQ : ∀ l : List S,(l.map fun s : S => (⟨s.toArray⟩ : ByteArray)).map (·.data.toList) = l
 | []=>rfl
 | a::l=>by rw[zrd,zrd,yQ l]
theorem Qq (l:List S) (sep:S) (hn:l.length≤100000000) (hj:(Lib.join l sep).length≤100000000):Ev TE 40 [bF l,.str sep] (.str (Lib.join l sep)):=by
 intro ok w vs hs hl;simp only[VList]at hl;obtain⟨y,ys,rfl,h1,y2,ys2,rfl,h2,rfl⟩:=hl;have:=yM h2;subst this;simp only[VRel]at h1;obtain⟨a,cp,rfl,hle,hcp,_,hel⟩:=h1;rw[zra]at hle;have fin:Calls TE.P 40 (Value.slice a (l.map V.str).length cp::Value.string ⟨sep.toArray⟩::[]).toArray w fun en w'=>en= .returned (.string ⟨(Lib.join l sep).toArray⟩)∧Below w.heap.size w w':=by
  rw[zra];rcases l with _ | ⟨s0,l0⟩
  ·exact(Any.strings_Join_none VW VX a cp ⟨sep.toArray⟩ w).mono fun e w' ⟨he,hw⟩=>⟨he,hw▸Below.refl _ _⟩
  ·obtain⟨b,off,rfl,hv⟩:=hel.resolve_left (by simp);obtain⟨xs,hx1,hx2,hx3⟩:=VElems.list hv (by intro v hv;obtain⟨s,_,rfl⟩:=zrh.1 hv;rfl);have hxs:=Hr hx3;subst hxs;have bQ:∀(j:Nat) (x:ByteArray),((s0::l0).map fun s:S=>(⟨s.toArray⟩:ByteArray))[j]? =some x→w.cell? ⟨b,off+j,none⟩=some (.string x):=fun j x hj=>by
    refine hx2 j _ ?_;rw[zqo]at hj ⊢;cases hg:(s0::l0)[j]? with
    | none=>rw[hg]at hj;simp at hj
    | some s=>rw[hg]at hj;simp at hj;subst hj;rfl
   have hmm:=yQ (s0::l0);have:=Any.strings_Join VW VX b off cp ((s0::l0).map fun s:S=>(⟨s.toArray⟩:ByteArray)) ⟨sep.toArray⟩ w bQ (Qp (bQ 0 _ rfl)) (by simp at hn ⊢;omega) (by simpa using hle) (by rw[hmm];show(Lib.join (s0::l0) sep).length≤_;omega);rw[hmm,zra]at this;exact this
 refine Calls.mono fin ?_;rintro en w' ⟨rfl,hb⟩;refine⟨_,rfl,Js hb,?_⟩;simp only[VRel];exact⟨_,rfl,by simp,by have hM:maxLen=9223372036854775807:=rfl;omega⟩
theorem Fg (b:Nat) (w:World) (c1:w.drew.cell? ⟨b,1,none⟩=some (.slice none 0 0)) :
 Calls Tryz.prog 41 #[.pointer (some ⟨b,0,none⟩)] w fun e w'=>e= .returned (.string ⟨#[]⟩)∧w'=w.drew:=by
 have hSD:(Builtin.unsafeSliceData_ #[92] 138 #[.slice none 0 0]).run Tryz.prog w.drew= .ok (.pointer none) w.drew :=
  Lib.run_unsafeSliceData_nil w.drew _ _ _ _
 have hUS:(Builtin.unsafeString_ #[138,3] 9 #[.pointer none,.int .i64 0]).run Tryz.prog w.drew= .ok (.string .empty) w.drew :=
  Lib.run_unsafeString_none w.drew 138 3 9 none
 go_enter Tryz.func41,Tryz.ntmps41
 go_wp2
 go_region
 all_goals (go_wp2;go_ret;exact⟨rfl,rfl⟩)
theorem Qr {T id:Nat} {a:V} {h:H} {R:AEnd→H→(Nat→Bool)→Prop} (hh:h[id]? =some (.typed T [a,.nils])) (hr:R (.ret (.str [])) h (fun _=>false)):ah TE 41 [.lp id 0] h R:=by
 intro ok pl w vs hs hv;simp only[VList,VRel]at hv;obtain⟨y,ys,rfl,⟨b,hpb,rfl⟩,rfl⟩:=hv;have hpb:pl id=some b:=hpb;obtain⟨o,ho,hat⟩:=hs.obj id b hpb;rw[hh]at ho;cases ho;obtain⟨arr,fz,g1,g2,g3,g4⟩:=hat;have g1:w.heap[b]? =some (.cells arr T fz):=g1;obtain⟨x1,e1,r1⟩:=VList.get 1 .nils g4 rfl;have e1:arr[1]? =some x1:=by
  rw[List.getElem?_take_of_lt (by simp)]at e1;simpa using e1
 simp only[VRel]at r1;have hcell:w.drew.cell? ⟨b,1,none⟩=some (.slice none 0 0):=by
  rw[Lib.cell_of_heap (w:=w.drew) g1,e1,r1]
 refine(Fg b w hcell).mono ?_;rintro en w' ⟨rfl,rfl⟩;have x:WExt w w.drew:=WExt.drew w;exact⟨fun _=>false,pl,h,.ret (.str []),hs.wext x,x.keeps hs,by show VRel _ _ _;simp only[VRel];exact⟨_,rfl,by simp,by decide⟩,hr⟩
def bI : S → H
 | []=>[.typed 94 [.nilp,.nils]]
 | c::s=>[.typed 94 [.lp 0 0,.ls 1 1 0 (c::s).length (c::s).length],.typed 5 ((c::s).map vb)]
theorem AU {out:S} {p:Nat→Bool} (h0:p 0=false) (h1:out≠[]→p 1=false):(bI out).map (O.drop p)=bI out:=by
 cases out with
 | nil=>rfl
 | cons c s=>have h1:=h1 (by simp);show [O.typed _ (V.drops p [.lp 0 0,.ls 1 1 0 _ _]),O.typed _ (V.drops p ((c::s).map vb))]=_;rw[uC];simp only[V.drops,V.drop,h0,h1,if_false,zrm];rfl
theorem Q7 (out:S):1≤(bI out).length∧(out≠[]→(bI out).length=2):=by
 cases out with
 | nil=>exact⟨zrb _,fun h=>absurd rfl h⟩
 | cons c s=>exact⟨by simp[bI],fun _=>rfl⟩
theorem Q8 (out:S):(bI out).map (O.drop (aT (bI out).length))=bI out:=by obtain⟨h1,h2⟩:=Q7 out;exact AU (by show decide (_≤0)=false;rw[zqd];omega) (fun h=>by rw[h2 h];rfl)
theorem Qs {out s:S} {R:AEnd→H→(Nat→Bool)→Prop} (hs:s≠[]) (hl:out.length+s.length≤20000000000000) (hr:∀v p,p 0=false→R (.ret v) (bI (out++s)) p):ah TE 39 [.lp 0 0,.str s] (bI out) R:=by
 cases out with
 | nil =>
  refine NY yP s (.inl rfl) rfl hs (by simpa using hl) ?_;cases s with
  | nil=>exact absurd rfl hs
  | cons x s=>exact hr _ _ rfl
 | cons c out=>refine Qo yP (c::out) s (.inr rfl) (by decide) rfl rfl hl ?_;have e:(((bI (c::out)).map (O.drop (·==1))).set 1 (O.typed 5 ((c::out++s).map vb))).set 0 (.typed 94 [.lp 0 0,.ls 1 1 0 (c::out++s).length (c::out++s).length])=bI (c::out++s):=rfl;rw[e];exact hr _ _ rfl
theorem VY {out:S} {R:AEnd→H→(Nat→Bool)→Prop} (hl:out.length≤20000000000000) (hr:∀h p,R (.ret (.str out)) h p):ah TE 41 [.lp 0 0] (bI out) R:=by
 cases out with
 | nil=>exact Qr (a:= .nilp) (T:=94) rfl (hr _ _)
 | cons c out=>exact TZ (c::out) rfl rfl (by simp) hl (hr _ _)
theorem AV {x:Lt} (h:bf x.1=true):(Nb x).length≤41:=by simp only[bf,zqf,zqb]at h;unfold Nb;rw[zrt];omega
theorem NZ {ws:List S} {k:Nat} (h:∀w∈ws,w.length≤k):(Lib.join ws [32]).length≤ws.length*(k+1):=by
 induction ws with
 | nil=>simp[Lib.join_nil]
 | cons w ws ih =>
  have h1:=h w (by simp);have h2:=ih fun x hx=>h x (by simp[hx]);cases ws with
  | nil=>rw[Lib.join_one];simp;omega
  | cons v ws=>rw[Jl,zqa,zrt,zrt,Nat.succ_mul];omega
theorem yR {p : Nat → Bool} : ∀ {a : H} {k : Nat},(∀ i,k ≤ i → i < k + a.length → p i = false) → iV p k a = a.map (O.drop p)
 | [],_,_=>rfl
 | o::a,k,h=>by rw[iV,if_neg (by rw[h k (zrb _) (by simp)];decide),zrd,yR fun i h1 h2=>h i (by omega) (by rw[zrt];omega)]
theorem yS {p : Nat → Bool} {b : H} : ∀ {a : H} {k : Nat},iV p k (a ++ b) = iV p k a ++ iV p (k + a.length) b
 | [],k=>rfl
 | o::a,k=>by rw[List.cons_append,iV,iV,List.cons_append,yS,zrt,show k+1+a.length=k+(a.length+1) by omega]
theorem Qu {a:H} {b b' o:O}:(a++[b]++[o]).set a.length b'=a++[b']++[o]:=by rw[zqc,List.set_append_right _ _ (zrb _),Nat.sub_self,zqc];rfl
theorem N7 {α : Type} {f : α → S} {K : Nat} : ∀ k : List α,(∀ c ∈ k,(f c).length ≤ K) → (k.flatMap f).length ≤ k.length * K
 | [],_=>by simp
 | c::k,h=>by have h1:=h c (by simp);have h2:=N7 k fun x hx=>h x (by simp[hx]);rw[List.flatMap_cons,zqa,zrt,Nat.succ_mul];omega
theorem N8 (l:List (List Lt)) (hl:l.length≤1000) (hc:∀c∈l,c.length≤1000):Ev TE 15 [lss l] (.tup [.str (wU l).1,vi (wU l).2]):=by
 have hM:maxLen=9223372036854775807:=rfl;refine ai Tryz.func15 rfl (by simp[nts]) ?_;refine ag (vm ?_);simp only[wq.1,seval,Tryz.results15];refine ag (gK ?_);refine eH rfl rfl ?_;refine IB (t:=94) (q:=⟨.struct [(0,91),(1,92)],2,32,.agg [.nilp,.nils]⟩) rfl (by simp only[wq.1]) rfl ?_;refine gq ?_;simp only[wq.1];refine ag ?_;refine ag (vm ?_);simp only[wq.1,seval];refine aC ?_;refine aB (fun q f h=>∃(i:Nat) (X:H),q+i=l.length∧(l.take i).all okC=true∧f.t 4= .lp 0 0∧f.t 10=lss l∧f.t 11=vi l.length∧f.t 12=vi i∧f.d=[]∧h=bI ((l.take i).flatMap xP)++X) l.length ⟨0,[],by omega,rfl,by simp only[wq.1,seval],by simp only[wq.1,seval],by simp only[wq.1,seval],by simp only[wq.1,↓reduceIte];rfl,by simp only[wq.1],rfl⟩ ?_;rintro q f h ⟨i,X,hq,hall,t4,t10,t11,t12,hd,rfl⟩;refine dY (by rw[hd];simp) ?_;rw[Q8];obtain⟨out,hout⟩:∃out,out=(l.take i).flatMap xP:=⟨_,rfl⟩;have hol:out.length≤i*42001:=by
  rw[hout];have hlp:∀c∈l.take i,(xP c).length≤42001:=fun c hcm=>by
   have h1:=hc c (List.mem_of_mem_take hcm);have h2:=zrs.1 hall c hcm;have h3:=NZ (ws:=c.map Nb) (k:=41) (fun w hw=>by obtain⟨x,hx,rfl⟩:=zrh.1 hw;exact AV (zrs.1 h2 x hx));unfold xP;rw[zra]at h3;rw[zqa,zrk];omega
  have hmi:(l.take i).length≤i:=by rw[zrl];omega
  exact Nat.le_trans (N7 _ hlp) (Nat.mul_le_mul_right _ hmi)
 rw[←hout];obtain⟨hN1,hN2⟩:=Q7 out;have z0:aT (bI out).length 0=false:=by show decide (_≤0)=false;rw[zqd];omega
 refine mJ (fun f'=>f'.t 4= .lp 0 0∧f'.t 10=lss l∧f'.t 11=vi l.length∧f'.t 12=vi i∧f'.d=[]) _ (fun hk=>hk _ ⟨by simp only[wq.1,↓reduceIte,t4,z0],by simp only[wq.1,t10],by simp only[wq.1,t11],by simp only[wq.1,t12],hd⟩) ?_;clear t4 t10 t11 t12 hd f;rintro f ⟨t4,t10,t11,t12,hd⟩;refine ag (vm ?_);simp only[wq.1,Nat.reduceLT,t11,t12];refine ag (bG (b:=decide ((i:Int)<l.length)) (by simp only[wq.1,↓reduceIte]) (by simp only[wq.1,↓reduceIte]) (fun hlt=> ?_) (fun hlt=> ?_))
 ·simp only[zqb,zqi]at hlt;have hw:=aA (show i<maxLen by omega);have hgl:=oN hlt .any;have hcl:=hc _ (zqu hlt);have hsu:okC l[i]=true→(l.take (i+1)).all okC=true:=fun h=>by
   rw[zrg,zqk hlt,List.all_append,hall];simpa using h
  have hfl:okC l[i]=false→wU l=([],4):=fun h=>by unfold wU;rw[if_neg];intro h2;have:=zrs.1 h2 _ (zqu hlt);rw[h]at this;cases this
  have hos:(l.take (i+1)).flatMap xP=out++xP l[i]:=by rw[zrg,zqk hlt,List.flatMap_append,←hout];simp
  obtain⟨c,hce⟩:∃c,c=l[i]:=⟨_,rfl⟩;rw[←hce]at hgl hcl hsu hfl hos;refine vm ?_;simp only[wq.1];refine ag (aC ?_);refine ag (vm ?_);simp only[wq.1,seval,t10,t12,hgl];refine⟨⟨by omega,by omega⟩,?_⟩;refine ag (vm ?_);simp only[wq.1,Nat.reduceLT];refine dC 7 1 (by simp only[wq.1,↓reduceIte]) ?_;refine ag ?_;refine ag (vm ?_);simp only[wq.1,seval,hd];refine aC ?_;have hbc:∀ws:List S,(bI out++[O.cells (ws.map V.str)]).map (O.drop (aT (bI out++[O.cells (ws.map V.str)]).length))=bI out++[O.cells (ws.map V.str)]:=fun ws=>by
   have hl3:(bI out++[O.cells (ws.map V.str)]).length=(bI out).length+1:=by simp
   rw[hl3,zql,AU (by show decide (_≤0)=false;rw[zqd];omega) (fun h=>by rw[hN2 h];rfl)];show _++[O.cells (V.drops _ _)]=_;rw[jR]
  obtain⟨N,hN⟩:∃N,N=(bI out).length:=⟨_,rfl⟩;rw[←hN]at hN1 hN2;have zl:∀ws:List S,(bI out++[O.cells (ws.map V.str)]).length=N+1:=fun ws=>by simp[hN]
  have z0':aT (N+1) 0=false:=rfl;have zN:aT (N+1) N=false:=by show decide (_≤N)=false;rw[zqd];omega
  refine aB (fun q' f h=>∃(j:Nat) (Y:H),q'+j=c.length∧okC (c.take j)=true∧f.t 4= .lp 0 0∧f.t 7= .ls N 1 0 j j∧f.t 10=lss l∧f.t 11=vi l.length∧f.t 12=vi i∧f.t 16=fH c∧f.t 17=vi c.length∧f.t 18=vi j∧f.d=[]∧h=bI out++[.cells (((c.take j).map Nb).map V.str)]++Y) c.length ⟨0,[],by omega,rfl,t4,by simp only[wq.1,seval];rw[hN],t10,t11,t12,by simp only[wq.1,seval],by simp only[wq.1,seval],by simp only[wq.1,↓reduceIte];rfl,by simp only[wq.1],by simp⟩ ?_;clear t4 t10 t11 t12 hd f;rintro q' f h ⟨j,Y,hq',hkj,t4,t7,t10,t11,t12,t16,t17,t18,hd,rfl⟩;refine dY (by rw[hd];simp) ?_;rw[hbc,zl];refine mJ (fun f'=>f'.t 4= .lp 0 0∧f'.t 7= .ls N 1 0 j j∧f'.t 10=lss l∧f'.t 11=vi l.length∧f'.t 12=vi i∧f'.t 16=fH c∧f'.t 17=vi c.length∧f'.t 18=vi j∧f'.d=[]) _ (fun hk=>hk _ ⟨by simp only[wq.1,↓reduceIte,t4,z0'],by simp only[wq.1,↓reduceIte,t7,zN],by simp only[wq.1,t10],by simp only[wq.1,t11],by simp only[wq.1,t12],by simp only[wq.1,t16],by simp only[wq.1,t17],by simp only[wq.1,t18],hd⟩) ?_;clear t4 t7 t10 t11 t12 t16 t17 t18 hd f;rintro f ⟨t4,t7,t10,t11,t12,t16,t17,t18,hd⟩;have hwl:((c.take j).map Nb).length=min j c.length:=by simp
  obtain⟨ws,hws⟩:∃ws,ws=(c.take j).map Nb:=⟨_,rfl⟩;rw[←hws]at hwl ⊢;obtain⟨H0,hH0⟩:∃H0,H0=bI out++[O.cells (ws.map V.str)]:=⟨_,rfl⟩;rw[←hH0];have y0:H0[N]? =some (.cells (ws.map V.str)):=by rw[hH0,hN];exact jJ
  have yl:H0.length=N+1:=by rw[hH0];exact zl ws
  refine ag (vm ?_);simp only[wq.1,Nat.reduceLT,t17,t18];refine ag (bG (b:=decide ((j:Int)<c.length)) (by simp only[wq.1,↓reduceIte]) (by simp only[wq.1,↓reduceIte]) (fun hlt2=> ?_) (fun hlt2=> ?_))
  ·simp only[zqb,zqi]at hlt2;have hw2:=aA (show j<maxLen by omega);have hgc:=pY hlt2 .any;have hxm:=zqu hlt2;have hsx:bf c[j].1=true→okC (c.take (j+1))=true:=fun h=>by
    unfold okC at hkj ⊢;rw[zrg,zqk hlt2,List.all_append,hkj];simpa using h
   have hax:bf c[j].1=false→okC c=false:=fun h=>by unfold okC;rw[List.all_eq_false];exact⟨_,hxm,by rw[h];simp⟩
   have hwn:(c.take (j+1)).map Nb=ws++[Nb c[j]]:=by rw[zrg,zqk hlt2,zql,←hws];rfl
   obtain⟨x,hx⟩:∃x,x=c[j]:=⟨_,rfl⟩;rw[←hx]at hgc hxm hsx hax hwn;have hlo:∀o:O,(H0++[o])[N+1]? =some o:=fun o=>by rw[←yl];exact jJ
   have hso:∀o o':O,(H0++[o]).set (N+1) o'=H0++[o']:=fun o o'=>by rw[←yl];exact qJ
   have yN:∀o:O,(H0++[o])[N]? =some (.cells (ws.map V.str)):=fun o=>by rw[zqj (by omega)];exact y0
   refine vm ?_;simp only[wq.1];refine ag (aC ?_);refine ag (vm ?_);simp only[wq.1,seval,t16,t18,hgc,yl,hlo,hso];refine⟨⟨by omega,by omega⟩,?_⟩;refine ag ?_;refine ag (vm ?_);simp only[wq.1,seval,hlo];refine ah.ev (uy x.1) rfl ?_;simp only[wq.1,seval];cases hok:bf x.1 with
   | false=>rw[hfl (hax hok)];refine vm ?_;simp only[wq.1,seval,hd];exact az.dat rfl
   | true =>
    have hll:=AV hok;have hls:=Nc x (by simp only[bf,zqf,zqb]at hok;omega);have hdr0:H0.map (O.drop fun k=>k==N)=H0:=by rw[hH0,zql,AU (by show(0==N)=false;rw[beq_eq_false_iff_ne];omega) (fun h=>by have:=hN2 h;show(1==N)=false;rw[this];rfl)];show _++[O.cells (V.drops _ _)]=_;rw[jR]
    have dws:∀p,V.drops p (ws.map V.str)=ws.map V.str:=fun p=>jR _;have hel:(ws.map V.str).length=j*1:=by rw[zra];omega
    refine vm ?_;simp only[wq.1,↓reduceIte];show awp _ _ _ _ _ _ _;refine vm ?_;simp only[wq.1,seval,-Int.reduceNatCast,-Int.reduceNatCast',t7,hlo];refine ah.ev hls rfl ?_;simp only[wq.1,↓reduceIte,Nat.reduceEqDiff,Nat.reduceLT,reduceCtorEq,Nat.reduceMul,hd,yN,hdr0];have k0:((0:Nat)==N)=false:=by rw[beq_eq_false_iff_ne];omega
    refine⟨⟨rfl,by decide⟩,⟨by omega,by omega,by omega⟩,?_⟩;refine vm ?_;simp only[wq.1,seval,t18,hw2];refine .inl ⟨q'-1,by omega,j+1,[.cells [.str x.1,.bool x.2]],by omega,hsx hok,by simp only[wq.1,seval,t4,k0],by simp only[wq.1,seval],by simp only[wq.1,seval,t10],by simp only[wq.1,seval,t11],by simp only[wq.1,seval,t12],by simp only[wq.1,seval,t16],by simp only[wq.1,seval,t17],by simp only[wq.1,↓reduceIte],hd,?_⟩;rw[hH0,hN,Qu,hwn,zql];rfl
  ·simp only [zqd,zqi] at hlt2;have : j = c.length := by omega
   subst this;rw[zrx]at hkj hws;have hdat:iV (·==N) 0 H0=bI out++[.dead]:=by
    rw[hH0,yS,yR (fun i h1 h2=>by show(i==N)=false;rw[beq_eq_false_iff_ne];omega),AU (by show(0==N)=false;rw[beq_eq_false_iff_ne];omega) (fun h=>by have:=hN2 h;show(1==N)=false;rw[this];rfl),Nat.zero_add,←hN];show _++[if(N==N)=true then O.dead else _]=_;rw[beq_self_eq_true,if_pos rfl]
   refine vm ?_;simp only[wq.1];show awp _ _ _ _ _ _ _;refine nX N 7 (bF ws) (by simp only[wq.1,seval,t7]) (by simp only[wq.1,seval,t7];exact jy (by rw[nU,y0];simp;show O.cells (V.drops _ _)=_;rw[jR]) (by omega)) (by simp only[wq.1,hd]) ?_;rw[hdat];refine dY (by rw[show Fr.d _=[]from by simp only[wq.1,hd]];simp) ?_;rw[Q8,←hN];have k0:((0:Nat)==N)=false:=by rw[beq_eq_false_iff_ne];omega
   have kN:aT N 0=false:=by show decide (N≤0)=false;rw[zqd];omega
   refine mJ (fun f'=>f'.t 4= .lp 0 0∧f'.t 7=bF ws∧f'.t 10=lss l∧f'.t 11=vi l.length∧f'.t 12=vi i∧f'.d=[]) _ (fun hk=>hk _ ⟨by simp only[wq.1,seval,t4,k0,kN],by simp only[wq.1,↓reduceIte],by simp only[wq.1,seval,t10],by simp only[wq.1,seval,t11],by simp only[wq.1,seval,t12],hd⟩) ?_;clear t4 t7 t10 t11 t12 t16 t17 t18 hd f;rintro f ⟨t4,t7,t10,t11,t12,hd⟩;have hjl:=NZ (ws:=ws) (k:=41) (fun w hw=>by rw[hws]at hw;obtain⟨x,hx,rfl⟩:=zrh.1 hw;exact AV (zrs.1 hkj x hx));have hjn:=Qq ws [32] (by omega) (by omega);have hlp:xP c=Lib.join ws [32]++[10]:=by unfold xP;rw[hws]
   refine vm ?_;simp only[wq.1,seval,t7];refine ah.ev hjn (by simp only[V.dats,V.dat,bV,zre]) ?_;simp only[wq.1,seval,t4];refine⟨by omega,?_⟩;rw[←hlp];have hlpl:(xP c).length≤42001:=by rw[hlp,zqa,zrk];omega
   refine Qs (by rw[hlp];simp) (by omega) (fun v p hp=> ?_);simp only[wq.1,aX,hd];refine vm ?_;simp only[wq.1,seval,t12,hw];exact .inl ⟨q-1,by omega,i+1,[],by omega,hsu hkj,by simp only[wq.1,seval,t4,hp],by simp only[wq.1,seval,t10],by simp only[wq.1,seval,t11],by simp only[wq.1,↓reduceIte],hd,by rw[hos,zqp]⟩
 ·simp only [zqd,zqi] at hlt;have : i = l.length := by omega
  subst this;rw[zrx]at hall hout;have hp:wU l=(out,0):=by unfold wU;rw[if_pos hall,hout]
  rw[hp];refine vm ?_;simp only[wq.1];refine vm ?_;simp only[wq.1,seval,t4];refine VY (by omega) (fun h p=> ?_);simp only[wq.1,seval,aX,hd];exact az.dat rfl
def ru (x:Lt):Bool:=decide (x.1.length≤60)
def xf (c:List Lt):Bool:=(c.take 13).all ru&&decide (c.length≤12)
def Ua (l:List (List Lt)) (n:Nat):Bool:=(l.take (n+1)).all xf&&decide (l.length≤n)
theorem Ub {l:List (List Lt)} {n:Nat} (h:Ua l n=true):l.length≤n∧∀c∈l,c.length≤12∧∀x∈c,x.1.length≤60:=by simp only[Ua,zqf,zqb]at h;refine⟨h.2,fun c hc=> ?_⟩;rw[zqh (by omega)]at h;have:=zrs.1 h.1 c hc;simp only[xf,zqf,zqb]at this;refine⟨this.2,fun x hx=> ?_⟩;rw[zqh (by omega)]at this;have:=zrs.1 this.1 x hx;simpa [ru]using this
theorem Qv (l:List (List Lt)) (n:Nat) (hn:n≤1000):Ev TE 8 [lss l,vi n] (.bool (Ua l n)):=by
 have hM:maxLen=9223372036854775807:=rfl;refine ai Tryz.func8 rfl (by simp[nts]) ?_;refine ag (vm ?_);simp only[wq.1,Nat.reduceLT,Tryz.results8];refine ag ?_;refine ag (vm ?_);simp only[wq.1,Nat.reduceLT];refine aC ?_;refine aB (fun q f h=>∃i,q+i=n+2∧i≤n+1∧i≤l.length∧f.t 0=lss l∧f.t 1=vi n∧f.t 5=vi i∧f.d=[]∧(∀c∈l.take i,xf c=true)) (n+2) ⟨0,by omega,by omega,by omega,by simp only[wq.1,seval],by simp only[wq.1,seval],by simp only[wq.1,↓reduceIte];rfl,by simp only[wq.1],by simp⟩ ?_;rintro q f h ⟨i,hq,hin,hil,t0,t1,t5,hd,hall⟩;by_cases hlt:i<l.length∧i≤n
 ·obtain ⟨hlt,hle⟩ := hlt;have d1 : decide ((i : Int) < (l.length : Int)) = true := by rw [zqb];omega
  have d2:decide ((i:Int)≤(n:Int))=true:=by rw[zqb];omega
  have hw:=aA (show i<maxLen by omega);have hgl:=oN hlt .any;have hsu:xf l[i]=true→∀c∈l.take (i+1),xf c=true:=fun h=>aK (P:=fun c=>xf c=true) hlt hall h;have hno:xf l[i]=false→Ua l n=false:=fun h=>by unfold Ua;rw[Bool.and_eq_false_iff,List.all_eq_false];exact .inl ⟨l[i],List.mem_take_iff_getElem.2 ⟨i,by omega,rfl⟩,by rw[h];simp⟩
  obtain⟨c,hce⟩:∃c,c=l[i]:=⟨_,rfl⟩;rw[←hce]at hgl hsu hno;refine ag ?_;refine ag (vm ?_);simp only[wq.1,seval,t0,t1,t5,d1,d2];refine vm ?_;simp only[wq.1,↓reduceIte];show awp _ _ _ _ _ _ _;refine ag (aC ?_);refine ag ?_;refine ag (vm ?_);simp only[wq.1,Nat.reduceLT];refine aC ?_;refine aB (fun q' f h=>∃k,q'+k=14∧k≤13∧k≤c.length∧f.t 0=lss l∧f.t 1=vi n∧f.t 5=vi i∧f.t 6=vi k∧f.d=[]∧(∀x∈c.take k,ru x=true)) 14 ⟨0,by omega,by omega,by omega,t0,t1,t5,by simp only[wq.1,↓reduceIte];rfl,hd,by simp⟩ ?_;clear t0 t1 t5 hd f;rintro q' f h ⟨k,hq',hk13,hkl,t0,t1,t5,t6,hd,hkall⟩;by_cases hlt2:k<c.length∧k≤12
  ·obtain ⟨hlt2,hle2⟩ := hlt2;have d3 : decide ((k : Int) < (c.length : Int)) = true := by rw [zqb];omega
   have d4:decide ((k:Int)≤12)=true:=by rw[zqb];omega
   have hw2:=aA (show k<maxLen by omega);have hgc:=pY hlt2 .any;have hsx:ru c[k]=true→∀x∈c.take (k+1),ru x=true:=fun h=>aK (P:=fun x=>ru x=true) hlt2 hkall h;have hnx:ru c[k]=false→xf c=false:=fun h=>by unfold xf;rw[Bool.and_eq_false_iff,List.all_eq_false];exact .inl ⟨c[k],List.mem_take_iff_getElem.2 ⟨k,by omega,rfl⟩,by rw[h];simp⟩
   obtain⟨x,hx⟩:∃x,x=c[k]:=⟨_,rfl⟩;rw[←hx]at hgc hsx hnx;refine ag ?_;refine ag (vm ?_);simp only[wq.1,seval,t0,t5,t6,hgl,d3,d4];refine⟨⟨by omega,by omega⟩,?_⟩;refine vm ?_;simp only[wq.1,↓reduceIte];show awp _ _ _ _ _ _ _;refine ag (aC ?_);refine ag (vm ?_);simp only[wq.1,seval,t0,t5,t6,hgl,hgc];refine⟨⟨by omega,by omega⟩,⟨by omega,by omega⟩,?_⟩;cases d5:decide (60<(x.1.length:Int))with
   | true=>rw[hno (hnx (by unfold ru;simp only[zqb]at d5;rw[zqd];omega))];refine vm ?_;simp only[wq.1,seval,hd];exact az.dat rfl
   | false=>refine vm ?_;simp only[wq.1,↓reduceIte];refine vm ?_;simp only[wq.1,seval,t6,hw2];exact .inl ⟨q'-1,by omega,k+1,by omega,by omega,by omega,t0,t1,t5,by simp only[wq.1,↓reduceIte],hd,hsx (by unfold ru;simp only[zqd]at d5;rw[zqb];omega)⟩
  ·have hcv:xf c=decide (c.length≤12):=by
    unfold xf;by_cases h:k<c.length
    ·have e : k = 13 := by omega
     rw[e]at hkall;rw[zrs.2 hkall,Bool.true_and]
    ·rw[zqh (by omega)]at hkall;rw[zrs.2 fun x hx=>hkall x (List.mem_of_mem_take hx),Bool.true_and]
   by_cases h:k<c.length
   ·have d3 : decide ((k : Int) < (c.length : Int)) = true := by rw [zqb];omega
    have d4:decide ((k:Int)≤12)=false:=by rw[zqd];omega
    refine ag ?_;refine ag (vm ?_);simp only[wq.1,seval,t0,t5,t6,hgl,d3,d4];refine⟨⟨by omega,by omega⟩,?_⟩;refine vm ?_;simp only[wq.1,↓reduceIte];show awp _ _ _ _ _ _ _;refine ag (vm ?_);simp only[wq.1,seval,t0,t5,hgl];refine⟨⟨by omega,by omega⟩,?_⟩;cases d6:decide (12<(c.length:Int))with
    | true=>rw[hno (by rw[hcv,zqd];simp only[zqb]at d6;omega)];refine vm ?_;simp only[wq.1,seval,hd];exact az.dat rfl
    | false=>refine vm ?_;simp only[wq.1,↓reduceIte];refine vm ?_;simp only[wq.1,seval,t5,hw];exact .inl ⟨q-1,by omega,i+1,by omega,by omega,by omega,t0,t1,by simp only[wq.1,↓reduceIte],hd,hsu (by rw[hcv,zqb];simp only[zqd]at d6;omega)⟩
   ·have d3 : decide ((k : Int) < (c.length : Int)) = false := by rw [zqd];omega
    refine ag ?_;refine ag (vm ?_);simp only[wq.1,seval,t0,t5,t6,hgl,d3];refine⟨⟨by omega,by omega⟩,?_⟩;refine vm ?_;simp only[wq.1,↓reduceIte];show awp _ _ _ _ _ _ _;refine ag (vm ?_);simp only[wq.1,seval,t0,t5,hgl];refine⟨⟨by omega,by omega⟩,?_⟩;cases d6:decide (12<(c.length:Int))with
    | true=>rw[hno (by rw[hcv,zqd];simp only[zqb]at d6;omega)];refine vm ?_;simp only[wq.1,seval,hd];exact az.dat rfl
    | false=>refine vm ?_;simp only[wq.1,↓reduceIte];refine vm ?_;simp only[wq.1,seval,t5,hw];exact .inl ⟨q-1,by omega,i+1,by omega,by omega,by omega,t0,t1,by simp only[wq.1,↓reduceIte],hd,hsu (by rw[hcv,zqb];simp only[zqd]at d6;omega)⟩
 ·have hb:(decide ((i:Int)<(l.length:Int))=false)∨(decide ((i:Int)<(l.length:Int))=true∧decide ((i:Int)≤(n:Int))=false):=by
   by_cases h:i<l.length
   ·exact .inr ⟨by rw[zqb];omega,by rw[zqd];omega⟩
   ·exact .inl (by rw[zqd];omega)
  have hv:Ua l n=decide ((l.length:Int)≤(n:Int)):=by
   unfold Ua;by_cases h:i<l.length
   ·have e : i = n + 1 := by omega
    rw[e]at hall;rw[zrs.2 hall,Bool.true_and];exact decide_eq_decide.2 (by omega)
   ·rw[zqh (by omega)]at hall;rw[zrs.2 fun c hc=>hall c (List.mem_of_mem_take hc),Bool.true_and];exact decide_eq_decide.2 (by omega)
  rw[hv];rcases hb with d1 | ⟨d1,d2⟩
  ·refine ag ?_;refine ag (vm ?_);simp only[wq.1,seval,t0,t1,t5,d1];refine vm ?_;simp only[wq.1,↓reduceIte];show awp _ _ _ _ _ _ _;refine vm ?_;simp only[wq.1,seval,t0,t1,hd];exact az.dat rfl
  ·refine ag ?_;refine ag (vm ?_);simp only[wq.1,seval,t0,t1,t5,d1,d2];refine vm ?_;simp only[wq.1,↓reduceIte];show awp _ _ _ _ _ _ _;refine vm ?_;simp only[wq.1,seval,t0,t1,hd];exact az.dat rfl
theorem Uc {m:Mo} {bud:Int} (h:bud≤2000):VO m bud:=fun cl n hn hz=>by obtain⟨B,hB⟩:=(NJ (m:=m)) cl n hn hz;obtain⟨v1,v2,v3,v4⟩:=uo hz;refine⟨2000,by omega,fun S _ h=>by omega,?_,by omega,by omega⟩;have:(n+1)*(2*2000+4)≤20001*(2*2000+4):=Nat.mul_le_mul_right _ (by omega);omega
abbrev tQP:S:=[43,113,32,45,112,10]
abbrev lQP:List (List Lt):=[[([113],false),([112],true)]]
theorem Ud:sO tQP= .tup [lss lQP,.agg [vi 0,vi 0,vi 0]]:=by
 have h:qY tQP=(lQP,0,0):=by decide +kernel
 unfold sO;rw[h];rfl
theorem Qw:sO [113,10]= .tup [lss [],.agg [vi 2,vi 1,vi 1]]:=by
 have h:qY [113,10]=([],0,2):=by decide +kernel
 have h2:jg [113,10] 0=(1,1):=by decide +kernel
 unfold sO;rw[h];show V.tup [lss [],o6 [113,10] 0 2]=_;unfold o6;rw[if_neg (by decide),h2]
theorem Ue:wU lQP=(tQP,0):=by decide +kernel
theorem VZ:ni [[113]] [[114]]=0:=by decide +kernel
theorem Xk:mkT [[113]] [[114]]=([[113]],[[114]]):=by unfold mkT;rw[if_pos VZ]
theorem WM:oZ [[113]] [[114]] AY=([[([114],true)]],0):=by decide +kernel
theorem Uf:kJ m0 AY [false]=(true,0):=by decide +kernel
theorem N9:(bK m0 AY).2=0:=by decide +kernel
theorem Oa:(bK m0 []).2=0:=by decide +kernel
theorem DT:(bK m0 lQP).2=12:=by decide +kernel
theorem Qx {a:Ve×Int} (h:l7 m0 AY 0 1099511627776 a):a=(Ve.z,0):=by unfold l7 at h;rw[if_neg (by rw[N9];decide),if_neg (by decide)]at h;exact TJ h
theorem Qy {a:Ve×Int} (h:l7 m0 [] 0 1099511627776 a):a=(⟨1,2,0,[true]⟩,0):=by unfold l7 at h;rw[if_neg (by rw[Oa];decide),if_neg (by decide)]at h;exact TK h
theorem Qz {a:Ve×Int} (h:l7 m0 lQP 0 1000 a):a=(Ve.z,12):=by unfold l7 at h;rw[if_pos (by rw[DT];decide),DT]at h;exact h
theorem Ug:VLe (.is true 1 [.is true 2 [.agg [.str [113],.bool true]]]) (lss AY):=by
 intro c y hy;refine dF c y (VLe.is (x:=true) (es:=[.is true 2 [.agg [.str [113],.bool true]]]) (es':=[fH [([113],true)]]) rfl (fun i v v' h1 h2=> ?_) c y hy)
 match i with
 | 0=>cases h1;cases h2;exact dF
 | i+1=>cases h1
theorem Jt:Ev TE 6 [] (.bool true):=by
 have hsm : m0.g.Sm := ⟨by decide,by decide⟩;have e1 := DL tQP (by decide);rw [Ud] at e1;have e2 := N8 lQP (by decide) (by decide);rw [Ue] at e2;have e3 := wW m0 AY 0 1099511627776 hsm (by decide) (by decide) (by decide) NK;have e4 := wW m0 [] 0 1099511627776 hsm (by decide) (by decide) (by decide) NK;have e5 := wW m0 lQP 0 1000 hsm (by decide) (by decide) (by decide) (Uc (by decide));have e6 := Dl m0 hsm AY [false] (by decide) (by decide) (by decide) (by decide);rw [Uf] at e6;have e7 := Vy [[113]] [[114]] (by decide) (by decide);rw [VZ,Xk] at e7;have e8 := yH [[113]] [[114]] AY (by decide) (by decide);rw [WM] at e8;have e9 := DL [113,10] (by decide);rw [Qw] at e9;have e10 := Hq lQP lQP;have e11 := Hq lQP [[([114],true)]];rw [show (lQP == lQP) = true by decide +kernel] at e10;rw [show (lQP == [[([114],true)]]) = false by decide +kernel] at e11;refine ai Tryz.func6 rfl (by simp [nts]) ?_;refine ag (vm ?_);simp only [wq.1,Nat.reduceLT,Tryz.results6];refine ag (vm ?_);simp only [wq.1,seval];refine ah.ev e1 rfl ?_;simp only [wq.1,seval];refine ag (vm ?_);simp only [wq.1,seval];refine ah.ev e2 (by simp only [V.dats,V.dat,(dV lQP).1,zre]) ?_;simp only [wq.1,seval,-Int.reduceNatCast,-Int.reduceNatCast',ax,Tryz.results6,aX];refine ag (vm ?_);simp only [wq.1,↓reduceIte,Nat.reduceEqDiff,Nat.reduceLT,Nat.reduceLeDiff,Nat.reduceAdd,Nat.reduceSub,Int.reduceToNat,Nat.reduceDiv,Int.reduceLT,Int.reduceLE,Int.reduceNeg,Int.reduceBEq,Int.reduceBNe,Int.reduceAdd,Int.reduceSub,Nat.reduceBEq,reduceCtorEq,Nat.reduceMul,ax,Tryz.results6];refine ⟨⟨rfl,by decide⟩,⟨rfl,by decide⟩,⟨rfl,by decide⟩,⟨rfl,by decide⟩,⟨rfl,by decide⟩,?_⟩;refine vw (h' := [.cells [vi 0,vi 0,vi 0],.cells [vi 0,aH [2],aH [0],prs [],aH [2],bF [],bF [[113]],bF [[122]]]])
  (HLe.set (i:=1) (o':= .cells [vi 0,aH [2],aH [0],prs [],aH [2],bF [],bF [[113]],bF [[122]]]) rfl (OLe.cells (zrb _) (gX.cons (VLe.refl _) (gX.cons dF (gX.cons dF (gX.cons iZ (gX.cons dF (gX.cons iZ (gX.cons dF (gX.cons dF (gX.refl _))))))))))) ?_
 refine ag (vm ?_);simp only[wq.1,↓reduceIte,Nat.reduceEqDiff,Nat.reduceLT,Nat.reduceLeDiff,Nat.reduceAdd,Nat.reduceSub,Int.reduceToNat,Nat.reduceDiv,Int.reduceLT,Int.reduceLE,Int.reduceNeg,Int.reduceBEq,Int.reduceBNe,Int.reduceAdd,Int.reduceSub,Nat.reduceBEq,reduceCtorEq,Nat.reduceMul,ax,Tryz.results6];refine⟨⟨rfl,by decide⟩,⟨rfl,by decide⟩,?_⟩;refine FQ (FLe.one 6 (v:=lss AY) Ug) (HLe.refl _) ?_;refine ag (vm ?_);simp only[wq.1,seval];refine oH e3 (by simp only[V.dats,V.dat,(dV AY).1,zre]) fun r hr=> ?_;obtain⟨a,ha,rfl⟩:=hr;rw[Qx ha];simp only[wq.1,seval];refine ag (vm ?_);simp only[wq.1,seval];refine oH (EvR.les e4 (gX.cons (VLe.refl _) (gX.cons iZ (gX.refl _)))) rfl fun r hr=> ?_;obtain⟨a,ha,rfl⟩:=hr;rw[Qy ha];simp only[wq.1,seval];refine ag (vm ?_);simp only[wq.1,seval];refine oH e5 (by simp only[V.dats,V.dat,(dV lQP).1,zre]) fun r hr=> ?_;obtain⟨a,ha,rfl⟩:=hr;rw[Qz ha];simp only[wq.1,↓reduceIte,Nat.reduceEqDiff,Nat.reduceLT,Nat.reduceAdd];refine ag (vm ?_);simp only[wq.1,↓reduceIte,Nat.reduceEqDiff,Nat.reduceLT,Nat.reduceAdd,reduceCtorEq,Nat.reduceMul];refine⟨⟨rfl,by decide⟩,?_⟩;refine ah.ev (e6.les (gX.cons (VLe.refl _) (gX.cons (VLe.refl _) (gX.cons dF gX.nil)))) (by simp only[V.dats,V.dat,(dV AY).1,zre]) ?_;simp only[wq.1,seval,-Int.reduceNatCast,-Int.reduceNatCast',ax,Tryz.results6,aX];refine ag (vm ?_);simp only[wq.1,↓reduceIte,Nat.reduceEqDiff,Nat.reduceLT,Nat.reduceLeDiff,Nat.reduceAdd,Nat.reduceSub,Int.reduceToNat,Nat.reduceDiv,Int.reduceLT,Int.reduceLE,Int.reduceNeg,Int.reduceBEq,Int.reduceBNe,Int.reduceAdd,Int.reduceSub,Nat.reduceBEq,reduceCtorEq,Nat.reduceMul,ax,Tryz.results6];refine⟨⟨rfl,by decide⟩,⟨rfl,by decide⟩,?_⟩;refine ah.ev (e7.les (gX.cons dF (gX.cons dF gX.nil))) rfl ?_;simp only[wq.1,seval];refine ag (vm ?_);simp only[wq.1,seval];refine ah.ev e8 (by simp only[V.dats,V.dat,(dV AY).1,zre]) ?_;simp only[wq.1,seval];refine ag (vm ?_);simp only[wq.1,seval];refine ah.ev e9 rfl ?_;simp only[wq.1,seval,-Int.reduceNatCast,-Int.reduceNatCast',ax,Tryz.results6,aX];have q1:(((1:Nat):Int)==1)=true:=rfl;have q2:(Ve.z.res==0)=true:=rfl;refine ag (vm ?_);simp only[wq.1,seval,-Int.reduceNatCast,-Int.reduceNatCast',ax,Tryz.results6,TY,Q3,rE,D9,q1,q2];refine⟨by decide,by decide,by decide,by decide,by decide,?_⟩;refine ah.ev e10 (by simp only[V.dats,V.dat,(dV lQP).1,zre]) ?_;simp only[wq.1,seval];refine ah.ev e11 (by simp only[V.dats,V.dat,(dV lQP).1,(dV [[([114],true)]]).1,zre]) ?_;simp only[wq.1,seval];refine vm ?_;simp only[wq.1,↓reduceIte];exact az.dat rfl
def Gr.few (g:Gr):Bool:=(decide (g.ins≤100)||decide (4000<g.ins))&&(decide ((g.next.length:Int)≤40)&&(decide ((g.init.length:Int)≤40)&&(decide ((g.ands.length:Int)≤60)&&decide ((g.outs.length:Int)≤60))))
theorem QA (g:Gr):Ev TE 23 [g.v] (.bool g.few):=by
 unfold Gr.few Gr.v;refine ai Tryz.func23 rfl (by simp[nts]) (vm ?_);cases h1:decide (g.ins≤100)with
 | true =>
  cases h3:decide ((g.next.length:Int)≤40)with
  | false =>
   simp only[wq.1,seval,Tryz.results23,h1,h3]
   repeat(refine⟨.bool true,?_⟩;simp only[wq.1,seval,ax,Tryz.results23,h1,h3])
   exact az.dat rfl
  | true =>
   cases h4:decide ((g.init.length:Int)≤40)with
   | false =>
    simp only[wq.1,seval,Tryz.results23,h1,h3,h4]
    repeat(refine⟨.bool true,?_⟩;simp only[wq.1,seval,ax,Tryz.results23,h1,h3,h4])
    exact az.dat rfl
   | true =>
    cases h5:decide ((g.ands.length:Int)≤60)with
    | false =>
     simp only[wq.1,seval,Tryz.results23,h1,h3,h4,h5]
     repeat(refine⟨.bool true,?_⟩;simp only[wq.1,seval,ax,Tryz.results23,h1,h3,h4,h5])
     exact az.dat rfl
    | true =>
     cases h6:decide ((g.outs.length:Int)≤60)with
     | false =>
      simp only[wq.1,seval,Tryz.results23,h1,h3,h4,h5,h6]
      repeat(refine⟨.bool true,?_⟩;simp only[wq.1,seval,ax,Tryz.results23,h1,h3,h4,h5,h6])
      exact az.dat rfl
     | true =>
      simp only[wq.1,seval,Tryz.results23,h1,h3,h4,h5,h6]
      repeat(refine⟨.bool true,?_⟩;simp only[wq.1,seval,ax,Tryz.results23,h1,h3,h4,h5,h6])
      exact az.dat rfl
 | false =>
  cases h2:decide (4000<g.ins)with
  | false =>
   simp only[wq.1,seval,Tryz.results23,h1,h2]
   repeat(refine⟨.bool true,?_⟩;simp only[wq.1,seval,ax,Tryz.results23,h1,h2])
   exact az.dat rfl
  | true =>
   cases h3:decide ((g.next.length:Int)≤40)with
   | false =>
    simp only[wq.1,seval,Tryz.results23,h1,h2,h3]
    repeat(refine⟨.bool true,?_⟩;simp only[wq.1,seval,ax,Tryz.results23,h1,h2,h3])
    exact az.dat rfl
   | true =>
    cases h4:decide ((g.init.length:Int)≤40)with
    | false =>
     simp only[wq.1,seval,Tryz.results23,h1,h2,h3,h4]
     repeat(refine⟨.bool true,?_⟩;simp only[wq.1,seval,ax,Tryz.results23,h1,h2,h3,h4])
     exact az.dat rfl
    | true =>
     cases h5:decide ((g.ands.length:Int)≤60)with
     | false =>
      simp only[wq.1,seval,Tryz.results23,h1,h2,h3,h4,h5]
      repeat(refine⟨.bool true,?_⟩;simp only[wq.1,seval,ax,Tryz.results23,h1,h2,h3,h4,h5])
      exact az.dat rfl
     | true =>
      cases h6:decide ((g.outs.length:Int)≤60)with
      | false =>
       simp only[wq.1,seval,Tryz.results23,h1,h2,h3,h4,h5,h6]
       repeat(refine⟨.bool true,?_⟩;simp only[wq.1,seval,ax,Tryz.results23,h1,h2,h3,h4,h5,h6])
       exact az.dat rfl
      | true =>
       simp only[wq.1,seval,Tryz.results23,h1,h2,h3,h4,h5,h6]
       repeat(refine⟨.bool true,?_⟩;simp only[wq.1,seval,ax,Tryz.results23,h1,h2,h3,h4,h5,h6])
       exact az.dat rfl
def Mo.few (m:Mo):Bool:=m.g.few&&(I4 40 m.ins&&(I4 40 m.lat&&I4 60 m.out))
theorem QB (m:Mo):Ev TE 7 [m.v] (.bool m.few):=by
 have h09:=QA m.g;unfold Mo.few Mo.v;unfold Gr.v at h09;refine ai Tryz.func7 rfl (by simp[nts]) (vm ?_);simp only[wq.1,seval,Tryz.results7];refine ah.ev h09 rfl ?_;simp only[wq.1,seval];refine ah.ev (wC m.ins 40) rfl ?_;simp only[wq.1,seval];refine ah.ev (wC m.lat 40) rfl ?_;simp only[wq.1,seval];refine ah.ev (wC m.out 60) rfl ?_;cases m.g.few<;>cases I4 40 m.ins<;>cases I4 40 m.lat<;>cases I4 60 m.out
 all_goals
  simp only[wq.1,seval]
  repeat(refine⟨.bool true,?_⟩;simp only[wq.1,seval,ax,Tryz.results7])
  exact az.dat rfl
theorem QC (a b:List S) (l:List (List Lt)):((oZ a b l).2=0∧oZ (inv a b).1 (inv a b).2 (oZ a b l).1=(l,0)∧(oZ a b l).1.length=l.length∧∀d∈(oZ a b l).1,∃c∈l,d.length=c.length)∨(((oZ a b l).2==0)=false∧(oZ a b l).1=[]):=by
 by_cases h:(oZ a b l).2=0
 ·have e : oZ a b l = ((oZ a b l).1,0) := by rw [← h]
  obtain⟨h1,h2,h3⟩:=ND e;refine .inl ⟨h,?_,h2,h3⟩;have hz:ni a b=0:=by
   unfold oZ at h;by_cases hz:ni a b=0
   ·exact hz
   ·rw[if_neg hz]at h;exact absurd h hz
  unfold inv;rw[if_pos hz];exact h1
 ·refine .inr ⟨beq_eq_false_iff_ne.2 h,?_⟩;unfold oZ at h ⊢;split
  ·rename_i hz;rw[if_pos hz]at h;cases hr:Ji a b l with
   | none=>rfl
   | some o=>rw[hr]at h;exact absurd rfl h
  ·rfl
theorem oC {α:Type} {l:List α} {p:α→Bool} {i:Nat} (h:i<l.length) (hp:p l[i]=true):l.any p=true:=List.any_eq_true.2 ⟨_,zqu h,hp⟩
theorem ry {α:Type} {l:List α} {p:α→Bool} {i:Nat} (h:¬i<l.length) (hall:∀x∈l.take i,p x=false):l.any p=false:=by rw[zqh (by omega)]at hall;exact List.any_eq_false.2 fun x hx=>by rw[hall x hx];decide
theorem xg (a n:Int) (h0:-1000000≤n) (h1:n≤1000000):Ev TE 102 [vi a,vi n] (.bool (!xx (2*n) a)):=by
 have hw:IntKind.i64.wrap (2*n)=2*n:=aU (by omega) (by omega);refine ai Tryz.func102 rfl (by simp[nts]) (vm ?_);cases h1:decide (0≤a)with
 | true =>
  simp only[wq.1,seval,Tryz.results102,h1,hw];refine aG rfl ?_;unfold xx;simp only[zqb]at h1;rw[decide_eq_false (show ¬a<0 by omega)];by_cases h:a<2*n
  ·rw[decide_eq_true h,decide_eq_false (show ¬2*n≤a by omega)];rfl
  ·rw[decide_eq_false h,decide_eq_true (show 2*n≤a by omega)];rfl
 | false=>simp only[wq.1,seval,Tryz.results102,h1];refine aG rfl ?_;unfold xx;simp only[zqd]at h1;simp[show a<0 by omega]
theorem Ob (g:Gr) (h0:-1000000000≤g.ins) (h1:g.ins≤1000000000) (h2:g.next.length≤1000000000):Ev TE 101 [g.v] (vi g.first):=by
 unfold Gr.v Gr.first
 refine ai Tryz.func101 rfl (by simp[nts]) (vm ?_);simp only[wq.1,seval,Tryz.results101];rw[dh (n:=1+g.ins) (by omega) (by omega),dh (by omega) (by omega)];exact az.dat rfl
theorem WN {l:List Pq} {i:Nat} (h:i<l.length) (d:V):(l.map prV).getD i d=prV l[i]:=fK h d
theorem xh {g:Gr} (hl:g.lim=false) (h:g.oddR=true):g.chk=1:=by unfold Gr.chk;rw[if_neg (by simp[hl]),if_pos h]
theorem Uh {g:Gr} (hl:g.lim=false) (h:g.oddAs g.ands.length=true):g.chk=1:=by
 unfold Gr.chk;rw[if_neg (by simp[hl])];by_cases hr:g.oddR=true
 ·rw[if_pos hr]
 ·rw[if_neg hr,if_pos h]
theorem Ju (g:Gr) (bn:g.next.length≤4000) (bi:g.init.length≤4000) (ba:g.ands.length≤4000) (bo:g.outs.length≤4000):Ev TE 63 [g.v] (vi g.chk):=by
 have hM:maxLen=9223372036854775807:=rfl;have hfi:g.lim=false→Ev TE 101 [g.v] (vi g.first):=fun h=>by simp only[Gr.lim,Bool.or_eq_false_iff,zqd]at h;exact Ob g (by omega) (by omega) (by omega)
 unfold Gr.v at *;refine ai Tryz.func63 rfl (by simp[nts]) (vm ?_);cases h1:decide (g.ins<0)with
 | true =>
  simp only[wq.1,seval,Tryz.results63,h1]
  repeat(refine⟨.bool true,?_⟩;simp only[wq.1,seval,ax,Tryz.results63,h1])
  exact aG rfl (by unfold Gr.chk;rw[if_pos (by unfold Gr.lim;rw[h1];rfl)])
 | false =>
 cases h2:decide (4000<g.ins)with
 | true =>
  simp only[wq.1,seval,Tryz.results63,h1,h2]
  repeat(refine⟨.bool true,?_⟩;simp only[wq.1,seval,ax,Tryz.results63,h1,h2])
  exact aG rfl (by unfold Gr.chk;rw[if_pos (by unfold Gr.lim;rw[h1,h2];rfl)])
 | false =>
 have g1:0≤g.ins∧g.ins≤4000:=by simp only[zqd]at h1 h2;omega
 have w1:IntKind.i64.wrap (g.ins+(g.next.length:Int))=g.ins+g.next.length:=aU (by omega) (by omega)
 have w2:IntKind.i64.wrap (g.ins+(g.next.length:Int)+(g.ands.length:Int))=g.ins+g.next.length+g.ands.length:=aU (by omega) (by omega)
 cases h3:decide (4000<g.ins+(g.next.length:Int)+(g.ands.length:Int))with
 | true =>
  simp only[wq.1,seval,Tryz.results63,h1,h2,w1,w2,h3]
  repeat(refine⟨.bool true,?_⟩;simp only[wq.1,seval,ax,Tryz.results63,h1,h2,w1,w2,h3])
  exact aG rfl (by unfold Gr.chk;rw[if_pos (by unfold Gr.lim;rw[h1,h2,h3];rfl)])
 | false =>
 cases h4:decide (4000<(g.outs.length:Int))with
 | true=>simp only[wq.1,seval,Tryz.results63,h1,h2,w1,w2,h3,h4];exact aG rfl (by unfold Gr.chk;rw[if_pos (by unfold Gr.lim;rw[h1,h2,h3,h4];rfl)])
 | false =>
 have hl:g.lim=false:=by unfold Gr.lim;rw[h1,h2,h3,h4];rfl
 cases h5:(g.init.length:Int) != (g.next.length:Int)with
 | true =>
  simp only[wq.1,seval,Tryz.results63,h1,h2,w1,w2,h3,h4,h5];refine aG rfl ?_;have h5':(g.init.length != g.next.length)=true:=by simp only[bne_iff_ne,ne_eq,Int.natCast_inj]at h5 ⊢;exact h5
  rw[xh hl (by unfold Gr.oddR;rw[h5'];rfl)]
 | false =>
 have h5':(g.init.length != g.next.length)=false:=by simp only[bne_eq_false_iff_eq,Int.natCast_inj]at h5 ⊢;exact h5
 have hil:g.init.length=g.next.length:=by simpa using h5'
 have hf:=hfi hl;have wf:g.first=1+g.ins+g.next.length:=rfl
 have wa:g.all=2*(g.first+g.ands.length):=rfl;have w3:IntKind.i64.wrap (g.first+(g.ands.length:Int))=g.first+g.ands.length:=aU (by omega) (by omega)
 simp only[wq.1,seval,Tryz.results63,h1,h2,w1,w2,h3,h4,h5];refine⟨by decide +kernel,ul.mk hf rfl (by simp only[V.dats,V.dat,zre]) ?_⟩;simp only[wq.1,seval,w3];have hlit:=fun a:Int=>xg a (g.first+g.ands.length) (by omega) (by omega);rw[←wa]at hlit;obtain⟨A,hA⟩:∃A:Int,A=g.first+g.ands.length:=⟨_,rfl⟩
 rw[←hA]at hlit;rw[←hA];refine aB (fun m f h=>∃i,m+i=g.next.length∧f.t 1= .lp 0 0∧f.t 3=vi A∧f.t 4=vi i∧f.d=[]∧h=[O.cells [vi g.ins,aH g.next,aH g.init,prs g.ands,aH g.outs]]∧(∀x∈g.next.take i,xx g.all x=false)∧∀x∈g.init.take i,xN x=false) g.next.length ⟨0,by simp,by simp only[wq.1,seval],by simp only[wq.1,seval],by simp only[wq.1,↓reduceIte];rfl,by simp only[wq.1],rfl,by simp,by simp⟩ ?_
 rintro m f h ⟨i,hm,k1,k3,k4,hd,rfl,hall,hall2⟩;refine vm ?_;simp only[wq.1,seval,k1,k4];refine vcB.mk (fun hc=> ?_) (fun hc=> ?_)
 ·simp only [zqb,zqi] at hc;have hc2 : i < g.init.length := by omega
  have gi:=ED hc V.any;have gi2:=ED hc2 V.any;have hw:=aA (show i<maxLen by omega);cases e1:decide (g.init[i]<0)with
  | true =>
   simp only[wq.1,seval,k1,k3,k4,gi,gi2,e1]
   repeat(first | refine⟨⟨by omega,by omega⟩,?_⟩ | (refine⟨.bool true,?_⟩;simp only[wq.1,seval,hd]))
   refine aG rfl ?_;rw[xh hl (by unfold Gr.oddR;rw[oC (p:=xN) hc2 (by unfold xN;rw[e1];rfl)];simp)]
  | false =>
  cases e2:decide (2<g.init[i])with
  | true =>
   simp only[wq.1,seval,k1,k3,k4,gi,gi2,e1,e2]
   repeat(first | refine⟨⟨by omega,by omega⟩,?_⟩ | (refine⟨.bool true,?_⟩;simp only[wq.1,seval,hd]))
   refine aG rfl ?_;rw[xh hl (by unfold Gr.oddR;rw[oC (p:=xN) hc2 (by unfold xN;rw[e1,e2];rfl)];simp)]
  | false =>
   simp only[wq.1,seval,k1,k3,k4,gi,gi2,e1,e2];refine⟨⟨by omega,by omega⟩,⟨by omega,by omega⟩,⟨by omega,by omega⟩,ah.ev (hlit _) rfl ?_⟩;cases e3:xx g.all g.next[i]with
   | true=>simp only[wq.1,seval,hd];refine aG rfl ?_;rw[xh hl (by unfold Gr.oddR;rw[oC (p:=xx g.all) hc e3];simp)]
   | false=>simp only[wq.1,seval,k4,hw];exact .inl ⟨m-1,by omega,i+1,by omega,k1,k3,rfl,hd,rfl,aK hc hall e3,aK hc2 hall2 (by unfold xN;rw[e1,e2];rfl)⟩
 ·simp only [zqd,zqi] at hc;have r1 := ry hc hall;have r2 := ry (p := xN) (by omega) hall2;simp only [wq.1,Nat.reduceLT];refine aB (fun m f h => ∃ i,m + i = g.ands.length ∧ f.t 1 = .lp 0 0 ∧ f.t 3 = vi A ∧ f.t 5 = vi i ∧ f.d = [] ∧ h = [O.cells [vi g.ins,aH g.next,aH g.init,prs g.ands,aH g.outs]] ∧ g.oddAs i = false) g.ands.length ⟨0,by simp,by simp only [wq.1,seval,k1],by simp only [wq.1,seval,k3],by simp only [wq.1,↓reduceIte];rfl,by simp only [wq.1,hd],rfl,rfl⟩ ?_;rintro m f h ⟨i,hm,k1,k3,k5,hd,rfl,hno⟩;refine vm ?_;simp only [wq.1,seval,k1,k5];refine vcB.mk (fun hc => ?_) (fun hc => ?_)
  ·simp only [zqb,zqi] at hc;have gi := WN hc V.any;have hw := aA (show i < maxLen by omega);have w4 : IntKind.i64.wrap (g.first + (i : Int)) = g.first + i := aU (by omega) (by omega)
   have hlit:=fun a:Int=>xg a (g.first+i) (by omega) (by omega);have hge:g.ands.getD i (0,0)=g.ands[i]:=iD hc;have hext:∀b,Uu (2*(g.first+i)) g.ands[i]=b→g.oddAs (i+1)=b:=fun b hb=>by unfold Gr.oddAs at hno ⊢;rw[List.range_succ,List.any_append,hno];simp only[List.any_cons,List.any_nil,Bool.or_false,Bool.false_or,hge,hb]
   have hbad:Uu (2*(g.first+i)) g.ands[i]=true→g.chk=1:=fun hb=>by refine Uh hl ?_;have:=hext _ hb;unfold Gr.oddAs at this ⊢;rw[List.any_eq_true]at this ⊢;obtain⟨x,hx,hy⟩:=this;exact⟨x,List.mem_range.2 (by have:=List.mem_range.1 hx;omega),hy⟩
   have hodd:Uu (2*(g.first+i)) g.ands[i]=(xx (2*(g.first+i)) g.ands[i].1||xx (2*(g.first+i)) g.ands[i].2):=by unfold Uu xx;cases decide (g.ands[i].1<0)<;>cases decide (g.ands[i].2<0)<;>cases decide (2*(g.first+(i:Int))≤g.ands[i].1)<;>rfl
   simp only[wq.1,seval,-Int.reduceNatCast,-Int.reduceNatCast',ax,Tryz.results63,k1,k3,k5,hd];refine ah.ev hf (by simp only[V.dats,V.dat,zre]) ?_;simp only[wq.1,seval,-Int.reduceNatCast,-Int.reduceNatCast',ax,Tryz.results63,aX,k1,k3,k5,hd,w4,gi];refine⟨⟨by omega,by omega⟩,by decide,ah.ev (hlit _) rfl ?_⟩;cases e3:xx (2*(g.first+i)) g.ands[i].1 with
   | true =>
    simp only[wq.1,seval,-Int.reduceNatCast,-Int.reduceNatCast',ax,Tryz.results63,aX,k1,k3,k5,hd,e3]
    repeat(refine⟨.bool true,?_⟩;simp only[wq.1,seval,-Int.reduceNatCast,-Int.reduceNatCast',ax,Tryz.results63,k1,k3,k5,hd,e3])
    refine aG rfl ?_;rw[hbad (by rw[hodd,e3];rfl)]
   | false =>
    simp only[wq.1,seval,-Int.reduceNatCast,-Int.reduceNatCast',ax,Tryz.results63,aX,k1,k3,k5,hd,e3,gi];refine⟨⟨by omega,by omega⟩,by decide,ah.ev (hlit _) rfl ?_⟩;cases e4:xx (2*(g.first+i)) g.ands[i].2 with
    | true=>simp only[wq.1,seval,hd];refine aG rfl ?_;rw[hbad (by rw[hodd,e3,e4];rfl)]
    | false=>simp only[wq.1,seval,k5,hw];exact .inl ⟨m-1,by omega,i+1,by omega,k1,k3,rfl,hd,rfl,hext _ (by rw[hodd,e3,e4];rfl)⟩
  ·simp only [zqd,zqi] at hc;have hi : i = g.ands.length := by omega
   rw[hi]at hno;simp only[wq.1,Nat.reduceLT];refine aB (fun m f h=>∃i,m+i=g.outs.length∧f.t 1= .lp 0 0∧f.t 3=vi A∧f.t 7=vi i∧f.d=[]∧h=[O.cells [vi g.ins,aH g.next,aH g.init,prs g.ands,aH g.outs]]∧(∀x∈g.outs.take i,xx g.all x=false)) g.outs.length ⟨0,by simp,by simp only[wq.1,seval,k1],by simp only[wq.1,seval,k3],by simp only[wq.1,↓reduceIte];rfl,by simp only[wq.1,hd],rfl,by simp⟩ ?_;rintro m f h ⟨i,hm,k1,k3,k7,hd,rfl,hall⟩;refine vm ?_;simp only[wq.1,seval,k1,k7];refine vcB.mk (fun hc=> ?_) (fun hc=> ?_)
   ·simp only[zqb,zqi]at hc;have gi:=ED hc V.any;have hw:=aA (show i<maxLen by omega);simp only[wq.1,seval,k1,k3,k7,gi];refine⟨⟨by omega,by omega⟩,ah.ev (hlit _) rfl ?_⟩;cases e3:xx g.all g.outs[i]with
    | true=>simp only[wq.1,seval,hd];refine aG rfl ?_;rw[xh hl (by unfold Gr.oddR;rw[oC (p:=xx g.all) hc e3];simp)]
    | false=>simp only[wq.1,seval,k7,hw];exact .inl ⟨m-1,by omega,i+1,by omega,k1,k3,rfl,hd,rfl,aK hc hall e3⟩
   ·simp only[zqd,zqi]at hc;have r3:=ry hc hall;simp only[wq.1,seval,hd];refine aG rfl ?_;unfold Gr.chk;rw[if_neg (by simp[hl]),if_neg (by unfold Gr.oddR;rw[h5',r1,r2,r3];decide),if_neg (by simp[hno])]
theorem qh (l:List S):Ev TE 64 [bF l] (.bool (!l.any jA)):=by
 refine Ev.bnd fun hb=> ?_;have hlen:=jl hb;refine ai Tryz.func64 rfl (by simp[nts]) (vm ?_);simp only[wq.1,Nat.reduceLT,Tryz.results64];refine aB (fun m f h=>∃i,m+i=l.length∧f.t 0=bF l∧f.t 3= .int .i64 (i:Int)∧f.d=[]∧∀x∈l.take i,jA x=false) l.length ⟨0,by simp,rfl,rfl,rfl,by simp⟩ ?_;rintro m f h ⟨i,hm,h0,h5,hd,hall⟩;refine vm ?_;simp only[wq.1,seval,h0,h5];refine vcB.mk (fun hc=> ?_) (fun hc=> ?_)
 ·simp only[zqb,zqi]at hc;simp only[wq.1,seval,h0,h5,xu hc];refine⟨⟨by omega,by omega⟩,ah.ev (Gw _) rfl ?_⟩;cases hv:bf l[i]with
  | false=>simp only[wq.1,seval,hd];refine aG rfl ?_;rw[oC (p:=jA) hc (by unfold jA;rw[hv];rfl)];rfl
  | true=>simp only[wq.1,seval,h5,aA (show i<maxLen by omega)];exact .inl ⟨m-1,by omega,i+1,by omega,h0,rfl,hd,aK hc hall (by unfold jA;rw[hv];rfl)⟩
 ·simp only[zqd,zqi]at hc;simp only[wq.1,seval,hd];refine aG rfl ?_;rw[ry hc hall];rfl
theorem Ht (m:Mo) (hl:m.ins.length+m.lat.length≤1000000):Ev TE 65 [m.v] (bF (m.ins++m.lat)):=by have hM:maxLen=9223372036854775807:=rfl;unfold Mo.v;refine ai Tryz.func65 rfl (by simp[nts]) (vm ?_);simp only[wq.1,seval,Tryz.results65,Ad];refine⟨⟨by omega,by show _≤_;omega⟩,⟨by omega,by omega,by show _≤_;omega⟩,?_⟩;exact jy (by rw[zql];rfl) (by simp)
theorem Fh (m:Mo) (s:S) (hl:m.ins.length+m.lat.length≤1000000):Ev TE 66 [m.v,.str s] (vi (m.place s)):=by
 have hM:maxLen=9223372036854775807:=rfl;have hn:=Ht m hl;unfold Mo.v at *;unfold Mo.place;obtain⟨c,hcc⟩:∃c,c=m.ins++m.lat:=⟨_,rfl⟩;have hcl:c.length≤1000000:=by rw[hcc,zqa];exact hl
 simp only[←hcc]at hn ⊢;refine ai Tryz.func66 rfl (by simp[nts]) (vm ?_);simp only[wq.1,seval,Tryz.results66];refine ah.ev hn (by simp only[V.dats,V.dat,zre]) ?_;simp only[wq.1,seval];refine aB (fun m f h=>∃i,m+i=c.length∧f.t 1= .str s∧f.t 5=bF c∧f.t 6= .int .i64 (i:Int)∧f.d=[]∧∀x∈c.take i,(x==s)=false) c.length ⟨0,by simp,by simp only[wq.1,seval],by simp only[wq.1,seval],by simp only[wq.1,↓reduceIte];rfl,by simp only[wq.1],by simp⟩ ?_;rintro m f h ⟨i,hm,h1,h5,h6,hd,hall⟩;refine vm ?_;simp only[wq.1,seval,h5,h6];refine vcB.mk (fun hc=> ?_) (fun hc=> ?_)
 ·simp only[zqb,zqi]at hc;simp only[wq.1,seval,h1,h5,h6,xu hc];refine⟨⟨by omega,by omega⟩,?_⟩;cases hv:c[i]==s with
  | true=>simp only[wq.1,seval,h6,hd,aA (show i<maxLen by omega)];refine aG rfl ?_;have hix:=jk hc hall hv;simp only[hix];rw[if_neg (show ¬(i:Int)<0 by omega)];exact congrArg vi (by omega)
  | false=>simp only[wq.1,seval,h6,aA (show i<maxLen by omega)];exact .inl ⟨m-1,by omega,i+1,by omega,h1,h5,rfl,hd,aK hc hall hv⟩
 ·simp only[zqd,zqi]at hc;simp only[wq.1,seval,hd];rw[zqh (by omega)]at hall;rw[iP hall];exact az.dat rfl
theorem Fj (m:Mo) (bn:m.g.next.length≤4000) (bi:m.g.init.length≤4000) (ba:m.g.ands.length≤4000) (bo:m.g.outs.length≤4000) (b1:m.ins.length≤4000) (b2:m.lat.length≤4000) (b3:m.out.length≤4000):Ev TE 34 [m.v] (vi m.chk):=by
 have hM:maxLen=9223372036854775807:=rfl;have hg:=Ju m.g bn bi ba bo;have hn:=Ht m (by omega);have hpl:=fun s=>Fh m s (by omega);unfold Mo.v Gr.v at *;refine ai Tryz.func34 rfl (by simp[nts]) (vm ?_);simp only[wq.1,seval,Tryz.results34];refine ah.ev hg (by simp only[V.dats,V.dat,zre]) ?_;simp only[wq.1,seval];refine vcB.mk (fun hc=> ?_) (fun hc=> ?_)
 ·simp only[wq.1,seval];exact aG rfl (by unfold Mo.chk;rw[if_pos (by simpa using hc)])
 have hgc:m.g.chk=0:=by simpa using hc
 have k8:m.lens=true→m.chk=1:=fun h=>by unfold Mo.chk;rw[if_neg (by simp[hgc]),if_pos h]
 cases h1:(m.ins.length:Int) != m.g.ins with
 | true =>
  simp only[wq.1,seval,h1]
  repeat(refine⟨.bool true,?_⟩;simp only[wq.1,seval,ax,Tryz.results34,h1])
  exact aG rfl (by rw[k8 (by unfold Mo.lens;rw[h1];rfl)])
 | false =>
 cases h2:(m.lat.length:Int) != (m.g.next.length:Int)with
 | true =>
  simp only[wq.1,seval,h1,h2]
  repeat(refine⟨.bool true,?_⟩;simp only[wq.1,seval,ax,Tryz.results34,h1,h2])
  exact aG rfl (by rw[k8 (by unfold Mo.lens;rw[h1,h2];rfl)])
 | false =>
 cases h3:(m.out.length:Int) != (m.g.outs.length:Int)with
 | true =>
  simp only[wq.1,seval,h1,h2,h3]
  repeat(refine⟨.bool true,?_⟩;simp only[wq.1,seval,ax,Tryz.results34,h1,h2,h3])
  exact aG rfl (by rw[k8 (by unfold Mo.lens;rw[h1,h2,h3];rfl)])
 | false =>
 have hlens:m.lens=false:=by unfold Mo.lens;rw[h1,h2,h3];rfl
 have k7:m.names=true→m.chk=4:=fun h=>by unfold Mo.chk;rw[if_neg (by simp[hgc]),if_neg (by simp[hlens]),if_pos h]
 simp only[wq.1,seval,h1,h2,h3];refine ah.ev (qh m.ins) rfl ?_;cases h4:m.ins.any jA with
 | true =>
  simp only[wq.1,seval]
  repeat(refine⟨.bool true,?_⟩;simp only[wq.1,seval])
  exact aG rfl (by rw[k7 (by unfold Mo.names;rw[h4];rfl)])
 | false =>
 simp only[wq.1,seval];refine ah.ev (qh m.lat) rfl ?_;cases h5:m.lat.any jA with
 | true =>
  simp only[wq.1,seval]
  repeat(refine⟨.bool true,?_⟩;simp only[wq.1,seval])
  exact aG rfl (by rw[k7 (by unfold Mo.names;rw[h4,h5];rfl)])
 | false =>
 simp only[wq.1,seval];refine ah.ev (qh m.out) rfl ?_;cases h6:m.out.any jA with
 | true=>simp only[wq.1,seval];exact aG rfl (by rw[k7 (by unfold Mo.names;rw[h4,h5,h6];rfl)])
 | false =>
 have hnames:m.names=false:=by unfold Mo.names;rw[h4,h5,h6];rfl
 have k6:m.twos=true→m.chk=5:=fun h=>by unfold Mo.chk;rw[if_neg (by simp[hgc]),if_neg (by simp[hlens]),if_neg (by simp[hnames]),if_pos h]
 have htw:∀l:List S,wE l= !qV l:=fun l=>by unfold wE qV;rw[Bool.not_not]
 simp only[wq.1,seval];refine ah.ev hn (by simp only[V.dats,V.dat,zre]) ?_;simp only[wq.1,seval];refine ah.ev (Ac _) rfl ?_;rw[htw];cases h7:qV (m.ins++m.lat)with
 | true =>
  simp only[wq.1,seval]
  repeat(refine⟨.bool true,?_⟩;simp only[wq.1,seval])
  exact aG rfl (by rw[k6 (by unfold Mo.twos;rw[h7];rfl)])
 | false =>
 simp only[wq.1,seval];refine ah.ev (Ac _) rfl ?_;rw[htw];cases h8:qV m.out with
 | true=>simp only[wq.1,seval];exact aG rfl (by rw[k6 (by unfold Mo.twos;rw[h7,h8];rfl)])
 | false =>
 have htwos:m.twos=false:=by unfold Mo.twos;rw[h7,h8];rfl
 have k5:m.other m.out.length=true→m.chk=5:=fun h=>by unfold Mo.chk;rw[if_neg (by simp[hgc]),if_neg (by simp[hlens]),if_neg (by simp[hnames]),if_neg (by simp[htwos]),if_pos h]
 have hol:m.out.length=m.g.outs.length:=by simp only[bne_eq_false_iff_eq]at h3;omega
 simp only[wq.1,seval];refine aB (fun k f h=>∃i,k+i=m.out.length∧f.t 1= .lp 0 0∧f.t 4=vi i∧f.d=[]∧h=[O.cells [vi m.g.ins,aH m.g.next,aH m.g.init,prs m.g.ands,aH m.g.outs,bF m.ins,bF m.lat,bF m.out]]∧m.other i=false) m.out.length ⟨0,by simp,by simp only[wq.1,seval],by simp only[wq.1,↓reduceIte];rfl,by simp only[wq.1],rfl,rfl⟩ ?_;rintro k f h ⟨i,hk,q1,q4,hd,rfl,hno⟩;refine vm ?_;simp only[wq.1,seval,q1,q4];refine vcB.mk (fun hc=> ?_) (fun hc=> ?_)
 ·simp only [zqb,zqi] at hc;have hc3 : i < m.g.outs.length := by omega
  have gs:=xu hc V.any;have gi:=ED hc3 V.any;have hw:=aA (show i<maxLen by omega);have hpg:=GH (m.ins++m.lat) (·==m.out[i]);rw[zqa]at hpg;have hpr:-1≤m.place m.out[i]∧m.place m.out[i]≤10000:=by unfold Mo.place;split<;>omega
  have hgo:m.out.getD i []=m.out[i]:=iD hc;have hgg:m.g.outs.getD i 0=m.g.outs[i]:=iD hc3;have w2:IntKind.i64.wrap (2*m.place m.out[i])=2*m.place m.out[i]:=dh (by omega) (by omega);have hother:m.other (i+1)=(decide (0≤m.place m.out[i])&&m.g.outs[i] != 2*m.place m.out[i]):=by unfold Mo.other at hno ⊢;rw[List.range_succ,List.any_append,List.any_cons,List.any_nil,Bool.or_false,hgo,hgg,hno,Bool.false_or]
  simp only[wq.1,seval,q1,q4,gs];refine⟨by decide +kernel,⟨by omega,by omega⟩,ul.mk (hpl m.out[i]) rfl (by simp only[V.dats,V.dat,zre]) ?_⟩;cases e1:decide (0≤m.place m.out[i])with
  | false=>simp only[wq.1,seval,q1,q4,e1,gi,hw];exact .inl ⟨k-1,by omega,i+1,by omega,q1,rfl,hd,rfl,by rw[hother,e1];rfl⟩
  | true =>
  cases e2:m.g.outs[i] != 2*m.place m.out[i]with
  | true=>simp only[wq.1,seval,q1,q4,hd,e1,gi,w2,e2];refine⟨⟨by omega,by omega⟩,aG rfl ?_⟩;rw[k5 (yC (by omega) (by rw[hother,e1,e2];rfl:m.other (i+1)=true))]
  | false=>simp only[wq.1,seval,q1,q4,e1,gi,w2,e2,hw];exact⟨⟨by omega,by omega⟩,.inl ⟨k-1,by omega,i+1,by omega,q1,rfl,hd,rfl,by rw[hother,e1,e2];rfl⟩⟩
 ·simp only [zqd,zqi] at hc;have hi : i = m.out.length := by omega
  simp only[wq.1,seval,hd];refine aG rfl ?_;unfold Mo.chk;rw[if_neg (by simp[hgc]),if_neg (by simp[hlens]),if_neg (by simp[hnames]),if_neg (by simp[htwos]),←hi,if_neg (by simp[hno])]
abbrev hO (outs:List (List Lt)):H:=[.cells (outs.map fun c=>fH c)]
abbrev hOd (outs:List (List Lt)) (ds:List Lt):H:=[.cells (outs.map fun c=>fH c),.cells (lfl ds)]
theorem Oc (l:List (List Lt)) (hl:l.length≤1000000) (hc:∀c∈l,c.length≤1000000):Ev TE 11 [lss l] (lss l):=by
 have hM:maxLen=9223372036854775807:=rfl;refine ai Tryz.func11 rfl (by simp[nts]) ?_;refine ag (vm ?_);simp only[wq.1,Nat.reduceLT,Tryz.results11];refine ag (vm ?_);simp only[wq.1,Nat.reduceLT];refine dC 3 1 (by simp only[wq.1,↓reduceIte]) ?_;refine ag ?_;refine ag (vm ?_);simp only[wq.1,Nat.reduceLT];refine aC ?_;refine aB (fun m f h=>∃(i:Nat) (outs:List (List Lt)) (X:H),m+i=l.length∧outs.length=i∧outs=l.take i∧f.t 0=lss l∧f.t 3= .ls 0 1 0 i i∧f.t 4=vi i∧f.d=[]∧h=hO outs++X) l.length ⟨0,[],[],by omega,rfl,rfl,by simp only[wq.1,seval],by simp only[wq.1,seval],by simp only[wq.1,↓reduceIte];rfl,by simp only[wq.1],rfl⟩ ?_;rintro m f h ⟨i,outs,X,hm,hol,hout,t0,t3,t4,hd,rfl⟩;refine dY (by rw[hd];simp) ?_;have cl1:(hO outs).map (O.drop (aT (hO outs).length))=hO outs:=by show [O.cells (V.drops _ _)]=_;rw[eG]
 rw[cl1];by_cases hlt:i<l.length
 ·have d1 : decide ((i : Int) < (l.length : Int)) = true := by rw [zqb];omega
  have hw:=aA (show i<maxLen by omega);have hgl:=oN hlt .any;have hcl:=hc _ (zqu hlt);have hsu:outs++[l[i]]=l.take (i+1):=by rw[zrg,zqk hlt,hout];rfl
  obtain⟨c,hce⟩:∃c,c=l[i]:=⟨_,rfl⟩;rw[←hce]at hgl hcl hsu;refine ag ?_;refine ag (vm ?_);simp only[wq.1,seval,t0,t4,d1];refine vm ?_;simp only[wq.1,↓reduceIte];show awp _ _ _ _ _ _ _;refine ag (aC ?_);refine ag (vm ?_);simp only[wq.1,Nat.reduceLT];refine dC 5 2 (by simp only[wq.1,↓reduceIte]) ?_;refine ag ?_;refine ag (vm ?_);simp only[wq.1,Nat.reduceLT,hd,aT];refine aC ?_;refine aB (fun m' f h=>∃(j:Nat) (ds:List Lt) (Y:H),m'+j=c.length∧ds.length=j∧ds=c.take j∧f.t 0=lss l∧f.t 3= .ls 0 1 0 i i∧f.t 4=vi i∧f.t 5= .ls 1 2 0 j j∧f.t 6=vi j∧f.d=[]∧h=hOd outs ds++Y) c.length ⟨0,[],[],by omega,rfl,rfl,by simp only[wq.1,seval,t0],by simp only[wq.1,seval,t3,aT],by simp only[wq.1,seval,t4],by simp only[wq.1,seval],by simp only[wq.1,↓reduceIte];rfl,by simp only[wq.1],rfl⟩ ?_;clear t0 t3 t4 hd f;rintro m' f h ⟨j,ds,Y,hm',hdl,hds,t0,t3,t4,t5,t6,hd,rfl⟩;refine dY (by rw[hd];simp) ?_;have cl2:(hOd outs ds).map (O.drop (aT (hOd outs ds).length))=hOd outs ds:=by show [O.cells (V.drops _ _),O.cells (V.drops _ _)]=_;rw[eG,fU]
  rw[cl2];by_cases hlt2:j<c.length
  ·have d2 : decide ((j : Int) < (c.length : Int)) = true := by rw [zqb];omega
   have hw2:=aA (show j<maxLen by omega);have hgc:=pY hlt2 .any;have hsd:ds++[c[j]]=c.take (j+1):=by rw[zrg,zqk hlt2,hds];rfl
   obtain⟨x,hx⟩:∃x,x=c[j]:=⟨_,rfl⟩;rw[←hx]at hgc hsd;have hel:(lfl ds).length=j*2:=by rw[wK,hdl]
   have dcs:∀p,V.drops p (lfl ds)=lfl ds:=fun p=>fU _;have dos:∀p,V.drops p (outs.map fun c=>fH c)=outs.map fun c=>fH c:=fun p=>eG _;refine ag ?_;refine ag (vm ?_);simp only[wq.1,seval,t0,t4,t6,hgl,d2];refine⟨⟨by omega,by omega⟩,?_⟩;refine vm ?_;simp only[wq.1,↓reduceIte];show awp _ _ _ _ _ _ _;refine ag (aC ?_);refine vK mixed 19 (.one 19<| .take 20<| .fin) (fun f' h'=>f'.t 0=lss l∧f'.t 3= .ls 0 1 0 i i∧f'.t 4=vi i∧f'.t 5= .ls 1 2 0 (j+1) (j+1)∧f'.t 6=vi j∧f'.d=[]∧h'=hOd outs (ds++[x])) (by decide +kernel) ?_ ?_
   ·intro K hK;simp only[List.take_succ_cons,List.take_zero];simp only[wq.1,↓reduceIte,Nat.reduceEqDiff,Nat.reduceLT,Nat.reduceLeDiff,Nat.reduceAdd,reduceCtorEq,Nat.reduceMul,t0,t4,t5,t6,hgl,hgc,aT];refine⟨⟨by omega,by omega⟩,⟨by omega,by omega⟩,⟨by omega,by omega⟩,⟨by omega,by omega⟩,⟨rfl,by decide⟩,hK _ ?_⟩;simp only[wq.1,seval,t0,t3,t4,t6,hd,hel,dcs,dos,aT];refine⟨rfl,⟨rfl,by omega,by omega⟩,?_⟩;show _=[O.cells _,O.cells (lfl (ds++[x]))];rw[Aq];rfl
   ·rintro f h ⟨t0,t3,t4,t5,t6,hd,rfl⟩;refine vm ?_;simp only[wq.1,seval,t6,hw2];exact .inl ⟨m'-1,by omega,j+1,ds++[x],[],by omega,by simp[hdl],hsd,t0,t3,t4,t5,by simp only[wq.1,↓reduceIte],hd,rfl⟩
  ·have : j = c.length := by omega
   subst this;rw[zrx]at hds;subst hds;have d2:decide (((List.length ds:Nat):Int)<(ds.length:Int))=false:=by rw[zqd];omega
   refine ag ?_;refine ag (vm ?_);simp only[wq.1,seval,t0,t4,t6,hgl,d2];refine⟨⟨by omega,by omega⟩,?_⟩;refine vm ?_;simp only[wq.1,↓reduceIte];show awp _ _ _ _ _ _ _;refine nX 1 5 (fH ds) (by simp only[wq.1,seval,t5,aT]) (by simp only[wq.1,seval,t5,aT];exact qW (by show some (O.cells (V.drops _ (lfl ds)))=_;rw[fU]) rfl) (by simp only[wq.1,hd]) ?_;have dos:∀p,V.drops p (outs.map fun c=>fH c)=outs.map fun c=>fH c:=fun p=>eG _;rw[show iV (·==1) 0 (hOd outs ds)=[.cells (outs.map fun c=>fH c),.dead] by simp[iV,O.drop,V.drops,V.drop,dos]];refine mJ (fun f'=>f'.t 0=lss l∧f'.t 3= .ls 0 1 0 i i∧f'.t 4=vi i∧f'.t 5=fH ds∧f'.d=[]) _ (fun hk=>hk _ ⟨by simp only[wq.1,seval,t0],by simp only[wq.1,seval,t3,aT],by simp only[wq.1,seval,t4],by simp only[wq.1,↓reduceIte],hd⟩) ?_;clear t0 t3 t4 t5 t6 hd f;rintro f ⟨t0,t3,t4,t5,hd⟩;have hel:(outs.map fun c=>fH c).length=i*1:=by rw[zra];omega
   refine vm ?_;simp only[wq.1,↓reduceIte,Nat.reduceEqDiff,Nat.reduceLT,reduceCtorEq,Nat.reduceMul,t3,t5,hd,dos];refine⟨⟨rfl,by decide⟩,⟨by omega,by omega,by omega⟩,?_⟩;refine vm ?_;simp only[wq.1,seval,t4,hw];exact .inl ⟨m-1,by omega,i+1,outs++[ds],[.dead],by omega,by simp[hol],hsu,by simp only[wq.1,seval,t0],by simp only[wq.1,seval],by simp only[wq.1,↓reduceIte],hd,by rw[zql];rfl⟩
 ·have : i = l.length := by omega
  subst this;rw[zrx]at hout;subst hout;have d1:decide (((List.length outs:Nat):Int)<(outs.length:Int))=false:=by rw[zqd];omega
  refine ag ?_;refine ag (vm ?_);simp only[wq.1,seval,t0,t4,d1];refine vm ?_;simp only[wq.1,↓reduceIte];show awp _ _ _ _ _ _ _;refine vm ?_;simp only[wq.1,seval,t3,hd,aT];exact uB rfl rfl
end Go.Proofs.YtmlacppmbfbjgaaGreatDoor
