/- Lemmas for this claim, part F15: each holds under what it names. -/
import Derived.Test.YtmlacppmbfbjgaaGreatDoorSF14
import Derived.Lib.Builder
import Derived.Lib.UnsafeStr
import Derived.Test.YtmlacppmbfbjgaaGreatDoorSA8
import Derived.Test.YtmlacppmbfbjgaaGreatDoorSA7
import Derived.Laws.Externs
import Derived.Shelf.Strings.OnBuilder
set_option linter.unusedVariables false
set_option linter.unusedSimpArgs false
set_option linter.unnecessarySimpa false
set_option maxRecDepth 100000
set_option maxHeartbeats 8000000
namespace Go.Proofs.YtmlacppmbfbjgaaGreatDoor
open Go Go.Proofs Go.Abs
theorem yE : ∀ (ws : List S) (a : Int) (c : List Lt),(∀ w ∈ ws,w.length ≤ 20000) → 0 ≤ a → 0 ≤ (o8 ws a c).2.1 ∧ (o8 ws a c).2.1 ≤ a + ws.length * 20001 + 1
 | [],a,c,_,h=>by show 0≤(0:Int)∧(0:Int)≤_;simp;omega
 | w::ws,a,c,hw,h=>by
  have h1:=hw w (by simp);rw[o8];split
  ·show 0≤a∧a≤_;rw[zrt];omega
  ·split
   ·show 0≤a+1∧a+1≤_;rw[zrt];omega
   ·have:=yE ws (a+w.length+1) (c++[(w.tail,w.headD 0==45)]) (fun x hx=>hw x (by simp[hx])) (by omega);rw[zrt];omega
theorem NY {s:S} (h:s.length≤20000):0≤(tq s).2.1∧(tq s).2.1≤500000000:=by
 unfold tq;split
 ·exact⟨Int.le_refl _,by decide⟩
 ·have h1:=yE (Aq 32 s) 0 [] (fun w hw=>by have:=rE (k:=0) (by decide) s.length s (zrb _) w (by rw[Ai,if_pos rfl];exact hw);omega) (Int.le_refl _);have h2:=rD (k:=0) (by decide) (c:=32) s.length s (zrb _);have h3:s.count 32≤s.length:=List.count_le_length;rw[Ai,if_pos rfl]at h2;omega
def tu (s:S):V:= .tup [lss (ry s).1,o9 s (ry s).2.1 (ry s).2.2]
theorem DD (s:S) (hs:s.length≤20000):Ev TE 16 [.str s] (tu s):=by
 have hM:maxLen=9223372036854775807:=rfl;unfold tu;have hsf:=fun a e=>Qq s a e (by omega);have hsu:=TT s [10];refine ak Tryz.func16 rfl (by simp[nts]) ?_;refine ag (vm ?_);simp only[wq.1,Nat.reduceLT,Tryz.results16];refine ag ?_;refine ag (vm ?_);simp only[wq.1,seval];by_cases hA:s≠[]∧TS s [10]=false
 ·have e0 : (s == []) = false := by simpa using hA.1
  have hp:ry s=([],(s.length:Int),2):=by unfold ry;rw[if_pos hA]
  rw[hA.2]at hsu;have h2:=hsf s.length 2;have hv:o9 s s.length 2= .agg [vi 2,vi (ji s s.length).1,vi (ji s s.length).2]:=by unfold o9;rw[if_neg (by decide)]
  rw[hp];dsimp only;rw[hv]at h2 ⊢;refine DN.ev (q:=42) (vs:=[.str s,.str [10]]) (by simp only[wq.1,seval,e0]) (by simp only[wq.1,seval,e0]) rfl (fun _=>hsu) (fun _=>rfl) ?_;simp only[wq.1,seval,e0];refine vm ?_;simp only[wq.1,seval];refine ah.ev h2 rfl ?_;simp only[wq.1,seval];exact az.tup (aj.cons az.nils (aj.cons (az.dat rfl) aj.nil))
 obtain⟨q1,q2,e1,e2,e12⟩:∃q1 q2,(s==[])=q1∧TS s [10]=q2∧(q1||q2)=true:=by
  refine⟨_,_,rfl,rfl,?_⟩;rw[Bool.or_eq_true,beq_iff_eq];by_cases h:s=[]
  ·exact .inl h
  ·refine .inr ?_;cases h2:TS s [10]with
   | true=>rfl
   | false=>exact absurd ⟨h,h2⟩ hA
 have e3:(!q1&& !q2)=false:=by cases q1<;>cases q2<;>first | rfl | cases e12
 have hp:ry s=lw (D5 10 s) 0 []:=by unfold ry;rw[if_neg hA]
 rw[hp];rw[e2]at hsu;refine DN.ev (q:=42) (vs:=[.str s,.str [10]]) (by simp only[wq.1,seval,e1]) (by simp only[wq.1,seval,e1]) rfl (fun _=>hsu) (fun _=>rfl) ?_;simp only[wq.1,seval,e1,e3];refine vm ?_;simp only[wq.1,↓reduceIte];have hsa:=Jn s 10 (by omega);have htl:∀t∈D5 10 s,t.length≤s.length:=fun t ht=>rE (k:=1) (by decide) s.length s (zrb _) t (by rw[Ai,if_neg (by decide)];exact ht);have htn:(D5 10 s).length≤s.length+1:=by
  have h2:=rD (k:=1) (by decide) (c:=10) s.length s (zrb _);have h3:s.count 10≤s.length:=List.count_le_length;rw[Ai,if_neg (by decide)]at h2;omega
 obtain⟨ts,hts⟩:∃ts,ts=D5 10 s:=⟨_,rfl⟩;rw[←hts]at hsa htl htn ⊢;show awp _ _ _ _ _ _ _;refine ag (vm ?_);simp only[wq.1,Nat.reduceLT];refine fH 4 1 (by simp only[wq.1,↓reduceIte]) ?_;refine ag (vm ?_);simp only[wq.1,Nat.reduceLT];refine ag ?_;refine ag (vm ?_);simp only[wq.1,seval];refine ah.ev hsa rfl ?_;simp only[wq.1,seval];refine aG ?_;refine aC (fun q f h=>∃(i:Nat) (a:Int) (l:List (List Lt)),q+i=ts.length∧l.length≤i∧0≤a∧a≤i*20001∧lw ts 0 []=lw (ts.drop i) a l∧f.t 0= .str s∧f.t 3= .lp 0 0∧f.t 4= .ls 1 1 0 l.length l.length∧f.t 5=vi a∧f.t 23=dE ts∧f.t 24=vi ts.length∧f.t 25=vi i∧f.d=[]∧h=[.cells [vi 0,vi 0,vi 0],.cells (l.map fun c=>iL c)]) ts.length ⟨0,0,[],by omega,zrb _,Int.le_refl _,by omega,rfl,by simp only[wq.1,seval],by simp only[wq.1,seval],by simp only[wq.1,seval],by simp only[wq.1,seval],by simp only[wq.1,seval],by simp only[wq.1,seval],by simp only[wq.1,↓reduceIte];rfl,by simp only[wq.1],rfl⟩ ?_;rintro q f h ⟨i,a,l,hq,hli,ha0,ha1,hgo,t0,t3,t4,t5,t23,t24,t25,hd,rfl⟩;refine ag (vm ?_);simp only[wq.1,Nat.reduceLT,t24,t25];have fin:lw ts 0 []=(l,0,0)→az TE [O.cells [vi 0,vi 0,vi 0],O.cells (l.map fun c=>iL c)] (.tup [.ls 1 1 0 l.length l.length,.agg [vi 0,vi 0,vi 0]]) (.tup [lss (lw ts 0 []).1,o9 s (lw ts 0 []).2.1 (lw ts 0 []).2.2]):=fun h=>by rw[h];exact az.tup (aj.cons (GU rfl rfl) (aj.cons (az.dat rfl) aj.nil))
 refine ag (bD (b:=decide ((i:Int)<ts.length)) (by simp only[wq.1,↓reduceIte]) (by simp only[wq.1,↓reduceIte]) (fun hlt=> ?_) (fun hlt=> ?_))
 ·simp only [zqb,zqi] at hlt;have hw := aA (show i < maxLen by omega);have hgs : (ts.map V.str).getD i .any = .str ts[i] := IW hlt _;have htm := htl _ (zqu hlt);have hdr : ts.drop i = ts[i] :: ts.drop (i + 1) := List.drop_eq_getElem_cons hlt;obtain ⟨t,hte⟩ : ∃ t,t = ts[i] := ⟨_,rfl⟩;rw [← hte] at hgs htm hdr;rw [hdr,lw] at hgo;refine vm ?_;simp only [wq.1];refine ag (aG ?_);refine ag (vm ?_);simp only [wq.1,seval,t23,t25,hgs];refine ⟨⟨by omega,by omega⟩,?_⟩;refine ag ?_;by_cases hte0 : t = []
  ·have ez : (t == []) = true := by simpa using hte0
   rw[if_pos hte0]at hgo;refine vm ?_;simp only[wq.1,seval,ez];show awp _ _ _ _ _ _ _;refine vm ?_;simp only[wq.1,seval,t3,t4,hd];exact fin hgo
  ·have ez : (t == []) = false := by simpa using hte0
   rw[if_neg hte0]at hgo;refine vm ?_;simp only[wq.1,seval,ez];have htl1:1≤t.length:=by cases t with
    | nil=>exact absurd rfl hte0
    | cons x t=>simp
   have w1:IntKind.i64.wrap ((t.length:Int)-1)=((t.length-1:Nat):Int):=by rw[dN (by omega) (by omega)];omega
   have hln:=Qo (t.take (t.length-1)) (by rw[zrl];omega);have hrg:=NY (s:=t.take (t.length-1)) (by rw[zrl];omega);obtain⟨lv,hlv⟩:∃lv,lv=tq (t.take (t.length-1)):=⟨_,rfl⟩;rw[←hlv]at hln hgo hrg;obtain⟨c,pl,er⟩:=lv;dsimp only at hln hgo hrg;refine ag (vm ?_);simp only[wq.1,seval,w1];refine⟨⟨by omega,by omega⟩,ah.ev hln rfl ?_⟩;simp only[wq.1,seval];refine ag ?_;by_cases her:er=0
   ·subst her;rw [if_neg (by decide)] at hgo;refine vm ?_;simp only [wq.1,↓reduceIte,Nat.reduceLT,Int.reduceBNe];have hel : (l.map fun c => iL c).length = l.length * 1 := by rw [zra];omega
    have dcs:∀p,V.drops p (l.map fun c=>iL c)=l.map fun c=>iL c:=fun p=>mg _;have v3:IntKind.i64.wrap (a+(t.length:Int))=a+(t.length:Int):=dN (by omega) (by omega);show awp _ _ _ _ _ _ _;refine vm ?_;simp only[wq.1,↓reduceIte,Nat.reduceEqDiff,Nat.reduceLT,reduceCtorEq,Nat.reduceMul,t4,t5,hd,dcs,v3];refine⟨⟨rfl,by decide⟩,⟨by omega,by omega,by omega⟩,?_⟩;refine vm ?_;simp only[wq.1,seval,t25,hw];refine .inl ⟨q-1,by omega,i+1,a+(t.length:Int),l++[c],by omega,by simp;omega,by omega,by omega,hgo,by simp only[wq.1,seval,t0],by simp only[wq.1,seval,t3],by simp only[wq.1,seval],by simp only[wq.1,seval],by simp only[wq.1,seval,t23],by simp only[wq.1,seval,t24],by simp only[wq.1,↓reduceIte],by simp only[wq.1,hd],by simp⟩
   ·have ee : (er != 0) = true := by simpa using her
    rw[if_pos her]at hgo;have v2:IntKind.i64.wrap (a+pl)=a+pl:=dN (by omega) (by omega);have hsv:=hsf (a+pl) er;have hv:o9 s (a+pl) er= .agg [vi er,vi (ji s (a+pl)).1,vi (ji s (a+pl)).2]:=by unfold o9;rw[if_neg her]
    rw[hgo];dsimp only;rw[hv]at hsv ⊢;refine vm ?_;simp only[wq.1,seval,t0,t5,ee,v2];refine ah.ev hsv rfl ?_;simp only[wq.1,seval,t3,hd];exact az.tup (aj.cons az.nils (aj.cons (az.dat rfl) aj.nil))
 ·simp only[zqd,zqi]at hlt;rw[List.drop_of_length_le (by omega)]at hgo;refine vm ?_;simp only[wq.1];refine vm ?_;simp only[wq.1,seval,t3,t4,hd];exact fin hgo
open Go.RowKit
theorem xK (b:Nat) (w:World) (h0:w.cell? ⟨b,0,none⟩=some (.pointer (some ⟨b,0,none⟩))) :
 Calls Tryz.prog 70 #[.pointer (some ⟨b,0,none⟩)] w fun e w'=>e= .returned (.tuple #[])∧w'=w:=by
 obtain⟨j,hj,_⟩:∃j,Tryz.prog.info? 94=some j∧True:=⟨_,rfl,trivial⟩
 go_enter Tryz.func70,Tryz.ntmps70
 go_wp2
 rw[Lib.run_neq_ptr_same w _ Tryz.underlying91 hj]
 go_wp2
 go_end0
 exact⟨rfl,rfl⟩
theorem wZ (b:Nat) (w:World) (T cells:Nat) (h0:w.cell? ⟨b,0,none⟩=some (.pointer none)) (hsh:w.shape? b=some (T,cells)) (hc:0<cells) (hl:liesAt Tryz.prog Tryz.prog.depth T (cells/Tryz.prog.cellsOf T) 0 94 1=true) (hfz:w.frozen? ⟨b,0,none⟩=false) :
 Calls Tryz.prog 70 #[.pointer (some ⟨b,0,none⟩)] w fun e w'=>e= .returned (.tuple #[])∧w'=w.setCell ⟨b,0,none⟩ (.pointer (some ⟨b,0,none⟩)):=by
 obtain⟨j,hj,hjs⟩:∃j,Tryz.prog.info? 94=some j∧j.size≠0:=⟨_,rfl,by decide⟩
 go_enter Tryz.func70,Tryz.ntmps70
 go_wp2
 rw[Lib.run_to_unsafe w ⟨b,0,none⟩ Tryz.underlying91 Tryz.underlying170 hj hjs hsh hc];simp only[Result.andThen];rw[Oper.upon_value]
 go_wp2
 rw[run_callFunc_extern Tryz.func105 (by kernel_rfl) (by kernel_rfl) (by kernel_rfl) (e:=Extern.AbiNoEscape.same) (by kernel_rfl)];rw[Lib.run_noEscape];simp only[Result.andThen];rw[Oper.upon_value]
 go_wp2
 rw[Lib.run_from_unsafe w ⟨b,0,none⟩ Tryz.underlying170 Tryz.underlying91 hj hsh hl];simp only[Result.andThen];rw[Oper.upon_value]
 go_wp2
 go_end0
 exact⟨rfl,rfl⟩
def BT (T:Nat):Prop:=Tryz.prog.cellsOf T=2∧∀k,liesAt Tryz.prog Tryz.prog.depth T (k+1) 0 94 1=true
theorem yF:BT 94:=⟨by kernel_rfl,fun k=>by kernel_rfl⟩
theorem Qr {h:H} {i:Nat} {o:O} (hi:h[i]? =some o):h.set i o=h:=by obtain⟨h1,h2⟩:=zqe hi;rw[←h2,List.set_getElem_self]
theorem oD {T : Nat} (hT : BT T) {id : Nat} {a buf : V} {h : H} {R : AEnd → H → (Nat → Bool) → Prop} (ha : a = .nilp ∨ a = .lp id 0) (hh : h[id]? = some (.typed T [a,buf]))
 (hr:R (.ret (.tup [])) (h.set id (.typed T [.lp id 0,buf])) (fun _=>false)):ah TE 70 [.lp id 0] h R:=by
 intro ok pl w vs hs hl;simp only[VList,VRel]at hl;obtain⟨y,ys,rfl,⟨b,hb,rfl⟩,rfl⟩:=hl;have hb:pl id=some b:=hb;obtain⟨o,ho,hat⟩:=hs.obj id b hb;rw[hh]at ho;cases ho;obtain⟨arr,fz,g1,g2,g3,g4⟩:=hat;have g1:w.heap[b]? =some (.cells arr T fz):=g1;have hsz:2≤arr.size:=g3;have hx0:∃x0,arr[0]? =some x0∧VRel (cx ok pl w) a x0:=by
  obtain⟨x,h1,h2⟩:=VList.get 0 a g4 rfl;refine⟨x,?_,h2⟩;rw[List.getElem?_take_of_lt (by simp)]at h1;simpa using h1
 obtain⟨x0,h0,hr0⟩:=hx0;have hcell:w.cell? ⟨b,0,none⟩=some x0:=by rw[Lib.cell_of_heap g1];exact h0
 rcases ha with rfl | rfl
 ·simp only [VRel] at hr0;subst hr0;have hsh : w.shape? b = some (T,arr.size) := by unfold World.shape?;rw [g1]
  obtain⟨k,hk⟩:∃k,arr.size/2=k+1:=⟨arr.size/2-1,by omega⟩;have hfz:w.frozen? ⟨b,0,none⟩=false:=by have:=g2 0 (by omega);unfold World.frozen?;rw[g1];simp;omega
  refine(wZ b w T arr.size hcell hsh (by omega) (by rw[hT.1,hk];exact hT.2 k) hfz).mono ?_;rintro e w' ⟨rfl,rfl⟩;obtain⟨w'',h1,h2,h3⟩:=tN hs hb (off:=0) (vs:=[.lp id 0]) (xs:=[.pointer (some ⟨b,0,none⟩)]) (by simp only[VList,VRel];exact⟨_,_,rfl,⟨b,hb,rfl⟩,rfl⟩) rfl hh (by simp);have h4:=fF (P:=TE.P) (vs:=[.pointer (some ⟨b,0,none⟩)]) (o:=0) g1 g2 (by simp;omega) (fun v hv=>by simp at hv;subst hv;rfl);rw[h4]at h1;cases h1;exact⟨fun _=>false,pl,_,.ret (.tup []),h2,h3,by show VRel _ _ _;simp only[VRel,VList];exact⟨#[],rfl,rfl⟩,hr⟩
 ·simp only[VRel]at hr0;obtain⟨b',hb',rfl⟩:=hr0;have hb':pl id=some b':=hb';rw[hb]at hb';cases hb';refine(xK b w hcell).mono ?_;rintro e w' ⟨rfl,rfl⟩;rw[Qr hh]at hr;exact⟨fun _=>false,pl,h,.ret (.tup []),hs,Keeps.refl pl _,by show VRel _ _ _;simp only[VRel,VList];exact⟨#[],rfl,rfl⟩,hr⟩
abbrev vb (c:UInt8):V:= .int .u8 c.toNat
theorem DF : ∀ l : S,bC (l.map vb) = true
 | []=>rfl
 | a::l=>by simp only[zrd,bC,DF l,V.one,V.vc,zrk];rfl
theorem uI {p : Nat → Bool} : ∀ c : S,V.drops p (c.map vb) = c.map vb
 | []=>rfl
 | a::l=>by simp only[zrd,V.drops,V.drop,uI l]
theorem NZ {T : Nat} (hT : BT T) {id : Nat} {a : V} {h : H} {R : AEnd → H → (Nat → Bool) → Prop} (s : S) (ha : a = .nilp ∨ a = .lp id 0) (hh : h[id]? = some (.typed T [a,.nils])) (hs : s ≠ []) (hl : s.length ≤ 20000000000000)
 (hr:R (.ret (.tup [vi s.length,.nili])) ((h++[O.typed 5 (s.map vb)]).set id (.typed T [.lp id 0,.ls h.length 1 0 s.length s.length])) (fun _=>false)):ah TE 39 [.lp id 0,.str s] h R:=by
 have hM:maxLen=9223372036854775807:=rfl;have hlt:id<h.length:=(zqe hh).1;have hpos:0<s.length:=List.length_pos_iff.2 hs;refine ax Tryz.func39 rfl (by simp[nts]) ?_;refine ag (vm ?_);simp only[wq.1,Nat.reduceLT,Tryz.results39];refine ag (vm ?_);simp only[wq.1,seval];refine oD hT ha hh ?_;simp only[wq.1];have h1:(h.set id (.typed T [.lp id 0,.nils]))[id]? =some (.typed T [.lp id 0,.nils]):=by simp[hlt]
 refine ag (fP ?_);refine aB rfl rfl ?_;simp only[wq.1,seval];refine aB rfl rfl ?_;simp only[wq.1,seval];refine aB rfl rfl ?_;simp only[wq.1,↓reduceIte];refine aB rfl rfl ?_;simp only[wq.1,seval];refine aB rfl rfl ?_;simp only[wq.1,seval,h1];refine aB rfl rfl ?_;simp only[wq.1,seval];have hq:ti TE.P 92=some ⟨.slice 5,1,24,.nils⟩:=by simp only[wq.1]
 have hqe:ti TE.P 5=some ⟨.int .u8,1,1,.int .u8 0⟩:=by simp only[wq.1]
 refine dG rfl rfl ?_;refine rW (x:= .tmp 12) (y:= .tmp 13) (t:=92) (xt:=9) (el:=5) (m:=s.length) (cs:=s.map vb) ⟨⟨_,rfl,rfl,rfl⟩,hq,rfl,hqe,rfl,rfl,Nat.zero_lt_one⟩ (by simp only[wq.1,seval]) (by simp only[wq.1,↓reduceIte]) (by simp only[wq.1,seval]) (by simp only[wq.1,↓reduceIte]) (by simp only[wq.1,↓reduceIte]) (by simp only[wq.1,↓reduceIte]) hpos (by omega) (by show(0+s.length)*1≤_;omega) ?_;have h2:(h.set id (O.typed T [.lp id 0,.nils])++[O.typed 5 (s.map vb)])[id]? =some (.typed T [.lp id 0,.nils]):=by rw[zqj (by simpa using hlt)];exact h1
 simp only[wq.1,zrn];refine aB rfl rfl ?_;simp only[wq.1,seval];refine aB rfl rfl ?_;simp only[wq.1,seval];refine dG rfl rfl ?_;refine x9 (t:=92) (x:= .tmp 16) (y:= .tmp 14) rfl (id:=id) (off:=1) (by simp only[wq.1,↓reduceIte]) (by simp only[wq.1,↓reduceIte]) (by simp only[wq.1,seval]) hq (by simp only[wq.1,seval]) (by simp only[wq.1,seval]) (by simp only[wq.1,seval]) h2 (by simp only[wq.1,seval]) ?_;refine fA ?_;simp only[wq.1,seval];refine vm ?_;simp only[wq.1,seval];rw[List.set_append_left _ _ (by simpa using hlt),List.set_set,←List.set_append_left _ _ hlt];exact hr
theorem DI (p:Nat→Bool) (h:H) (i:Nat) (o:O):(h.set i o).map (O.drop p)=(h.map (O.drop p)).set i (o.drop p):=by rw[List.map_set]
theorem Qs {T : Nat} (hT : BT T) {id bid : Nat} {a : V} {h : H} {R : AEnd → H → (Nat → Bool) → Prop} (out s : S) (ha : a = .nilp ∨ a = .lp id 0) (hne : id ≠ bid) (hh : h[id]? = some (.typed T [a,.ls bid 1 0 out.length out.length])) (hb : h[bid]? = some (.typed 5 (out.map vb))) (hl : out.length + s.length ≤ 20000000000000)
 (hr:R (.ret (.tup [vi s.length,.nili])) (((h.map (O.drop (·==bid))).set bid (O.typed 5 ((out++s).map vb))).set id (.typed T [.lp id 0,.ls bid 1 0 (out++s).length (out++s).length])) (·==bid)):ah TE 39 [.lp id 0,.str s] h R:=by
 have hM:maxLen=9223372036854775807:=rfl;have hlt:id<h.length:=(zqe hh).1;have hltb:bid<h.length:=(zqe hb).1;have hidb:(id==bid)=false:=by simpa using hne
 refine ax Tryz.func39 rfl (by simp[nts]) ?_;refine ag (vm ?_);simp only[wq.1,Nat.reduceLT,Tryz.results39];refine ag (vm ?_);simp only[wq.1,seval];refine oD hT ha hh ?_;simp only[wq.1];have h1:(h.set id (.typed T [.lp id 0,.ls bid 1 0 out.length out.length]))[id]? =some (.typed T [.lp id 0,.ls bid 1 0 out.length out.length]):=by simp[hlt]
 have h1b:(h.set id (.typed T [.lp id 0,.ls bid 1 0 out.length out.length]))[bid]? =some (.typed 5 (out.map vb)):=by rw[zqn hne];exact hb
 refine ag (fP ?_);refine aB rfl rfl ?_;simp only[wq.1,seval];refine aB rfl rfl ?_;simp only[wq.1,seval];refine aB rfl rfl ?_;simp only[wq.1,↓reduceIte];refine aB rfl rfl ?_;simp only[wq.1,seval];refine aB rfl rfl ?_;simp only[wq.1,seval,h1];refine aB rfl rfl ?_;simp only[wq.1,seval];have hq:ti TE.P 92=some ⟨.slice 5,1,24,.nils⟩:=by simp only[wq.1]
 have hqe:ti TE.P 5=some ⟨.int .u8,1,1,.int .u8 0⟩:=by simp only[wq.1]
 refine dG rfl rfl ?_;refine uk (x:= .tmp 12) (y:= .tmp 13) (t:=92) (xt:=9) (el:=5) (m:=s.length) (cs:=s.map vb) (len:=out.length) (cap:=out.length) ⟨⟨_,rfl,rfl,rfl⟩,hq,rfl,hqe,rfl,rfl,Nat.zero_lt_one⟩ (by simp only[wq.1,seval]) (by simp only[wq.1,↓reduceIte]) (id:=bid) (by simp only[wq.1,seval]) h1b (by rw[zra];show _=out.length*1;omega) (by simp only[wq.1,↓reduceIte]) (by simp only[wq.1,↓reduceIte]) (by simp only[wq.1,↓reduceIte]) (DF s) (by omega) (by show(out.length+s.length)*1≤_;omega) (by simp only[wq.1]) ?_;rw[kW,uI,uI,DI];have e1:(O.typed T [.lp id 0,.ls bid 1 0 out.length out.length]).drop (·==bid)= .typed T [.lp id 0,.any]:=by
  simp only[O.drop,V.drops,V.drop,hidb,beq_self_eq_true,zrm,if_false,if_true]
 rw[e1];generalize hG:h.map (O.drop (·==bid))=G at hr ⊢;have hGl:id<G.length:=by rw[←hG,zra];exact hlt
 have h2:((G.set id (O.typed T [.lp id 0,.any])).set bid (O.typed 5 (out.map vb++s.map vb)))[id]? =some (.typed T [.lp id 0,.any]):=by rw[zqn (Ne.symm hne)];simp[hGl]
 simp only[wq.1];refine aB rfl rfl ?_;simp only[wq.1,seval,hidb];refine aB rfl rfl ?_;simp only[wq.1,seval];refine dG rfl rfl ?_;refine x9 (t:=92) (x:= .tmp 16) (y:= .tmp 14) rfl (id:=id) (off:=1) (by simp only[wq.1,↓reduceIte]) (by simp only[wq.1,↓reduceIte]) (by simp only[wq.1,seval]) hq (by simp only[wq.1,seval]) (by simp only[wq.1,seval]) (by simp only[wq.1,seval]) h2 (by simp only[wq.1,seval]) ?_;refine fA ?_;simp only[wq.1,seval];refine vm ?_;simp only[wq.1,seval];rw[zql,zqa]at hr;rw[List.set_comm _ _ hne,List.set_set];exact hr
theorem Jo (b g len cap cells:Nat) (l:List UInt8) (w:World) (c1:w.drew.cell? ⟨b,1,none⟩=some (.slice (some ⟨g,0,none⟩) l.length cap)) (hcap:cap≠0) (hsh:w.drew.shape? g=some (5,cells)) (hn:l.length≤cells) (h63:l.length≤9223372036854775807) (h0:l≠[]) (hcell:∀j x,l[j]? =some x→w.drew.cell? ((⟨g,0,none⟩:Addr).add j)=some (.int .u8 x.toNat)) :
 Calls Tryz.prog 41 #[.pointer (some ⟨b,0,none⟩)] w fun e w'=>e= .returned (.string ⟨l.toArray⟩)∧w'=w.drew.freeze ⟨g,0,none⟩ l.length:=by
 have hSD:(Builtin.unsafeSliceData_ #[92] 138 #[.slice (some ⟨g,0,none⟩) l.length cap]).run Tryz.prog w.drew= .ok (.pointer (some ⟨g,0,none⟩)) w.drew :=
  Lib.run_unsafeSliceData_row w.drew _ _ _ _ _ hcap
 have hUS:(Builtin.unsafeString_ #[138,3] 9 #[.pointer (some ⟨g,0,none⟩),.int .i64 l.length]).run Tryz.prog w.drew= .ok (.string ⟨l.toArray⟩) (w.drew.freeze ⟨g,0,none⟩ l.length) :=
  Lib.run_unsafeString_row w.drew 138 3 9 5 Tryz.underlying138 (by kernel_rfl) g cells hsh l h0 hn h63 hcell
 go_enter Tryz.func41,Tryz.ntmps41
 go_wp2
 go_region
 all_goals (go_wp2;go_ret;exact⟨rfl,rfl⟩)
theorem Ui {T id bid : Nat} {a : V} {h : H} {R : AEnd → H → (Nat → Bool) → Prop} (out : S) (hh : h[id]? = some (.typed T [a,.ls bid 1 0 out.length out.length])) (hb : h[bid]? = some (.typed 5 (out.map vb))) (h0 : out ≠ []) (hl : out.length ≤ 20000000000000)
 (hr:R (.ret (.str out)) ((h.map (O.drop (·==bid))).set bid .dead) (·==bid)):ah TE 41 [.lp id 0] h R:=by
 intro ok pl w vs hs hv;simp only[VList,VRel]at hv;obtain⟨y,ys,rfl,⟨b,hpb,rfl⟩,rfl⟩:=hv;have hpb:pl id=some b:=hpb;have hpos:0<out.length:=List.length_pos_iff.2 h0;obtain⟨o,ho,hat⟩:=hs.obj id b hpb;rw[hh]at ho;cases ho;obtain⟨arr,fz,g1,g2,g3,g4⟩:=hat;have g1:w.heap[b]? =some (.cells arr T fz):=g1;obtain⟨x1,e1,r1⟩:=VList.get 1 (.ls bid 1 0 out.length out.length) g4 rfl;have e1:arr[1]? =some x1:=by
  rw[List.getElem?_take_of_lt (by simp)]at e1;simpa using e1
 simp only[VRel]at r1;obtain⟨ad,cp,rfl,q2,q3,q4,q5⟩:=r1;rcases q5 with q5 | ⟨g,arr2,el2,fz2,q6,rfl,q8,q9⟩
 ·omega
 have q6:pl bid=some g:=q6;obtain⟨o,ho,hat⟩:=hs.obj bid g q6;rw[hb]at ho;cases ho;obtain⟨arr3,fz3,k1,k2,k3,k4⟩:=hat;have k1:w.heap[g]? =some (.cells arr3 5 fz3):=k1;have k3:out.length≤arr3.size:=by simpa using k3
 have hcell:w.drew.cell? ⟨b,1,none⟩=some (.slice (some ⟨g,0,none⟩) out.length cp):=by rw[Lib.cell_of_heap (w:=w.drew) g1];exact e1
 have hsh:w.drew.shape? g=some (5,arr3.size):=by unfold World.shape?;show(match w.heap[g]? with | some (.cells c e _)=>some (e,c.size) | _=>none)=_;rw[k1]
 refine(Jo b g out.length cp arr3.size out w hcell (by omega) hsh k3 (by omega) h0 fun j x hx=> ?_).mono ?_
 ·have hj:j<out.length:=(zqe hx).1;obtain⟨x2,hx2,r2⟩:=VList.get j (vb x) k4 (by rw[zqo,hx];rfl);simp only[VRel]at r2;subst r2;rw[zra,List.getElem?_take_of_lt hj]at hx2;rw[dM,Lib.cell_of_heap (w:=w.drew) k1,Nat.zero_add];simpa using hx2
 ·rintro en w' ⟨rfl,rfl⟩;have hsz:(w.drew.freeze ⟨g,0,none⟩ out.length).heap.size=w.heap.size:=by
   unfold World.freeze;rw[if_neg (by omega)];exact Array.size_modify
  have hsame:∀i,i≠g→(w.drew.freeze ⟨g,0,none⟩ out.length).heap[i]? =w.heap[i]? :=fun i hi=>by unfold World.freeze;rw[if_neg (by omega)];show(w.heap.modify g _)[i]? =_;rw[Array.getElem?_modify,if_neg (Ne.symm hi)]
  have hrow:∀arr el fz,w.heap[g]? =some (.cells arr el fz)→∃arr' fz',(w.drew.freeze ⟨g,0,none⟩ out.length).heap[g]? =some (.cells arr' el fz')∧arr'.size=arr.size:=fun a3 el fz4 ha=>by unfold World.freeze;rw[if_neg (by omega)];refine⟨a3,(if fz4.1==fz4.2 then(0,0+out.length)else(min fz4.1 0,max fz4.2 (0+out.length))),?_,rfl⟩;show(w.heap.modify g _)[g]? =_;rw[Array.getElem?_modify,if_pos rfl,ha];rfl
  have hos:(w.drew.freeze ⟨g,0,none⟩ out.length).os=w.os∧(w.drew.freeze ⟨g,0,none⟩ out.length).tape=w.tape∧(w.drew.freeze ⟨g,0,none⟩ out.length).output=w.output:=by unfold World.freeze;rw[if_neg (by omega)];exact⟨rfl,rfl,rfl⟩
  obtain⟨s1,s2⟩:=hs.burn q6 hos.1 hos.2.1 hos.2.2 hsz hsame hrow;exact⟨_,_,_,.ret (.str out),s1,s2,by show VRel _ _ _;simp only[VRel];exact⟨_,rfl,by simp,by have:maxLen=9223372036854775807:=rfl;omega⟩,hr⟩
open Go.Shelf
open Go.Lib
open Go.Sort
theorem Wj : Builder.Extra Tryz.prog NR where
 sizeBuilder:=by kernel_rfl
 liesBuilder:=by kernel_rfl
 t5:=Tryz.underlying5
 a5:=Tryz.isAgg5
 z5:=Tryz.sizeOf5
 v5:=Tryz.zeroValue5
 infoByte:=by kernel_rfl
 cellsByte:=by kernel_rfl
 sizeByte:=by kernel_rfl
 neB5:=by decide
theorem Qu {w:World} {b o:Nat} {v:Value} (h:w.cell? ⟨b,o,none⟩=some v):b<w.heap.size:=by
 rcases Nat.lt_or_ge b w.heap.size with h1 | h1
 ·exact h1
 ·exfalso;unfold World.cell? at h;simp[Array.getElem?_eq_none h1]at h
theorem Jp {w w':World} (x:Below w.heap.size w w'):WExt w w':=⟨x.os,x.tape,x.output,x.size,x.block⟩
theorem yG : ∀ l : List S,(l.map fun s : S => (⟨s.toArray⟩ : ByteArray)).map (·.data.toList) = l
 | []=>rfl
 | a::l=>by rw[zrd,zrd,yG l]
theorem Qv (l:List S) (sep:S) (hn:l.length≤100000000) (hj:(Lib.join l sep).length≤100000000):Ev TE 40 [dE l,.str sep] (.str (Lib.join l sep)):=by
 intro ok w vs hs hl;simp only[VList]at hl;obtain⟨y,ys,rfl,h1,y2,ys2,rfl,h2,rfl⟩:=hl;have:=yD h2;subst this;simp only[VRel]at h1;obtain⟨a,cp,rfl,hle,hcp,_,hel⟩:=h1;rw[zra]at hle;have fin:Calls TE.P 40 (Value.slice a (l.map V.str).length cp::Value.string ⟨sep.toArray⟩::[]).toArray w fun en w'=>en= .returned (.string ⟨(Lib.join l sep).toArray⟩)∧Below w.heap.size w w':=by
  rw[zra];rcases l with _ | ⟨s0,l0⟩
  ·exact(Any.strings_Join_none Wh Wj a cp ⟨sep.toArray⟩ w).mono fun e w' ⟨he,hw⟩=>⟨he,hw▸Below.refl _ _⟩
  ·obtain⟨b,off,rfl,hv⟩:=hel.resolve_left (by simp);obtain⟨xs,hx1,hx2,hx3⟩:=VElems.list hv (by intro v hv;obtain⟨s,_,rfl⟩:=zrh.1 hv;rfl);have hxs:=Hm hx3;subst hxs;have bM:∀(j:Nat) (x:ByteArray),((s0::l0).map fun s:S=>(⟨s.toArray⟩:ByteArray))[j]? =some x→w.cell? ⟨b,off+j,none⟩=some (.string x):=fun j x hj=>by
    refine hx2 j _ ?_;rw[zqo]at hj ⊢;cases hg:(s0::l0)[j]? with
    | none=>rw[hg]at hj;simp at hj
    | some s=>rw[hg]at hj;simp at hj;subst hj;rfl
   have hmm:=yG (s0::l0);have:=Any.strings_Join Wh Wj b off cp ((s0::l0).map fun s:S=>(⟨s.toArray⟩:ByteArray)) ⟨sep.toArray⟩ w bM (Qu (bM 0 _ rfl)) (by simp at hn ⊢;omega) (by simpa using hle) (by rw[hmm];show(Lib.join (s0::l0) sep).length≤_;omega);rw[hmm,zra]at this;exact this
 refine Calls.mono fin ?_;rintro en w' ⟨rfl,hb⟩;refine⟨_,rfl,Jp hb,?_⟩;simp only[VRel];exact⟨_,rfl,by simp,by have hM:maxLen=9223372036854775807:=rfl;omega⟩
theorem Fe (b:Nat) (w:World) (c1:w.drew.cell? ⟨b,1,none⟩=some (.slice none 0 0)) :
 Calls Tryz.prog 41 #[.pointer (some ⟨b,0,none⟩)] w fun e w'=>e= .returned (.string ⟨#[]⟩)∧w'=w.drew:=by
 have hSD:(Builtin.unsafeSliceData_ #[92] 138 #[.slice none 0 0]).run Tryz.prog w.drew= .ok (.pointer none) w.drew :=
  Lib.run_unsafeSliceData_nil w.drew _ _ _ _
 have hUS:(Builtin.unsafeString_ #[138,3] 9 #[.pointer none,.int .i64 0]).run Tryz.prog w.drew= .ok (.string .empty) w.drew :=
  Lib.run_unsafeString_none w.drew 138 3 9 none
 go_enter Tryz.func41,Tryz.ntmps41
 go_wp2
 go_region
 all_goals (go_wp2;go_ret;exact⟨rfl,rfl⟩)
theorem Qw {T id:Nat} {a:V} {h:H} {R:AEnd→H→(Nat→Bool)→Prop} (hh:h[id]? =some (.typed T [a,.nils])) (hr:R (.ret (.str [])) h (fun _=>false)):ah TE 41 [.lp id 0] h R:=by
 intro ok pl w vs hs hv;simp only[VList,VRel]at hv;obtain⟨y,ys,rfl,⟨b,hpb,rfl⟩,rfl⟩:=hv;have hpb:pl id=some b:=hpb;obtain⟨o,ho,hat⟩:=hs.obj id b hpb;rw[hh]at ho;cases ho;obtain⟨arr,fz,g1,g2,g3,g4⟩:=hat;have g1:w.heap[b]? =some (.cells arr T fz):=g1;obtain⟨x1,e1,r1⟩:=VList.get 1 .nils g4 rfl;have e1:arr[1]? =some x1:=by
  rw[List.getElem?_take_of_lt (by simp)]at e1;simpa using e1
 simp only[VRel]at r1;have hcell:w.drew.cell? ⟨b,1,none⟩=some (.slice none 0 0):=by
  rw[Lib.cell_of_heap (w:=w.drew) g1,e1,r1]
 refine(Fe b w hcell).mono ?_;rintro en w' ⟨rfl,rfl⟩;have x:WExt w w.drew:=WExt.drew w;exact⟨fun _=>false,pl,h,.ret (.str []),hs.wext x,x.keeps hs,by show VRel _ _ _;simp only[VRel];exact⟨_,rfl,by simp,by decide⟩,hr⟩
def bI : S → H
 | []=>[.typed 94 [.nilp,.nils]]
 | c::s=>[.typed 94 [.lp 0 0,.ls 1 1 0 (c::s).length (c::s).length],.typed 5 ((c::s).map vb)]
theorem Ak {out:S} {p:Nat→Bool} (h0:p 0=false) (h1:out≠[]→p 1=false):(bI out).map (O.drop p)=bI out:=by
 cases out with
 | nil=>rfl
 | cons c s=>have h1:=h1 (by simp);show [O.typed _ (V.drops p [.lp 0 0,.ls 1 1 0 _ _]),O.typed _ (V.drops p ((c::s).map vb))]=_;rw[uI];simp only[V.drops,V.drop,h0,h1,if_false,zrm];rfl
theorem Rl (out:S):1≤(bI out).length∧(out≠[]→(bI out).length=2):=by
 cases out with
 | nil=>exact⟨zrb _,fun h=>absurd rfl h⟩
 | cons c s=>exact⟨by simp[bI],fun _=>rfl⟩
theorem Rn (out:S):(bI out).map (O.drop (aS (bI out).length))=bI out:=by obtain⟨h1,h2⟩:=Rl out;exact Ak (by show decide (_≤0)=false;rw[zqd];omega) (fun h=>by rw[h2 h];rfl)
theorem Qx {out s:S} {R:AEnd→H→(Nat→Bool)→Prop} (hs:s≠[]) (hl:out.length+s.length≤20000000000000) (hr:∀v p,p 0=false→R (.ret v) (bI (out++s)) p):ah TE 39 [.lp 0 0,.str s] (bI out) R:=by
 cases out with
 | nil =>
  refine NZ yF s (.inl rfl) rfl hs (by simpa using hl) ?_;cases s with
  | nil=>exact absurd rfl hs
  | cons x s=>exact hr _ _ rfl
 | cons c out=>refine Qs yF (c::out) s (.inr rfl) (by decide) rfl rfl hl ?_;have e:(((bI (c::out)).map (O.drop (·==1))).set 1 (O.typed 5 ((c::out++s).map vb))).set 0 (.typed 94 [.lp 0 0,.ls 1 1 0 (c::out++s).length (c::out++s).length])=bI (c::out++s):=rfl;rw[e];exact hr _ _ rfl
theorem Wl {out:S} {R:AEnd→H→(Nat→Bool)→Prop} (hl:out.length≤20000000000000) (hr:∀h p,R (.ret (.str out)) h p):ah TE 41 [.lp 0 0] (bI out) R:=by
 cases out with
 | nil=>exact Qw (a:= .nilp) (T:=94) rfl (hr _ _)
 | cons c out=>exact Ui (c::out) rfl rfl (by simp) hl (hr _ _)
theorem Am {x:Lt} (h:bK x.1=true):(Nk x).length≤41:=by simp only[bK,zqf,zqb]at h;unfold Nk;rw[zrt];omega
theorem N7 {ws:List S} {k:Nat} (h:∀w∈ws,w.length≤k):(Lib.join ws [32]).length≤ws.length*(k+1):=by
 induction ws with
 | nil=>simp[Lib.join_nil]
 | cons w ws ih =>
  have h1:=h w (by simp);have h2:=ih fun x hx=>h x (by simp[hx]);cases ws with
  | nil=>rw[Lib.join_one];simp;omega
  | cons v ws=>rw[Ji,zqa,zrt,zrt,Nat.succ_mul];omega
theorem yH {p : Nat → Bool} : ∀ {a : H} {k : Nat},(∀ i,k ≤ i → i < k + a.length → p i = false) → iO p k a = a.map (O.drop p)
 | [],_,_=>rfl
 | o::a,k,h=>by rw[iO,if_neg (by rw[h k (zrb _) (by simp)];decide),zrd,yH fun i h1 h2=>h i (by omega) (by rw[zrt];omega)]
theorem yI {p : Nat → Bool} {b : H} : ∀ {a : H} {k : Nat},iO p k (a ++ b) = iO p k a ++ iO p (k + a.length) b
 | [],k=>rfl
 | o::a,k=>by rw[List.cons_append,iO,iO,List.cons_append,yI,zrt,show k+1+a.length=k+(a.length+1) by omega]
theorem Qy {a:H} {b b' o:O}:(a++[b]++[o]).set a.length b'=a++[b']++[o]:=by rw[zqc,List.set_append_right _ _ (zrb _),Nat.sub_self,zqc];rfl
theorem N8 {α : Type} {f : α → S} {K : Nat} : ∀ k : List α,(∀ c ∈ k,(f c).length ≤ K) → (k.flatMap f).length ≤ k.length * K
 | [],_=>by simp
 | c::k,h=>by have h1:=h c (by simp);have h2:=N8 k fun x hx=>h x (by simp[hx]);rw[List.flatMap_cons,zqa,zrt,Nat.succ_mul];omega
theorem N9 (l:List (List Lt)) (hl:l.length≤1000) (hc:∀c∈l,c.length≤1000):Ev TE 15 [lss l] (.tup [.str (wX l).1,vi (wX l).2]):=by
 have hM:maxLen=9223372036854775807:=rfl;refine ak Tryz.func15 rfl (by simp[nts]) ?_;refine ag (vm ?_);simp only[wq.1,seval,Tryz.results15];refine ag (fP ?_);refine dG rfl rfl ?_;refine Iw (t:=94) (q:=⟨.struct [(0,91),(1,92)],2,32,.agg [.nilp,.nils]⟩) rfl (by simp only[wq.1]) rfl ?_;refine fA ?_;simp only[wq.1];refine ag ?_;refine ag (vm ?_);simp only[wq.1,seval];refine aG ?_;refine aC (fun q f h=>∃(i:Nat) (X:H),q+i=l.length∧(l.take i).all okC=true∧f.t 4= .lp 0 0∧f.t 10=lss l∧f.t 11=vi l.length∧f.t 12=vi i∧f.d=[]∧h=bI ((l.take i).flatMap xJ)++X) l.length ⟨0,[],by omega,rfl,by simp only[wq.1,seval],by simp only[wq.1,seval],by simp only[wq.1,seval],by simp only[wq.1,↓reduceIte];rfl,by simp only[wq.1],rfl⟩ ?_;rintro q f h ⟨i,X,hq,hall,t4,t10,t11,t12,hd,rfl⟩;refine gZ (by rw[hd];simp) ?_;rw[Rn];obtain⟨out,hout⟩:∃out,out=(l.take i).flatMap xJ:=⟨_,rfl⟩;have hol:out.length≤i*42001:=by
  rw[hout];have hlp:∀c∈l.take i,(xJ c).length≤42001:=fun c hcm=>by
   have h1:=hc c (List.mem_of_mem_take hcm);have h2:=zrs.1 hall c hcm;have h3:=N7 (ws:=c.map Nk) (k:=41) (fun w hw=>by obtain⟨x,hx,rfl⟩:=zrh.1 hw;exact Am (zrs.1 h2 x hx));unfold xJ;rw[zra]at h3;rw[zqa,zrk];omega
  have hmi:(l.take i).length≤i:=by rw[zrl];omega
  exact Nat.le_trans (N8 _ hlp) (Nat.mul_le_mul_right _ hmi)
 rw[←hout];obtain⟨hN1,hN2⟩:=Rl out;have z0:aS (bI out).length 0=false:=by show decide (_≤0)=false;rw[zqd];omega
 refine mV (fun f'=>f'.t 4= .lp 0 0∧f'.t 10=lss l∧f'.t 11=vi l.length∧f'.t 12=vi i∧f'.d=[]) _ (fun hk=>hk _ ⟨by simp only[wq.1,↓reduceIte,t4,z0],by simp only[wq.1,t10],by simp only[wq.1,t11],by simp only[wq.1,t12],hd⟩) ?_;clear t4 t10 t11 t12 hd f;rintro f ⟨t4,t10,t11,t12,hd⟩;refine ag (vm ?_);simp only[wq.1,Nat.reduceLT,t11,t12];refine ag (bD (b:=decide ((i:Int)<l.length)) (by simp only[wq.1,↓reduceIte]) (by simp only[wq.1,↓reduceIte]) (fun hlt=> ?_) (fun hlt=> ?_))
 ·simp only[zqb,zqi]at hlt;have hw:=aA (show i<maxLen by omega);have hgl:=xI hlt .any;have hcl:=hc _ (zqu hlt);have hsu:okC l[i]=true→(l.take (i+1)).all okC=true:=fun h=>by
   rw[zrg,zqk hlt,List.all_append,hall];simpa using h
  have hfl:okC l[i]=false→wX l=([],4):=fun h=>by unfold wX;rw[if_neg];intro h2;have:=zrs.1 h2 _ (zqu hlt);rw[h]at this;cases this
  have hos:(l.take (i+1)).flatMap xJ=out++xJ l[i]:=by rw[zrg,zqk hlt,List.flatMap_append,←hout];simp
  obtain⟨c,hce⟩:∃c,c=l[i]:=⟨_,rfl⟩;rw[←hce]at hgl hcl hsu hfl hos;refine vm ?_;simp only[wq.1];refine ag (aG ?_);refine ag (vm ?_);simp only[wq.1,seval,t10,t12,hgl];refine⟨⟨by omega,by omega⟩,?_⟩;refine ag (vm ?_);simp only[wq.1,Nat.reduceLT];refine fH 7 1 (by simp only[wq.1,↓reduceIte]) ?_;refine ag ?_;refine ag (vm ?_);simp only[wq.1,seval,hd];refine aG ?_;have hbc:∀ws:List S,(bI out++[O.cells (ws.map V.str)]).map (O.drop (aS (bI out++[O.cells (ws.map V.str)]).length))=bI out++[O.cells (ws.map V.str)]:=fun ws=>by
   have hl3:(bI out++[O.cells (ws.map V.str)]).length=(bI out).length+1:=by simp
   rw[hl3,zql,Ak (by show decide (_≤0)=false;rw[zqd];omega) (fun h=>by rw[hN2 h];rfl)];show _++[O.cells (V.drops _ _)]=_;rw[jQ]
  obtain⟨N,hN⟩:∃N,N=(bI out).length:=⟨_,rfl⟩;rw[←hN]at hN1 hN2;have zl:∀ws:List S,(bI out++[O.cells (ws.map V.str)]).length=N+1:=fun ws=>by simp[hN]
  have z0':aS (N+1) 0=false:=rfl;have zN:aS (N+1) N=false:=by show decide (_≤N)=false;rw[zqd];omega
  refine aC (fun q' f h=>∃(j:Nat) (Y:H),q'+j=c.length∧okC (c.take j)=true∧f.t 4= .lp 0 0∧f.t 7= .ls N 1 0 j j∧f.t 10=lss l∧f.t 11=vi l.length∧f.t 12=vi i∧f.t 16=iL c∧f.t 17=vi c.length∧f.t 18=vi j∧f.d=[]∧h=bI out++[.cells (((c.take j).map Nk).map V.str)]++Y) c.length ⟨0,[],by omega,rfl,t4,by simp only[wq.1,seval];rw[hN],t10,t11,t12,by simp only[wq.1,seval],by simp only[wq.1,seval],by simp only[wq.1,↓reduceIte];rfl,by simp only[wq.1],by simp⟩ ?_;clear t4 t10 t11 t12 hd f;rintro q' f h ⟨j,Y,hq',hkj,t4,t7,t10,t11,t12,t16,t17,t18,hd,rfl⟩;refine gZ (by rw[hd];simp) ?_;rw[hbc,zl];refine mV (fun f'=>f'.t 4= .lp 0 0∧f'.t 7= .ls N 1 0 j j∧f'.t 10=lss l∧f'.t 11=vi l.length∧f'.t 12=vi i∧f'.t 16=iL c∧f'.t 17=vi c.length∧f'.t 18=vi j∧f'.d=[]) _ (fun hk=>hk _ ⟨by simp only[wq.1,↓reduceIte,t4,z0'],by simp only[wq.1,↓reduceIte,t7,zN],by simp only[wq.1,t10],by simp only[wq.1,t11],by simp only[wq.1,t12],by simp only[wq.1,t16],by simp only[wq.1,t17],by simp only[wq.1,t18],hd⟩) ?_;clear t4 t7 t10 t11 t12 t16 t17 t18 hd f;rintro f ⟨t4,t7,t10,t11,t12,t16,t17,t18,hd⟩;have hwl:((c.take j).map Nk).length=min j c.length:=by simp
  obtain⟨ws,hws⟩:∃ws,ws=(c.take j).map Nk:=⟨_,rfl⟩;rw[←hws]at hwl ⊢;obtain⟨H0,hH0⟩:∃H0,H0=bI out++[O.cells (ws.map V.str)]:=⟨_,rfl⟩;rw[←hH0];have y0:H0[N]? =some (.cells (ws.map V.str)):=by rw[hH0,hN];exact jJ
  have yl:H0.length=N+1:=by rw[hH0];exact zl ws
  refine ag (vm ?_);simp only[wq.1,Nat.reduceLT,t17,t18];refine ag (bD (b:=decide ((j:Int)<c.length)) (by simp only[wq.1,↓reduceIte]) (by simp only[wq.1,↓reduceIte]) (fun hlt2=> ?_) (fun hlt2=> ?_))
  ·simp only[zqb,zqi]at hlt2;have hw2:=aA (show j<maxLen by omega);have hgc:=Ac hlt2 .any;have hxm:=zqu hlt2;have hsx:bK c[j].1=true→okC (c.take (j+1))=true:=fun h=>by
    unfold okC at hkj ⊢;rw[zrg,zqk hlt2,List.all_append,hkj];simpa using h
   have hax:bK c[j].1=false→okC c=false:=fun h=>by unfold okC;rw[List.all_eq_false];exact⟨_,hxm,by rw[h];simp⟩
   have hwn:(c.take (j+1)).map Nk=ws++[Nk c[j]]:=by rw[zrg,zqk hlt2,zql,←hws];rfl
   obtain⟨x,hx⟩:∃x,x=c[j]:=⟨_,rfl⟩;rw[←hx]at hgc hxm hsx hax hwn;have hlo:∀o:O,(H0++[o])[N+1]? =some o:=fun o=>by rw[←yl];exact jJ
   have hso:∀o o':O,(H0++[o]).set (N+1) o'=H0++[o']:=fun o o'=>by rw[←yl];exact qL
   have yN:∀o:O,(H0++[o])[N]? =some (.cells (ws.map V.str)):=fun o=>by rw[zqj (by omega)];exact y0
   refine vm ?_;simp only[wq.1];refine ag (aG ?_);refine ag (vm ?_);simp only[wq.1,seval,t16,t18,hgc,yl,hlo,hso];refine⟨⟨by omega,by omega⟩,?_⟩;refine ag ?_;refine ag (vm ?_);simp only[wq.1,seval,hlo];refine ah.ev (uC x.1) rfl ?_;simp only[wq.1,seval];cases hok:bK x.1 with
   | false=>rw[hfl (hax hok)];refine vm ?_;simp only[wq.1,seval,hd];exact az.dat rfl
   | true =>
    have hll:=Am hok;have hls:=Nl x (by simp only[bK,zqf,zqb]at hok;omega);have hdr0:H0.map (O.drop fun k=>k==N)=H0:=by rw[hH0,zql,Ak (by show(0==N)=false;rw[beq_eq_false_iff_ne];omega) (fun h=>by have:=hN2 h;show(1==N)=false;rw[this];rfl)];show _++[O.cells (V.drops _ _)]=_;rw[jQ]
    have dws:∀p,V.drops p (ws.map V.str)=ws.map V.str:=fun p=>jQ _;have hel:(ws.map V.str).length=j*1:=by rw[zra];omega
    refine vm ?_;simp only[wq.1,↓reduceIte];show awp _ _ _ _ _ _ _;refine vm ?_;simp only[wq.1,seval,-Int.reduceNatCast,-Int.reduceNatCast',t7,hlo];refine ah.ev hls rfl ?_;simp only[wq.1,↓reduceIte,Nat.reduceEqDiff,Nat.reduceLT,reduceCtorEq,Nat.reduceMul,hd,yN,hdr0];have k0:((0:Nat)==N)=false:=by rw[beq_eq_false_iff_ne];omega
    refine⟨⟨rfl,by decide⟩,⟨by omega,by omega,by omega⟩,?_⟩;refine vm ?_;simp only[wq.1,seval,t18,hw2];refine .inl ⟨q'-1,by omega,j+1,[.cells [.str x.1,.bool x.2]],by omega,hsx hok,by simp only[wq.1,seval,t4,k0],by simp only[wq.1,seval],by simp only[wq.1,seval,t10],by simp only[wq.1,seval,t11],by simp only[wq.1,seval,t12],by simp only[wq.1,seval,t16],by simp only[wq.1,seval,t17],by simp only[wq.1,↓reduceIte],hd,?_⟩;rw[hH0,hN,Qy,hwn,zql];rfl
  ·simp only [zqd,zqi] at hlt2;have : j = c.length := by omega
   subst this;rw[zrx]at hkj hws;have hdat:iO (·==N) 0 H0=bI out++[.dead]:=by
    rw[hH0,yI,yH (fun i h1 h2=>by show(i==N)=false;rw[beq_eq_false_iff_ne];omega),Ak (by show(0==N)=false;rw[beq_eq_false_iff_ne];omega) (fun h=>by have:=hN2 h;show(1==N)=false;rw[this];rfl),Nat.zero_add,←hN];show _++[if(N==N)=true then O.dead else _]=_;rw[beq_self_eq_true,if_pos rfl]
   refine vm ?_;simp only[wq.1];show awp _ _ _ _ _ _ _;refine qK N 7 (dE ws) (by simp only[wq.1,seval,t7]) (by simp only[wq.1,seval,t7];exact kL (by rw[oh,y0];simp;show O.cells (V.drops _ _)=_;rw[jQ]) (by omega)) (by simp only[wq.1,hd]) ?_;rw[hdat];refine gZ (by rw[show Fr.d _=[]from by simp only[wq.1,hd]];simp) ?_;rw[Rn,←hN];have k0:((0:Nat)==N)=false:=by rw[beq_eq_false_iff_ne];omega
   have kN:aS N 0=false:=by show decide (N≤0)=false;rw[zqd];omega
   refine mV (fun f'=>f'.t 4= .lp 0 0∧f'.t 7=dE ws∧f'.t 10=lss l∧f'.t 11=vi l.length∧f'.t 12=vi i∧f'.d=[]) _ (fun hk=>hk _ ⟨by simp only[wq.1,seval,t4,k0,kN],by simp only[wq.1,↓reduceIte],by simp only[wq.1,seval,t10],by simp only[wq.1,seval,t11],by simp only[wq.1,seval,t12],hd⟩) ?_;clear t4 t7 t10 t11 t12 t16 t17 t18 hd f;rintro f ⟨t4,t7,t10,t11,t12,hd⟩;have hjl:=N7 (ws:=ws) (k:=41) (fun w hw=>by rw[hws]at hw;obtain⟨x,hx,rfl⟩:=zrh.1 hw;exact Am (zrs.1 hkj x hx));have hjn:=Qv ws [32] (by omega) (by omega);have hlp:xJ c=Lib.join ws [32]++[10]:=by unfold xJ;rw[hws]
   refine vm ?_;simp only[wq.1,seval,t7];refine ah.ev hjn (by simp only[V.dats,V.dat,gG,zre]) ?_;simp only[wq.1,seval,t4];refine⟨by omega,?_⟩;rw[←hlp];have hlpl:(xJ c).length≤42001:=by rw[hlp,zqa,zrk];omega
   refine Qx (by rw[hlp];simp) (by omega) (fun v p hp=> ?_);simp only[wq.1,aW,hd];refine vm ?_;simp only[wq.1,seval,t12,hw];exact .inl ⟨q-1,by omega,i+1,[],by omega,hsu hkj,by simp only[wq.1,seval,t4,hp],by simp only[wq.1,seval,t10],by simp only[wq.1,seval,t11],by simp only[wq.1,↓reduceIte],hd,by rw[hos,zqp]⟩
 ·simp only [zqd,zqi] at hlt;have : i = l.length := by omega
  subst this;rw[zrx]at hall hout;have hp:wX l=(out,0):=by unfold wX;rw[if_pos hall,hout]
  rw[hp];refine vm ?_;simp only[wq.1];refine vm ?_;simp only[wq.1,seval,t4];refine Wl (by omega) (fun h p=> ?_);simp only[wq.1,seval,aW,hd];exact az.dat rfl
def rF (x:Lt):Bool:=decide (x.1.length≤60)
def xf (c:List Lt):Bool:=(c.take 13).all rF&&decide (c.length≤12)
def Rq (l:List (List Lt)) (n:Nat):Bool:=(l.take (n+1)).all xf&&decide (l.length≤n)
theorem Uj {l:List (List Lt)} {n:Nat} (h:Rq l n=true):l.length≤n∧∀c∈l,c.length≤12∧∀x∈c,x.1.length≤60:=by simp only[Rq,zqf,zqb]at h;refine⟨h.2,fun c hc=> ?_⟩;rw[zqh (by omega)]at h;have:=zrs.1 h.1 c hc;simp only[xf,zqf,zqb]at this;refine⟨this.2,fun x hx=> ?_⟩;rw[zqh (by omega)]at this;have:=zrs.1 this.1 x hx;simpa [rF]using this
theorem Qz (l:List (List Lt)) (n:Nat) (hn:n≤1000):Ev TE 8 [lss l,vi n] (.bool (Rq l n)):=by
 have hM:maxLen=9223372036854775807:=rfl;refine ak Tryz.func8 rfl (by simp[nts]) ?_;refine ag (vm ?_);simp only[wq.1,Nat.reduceLT,Tryz.results8];refine ag ?_;refine ag (vm ?_);simp only[wq.1,Nat.reduceLT];refine aG ?_;refine aC (fun q f h=>∃i,q+i=n+2∧i≤n+1∧i≤l.length∧f.t 0=lss l∧f.t 1=vi n∧f.t 5=vi i∧f.d=[]∧(∀c∈l.take i,xf c=true)) (n+2) ⟨0,by omega,by omega,by omega,by simp only[wq.1,seval],by simp only[wq.1,seval],by simp only[wq.1,↓reduceIte];rfl,by simp only[wq.1],by simp⟩ ?_;rintro q f h ⟨i,hq,hin,hil,t0,t1,t5,hd,hall⟩;by_cases hlt:i<l.length∧i≤n
 ·obtain ⟨hlt,hle⟩ := hlt;have d1 : decide ((i : Int) < (l.length : Int)) = true := by rw [zqb];omega
  have d2:decide ((i:Int)≤(n:Int))=true:=by rw[zqb];omega
  have hw:=aA (show i<maxLen by omega);have hgl:=xI hlt .any;have hsu:xf l[i]=true→∀c∈l.take (i+1),xf c=true:=fun h=>bF (P:=fun c=>xf c=true) hlt hall h;have hno:xf l[i]=false→Rq l n=false:=fun h=>by unfold Rq;rw[Bool.and_eq_false_iff,List.all_eq_false];exact .inl ⟨l[i],List.mem_take_iff_getElem.2 ⟨i,by omega,rfl⟩,by rw[h];simp⟩
  obtain⟨c,hce⟩:∃c,c=l[i]:=⟨_,rfl⟩;rw[←hce]at hgl hsu hno;refine ag ?_;refine ag (vm ?_);simp only[wq.1,seval,t0,t1,t5,d1,d2];refine vm ?_;simp only[wq.1,↓reduceIte];show awp _ _ _ _ _ _ _;refine ag (aG ?_);refine ag ?_;refine ag (vm ?_);simp only[wq.1,Nat.reduceLT];refine aG ?_;refine aC (fun q' f h=>∃k,q'+k=14∧k≤13∧k≤c.length∧f.t 0=lss l∧f.t 1=vi n∧f.t 5=vi i∧f.t 6=vi k∧f.d=[]∧(∀x∈c.take k,rF x=true)) 14 ⟨0,by omega,by omega,by omega,t0,t1,t5,by simp only[wq.1,↓reduceIte];rfl,hd,by simp⟩ ?_;clear t0 t1 t5 hd f;rintro q' f h ⟨k,hq',hk13,hkl,t0,t1,t5,t6,hd,hkall⟩;by_cases hlt2:k<c.length∧k≤12
  ·obtain ⟨hlt2,hle2⟩ := hlt2;have d3 : decide ((k : Int) < (c.length : Int)) = true := by rw [zqb];omega
   have d4:decide ((k:Int)≤12)=true:=by rw[zqb];omega
   have hw2:=aA (show k<maxLen by omega);have hgc:=Ac hlt2 .any;have hsx:rF c[k]=true→∀x∈c.take (k+1),rF x=true:=fun h=>bF (P:=fun x=>rF x=true) hlt2 hkall h;have hnx:rF c[k]=false→xf c=false:=fun h=>by unfold xf;rw[Bool.and_eq_false_iff,List.all_eq_false];exact .inl ⟨c[k],List.mem_take_iff_getElem.2 ⟨k,by omega,rfl⟩,by rw[h];simp⟩
   obtain⟨x,hx⟩:∃x,x=c[k]:=⟨_,rfl⟩;rw[←hx]at hgc hsx hnx;refine ag ?_;refine ag (vm ?_);simp only[wq.1,seval,t0,t5,t6,hgl,d3,d4];refine⟨⟨by omega,by omega⟩,?_⟩;refine vm ?_;simp only[wq.1,↓reduceIte];show awp _ _ _ _ _ _ _;refine ag (aG ?_);refine ag (vm ?_);simp only[wq.1,seval,t0,t5,t6,hgl,hgc];refine⟨⟨by omega,by omega⟩,⟨by omega,by omega⟩,?_⟩;cases d5:decide (60<(x.1.length:Int))with
   | true=>rw[hno (hnx (by unfold rF;simp only[zqb]at d5;rw[zqd];omega))];refine vm ?_;simp only[wq.1,seval,hd];exact az.dat rfl
   | false=>refine vm ?_;simp only[wq.1,↓reduceIte];refine vm ?_;simp only[wq.1,seval,t6,hw2];exact .inl ⟨q'-1,by omega,k+1,by omega,by omega,by omega,t0,t1,t5,by simp only[wq.1,↓reduceIte],hd,hsx (by unfold rF;simp only[zqd]at d5;rw[zqb];omega)⟩
  ·have hcv:xf c=decide (c.length≤12):=by
    unfold xf;by_cases h:k<c.length
    ·have e : k = 13 := by omega
     rw[e]at hkall;rw[zrs.2 hkall,Bool.true_and]
    ·rw[zqh (by omega)]at hkall;rw[zrs.2 fun x hx=>hkall x (List.mem_of_mem_take hx),Bool.true_and]
   by_cases h:k<c.length
   ·have d3 : decide ((k : Int) < (c.length : Int)) = true := by rw [zqb];omega
    have d4:decide ((k:Int)≤12)=false:=by rw[zqd];omega
    refine ag ?_;refine ag (vm ?_);simp only[wq.1,seval,t0,t5,t6,hgl,d3,d4];refine⟨⟨by omega,by omega⟩,?_⟩;refine vm ?_;simp only[wq.1,↓reduceIte];show awp _ _ _ _ _ _ _;refine ag (vm ?_);simp only[wq.1,seval,t0,t5,hgl];refine⟨⟨by omega,by omega⟩,?_⟩;cases d6:decide (12<(c.length:Int))with
    | true=>rw[hno (by rw[hcv,zqd];simp only[zqb]at d6;omega)];refine vm ?_;simp only[wq.1,seval,hd];exact az.dat rfl
    | false=>refine vm ?_;simp only[wq.1,↓reduceIte];refine vm ?_;simp only[wq.1,seval,t5,hw];exact .inl ⟨q-1,by omega,i+1,by omega,by omega,by omega,t0,t1,by simp only[wq.1,↓reduceIte],hd,hsu (by rw[hcv,zqb];simp only[zqd]at d6;omega)⟩
   ·have d3 : decide ((k : Int) < (c.length : Int)) = false := by rw [zqd];omega
    refine ag ?_;refine ag (vm ?_);simp only[wq.1,seval,t0,t5,t6,hgl,d3];refine⟨⟨by omega,by omega⟩,?_⟩;refine vm ?_;simp only[wq.1,↓reduceIte];show awp _ _ _ _ _ _ _;refine ag (vm ?_);simp only[wq.1,seval,t0,t5,hgl];refine⟨⟨by omega,by omega⟩,?_⟩;cases d6:decide (12<(c.length:Int))with
    | true=>rw[hno (by rw[hcv,zqd];simp only[zqb]at d6;omega)];refine vm ?_;simp only[wq.1,seval,hd];exact az.dat rfl
    | false=>refine vm ?_;simp only[wq.1,↓reduceIte];refine vm ?_;simp only[wq.1,seval,t5,hw];exact .inl ⟨q-1,by omega,i+1,by omega,by omega,by omega,t0,t1,by simp only[wq.1,↓reduceIte],hd,hsu (by rw[hcv,zqb];simp only[zqd]at d6;omega)⟩
 ·have hb:(decide ((i:Int)<(l.length:Int))=false)∨(decide ((i:Int)<(l.length:Int))=true∧decide ((i:Int)≤(n:Int))=false):=by
   by_cases h:i<l.length
   ·exact .inr ⟨by rw[zqb];omega,by rw[zqd];omega⟩
   ·exact .inl (by rw[zqd];omega)
  have hv:Rq l n=decide ((l.length:Int)≤(n:Int)):=by
   unfold Rq;by_cases h:i<l.length
   ·have e : i = n + 1 := by omega
    rw[e]at hall;rw[zrs.2 hall,Bool.true_and];exact decide_eq_decide.2 (by omega)
   ·rw[zqh (by omega)]at hall;rw[zrs.2 fun c hc=>hall c (List.mem_of_mem_take hc),Bool.true_and];exact decide_eq_decide.2 (by omega)
  rw[hv];rcases hb with d1 | ⟨d1,d2⟩
  ·refine ag ?_;refine ag (vm ?_);simp only[wq.1,seval,t0,t1,t5,d1];refine vm ?_;simp only[wq.1,↓reduceIte];show awp _ _ _ _ _ _ _;refine vm ?_;simp only[wq.1,seval,t0,t1,hd];exact az.dat rfl
  ·refine ag ?_;refine ag (vm ?_);simp only[wq.1,seval,t0,t1,t5,d1,d2];refine vm ?_;simp only[wq.1,↓reduceIte];show awp _ _ _ _ _ _ _;refine vm ?_;simp only[wq.1,seval,t0,t1,hd];exact az.dat rfl
theorem Uk {m:Mo} {bud:Int} (h:bud≤2000):V4 m bud:=fun cl n hn hz=>by obtain⟨B,hB⟩:=(Dv (m:=m)) cl n hn hz;obtain⟨v1,v2,v3,v4⟩:=oK hz;refine⟨2000,by omega,fun S _ h=>by omega,?_,by omega,by omega⟩;have:(n+1)*(2*2000+4)≤20001*(2*2000+4):=Nat.mul_le_mul_right _ (by omega);omega
abbrev tQP:S:=[43,113,32,45,112,10]
abbrev lQP:List (List Lt):=[[([113],false),([112],true)]]
theorem Ul:tu tQP= .tup [lss lQP,.agg [vi 0,vi 0,vi 0]]:=by
 have h:ry tQP=(lQP,0,0):=by decide +kernel
 unfold tu;rw[h];rfl
theorem QA:tu [113,10]= .tup [lss [],.agg [vi 2,vi 1,vi 1]]:=by
 have h:ry [113,10]=([],0,2):=by decide +kernel
 have h2:ji [113,10] 0=(1,1):=by decide +kernel
 unfold tu;rw[h];show V.tup [lss [],o9 [113,10] 0 2]=_;unfold o9;rw[if_neg (by decide),h2]
theorem Um:wX lQP=(tQP,0):=by decide +kernel
theorem Wn:sW [[113]] [[114]]=0:=by decide +kernel
theorem Xx:mkT [[113]] [[114]]=([[113]],[[114]]):=by unfold mkT;rw[if_pos Wn]
theorem Xa:VM [[113]] [[114]] Ap=([[([114],true)]],0):=by decide +kernel
theorem Un:yB m0 Ap [false]=(true,0):=by decide +kernel
theorem Oa:(bY m0 Ap).2=0:=by decide +kernel
theorem Ob:(bY m0 []).2=0:=by decide +kernel
theorem DJ:(bY m0 lQP).2=12:=by decide +kernel
theorem QB {a:Ve×Int} (h:jy m0 Ap 0 1099511627776 a):a=(Ve.z,0):=by unfold jy at h;rw[if_neg (by rw[Oa];decide),if_neg (by decide)]at h;exact TV h
theorem QC {a:Ve×Int} (h:jy m0 [] 0 1099511627776 a):a=(⟨1,2,0,[true]⟩,0):=by unfold jy at h;rw[if_neg (by rw[Ob];decide),if_neg (by decide)]at h;exact TW h
theorem QD {a:Ve×Int} (h:jy m0 lQP 0 1000 a):a=(Ve.z,12):=by unfold jy at h;rw[if_pos (by rw[DJ];decide),DJ]at h;exact h
theorem Uo:VLe (.is true 1 [.is true 2 [.agg [.str [113],.bool true]]]) (lss Ap):=by
 intro c y hy;refine bW c y (VLe.is (x:=true) (es:=[.is true 2 [.agg [.str [113],.bool true]]]) (es':=[iL [([113],true)]]) rfl (fun i v v' h1 h2=> ?_) c y hy)
 match i with
 | 0=>cases h1;cases h2;exact bW
 | i+1=>cases h1
theorem Jq:Ev TE 6 [] (.bool true):=by
 have hsm : m0.g.Sm := ⟨by decide,by decide⟩;have e1 := DD tQP (by decide);rw [Ul] at e1;have e2 := N9 lQP (by decide) (by decide);rw [Um] at e2;have e3 := rC m0 Ap 0 1099511627776 hsm (by decide) (by decide) (by decide) NL;have e4 := rC m0 [] 0 1099511627776 hsm (by decide) (by decide) (by decide) NL;have e5 := rC m0 lQP 0 1000 hsm (by decide) (by decide) (by decide) (Uk (by decide));have e6 := Dc m0 hsm Ap [false] (by decide) (by decide) (by decide) (by decide);rw [Un] at e6;have e7 := VH [[113]] [[114]] (by decide) (by decide);rw [Wn,Xx] at e7;have e8 := Jf [[113]] [[114]] Ap (by decide) (by decide);rw [Xa] at e8;have e9 := DD [113,10] (by decide);rw [QA] at e9;have e10 := Hl lQP lQP;have e11 := Hl lQP [[([114],true)]];rw [show (lQP == lQP) = true by decide +kernel] at e10;rw [show (lQP == [[([114],true)]]) = false by decide +kernel] at e11;refine ak Tryz.func6 rfl (by simp [nts]) ?_;refine ag (vm ?_);simp only [wq.1,Nat.reduceLT,Tryz.results6];refine ag (vm ?_);simp only [wq.1,seval];refine ah.ev e1 rfl ?_;simp only [wq.1,seval];refine ag (vm ?_);simp only [wq.1,seval];refine ah.ev e2 (by simp only [V.dats,V.dat,(gV lQP).1,zre]) ?_;simp only [wq.1,seval,-Int.reduceNatCast,-Int.reduceNatCast',au,Tryz.results6,aW];refine ag (vm ?_);simp only [wq.1,↓reduceIte,Nat.reduceEqDiff,Nat.reduceLT,Nat.reduceLeDiff,Nat.reduceAdd,Nat.reduceSub,Int.reduceToNat,Nat.reduceDiv,Int.reduceLT,Int.reduceLE,Int.reduceNeg,Int.reduceBEq,Int.reduceBNe,Int.reduceAdd,Int.reduceSub,Nat.reduceBEq,reduceCtorEq,Nat.reduceMul,au,Tryz.results6];refine ⟨⟨rfl,by decide⟩,⟨rfl,by decide⟩,⟨rfl,by decide⟩,⟨rfl,by decide⟩,⟨rfl,by decide⟩,?_⟩;refine vI (h' := [.cells [vi 0,vi 0,vi 0],.cells [vi 0,aF [2],aF [0],prs [],aF [2],dE [],dE [[113]],dE [[122]]]])
  (HLe.set (i:=1) (o':= .cells [vi 0,aF [2],aF [0],prs [],aF [2],dE [],dE [[113]],dE [[122]]]) rfl (OLe.cells (zrb _) (gU.cons (VLe.refl _) (gU.cons bW (gU.cons bW (gU.cons jc (gU.cons bW (gU.cons jc (gU.cons bW (gU.cons bW (gU.refl _))))))))))) ?_
 refine ag (vm ?_);simp only[wq.1,↓reduceIte,Nat.reduceEqDiff,Nat.reduceLT,Nat.reduceLeDiff,Nat.reduceAdd,Nat.reduceSub,Int.reduceToNat,Nat.reduceDiv,Int.reduceLT,Int.reduceLE,Int.reduceNeg,Int.reduceBEq,Int.reduceBNe,Int.reduceAdd,Int.reduceSub,Nat.reduceBEq,reduceCtorEq,Nat.reduceMul,au,Tryz.results6];refine⟨⟨rfl,by decide⟩,⟨rfl,by decide⟩,?_⟩;refine Bg (FLe.one 6 (v:=lss Ap) Uo) (HLe.refl _) ?_;refine ag (vm ?_);simp only[wq.1,seval];refine lK e3 (by simp only[V.dats,V.dat,(gV Ap).1,zre]) fun r hr=> ?_;obtain⟨a,ha,rfl⟩:=hr;rw[QB ha];simp only[wq.1,seval];refine ag (vm ?_);simp only[wq.1,seval];refine lK (EvR.les e4 (gU.cons (VLe.refl _) (gU.cons jc (gU.refl _)))) rfl fun r hr=> ?_;obtain⟨a,ha,rfl⟩:=hr;rw[QC ha];simp only[wq.1,seval];refine ag (vm ?_);simp only[wq.1,seval];refine lK e5 (by simp only[V.dats,V.dat,(gV lQP).1,zre]) fun r hr=> ?_;obtain⟨a,ha,rfl⟩:=hr;rw[QD ha];simp only[wq.1,↓reduceIte,Nat.reduceEqDiff,Nat.reduceLT,Nat.reduceAdd];refine ag (vm ?_);simp only[wq.1,↓reduceIte,Nat.reduceEqDiff,Nat.reduceLT,Nat.reduceAdd,reduceCtorEq,Nat.reduceMul];refine⟨⟨rfl,by decide⟩,?_⟩;refine ah.ev (e6.les (gU.cons (VLe.refl _) (gU.cons (VLe.refl _) (gU.cons bW gU.nil)))) (by simp only[V.dats,V.dat,(gV Ap).1,zre]) ?_;simp only[wq.1,seval,-Int.reduceNatCast,-Int.reduceNatCast',au,Tryz.results6,aW];refine ag (vm ?_);simp only[wq.1,↓reduceIte,Nat.reduceEqDiff,Nat.reduceLT,Nat.reduceLeDiff,Nat.reduceAdd,Nat.reduceSub,Int.reduceToNat,Nat.reduceDiv,Int.reduceLT,Int.reduceLE,Int.reduceNeg,Int.reduceBEq,Int.reduceBNe,Int.reduceAdd,Int.reduceSub,Nat.reduceBEq,reduceCtorEq,Nat.reduceMul,au,Tryz.results6];refine⟨⟨rfl,by decide⟩,⟨rfl,by decide⟩,?_⟩;refine ah.ev (e7.les (gU.cons bW (gU.cons bW gU.nil))) rfl ?_;simp only[wq.1,seval];refine ag (vm ?_);simp only[wq.1,seval];refine ah.ev e8 (by simp only[V.dats,V.dat,(gV Ap).1,zre]) ?_;simp only[wq.1,seval];refine ag (vm ?_);simp only[wq.1,seval];refine ah.ev e9 rfl ?_;simp only[wq.1,seval,-Int.reduceNatCast,-Int.reduceNatCast',au,Tryz.results6,aW];have q1:(((1:Nat):Int)==1)=true:=rfl;have q2:(Ve.z.res==0)=true:=rfl;refine ag (vm ?_);simp only[wq.1,seval,-Int.reduceNatCast,-Int.reduceNatCast',au,Tryz.results6,Uh,Ri,uU,JK,q1,q2];refine⟨by decide,by decide,by decide,by decide,by decide,?_⟩;refine ah.ev e10 (by simp only[V.dats,V.dat,(gV lQP).1,zre]) ?_;simp only[wq.1,seval];refine ah.ev e11 (by simp only[V.dats,V.dat,(gV lQP).1,(gV [[([114],true)]]).1,zre]) ?_;simp only[wq.1,seval];refine vm ?_;simp only[wq.1,↓reduceIte];exact az.dat rfl
def Gr.few (g:Gr):Bool:=(decide (g.ins≤100)||decide (4000<g.ins))&&(decide ((g.next.length:Int)≤40)&&(decide ((g.init.length:Int)≤40)&&(decide ((g.ands.length:Int)≤60)&&decide ((g.outs.length:Int)≤60))))
theorem QE (g:Gr):Ev TE 23 [g.v] (.bool g.few):=by
 unfold Gr.few Gr.v;refine ak Tryz.func23 rfl (by simp[nts]) (vm ?_);cases h1:decide (g.ins≤100)with
 | true =>
  cases h3:decide ((g.next.length:Int)≤40)with
  | false =>
   simp only[wq.1,seval,Tryz.results23,h1,h3]
   repeat(refine⟨.bool true,?_⟩;simp only[wq.1,seval,au,Tryz.results23,h1,h3])
   exact az.dat rfl
  | true =>
   cases h4:decide ((g.init.length:Int)≤40)with
   | false =>
    simp only[wq.1,seval,Tryz.results23,h1,h3,h4]
    repeat(refine⟨.bool true,?_⟩;simp only[wq.1,seval,au,Tryz.results23,h1,h3,h4])
    exact az.dat rfl
   | true =>
    cases h5:decide ((g.ands.length:Int)≤60)with
    | false =>
     simp only[wq.1,seval,Tryz.results23,h1,h3,h4,h5]
     repeat(refine⟨.bool true,?_⟩;simp only[wq.1,seval,au,Tryz.results23,h1,h3,h4,h5])
     exact az.dat rfl
    | true =>
     cases h6:decide ((g.outs.length:Int)≤60)with
     | false =>
      simp only[wq.1,seval,Tryz.results23,h1,h3,h4,h5,h6]
      repeat(refine⟨.bool true,?_⟩;simp only[wq.1,seval,au,Tryz.results23,h1,h3,h4,h5,h6])
      exact az.dat rfl
     | true =>
      simp only[wq.1,seval,Tryz.results23,h1,h3,h4,h5,h6]
      repeat(refine⟨.bool true,?_⟩;simp only[wq.1,seval,au,Tryz.results23,h1,h3,h4,h5,h6])
      exact az.dat rfl
 | false =>
  cases h2:decide (4000<g.ins)with
  | false =>
   simp only[wq.1,seval,Tryz.results23,h1,h2]
   repeat(refine⟨.bool true,?_⟩;simp only[wq.1,seval,au,Tryz.results23,h1,h2])
   exact az.dat rfl
  | true =>
   cases h3:decide ((g.next.length:Int)≤40)with
   | false =>
    simp only[wq.1,seval,Tryz.results23,h1,h2,h3]
    repeat(refine⟨.bool true,?_⟩;simp only[wq.1,seval,au,Tryz.results23,h1,h2,h3])
    exact az.dat rfl
   | true =>
    cases h4:decide ((g.init.length:Int)≤40)with
    | false =>
     simp only[wq.1,seval,Tryz.results23,h1,h2,h3,h4]
     repeat(refine⟨.bool true,?_⟩;simp only[wq.1,seval,au,Tryz.results23,h1,h2,h3,h4])
     exact az.dat rfl
    | true =>
     cases h5:decide ((g.ands.length:Int)≤60)with
     | false =>
      simp only[wq.1,seval,Tryz.results23,h1,h2,h3,h4,h5]
      repeat(refine⟨.bool true,?_⟩;simp only[wq.1,seval,au,Tryz.results23,h1,h2,h3,h4,h5])
      exact az.dat rfl
     | true =>
      cases h6:decide ((g.outs.length:Int)≤60)with
      | false =>
       simp only[wq.1,seval,Tryz.results23,h1,h2,h3,h4,h5,h6]
       repeat(refine⟨.bool true,?_⟩;simp only[wq.1,seval,au,Tryz.results23,h1,h2,h3,h4,h5,h6])
       exact az.dat rfl
      | true =>
       simp only[wq.1,seval,Tryz.results23,h1,h2,h3,h4,h5,h6]
       repeat(refine⟨.bool true,?_⟩;simp only[wq.1,seval,au,Tryz.results23,h1,h2,h3,h4,h5,h6])
       exact az.dat rfl
def Mo.few (m:Mo):Bool:=m.g.few&&(IX 40 m.ins&&(IX 40 m.lat&&IX 60 m.out))
theorem QF (m:Mo):Ev TE 7 [m.v] (.bool m.few):=by
 have h09:=QE m.g;unfold Mo.few Mo.v;unfold Gr.v at h09;refine ak Tryz.func7 rfl (by simp[nts]) (vm ?_);simp only[wq.1,seval,Tryz.results7];refine ah.ev h09 rfl ?_;simp only[wq.1,seval];refine ah.ev (wI m.ins 40) rfl ?_;simp only[wq.1,seval];refine ah.ev (wI m.lat 40) rfl ?_;simp only[wq.1,seval];refine ah.ev (wI m.out 60) rfl ?_;cases m.g.few<;>cases IX 40 m.ins<;>cases IX 40 m.lat<;>cases IX 60 m.out
 all_goals
  simp only[wq.1,seval]
  repeat(refine⟨.bool true,?_⟩;simp only[wq.1,seval,au,Tryz.results7])
  exact az.dat rfl
theorem Wp {m:Mo} (h:m.few=true):m.g.Sm∧m.lat.length≤40∧m.g.next.length≤4000∧m.g.init.length≤4000∧m.g.ands.length≤4000∧m.g.outs.length≤4000∧m.ins.length≤4000∧m.lat.length≤4000∧m.out.length≤4000:=by simp only[Mo.few,Gr.few,IX,zqf,zqb]at h;obtain⟨⟨h1,h2,h3,h4,h5⟩,⟨h6,_⟩,⟨h7,_⟩,⟨h8,_⟩⟩:=h;exact⟨⟨by omega,by omega⟩,by omega,by omega,by omega,by omega,by omega,by omega,by omega,by omega⟩
abbrev rwI (l:List (List Bool)):V:= .is false 1 (l.map fun r=>aY r)
def rG (r:List Bool):Bool:=decide (r.length≤60)
def Ff (l:List (List Bool)) (n:Nat):Bool:=(l.take (n+1)).all rG&&decide (l.length≤n)
theorem QG {l:List (List Bool)} {n:Nat} (h:Ff l n=true):l.length≤n∧∀r∈l,r.length≤60:=by simp only[Ff,zqf,zqb]at h;refine⟨h.2,fun r hr=> ?_⟩;rw[zqh (by omega)]at h;have:=zrs.1 h.1 r hr;simpa [rG]using this
theorem Wq {l:List (List Bool)} {i:Nat} (h:i<l.length) (d:V):(l.map fun r=>aY r).getD i d=aY l[i]:=by rw[zqg,zqo,zqk h];rfl
theorem Oc (l:List (List Bool)) (n:Nat) (hn:n≤1000):Ev TE 19 [rwI l,vi n] (.bool (Ff l n)):=by
 have hM:maxLen=9223372036854775807:=rfl;refine ak Tryz.func19 rfl (by simp[nts]) ?_;refine ag (vm ?_);simp only[wq.1,Nat.reduceLT,Tryz.results19];refine ag ?_;refine ag (vm ?_);simp only[wq.1,Nat.reduceLT];refine aG ?_;refine aC (fun q f h=>∃i,q+i=n+2∧i≤n+1∧i≤l.length∧f.t 0=rwI l∧f.t 1=vi n∧f.t 5=vi i∧f.d=[]∧(∀c∈l.take i,rG c=true)) (n+2) ⟨0,by omega,by omega,by omega,by simp only[wq.1,seval],by simp only[wq.1,seval],by simp only[wq.1,↓reduceIte];rfl,by simp only[wq.1],by simp⟩ ?_;rintro q f h ⟨i,hq,hin,hil,t0,t1,t5,hd,hall⟩;by_cases hlt:i<l.length∧i≤n
 ·obtain ⟨hlt,hle⟩ := hlt;have d1 : decide ((i : Int) < (l.length : Int)) = true := by rw [zqb];omega
  have d2:decide ((i:Int)≤(n:Int))=true:=by rw[zqb];omega
  have hw:=aA (show i<maxLen by omega);have hgl:=Wq hlt .any;have hsu:rG l[i]=true→∀c∈l.take (i+1),rG c=true:=fun h=>bF (P:=fun c=>rG c=true) hlt hall h;have hno:rG l[i]=false→Ff l n=false:=fun h=>by unfold Ff;rw[Bool.and_eq_false_iff,List.all_eq_false];exact .inl ⟨l[i],List.mem_take_iff_getElem.2 ⟨i,by omega,rfl⟩,by rw[h];simp⟩
  obtain⟨c,hce⟩:∃c,c=l[i]:=⟨_,rfl⟩;rw[←hce]at hgl hsu hno;refine ag ?_;refine ag (vm ?_);simp only[wq.1,seval,t0,t1,t5,d1,d2];refine vm ?_;simp only[wq.1,↓reduceIte];show awp _ _ _ _ _ _ _;refine ag (aG ?_);cases d5:decide (60<(c.length:Int))with
  | true=>rw[hno (by unfold rG;simp only[zqb]at d5;rw[zqd];omega)];refine vm ?_;simp only[wq.1,seval,t0,t5,hd,hgl,d5];exact⟨⟨by omega,by omega⟩,az.dat rfl⟩
  | false=>refine vm ?_;simp only[wq.1,seval,t0,t5,hgl,d5];refine⟨⟨by omega,by omega⟩,?_⟩;refine vm ?_;simp only[wq.1,seval,t5,hw];exact .inl ⟨q-1,by omega,i+1,by omega,by omega,by omega,by simp only[wq.1,seval,t0],by simp only[wq.1,seval,t1],by simp only[wq.1,↓reduceIte],by simp only[wq.1,hd],hsu (by unfold rG;simp only[zqd]at d5;rw[zqb];omega)⟩
 ·have hb:(decide ((i:Int)<(l.length:Int))=false)∨(decide ((i:Int)<(l.length:Int))=true∧decide ((i:Int)≤(n:Int))=false):=by
   by_cases h:i<l.length
   ·exact .inr ⟨by rw[zqb];omega,by rw[zqd];omega⟩
   ·exact .inl (by rw[zqd];omega)
  have hv:Ff l n=decide ((l.length:Int)≤(n:Int)):=by
   unfold Ff;by_cases h:i<l.length
   ·have e : i = n + 1 := by omega
    rw[e]at hall;rw[zrs.2 hall,Bool.true_and];exact decide_eq_decide.2 (by omega)
   ·rw[zqh (by omega)]at hall;rw[zrs.2 fun c hc=>hall c (List.mem_of_mem_take hc),Bool.true_and];exact decide_eq_decide.2 (by omega)
  rw[hv];rcases hb with d1 | ⟨d1,d2⟩
  ·refine ag ?_;refine ag (vm ?_);simp only[wq.1,seval,t0,t1,t5,d1];refine vm ?_;simp only[wq.1,↓reduceIte];show awp _ _ _ _ _ _ _;refine vm ?_;simp only[wq.1,seval,t0,t1,hd];exact az.dat rfl
  ·refine ag ?_;refine ag (vm ?_);simp only[wq.1,seval,t0,t1,t5,d1,d2];refine vm ?_;simp only[wq.1,↓reduceIte];show awp _ _ _ _ _ _ _;refine vm ?_;simp only[wq.1,seval,t0,t1,hd];exact az.dat rfl
end Go.Proofs.YtmlacppmbfbjgaaGreatDoor
