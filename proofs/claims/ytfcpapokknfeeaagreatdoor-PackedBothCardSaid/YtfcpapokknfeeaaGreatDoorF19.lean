/- Lemmas for this claim, part F19: each holds under what it names. -/
import Derived.Test.YtfcpapokknfeeaaGreatDoorF18
import Derived.Test.YtfcpapokknfeeaaGreatDoorF07
import Derived.Test.YtfcpapokknfeeaaGreatDoorF15
import Derived.Test.YtfcpapokknfeeaaGreatDoorA10
set_option linter.unusedVariables false
set_option linter.unusedSimpArgs false
set_option linter.unnecessarySimpa false
set_option maxRecDepth 20000
set_option maxHeartbeats 8000000
namespace Go.Proofs.YtfcpapokknfeeaaGreatDoor
open Go Go.Proofs Go.Abs
theorem WV {g : Gr} (hg : g.chk ≠ 0) (hs : g.Sm) : Ev TE 40 [g.v] (.tup [(⟨0,[],[],[],[]⟩ : Gr).v,vi g.chk]) := by
 have hck := oG g hs;have dg : V.dats [g.v] = true := by simp only [Gr.v,V.dats,V.dat,Bool.and_self]
 unfold Gr.v at hck dg ⊢;refine aA Tryz.func40 rfl (by simp [nts]) (vm ?_);simp only [wq.1,seval,Tryz.results40];refine ah.ev hck dg ?_;simp only [wq.1,seval,show (g.chk != 0) = true by simpa using hg];exact aC.tup (aB.cons (aC.agg (aB.cons (aC.dat rfl) (aB.cons aC.nils (aB.cons aC.nils (aB.cons aC.nils (aB.cons aC.nils aB.nil)))))) (aB.dat rfl))
theorem sZ {g : Gr} {i : Nat} : jg g (i + 1) = jg g i ++ H7 g i := by unfold jg;rw [ja]
theorem Lt {g : Gr} {i : Nat} : H7 g i ≠ [] := by intro h;have := congrArg List.length h;unfold H7 at this;rw [List.length_append,List.length_nil] at this;have := H6 (2 * (g.first + (i : Int)) - (g.ands.getD i (0,0)).1).toNat;omega
theorem xI {g : Gr} (hg : GP g) : ∀ i,i ≤ g.ands.length → (jg g i).length ≤ 4 * i
 | 0,_ => by simp [jg]
 | i + 1,h => by rw [sZ,List.length_append];have := xI hg i (by omega);have := uM hg (i := i) (by omega);omega
def InD (g : Gr) (L : (Nat → V) → LoopState → Option Code → O) (i : Nat) (h : H) (k : Nat → Bool) : Prop :=
 (∀ j,j < 4 → k j = false) ∧ ∃ t Y,t 5 = .lp 1 0 ∧ (∀ o ∈ Y,∀ p,O.drop p o = o) ∧
  ((i = 0 ∧ h = [.cells [vi g.ins,aH g.next,aH g.init,prs g.ands,aH g.outs],.typed 57 [.nilp,.nils],.misc .dfd,L t .ready none] ++ Y) ∨
   (0 < i ∧ ∃ b,Y[b]? = some (.typed 5 ((jg g i).map vb)) ∧ h = [.cells [vi g.ins,aH g.next,aH g.init,prs g.ands,aH g.outs],.typed 57 [.lp 1 0,.ls (b + 4) 1 0 (jg g i).length (jg g i).length],.misc .dfd,L t .ready none] ++ Y))
theorem Lu (g : Gr) (hs : g.Sm) : Ev TE 15 [g.v] (.tup [.str (Uf g).1,vi (Uf g).2]) := by
 have hM : maxLen = 9223372036854775807 := rfl;unfold Uf;have dg : V.dats [g.v] = true := by simp only [Gr.v,V.dats,V.dat,Bool.and_self]
 by_cases hc : g.chk = 0
 ·rw [if_pos hc];have hN := Ed hc;have hx : (fZ g).chk = 0 := eF (eF hc _) _;have hgp := GP.of hx (nV hc);have hd1 := Uw (fZ g);obtain ⟨x,hxe⟩ : ∃ x,x = fZ g := ⟨_,rfl⟩;rw [← hxe] at hN hx hgp hd1 ⊢;have dx : V.dats [x.v] = true := by simp only [Gr.v,V.dats,V.dat,Bool.and_self]
  have hal := xI hgp;have hf1 := hgp.f1;have hf0 := hgp.f0;have i0 := (bf hx).i0;unfold Gr.v at hN hd1 dg dx ⊢;refine aA Tryz.func15 rfl (by simp [nts]) ?_;refine ag (vm ?_);simp only [wq.1,seval,Tryz.results15];refine ag (vm ?_);simp only [wq.1,seval];refine ah.ev hN dg ?_;simp only [wq.1,seval];refine ag (vm ?_);simp only [wq.1,seval];refine ag (fB ?_);refine bW rfl rfl ?_;refine yA (t := 57) (q := ⟨.struct [(0,54),(1,55)],2,32,.agg [.nilp,.nils]⟩) rfl (by simp only [wq.1]) rfl ?_;refine bT ?_;simp only [wq.1];refine ag ?_;refine ag (vm ?_);simp only [wq.1,seval];refine ah.ev hd1 dx ?_;simp only [wq.1];refine az ?_;refine oq (n := 39) (q := 84) (first := []) (captured := [.ip (.agg [vi x.ins,aH x.next,aH x.init,prs x.ands,aH x.outs])]) (by simp only [wq.1,↓reduceIte]) (by simp only [wq.1,↓reduceIte]) rfl (by decide) ?_;intro L hLd gets;refine ah.mono (Ci hgp i0 (id := 3) (I := InD x L) ⟨fun _ _ => rfl,_,[],?_,fun o ho => (by cases ho),.inl ⟨rfl,rfl⟩⟩ ?_) ?_
  ·simp only [wq.1,seval]
  ·rintro i h' k hi hk3 ⟨hk,t,Y,ht,hY,hcase⟩;obtain ⟨q1,q2,q3⟩ := hgp.at_ i hi;have ei : x.ands.getD i (0,0) = x.ands[i] := aG hi;have hli := hal i (by omega);have hli1 := hal (i + 1) (by omega);obtain ⟨d1,hd1'⟩ : ∃ d : Nat,2 * (x.first + (i : Int)) - x.ands[i].1 = d := ⟨_,(Int.toNat_of_nonneg (a := 2 * (x.first + (i : Int)) - x.ands[i].1) (by omega)).symm⟩;obtain ⟨d2,hd2'⟩ : ∃ d : Nat,x.ands[i].1 - x.ands[i].2 = d := ⟨_,(Int.toNat_of_nonneg (a := x.ands[i].1 - x.ands[i].2) (by omega)).symm⟩;have hap : H7 x i = grp d1 ++ grp d2 := by unfold H7;rw [ei,hd1',hd2',Int.toNat_natCast,Int.toNat_natCast]
   have hne : grp d1 ++ grp d2 ≠ [] := by rw [← hap];exact Lt
   have hD1 := uJ (d1 : Int);have hD2 := uJ (d2 : Int);rw [show rD (d1 : Int) = (grp d1,0) by unfold rD oV;rw [if_pos (by simp;omega),Int.toNat_natCast]] at hD1;rw [show rD (d2 : Int) = (grp d2,0) by unfold rD oV;rw [if_pos (by simp;omega),Int.toNat_natCast]] at hD2;have hs2 := sZ (g := x) (i := i);rw [hap] at hs2;rw [hd1',hd2'];obtain ⟨pr,hpr,hprd⟩ : ∃ pr : O,pr = .cells [vi x.ands[i].1,vi x.ands[i].2] ∧ ∀ p,O.drop p pr = pr := ⟨_,rfl,fun p => rfl⟩;rw [← hpr];have hY' : ∀ o ∈ Y ++ [pr],∀ p,O.drop p o = o := fun o ho p => by
    rcases List.mem_append.1 ho with h | h
    ·exact hY o h p
    ·rw [List.mem_singleton] at h;rw [h];exact hprd p
   rcases hcase with ⟨rfl,rfl⟩ | ⟨hpos,b,hb,rfl⟩
   ·rw [List.append_assoc];refine gets _ _ _ t rfl rfl (fun lb => ?_);refine vm ?_;simp only [wq.1,seval,vC];refine ⟨t,rfl,?_⟩;refine az ?_;refine ag (vm ?_);simp only [wq.1,seval];refine ah.ev hD1 rfl ?_;simp only [wq.1,seval];refine ag (vm ?_);simp only [wq.1,seval];refine ah.ev hD2 rfl ?_;simp only [wq.1,seval];refine vm ?_;simp only [wq.1,seval,ht];have hlen : (grp d1 ++ grp d2).length ≤ 20000 := by
     have := uM hgp hi;rw [← hap];omega
    refine ⟨by rw [List.length_append] at hlen;omega,qM oI (id := 1) (a := .nilp) (grp d1 ++ grp d2) (.inl rfl) rfl hne (by omega) ?_⟩;simp only [wq.1,↓reduceIte,tK,XE.block,XE.jump,Option.isNone_none];refine ⟨t,_,rfl,hk,t,Y ++ [pr] ++ [.typed 5 ((jg x 1).map vb)],ht,fun o ho p => ?_,.inr ⟨by decide,Y.length + 1,?_,?_⟩⟩
    ·rcases List.mem_append.1 ho with h | h
     ·exact hY' o h p
     ·rw [List.mem_singleton] at h;rw [h];simp only [O.drop,kC]
    ·rw [show Y.length + 1 = (Y ++ [pr]).length by simp,List.getElem?_append_right (Nat.le_refl _),Nat.sub_self];try rfl
    ·have e0 : jg x 1 = grp d1 ++ grp d2 := hs2;rw [e0];simp only [List.length_append,List.map_append,List.cons_append,List.nil_append]
   ·rw [List.append_assoc];refine gets _ _ _ t rfl rfl (fun lb => ?_);refine vm ?_;simp only [wq.1,seval,vC];refine ⟨t,rfl,?_⟩;refine az ?_;refine ag (vm ?_);simp only [wq.1,seval];refine ah.ev hD1 rfl ?_;simp only [wq.1,seval];refine ag (vm ?_);simp only [wq.1,seval];refine ah.ev hD2 rfl ?_;simp only [wq.1,seval];refine vm ?_;simp only [wq.1,seval,ht];have hlen : (grp d1 ++ grp d2).length ≤ 20000 := by
     have := uM hgp hi;rw [← hap];omega
    have hbl : b < Y.length := (List.getElem?_eq_some_iff.1 hb).1;have hbq : (O.cells [vi x.ins,aH x.next,aH x.init,prs x.ands,aH x.outs] :: O.typed 57 [V.lp 1 0,V.ls (b + 4) 1 0 (jg x i).length (jg x i).length] :: O.misc Misc.dfd :: L t LoopState.busy none :: (Y ++ [pr]) : H)[b + 4]? = some (.typed 5 ((jg x i).map vb)) := by show (Y ++ [pr])[b]? = _;rw [List.getElem?_append_left hbl];exact hb
    refine ⟨by rw [List.length_append] at hlen;omega,uB oI (id := 1) (bid := b + 4) (a := .lp 1 0) (jg x i) (grp d1 ++ grp d2) (.inr rfl) (by omega) rfl hbq (by omega) ?_⟩;simp only [wq.1,↓reduceIte,bg,tK,XE.block,XE.jump,Option.isNone_none];have h3b : (3 == b + 4) = false := by simp
    have hmY : Y.map (O.drop fun j => j == b + 4) = Y := by
     conv => rhs;rw [← List.map_id Y]
     exact List.map_congr_left fun o ho => hY o ho _
    refine ⟨h3b,fun j => (t j).drop (fun j => j == b + 4),_,by rw [hLd],fun j hj => ?_,fun j => (t j).drop (fun j => j == b + 4),(Y ++ [pr]).set b (.typed 5 ((jg x (i + 1)).map vb)),?_,fun o ho p => ?_,.inr ⟨by omega,b,?_,?_⟩⟩
    ·show (k j || j == b + 4) = false;rw [hk j hj];simp;omega
    ·show V.drop (fun j => j == b + 4) (t 5) = _;rw [ht];simp [V.drop]
    ·rcases List.mem_or_eq_of_mem_set ho with h | h
     ·exact hY' o h p
     ·rw [h];simp only [O.drop,kC]
    ·rw [List.getElem?_set_self (by simp;omega)]
    ·rw [hmY,hprd,hs2];simp only [List.length_append,List.map_append,List.cons_append,List.nil_append]
  ·rintro ae h' p ⟨hp3,⟨w,rfl⟩,hk,t,Y,ht,hY,hcase⟩;have k0 := hk 0 (by decide);have k1 := hk 1 (by decide);have k2 := hk 2 (by decide);have k3 := hk 3 (by decide);have hfin : h'[3]? = some (L t .ready none) := by
    rcases hcase with ⟨_,rfl⟩ | ⟨_,b,_,rfl⟩ <;> rfl
   refine ⟨?_,k3,t,_,none,(by decide),hfin,?_⟩
   ·intro i hi;have hi : i = 2 := by
     rcases List.mem_cons.1 hi with h | h
     ·exact h
     ·cases h
    subst hi;exact k2
   ·simp only [wq.1,Nat.reduceAdd,L8];generalize hFF : Fr.drop _ _ = FF;have u5 : FF.t 5 = .lp 1 0 := by rw [← hFF];show V.drop p (.lp 1 0) = _;simp [V.drop,k1]
    have ud : FF.d = [2] := by rw [← hFF];rfl
    clear hFF;rcases hcase with ⟨h0,rfl⟩ | ⟨hpos,b,hb,rfl⟩
    ·refine ag (vm ?_);simp only [wq.1,Nat.reduceLT,u5];refine KY (T := 57) (a := .nilp) rfl ?_;simp only [wq.1,seval];refine vm ?_;simp only [wq.1,seval,ud,jD];rw [show jg x x.ands.length = [] by rw [h0];rfl];exact aC.dat rfl
    ·refine ag (vm ?_);simp only [wq.1,seval,-Int.reduceNatCast,-Int.reduceNatCast',ak,Tryz.results15,u5,ud];have hbl : b < Y.length := (List.getElem?_eq_some_iff.1 hb).1;refine Bi (id := 1) (bid := b + 4) (a := .lp 1 0) (jg x x.ands.length) rfl (by show Y[b]? = _;exact hb) (fun h => ?_) (by have := hal x.ands.length (Nat.le_refl _);omega) ?_
     ·obtain ⟨n,hn⟩ : ∃ n,x.ands.length = n + 1 := ⟨x.ands.length - 1,by omega⟩;rw [hn,sZ,List.append_eq_nil_iff] at h;exact Lt h.2
     ·simp only [wq.1,↓reduceIte,Nat.reduceEqDiff,Nat.reduceLT,Nat.reduceLeDiff,Nat.reduceAdd,Nat.reduceSub,Int.reduceToNat,Nat.reduceDiv,Int.reduceLT,Int.reduceLE,Int.reduceNeg,Int.reduceBEq,Int.reduceBNe,Int.reduceAdd,Int.reduceSub,Nat.reduceBEq,reduceCtorEq,Nat.reduceMul,ak,Tryz.results15,bg,u5,ud];refine ⟨by simp,?_⟩;refine vm ?_;simp only [wq.1,seval,ud,jD];exact aC.dat rfl
 ·rw [if_neg hc];have hN := WV hc hs;have hne : (g.chk != 0) = true := by simpa using hc
  unfold Gr.v at hN dg ⊢;refine aA Tryz.func15 rfl (by simp [nts]) ?_;refine ag (vm ?_);simp only [wq.1,seval,Tryz.results15];refine ag (vm ?_);simp only [wq.1,seval];refine ah.ev hN dg ?_;simp only [wq.1,seval];refine ag (vm ?_);simp only [wq.1,seval,hne];exact aC.dat rfl
abbrev hB (m : Mo) (out : S) (X : H) : H := mbO m :: gbO m.g :: .typed 57 [.lp 2 0,.ls 3 1 0 out.length out.length] :: .typed 5 (out.map vb) :: X
theorem LC {m : Mo} {out s : S} {X : H} (hX : NI X) (hs : s ≠ []) (hl : out.length + s.length ≤ 20000000000000) {R : AEnd → H → (Nat → Bool) → Prop} (hr : R (.ret (.tup [vi s.length,.nili])) (hB m (out ++ s) X) (· == 3)) : ah TE 27 [.lp 2 0,.str s] (hB m out X) R := by
 refine uB oI out s (.inr rfl) (by decide) rfl rfl hl ?_;have hm : X.map (O.drop fun j => j == 3) = X := by
  conv => rhs;rw [← List.map_id X]
  exact List.map_congr_left fun o ho => hX o ho _
 have e : (((hB m out X).map (O.drop (· == 3))).set 3 (O.typed 5 ((out ++ s).map vb))).set 2 (.typed 57 [.lp 2 0,.ls 3 1 0 (out ++ s).length (out ++ s).length]) = hB m (out ++ s) X := by show mbO m :: gbO m.g :: _ :: _ :: X.map (O.drop fun j => j == 3) = _;rw [hm]
 rw [e];exact hr
theorem Uy {h : H} {id : Nat} {cs ex : List V} {L : Cl} (hc : h[id]? = some (.cells cs)) (hx : cs = L.map vi ++ ex) {len cap : Nat} (hl : len = L.length := by rfl) : aC TE h (.ls id 1 0 len cap) (aH L) :=
 Be (cs := L.map vi) (ex := ex) (by rw [hc,hx]) (aB.dat (su L)) (Pv L) (Gw L) (by simpa using hl)
def LD : Plan := .take 1 <| .alt 0 (.alt 2 (.one 3 <| .one 4 <| .one 5 <| .take 6 <| .take 7 <| .fin) (.one 3 (.alt 2 (.one 4 <| .one 5 <| .take 6 <| .take 7 <| .fin) (.one 4 (.one 2 <| .one 5 <| .take 6 <| .take 7 <| .fin))))) (.one 3 (.one 0 <| .alt 2 (.one 4 <| .one 5 <| .take 6 <| .take 7 <| .fin) (.one 4 (.one 2 <| .one 5 <| .take 6 <| .take 7 <| .fin))))
def tP1 (g : Gr) : S := [97,105,103,32] ++ lnT (cu g)
def tPL (g : Gr) (i : Nat) : S := tP1 g ++ Cc g i
def tPO (g : Gr) (i : Nat) : S := tPL g g.next.length ++ oZ g.outs i
theorem WW (g : Gr) (i : Nat) : tPL g (i + 1) = tPL g i ++ lnT (FN g i) := by unfold tPL Cc;rw [ja,List.append_assoc]
theorem WX (g : Gr) (i : Nat) : tPO g (i + 1) = tPO g i ++ lnT [g.outs.getD i 0] := by unfold tPO oZ;rw [ja,List.append_assoc]
theorem XP (l : Cl) : lnT l ≠ [] := by
 cases l with
 | nil => simp [lnT]
 | cons n l => intro h;obtain ⟨c,r,hc,_⟩ := Qp l;have : Lib.itoa n ++ lnG l = [] := h;rw [hc] at this;simp at this
theorem Uz {g : Gr} (s : GSm g) {i : Nat} (h : i < g.next.length) : (∀ n ∈ FN g i,0 ≤ n ∧ n ≤ 2147483647) ∧ (FN g i).length ≤ 2 ∧ FN g i ≠ [] := by obtain ⟨h1,h2⟩ := s.la h;have e : Nk g i = 2 * (1 + g.ins + (i : Int)) :: FN g i := rfl;rw [e] at h1 h2;rw [List.length_cons] at h2;exact ⟨fun n hn => h1 n (List.mem_cons_of_mem _ hn),by omega,by unfold FN;simp⟩
theorem zaV {g : Gr} (s : GSm g) : (tP1 g).length ≤ 100 ∧ (∀ i,i ≤ g.next.length → (tPL g i).length ≤ 100000 + 23 * i) ∧ ∀ i,i ≤ g.outs.length → (tPO g i).length ≤ 300000 + 12 * i := by
 have i2 := s.i2;have i3 := s.i3;have i0 := s.i0;have h1 : (tP1 g).length ≤ 100 := by have := gz s.head;have h5 : (cu g).length = 5 := rfl;unfold tP1;rw [List.length_append];show 4 + _ ≤ _;omega
 have h2 : ∀ i,i ≤ g.next.length → (tPL g i).length ≤ 100000 + 23 * i := fun i hi => by
  have := jR (f := fun i : Nat => lnT (FN g i)) (c := 23) (n := g.next.length) (fun i hi => by
   obtain ⟨a1,a2,_⟩ := Uz s hi;have := gz a1;omega) i hi
  unfold tPL Cc;rw [List.length_append];omega
 refine ⟨h1,h2,fun i hi => ?_⟩;have h3 := jR (f := fun i : Nat => lnT [g.outs.getD i 0]) (c := 12) (n := g.outs.length) (fun i hi => gz (s.o1 hi)) i hi;have h4 := h2 g.next.length (Nat.le_refl _)
 unfold tPO oZ;rw [List.length_append];omega
theorem FW (m : Mo) (hs : m.g.Sm) : Ev TE 13 [m.v] (.tup [.str (FO m).1,vi (FO m).2]) := by
 have hM : maxLen = 9223372036854775807 := rfl;have hn := yJ m hs;have dm : V.dats [m.v] = true := by simp only [Mo.v,V.dats,V.dat,Bool.and_self]
 unfold Qd at hn;unfold FO;by_cases hc : m.chk = 0
 ·rw [if_pos hc] at hn ⊢;have hgc := (dP hc).1;have hNc : (fZ m.g).chk = 0 := eF (eF hgc _) _;have gs : GSm (fZ m.g) := GSm.of hNc;have eA := Lu (fZ m.g) (YZ hc);unfold Uf at eA;rw [if_pos hNc,WJ hgc] at eA;obtain ⟨n,hnm⟩ : ∃ n,n = m.norm := ⟨_,rfl⟩;rw [← hnm] at hn ⊢;have hng : fZ m.g = n.g := by rw [hnm];rfl
  rw [hng] at eA gs;have hls : (m.ins.length : Int) = m.g.ins ∧ (m.lat.length : Int) = m.g.next.length ∧ (m.out.length : Int) = m.g.outs.length := by
   simpa [Mo.lens,Bool.or_eq_false_iff,and_assoc] using (dP hc).2.1
  have hnm4 := jd hc;have hok := bf hgc;have ho1 := hok.i0;have ho2 := hok.i2;have ho3 := hok.i3;have hni : n.ins = m.ins ∧ n.lat = m.lat ∧ n.out = m.out := by rw [hnm];exact ⟨rfl,rfl,rfl⟩
  have bl1 : n.ins.length ≤ 10000 := by rw [hni.1];omega
  have bl2 : n.lat.length ≤ 10000 := by rw [hni.2.1];omega
  have bl3 : n.out.length ≤ 10000 := by rw [hni.2.2];omega
  have htl := KZ n bl1 bl2 bl3 (by rw [hni.1,hni.2.1,hni.2.2];exact hnm4);have eT := Ua n (by omega) (by omega) (by omega) (by omega);have g0 := gs.i0;have g2 := gs.i2;have g3 := gs.i3;obtain ⟨L1,L2,L3⟩ := zaV gs;have wf : n.g.first = 1 + n.g.ins + n.g.next.length := rfl
  have eH := Cj (cu n.g) (by simp [cu]) (by simp [cu]) gs.head;have dn : V.dats [n.v] = true := by simp only [Mo.v,V.dats,V.dat,Bool.and_self]
  have dng : V.dats [n.g.v] = true := by simp only [Gr.v,V.dats,V.dat,Bool.and_self]
  unfold Mo.v at hn dm eT dn ⊢;unfold Gr.v at eA dng;refine aA Tryz.func13 rfl (by simp [nts]) ?_;refine ag (vm ?_);simp only [wq.1,seval,Tryz.results13];refine ag (vm ?_);simp only [wq.1,seval];refine ah.ev hn dm ?_;simp only [wq.1,seval];refine ag (vm ?_);simp only [wq.1,seval];refine ag (vm ?_);simp only [wq.1,seval];refine ag (fB ?_);refine bW rfl rfl ?_;refine yA (t := 57) (q := ⟨.struct [(0,54),(1,55)],2,32,.agg [.nilp,.nils]⟩) rfl (by simp only [wq.1]) rfl ?_;refine bT ?_;simp only [wq.1,Nat.reduceAdd];have w1 : IntKind.i64.wrap (n.g.ins + (n.g.next.length : Int)) = n.g.first - 1 := by rw [aZ (by omega) (by omega)];omega
  have w2 : IntKind.i64.wrap (n.g.first - 1 + (n.g.ands.length : Int)) = n.g.first - 1 + (n.g.ands.length : Int) := aZ (by omega) (by omega)
  refine ag (vm ?_);simp only [wq.1,↓reduceIte,Nat.reduceEqDiff,Nat.reduceLT,Nat.reduceLeDiff,Nat.reduceAdd,reduceCtorEq,Nat.reduceMul,w1,w2];refine ⟨⟨rfl,by decide⟩,ah.ev (eH.les (dW.cons iT dW.nil)) rfl ?_⟩;simp only [wq.1,seval];have hP1 : ([97,105,103,32] ++ lnT (cu n.g) : S) = tP1 n.g := rfl;have hP1l : (tP1 n.g).length = 4 + (lnT (cu n.g)).length := by rw [← hP1,List.length_append];rfl
  rw [show (97 :: 105 :: 103 :: 32 :: lnT (cu n.g) : S) = tP1 n.g from rfl];obtain ⟨B1,hB1⟩ : ∃ B1,B1 = tP1 n.g := ⟨_,rfl⟩;rw [← hB1] at hP1l L1 ⊢;refine ⟨by omega,qM oI (id := 2) (a := .nilp) B1 (.inl rfl) rfl (by rw [hB1,← hP1];simp) (by omega) ?_⟩;show aX _ _ _ _ (.ret _) (hB n B1 []) _;simp only [wq.1];generalize hFF : Fr.put _ _ _ = FF;have t1 : FF.t 1 = .lp 0 0 := by rw [← hFF];rfl
  have t5 : FF.t 5 = .lp 1 0 := by rw [← hFF];rfl
  have t6 : FF.t 6 = .lp 2 0 := by rw [← hFF];rfl
  have fd : FF.d = [] := by rw [← hFF];rfl
  clear hFF;refine ag ?_;refine ag ?_;refine vm ?_;simp only [wq.1,seval,t5];refine az ?_;refine aF (fun mm f h' => ∃ (i : Nat) (X : H),mm + i = n.g.next.length ∧ NI X ∧ f.t 1 = .lp 0 0 ∧ f.t 5 = .lp 1 0 ∧ f.t 6 = .lp 2 0 ∧ f.t 50 = aH n.g.next ∧ f.t 51 = vi n.g.next.length ∧ f.t 52 = vi i ∧ f.d = [] ∧ h' = hB n (tPL n.g i) X) n.g.next.length ⟨0,[],by simp,(fun o ho => by cases ho),by simp only [wq.1,seval,t1],by simp only [wq.1,seval,t5],by simp only [wq.1,seval,t6],by simp only [wq.1,seval],by simp only [wq.1,seval],rfl,by simp only [wq.1,fd],by rw [hB1];simp [tPL,Cc]⟩ ?_
  clear t1 t5 t6 fd;rintro mm f h' ⟨i,X,hm,hX,t1,t5,t6,t50,t51,t52,fd,rfl⟩;refine ag (vm ?_);simp only [wq.1,Nat.reduceLT,t51,t52];refine ag (vm ?_);simp only [wq.1,↓reduceIte];refine vcB.mk (fun hlt => ?_) (fun hlt => ?_)
  ·simp only [decide_eq_true_eq,Int.ofNat_lt] at hlt;have hw := ax (show i < maxLen by omega);have hg1 : (n.g.next.map vi).getD i .any = vi n.g.next[i] := xU hlt _
   have hli : i < n.g.init.length := by rw [gs.hil];exact hlt
   have hg2 : (n.g.init.map vi).getD i .any = vi n.g.init[i] := xU hli _;have hib := gs.hin _ (List.getElem_mem hli);have hlb := L2 i (by omega);have wA : IntKind.i64.wrap (1 + n.g.ins) = 1 + n.g.ins := aZ (by omega) (by omega);have wB : IntKind.i64.wrap (1 + n.g.ins + (i : Int)) = 1 + n.g.ins + (i : Int) := aZ (by omega) (by omega);obtain ⟨nx,hnx⟩ : ∃ nx,nx = n.g.next[i] := ⟨_,rfl⟩
   obtain ⟨v,hv⟩ : ∃ v,v = n.g.init[i] := ⟨_,rfl⟩;obtain ⟨lit,hlit⟩ : ∃ lit,lit = 2 * (1 + n.g.ins + (i : Int)) := ⟨_,rfl⟩;have hla : FN n.g i = nx :: (if v = 0 then [] else if v = 1 then [1] else [lit]) := by unfold FN;rw [aG hlt,aG hli,hnx,hv,hlit]
   rw [← hnx] at hg1;rw [← hv] at hg2 hib;have wC : IntKind.i64.wrap (2 * (1 + n.g.ins + (i : Int))) = lit := by rw [hlit];exact aZ (by omega) (by omega)
   obtain ⟨b1,b2,b3⟩ := Uz gs hlt;have hsu := WW n.g i;rw [hla] at b1 hsu;have gX : ∀ a : O,(X ++ [a])[X.length]? = some a := fun a => by simp
   have sX : ∀ a b : O,(X ++ [a]).set X.length b = X ++ [b] := fun a b => by simp
   refine ag (az ?_);refine ag (vm ?_);simp only [wq.1,seval,t50,t52,hg1];refine ⟨⟨by omega,by omega⟩,?_⟩;refine ag (vm ?_);simp only [wq.1,seval,t5,wA,wB,wC,gX,sX];refine ag (bG (Q := fun xe f h => xe = .normal ∧ f.t 1 = .lp 0 0 ∧ f.t 5 = .lp 1 0 ∧ f.t 6 = .lp 2 0 ∧ f.t 7 = vi i ∧ f.t 9 = .lp (X.length + 4) 0 ∧ f.t 50 = aH n.g.next ∧ f.t 51 = vi n.g.next.length ∧ f.t 52 = vi i ∧ f.d = [] ∧ ∃ (c : Int) (L : Cl) (ex : List V),[vi nx,vi c,vi lit] = L.map vi ++ ex ∧ (L.length : Int) = 1 + min v 1 ∧ L = nx :: (if v = 0 then [] else if v = 1 then [1] else [lit]) ∧ h = hB n (tPL n.g i) (X ++ [.cells [vi nx,vi c,vi lit]])) ?_ ?_)
   rotate_left
   ·refine ag (vm ?_);simp only [wq.1,seval,t5,hg2];refine ⟨⟨by omega,by omega⟩,?_⟩;by_cases hv2 : v = 2
    ·refine bQ (b := true) (by simp only [wq.1,↓reduceIte]) (by simp only [wq.1,seval,-Int.reduceNatCast,-Int.reduceNatCast',ak,Tryz.results13,hv2]) (fun _ => ?_) (fun h => by cases h);refine vm ?_;simp only [wq.1,seval,-Int.reduceNatCast,-Int.reduceNatCast',ak,Tryz.results13,t1,t5,t6,t50,t51,t52,fd,gX,sX];exact ⟨by decide,by decide,lit,[nx,lit],[vi lit],rfl,by rw [hv2];rfl,by rw [hv2];rfl,rfl⟩
    ·have hv2' : (v == 2) = false := by simpa using hv2
     refine bQ (b := false) (by simp only [wq.1,↓reduceIte]) (by simp only [wq.1,↓reduceIte,hv2']) (fun h => by cases h) (fun _ => ?_);refine vm ?_;simp only [wq.1,seval];refine ⟨t1,t5,t6,t50,t51,t52,fd,?_⟩;by_cases hv0 : v = 0
     ·exact ⟨1,[nx],[vi 1,vi lit],rfl,by rw [hv0];rfl,by rw [hv0];rfl,rfl⟩
     ·have hv1 : v = 1 := by omega
      exact ⟨1,[nx,1],[vi lit],rfl,by rw [hv1];rfl,by rw [hv1];rfl,rfl⟩
   ·rintro xe f h ⟨rfl,t1,t5,t6,t7,t9,t50,t51,t52,fd,c,L,ex,hex,hLl,hLe,rfl⟩;show awp _ _ _ _ _ _ _;rw [← hLe] at hla b1 hsu;have hm1 : 0 ≤ min v 1 ∧ min v 1 ≤ 1 := by omega
    have wM : IntKind.i64.wrap (1 + min v 1) = (L.length : Int) := by rw [hLl];exact aZ (by omega) (by omega)
    have hLne : L ≠ [] := by rw [hLe];simp
    have hL2 : L.length ≤ 2 := by omega
    have hLn := gz b1;have eL := Cj L hLne (by omega) b1;have hXa : NI (X ++ [O.cells [vi nx,vi c,vi lit]]) := fun o ho p => by
     rcases List.mem_append.1 ho with h | h
     ·exact hX o h p
     ·rw [List.mem_singleton] at h;rw [h];rfl
    have hq : ti TE.P 77 = some ⟨.arr 3 3 (some .i64),3,24,.agg [vi 0,vi 0,vi 0]⟩ := by simp only [wq.1]
    refine fB ?_;refine ay rfl rfl ?_;simp only [wq.1,Nat.reduceLT,t5];refine ay rfl rfl ?_;simp only [wq.1,seval];refine ay rfl rfl ?_;simp only [wq.1,seval,t7];refine ay rfl rfl ?_;simp only [wq.1,seval];refine ⟨⟨by omega,by omega⟩,?_⟩;refine ay rfl rfl ?_;simp only [wq.1,↓reduceIte,hg2];refine ay rfl rfl ?_;simp only [wq.1,↓reduceIte,mn];refine ay rfl rfl ?_;simp only [wq.1,↓reduceIte,wM];have hre : ti TE.P 3 = some ⟨.int .i64,1,8,vi 0⟩ := by simp only [wq.1]
    have hget : (hB n (tPL n.g i) (X ++ [O.cells [vi nx,vi c,vi lit]]))[X.length + 4]? = some (.cells [vi nx,vi c,vi lit]) := gX _;refine bW rfl rfl ?_;refine xR (t := 77) rfl hq rfl hre (by simp only [wq.1,seval,t9]) (id := X.length + 4) (off := 0) (by simp only [wq.1,seval,t9]) hget (by show 0 + 3 * 1 ≤ 3;decide) (by decide) (a := L.length) (b := 2) (by simp only [wq.1,↓reduceIte]) (by simp only [wq.1,↓reduceIte]) (by simp only [wq.1]) (by simp only [wq.1];rfl) hL2 (by decide) ?_;refine ay rfl rfl ?_;simp only [wq.1,↓reduceIte];refine ah.lend eL (aB.cons (Uy hget hex) aB.nil) rfl ?_;simp only [wq.1];refine ay rfl rfl ?_;simp only [wq.1,seval,t6];refine LC (m := n) (out := tPL n.g i) hXa (XP L) (by omega) ?_;rw [← hsu];simp only [wq.1,bg,fd];refine bT ?_;simp only [XE.block,XE.seq];refine vm ?_;simp only [wq.1,seval,t52,hw];exact .inl ⟨mm - 1,by omega,i + 1,_,by omega,hXa,by simp only [wq.1,seval,t1],by simp only [wq.1,seval,t5],by simp only [wq.1,seval,t6],by simp only [wq.1,seval,t50],by simp only [wq.1,seval,t51],rfl,by simp only [wq.1,fd],rfl⟩
  ·simp only [decide_eq_false_iff_not,Int.ofNat_lt] at hlt;have hi : i = n.g.next.length := by omega
   subst hi;simp only [wq.1];refine ag ?_;refine ag ?_;refine vm ?_;simp only [wq.1,seval,t5];refine az ?_;refine aF (fun mm f h' => ∃ (i : Nat),mm + i = n.g.outs.length ∧ f.t 1 = .lp 0 0 ∧ f.t 5 = .lp 1 0 ∧ f.t 6 = .lp 2 0 ∧ f.t 86 = aH n.g.outs ∧ f.t 87 = vi n.g.outs.length ∧ f.t 88 = vi i ∧ f.d = [] ∧ h' = hB n (tPO n.g i) X) n.g.outs.length ⟨0,by simp,by simp only [wq.1,seval,t1],by simp only [wq.1,seval,t5],by simp only [wq.1,seval,t6],by simp only [wq.1,seval],by simp only [wq.1,seval],rfl,by simp only [wq.1,fd],by simp [tPO,oZ]⟩ ?_;clear t1 t5 t6 t50 t51 t52 fd hm hlt;rintro mm f h' ⟨i,hm,t1,t5,t6,t86,t87,t88,fd,rfl⟩;refine ag (vm ?_);simp only [wq.1,Nat.reduceLT,t87,t88];refine ag (vm ?_);simp only [wq.1,↓reduceIte];refine vcB.mk (fun hlt => ?_) (fun hlt => ?_)
   ·simp only [decide_eq_true_eq,Int.ofNat_lt] at hlt;have hw := ax (show i < maxLen by omega);have hg1 : (n.g.outs.map vi).getD i .any = vi n.g.outs[i] := xU hlt _;have b1 := gs.o1 hlt;have hsu := WX n.g i;rw [aG hlt] at b1 hsu;have eL := Cj [n.g.outs[i]] (by simp) (by simp) b1;have hLn := gz b1;have hlb := L3 i (by omega);refine ag (az ?_);refine ag (vm ?_);simp only [wq.1,↓reduceIte,Nat.reduceEqDiff,Nat.reduceLT,t86,t88,hg1];refine ⟨⟨by omega,by omega⟩,?_⟩;refine vm ?_;simp only [wq.1,↓reduceIte,Nat.reduceLT,reduceCtorEq,Nat.reduceMul];refine ⟨⟨rfl,by decide⟩,ah.ev (eL.les (dW.cons iT dW.nil)) rfl ?_⟩;simp only [wq.1,seval,t6];refine LC (m := n) (out := tPO n.g i) hX (XP _) (by simp only [List.length_singleton] at hLn;omega) ?_;rw [← hsu];simp only [wq.1,bg,fd];refine vm ?_;simp only [wq.1,seval,t88,hw];exact .inl ⟨mm - 1,by omega,i + 1,by omega,by simp only [wq.1,seval,t1],by simp only [wq.1,seval,t5],by simp only [wq.1,seval,t6],by simp only [wq.1,seval,t86],by simp only [wq.1,seval,t87],rfl,by simp only [wq.1,fd],rfl⟩
   ·simp only [decide_eq_false_iff_not,Int.ofNat_lt] at hlt;have hi : i = n.g.outs.length := by omega
    subst hi;have hlb := L3 n.g.outs.length (Nat.le_refl _);simp only [wq.1];refine ag (vm ?_);simp only [wq.1,seval,t5];refine ah.ev eA dng ?_;simp only [wq.1,seval];refine ag ?_;have hal := xI (GP.of (by rw [← hng];exact hNc) (by rw [← hng];exact nV hgc)) n.g.ands.length (Nat.le_refl _);have hTt : ([97,105,103,32] ++ (lnT (cu n.g) ++ (Cc n.g n.g.next.length ++ (oZ n.g.outs n.g.outs.length ++ jg n.g n.g.ands.length))) ++ mr n : S) = tPO n.g n.g.outs.length ++ jg n.g n.g.ands.length ++ mr n := by simp only [tPO,tPL,tP1,List.append_assoc]
    have hpk : rE n = tPO n.g n.g.outs.length ++ jg n.g n.g.ands.length ++ mr n := hTt;have hXm : X.map (O.drop fun j => j == 3) = X := by
     conv => rhs;rw [← List.map_id X]
     exact List.map_congr_left fun o ho => hX o ho _
    refine bu mixed LD (fun f' h' => f'.t 2 = .str (rE n) ∧ f'.t 3 = vi 0 ∧ f'.d = []) (by decide +kernel) (by decide +kernel) ?_ ?_
    ·have hPn : tPO n.g n.g.outs.length ≠ [] := by simp [tPO,tPL,tP1]
     simp only [wq.1,seval,LD,t1,t6]
     repeat' apply And.intro
     all_goals repeat' first
      | (refine Bi (id := 2) (bid := 3) (a := .lp 2 0) (tPO n.g n.g.outs.length) rfl rfl hPn (by omega) ?_
         simp only [wq.1,seval,bg,hXm,t1,fd])
      | (refine ah.ev eT dn ?_
         simp only [wq.1,seval,fd])
      | refine And.intro ?_ ?_
      | omega
     all_goals rw [hpk]
    ·rintro f' h' ⟨u2,u3,ud⟩;show awp _ _ _ _ _ _ _;refine vm ?_;simp only [wq.1,u2,u3,ud];exact aC.dat rfl
 ·rw [if_neg hc] at hn ⊢;have hne : (m.chk != 0) = true := by simpa using hc
  unfold Mo.v at hn dm ⊢;refine aA Tryz.func13 rfl (by simp [nts]) ?_;refine ag (vm ?_);simp only [wq.1,seval,Tryz.results13];refine ag (vm ?_);simp only [wq.1,seval];refine ah.ev hn dm ?_;simp only [wq.1,seval];refine ag (vm ?_);simp only [wq.1,seval,hne];exact aC.dat rfl
open Go.RowKit
abbrev kG : Gr := ⟨2,[],[],[(4,2)],[6]⟩
abbrev kM : Mo := ⟨⟨2,[],[],[(4,2)],[7]⟩,[[97],[105,49]],[],[[111,48]]⟩
abbrev kA : S := [97,105,103,32,51,32,50,32,48,32,49,32,49,10,55,10,2,2,105,48,32,97,10]
abbrev kP : S := [97,105,103,32,51,32,50,32,48,32,49,32,49,10,55,10,2,2,105,48,32,97,10,105,49,32,105,49,10,111,48,32,111,48,10]
abbrev kB : S := [97,105,103,32,52,32,50,32,48,32,49,32,49,10,55,10,2,2]
theorem zbk : iW kA = .ok kM := YX (by decide +kernel)
theorem zbl : iW kB = .error (0,1) := zaM (by decide +kernel)
theorem Y6 : Uf kG = ([2,2],0) := of_decide_eq_true (by decide +kernel)
theorem zbm : mM [120,2,2] 1 3 1 = ([(4,2)],3,0) := of_decide_eq_true (by decide +kernel)
theorem zbn : mM [0,0] 0 3 1 = ([],0,1) := of_decide_eq_true (by decide +kernel)
theorem zbo : FO kM = (kP,0) := of_decide_eq_true (by decide +kernel)
theorem WY : bD kB 0 1 = .agg [vi 1,vi 1,vi 1] := by
 have : (decide ((bZ kB 0).1 = 1) && decide ((bZ kB 0).2 = 1)) = true := by decide +kernel
 simp only [Bool.and_eq_true,decide_eq_true_eq] at this;unfold bD;rw [if_neg (by decide),this.1,this.2]
theorem zaW (h : H) : jX P h 55 9 (.is true 1 [.int .u8 0,.int .u8 0]) = (True,.str [0,0]) := by simp only [jX,tis,eY,Option.map_some,and_self];rfl
theorem zaX (h : H) : jX P h 55 9 (.is true 1 [.int .u8 2,.int .u8 2]) = (True,.str [2,2]) := by simp only [jX,tis,eY,Option.map_some,and_self];rfl
theorem NV : Ev TE 12 [] (.bool true) := by have e1 := Lu kG ⟨by decide,by decide⟩;rw [Y6] at e1;have e2 := xE [120,2,2] 1 3 1 (by decide);rw [zbm] at e2;have e3 := xH kA (by decide);unfold gY at e3;rw [zbk] at e3;have e4 := FW kM ⟨by decide,by decide⟩;rw [zbo] at e4;have e5 := xH kB (by decide);unfold gY at e5;rw [zbl] at e5;dsimp only at e5;rw [show bD kB ((0 : Nat) : Int) 1 = .agg [vi 1,vi 1,vi 1] from WY] at e5;have e6 := xE [0,0] 0 3 1 (by decide);rw [zbn] at e6;have e7 := WU [(4,2)] [(4,2)] (by decide);simp only [Mo.v,Gr.v,ry] at e1 e2 e3 e4 e5 e6 e7;refine aA Tryz.func12 rfl (by simp [nts]) ?_;refine ag (vm ?_);simp only [wq.1,seval,-Int.reduceNatCast,-Int.reduceNatCast',ak,Tryz.results12];refine ag (vm ?_);simp only [wq.1,↓reduceIte,Nat.reduceEqDiff,Nat.reduceLT,Nat.reduceLeDiff,Nat.reduceAdd,Nat.reduceSub,Int.reduceToNat,Nat.reduceDiv,Int.reduceLT,Int.reduceLE,Int.reduceNeg,Int.reduceBEq,Int.reduceBNe,Int.reduceAdd,Int.reduceSub,Nat.reduceBEq,reduceCtorEq,Nat.reduceMul,ak,Tryz.results12];refine ⟨⟨by decide,by decide⟩,⟨by decide,by decide⟩,?_⟩;refine ag (vm ?_);simp only [wq.1,seval];refine ah.ev (e1.les (dW.cons (GX (dW.cons (VLe.refl _) (dW.cons cO (dW.cons cO (dW.cons iT (dW.cons iT dW.nil)))))) dW.nil)) rfl ?_;simp only [wq.1,seval];refine ag (vm ?_);simp only [wq.1,seval];refine ⟨by decide,?_⟩;refine ah.ev e2 rfl ?_;simp only [wq.1,seval];refine ag (vm ?_);simp only [wq.1,seval];refine ⟨by decide,by decide,?_⟩;refine ah.ev e3 rfl ?_;simp only [wq.1,seval];refine ag (vm ?_);simp only [wq.1,seval];refine ah.ev e4 rfl ?_;simp only [wq.1,seval];refine ag (vm ?_);simp only [wq.1,seval];refine ⟨by decide,?_⟩;refine ah.ev e5 rfl ?_;simp only [wq.1,↓reduceIte,Nat.reduceEqDiff,Nat.reduceLT,Nat.reduceAdd];refine ag (vm ?_);simp only [wq.1,↓reduceIte,Nat.reduceLT,reduceCtorEq,Nat.reduceMul,zaW];refine ⟨⟨by decide,by decide⟩,?_⟩;refine ah.ev e6 rfl ?_;simp only [wq.1,↓reduceIte,Nat.reduceEqDiff,Nat.reduceLT,Nat.reduceAdd];refine ag (vm ?_);simp only [wq.1,↓reduceIte,Nat.reduceEqDiff,Nat.reduceLT,Nat.reduceLeDiff,Nat.reduceAdd,Nat.reduceSub,Int.reduceToNat,Nat.reduceDiv,Int.reduceLT,Int.reduceLE,Int.reduceNeg,Int.reduceBEq,Int.reduceBNe,Int.reduceAdd,Int.reduceSub,Nat.reduceBEq,reduceCtorEq,Nat.reduceMul,ak,Tryz.results12,zaX];refine ⟨⟨by decide,by decide⟩,?_⟩;refine ah.ev (e7.les (dW.cons (VLe.refl _) (dW.cons iT dW.nil))) rfl ?_;simp only [wq.1,seval,-Int.reduceNatCast,-Int.reduceNatCast',ak,Tryz.results12,bg];refine ⟨Bl,by decide,by decide,by decide,by decide,Bl,?_⟩;refine vm ?_;simp only [wq.1,↓reduceIte];exact aC.dat rfl
theorem ev_packedBoth (m : Mo) (hs : m.g.Sm) : Ev TE 5 [m.v] (.bool true) := by
 have e1 := Vz m;have e2 := FW m hs;have e3 := WF m hs;unfold FO at e2;unfold IV at e3;have dm : V.dats [m.v] = true := by simp only [Mo.v,V.dats,V.dat,Bool.and_self]
 unfold Mo.v at e1 e2 e3 dm;refine aA Tryz.func5 rfl (by simp [nts]) ?_;unfold Mo.v;refine ag (vm ?_);simp only [wq.1,Nat.reduceLT,Tryz.results5];refine ag (vm ?_);simp only [wq.1,Nat.reduceLT];refine ah.ev NV rfl ?_;simp only [wq.1,seval];refine ag (vm ?_);simp only [wq.1,seval];refine ag (vm ?_);simp only [wq.1,seval];refine ah.ev e1 dm ?_;simp only [wq.1,seval];obtain ⟨few,hfew⟩ : ∃ few,few = m.few := ⟨_,rfl⟩;have hlen : few = true → m.chk = 0 → (rE m.norm).length ≤ 100000 := fun h1 h2 => Nat.le_trans (WQ (hfew ▸ h1) h2) (by decide);rw [← hfew];by_cases hc : m.chk = 0
 ·rw [if_pos hc] at e2 e3;refine ag (vm ?_);simp only [wq.1,seval];refine ah.ev e2 dm ?_;simp only [wq.1,seval];refine ag (vm ?_);simp only [wq.1,seval];refine ah.ev e3 dm ?_;simp only [wq.1,seval];cases few with
  | false => refine ag (vm ?_);simp only [wq.1,seval];exact aC.dat rfl
  | true =>
   have e4 := xH (rE m.norm) (hlen rfl hc);unfold gY at e4;rw [Ia hc] at e4;have e5 := Wu (qW m.norm) (Nat.le_trans (Ld (hfew ▸ rfl) hc) (by decide));unfold iV at e5;rw [NK hc] at e5;have hlo := Uk hc;have hlo' : ((rE m.norm).length : Int) ≤ ((qW m.norm).length : Int) := by exact_mod_cast hlo
   have e6 := WG m.norm m.norm;rw [FB] at e6;have dn : V.dats [m.norm.v] = true := by simp only [Mo.v,V.dats,V.dat,Bool.and_self]
   have dn2 : V.dats [m.norm.v,m.norm.v] = true := by simp only [Mo.v,V.dats,V.dat,Bool.and_self]
   unfold Mo.v at e4 e5 e6 dn dn2;refine ag (vm ?_);simp only [wq.1,seval];refine ag (vm ?_);simp only [wq.1,seval];refine ah.ev e4 rfl ?_;simp only [wq.1,seval];refine ag (vm ?_);simp only [wq.1,seval];refine ah.ev e5 rfl ?_;simp only [wq.1,seval];refine ag (vm ?_);simp only [wq.1,seval];refine ⟨Bl,Bl,?_⟩;refine ah.ev e6 dn2 ?_;simp only [wq.1,seval];refine vm ?_;simp only [wq.1,↓reduceIte,hlo'];exact aC.dat rfl
 ·rw [if_neg hc] at e2 e3;refine ag (vm ?_);simp only [wq.1,seval];refine ah.ev e2 dm ?_;simp only [wq.1,seval];refine ag (vm ?_);simp only [wq.1,seval];refine ah.ev e3 dm ?_;simp only [wq.1,seval];have hne : (m.chk != 0) = true := by simpa using hc
  cases few with
  | false => refine ag (vm ?_);simp only [wq.1,seval];exact aC.dat rfl
  | true => refine ag (vm ?_);simp only [wq.1,seval,hne];exact aC.dat rfl
end Go.Proofs.YtfcpapokknfeeaaGreatDoor
