/- Lemmas for this claim, part F08: each holds under what it names. -/
import Derived.Test.YtfcpapokknfeeaaGreatDoorF07
set_option linter.unusedVariables false
set_option linter.unusedSimpArgs false
set_option linter.unnecessarySimpa false
set_option maxRecDepth 20000
set_option maxHeartbeats 2000000
namespace Go.Proofs.YtfcpapokknfeeaaGreatDoor
open Go Go.Proofs Go.Abs
def pq (use : Nat → Bool) (k : Nat) : Nat := ((List.range k).filter use).length
theorem qQ {use : Nat → Bool} {k : Nat} : pq use (k + 1) = pq use k + if use k then 1 else 0 := by unfold pq;rw [List.range_succ,List.filter_append,List.length_append];cases h : use k <;> simp [h]
theorem Ef {use : Nat → Bool} {j : Nat} : ∀ {k : Nat},j ≤ k → pq use j ≤ pq use k
 | 0,h => by rw [show j = 0 by omega];exact Nat.le_refl _
 | k + 1,h => by
  by_cases hj : j = k + 1
  ·rw [hj];exact Nat.le_refl _
  ·have := Ef (use := use) (j := j) (k := k) (by omega);rw [qQ];omega
theorem BB {use : Nat → Bool} {j k : Nat} (h : j < k) (hu : use j = true) : pq use j < pq use k := by have := Ef (use := use) (j := j + 1) (k := k) (by omega);rw [qQ,hu] at this;simp at this;omega
def rH (f : Nat) (use : Nat → Bool) (v : Nat) : Nat := if v < f then v else f + pq use (v - f)
def UA (f : Nat) (use : Nat → Bool) (v : Nat) : Prop := v < f ∨ use (v - f) = true
theorem Ha {f : Nat} {use : Nat → Bool} {v w : Nat} (h : v < w) (hl : UA f use v) : rH f use v < rH f use w := by
 unfold rH;rcases hl with hl | hl
 ·rw [if_pos hl];split <;> omega
 ·by_cases hv : v < f
  ·rw [if_pos hv];split <;> omega
  ·rw [if_neg hv,if_neg (by omega)];have := BB (use := use) (j := v - f) (k := w - f) (by omega) hl;omega
theorem IR {f : Nat} {use : Nat → Bool} {v w : Nat} (hv : UA f use v) (hw : UA f use w) (h : rH f use v = rH f use w) : v = w := by
 rcases Nat.lt_trichotomy v w with h1 | h1 | h1
 ·have := Ha h1 hv;omega
 ·exact h1
 ·have := Ha h1 hw;omega
theorem VH {f : Nat} {use : Nat → Bool} {v : Nat} (hf : 0 < f) (h : 0 < v) : 0 < rH f use v := by unfold rH;split <;> omega
def reA (f : Nat) (use : Nat → Bool) (l : Int) : Int := 2 * (rH f use (l / 2).toNat : Int) + l % 2
def xY (g : Gr) (use : Nat → Bool) (i : Nat) : List Pr := ((List.range i).filter use).map fun j => (reA g.first.toNat use (g.ands.getD j (0,0)).1,reA g.first.toNat use (g.ands.getD j (0,0)).2)
theorem wF {g : Gr} {use : Nat → Bool} {i : Nat} : (xY g use i).length = pq use i := by unfold xY pq;rw [List.length_map]
theorem uF {f : Nat} {use : Nat → Bool} {C : Cl} {l : Int} (h : C.getD (l / 2).toNat 0 = 2 * (rH f use (l / 2).toNat : Int)) : dR C l = reA f use l := by
 unfold dR reA FX;rw [h];split
 ·rw [if_pos (by omega)];omega
 ·omega
def YD (g : Gr) (use : Nat → Bool) : Prop := ∀ i (hi : i < g.ands.length),use i = true → UA g.first.toNat use (g.ands[i].1 / 2).toNat ∧ UA g.first.toNat use (g.ands[i].2 / 2).toNat
theorem sK {g : Gr} (hg : g.chk = 0) (hga : BA g.ands) {use : Nat → Bool} (hu : YD g use) : ∀ i,i ≤ g.ands.length →
 (bH g use i).1 = xY g use i ∧ ∀ v,v < g.first.toNat + i → UA g.first.toNat use v → (bH g use i).2.getD v 0 = 2 * (rH g.first.toNat use v : Int) := by
 obtain ⟨_,i0,i1,i2,i3,i4,i5⟩ := bf hg;have hf := fC i0;intro i
 induction i with
 | zero =>
  intro _;refine ⟨rfl,fun v hv hl => ?_⟩;have hvl : v < (lq g.first.toNat).length := by rw [nP];omega
  show (lq g.first.toNat).getD v 0 = _;rw [aG hvl];unfold rH;rw [if_pos (by omega)];simp [lq]
 | succ i ih =>
  intro hi;have hlt : i < g.ands.length := by omega
  obtain ⟨a1,a2⟩ := ih (by omega);obtain ⟨h1,h2,h3⟩ := iG i0 use i;obtain ⟨o1,o2,o3,o4⟩ := dY i5 hlt;have hst : bH g use (i + 1) = lw g.first (use i) (bH g use i) (g.ands.getD i (0,0)) := rfl
  obtain ⟨A,C,hAC⟩ : ∃ A C,bH g use i = (A,C) := ⟨_,_,rfl⟩;rw [hst,aG hlt];rw [hAC] at a1 a2 h1 h2 h3 ⊢;dsimp only at a1 a2 h1 h2 h3;have hn : rH g.first.toNat use (g.first.toNat + i) = g.first.toNat + pq use i := by unfold rH;rw [if_neg (by omega),Nat.add_sub_cancel_left]
  have hC : ∀ w,∀ v,v < g.first.toNat + (i + 1) → UA g.first.toNat use v → (v = g.first.toNat + i → w = 2 * (rH g.first.toNat use v : Int)) → (C ++ [w]).getD v 0 = 2 * (rH g.first.toNat use v : Int) := by
   intro w v hv hl hw;by_cases hvi : v < g.first.toNat + i
   ·have := a2 v hvi hl;rw [List.getD_eq_getElem?_getD,List.getElem?_append_left (by omega),← List.getD_eq_getElem?_getD];exact this
   ·have hvi : v = g.first.toNat + i := by omega
    rw [List.getD_eq_getElem?_getD,List.getElem?_append_right (by omega),show v - C.length = 0 by omega];exact hw hvi
  cases hui : use i with
  | false =>
   unfold lw;rw [if_neg (by decide)];refine ⟨?_,fun v hv hl => hC 0 v hv hl fun e => ?_⟩
   ·rw [a1];unfold xY;rw [List.range_succ,List.filter_append];simp [hui]
   ·exfalso;rcases hl with hl | hl
    ·omega
    ·rw [e,Nat.add_sub_cancel_left,hui] at hl;cases hl
  | true =>
   obtain ⟨l1,l2⟩ := hu i hlt hui;obtain ⟨g1,g2,g3⟩ := hga.1 _ (List.getElem_mem hlt);have c1 : dR C g.ands[i].1 = reA g.first.toNat use g.ands[i].1 := uF (a2 _ (by omega) l1)
   have c2 : dR C g.ands[i].2 = reA g.first.toNat use g.ands[i].2 := uF (a2 _ (by omega) l2)
   have n1 := Ha (f := g.first.toNat) (use := use) (v := (g.ands[i].2 / 2).toNat) (w := (g.ands[i].1 / 2).toNat) (by omega) l2;have n2 := VH (f := g.first.toNat) (use := use) (v := (g.ands[i].2 / 2).toNat) (by omega) (by omega);have hmk : qf g.first A (dR C g.ands[i].1) (dR C g.ands[i].2) = (A ++ [(reA g.first.toNat use g.ands[i].1,reA g.first.toNat use g.ands[i].2)],2 * (g.first + (A.length : Int))) := by
    rw [c1,c2];refine Qh ?_ ?_ ?_ ?_
    ·unfold reA;omega
    ·unfold reA;omega
    ·unfold reA;omega
    ·rw [a1];intro hm;unfold xY at hm;simp only [List.mem_map,List.mem_filter,List.mem_range] at hm;obtain ⟨j,⟨hj,huj⟩,he⟩ := hm;have hjl : j < g.ands.length := by omega
     rw [aG hjl] at he;obtain ⟨m1,m2⟩ := hu j hjl huj;obtain ⟨p1,p2,p3,p4⟩ := dY i5 hjl;have e1 := congrArg Prod.fst he;have e2 := congrArg Prod.snd he;dsimp only at e1 e2;unfold reA at e1 e2;have x1 := IR m1 l1 (by omega);have x2 := IR m2 l2 (by omega);have : g.ands[j] = g.ands[i] := Prod.ext (by omega) (by omega);have := (List.getElem_inj hga.2).1 this;omega
   unfold lw;rw [if_pos rfl,hmk];refine ⟨?_,fun v hv hl => hC _ v hv hl fun e => ?_⟩
   ·show A ++ _ = _;rw [a1];unfold xY;rw [List.range_succ,List.filter_append];simp [hui,List.getElem?_eq_getElem hlt]
   ·show 2 * (g.first + (A.length : Int)) = _;rw [e,hn,a1,wF];omega
theorem jo {v : List Bool} {l : Int} {w : Nat} : (sJ v l).getD w false = ((decide ((l / 2).toNat = w) && decide (w < v.length)) || v.getD w false) := by
 unfold sJ;rw [List.getD_eq_getElem?_getD,List.getElem?_set];by_cases h : (l / 2).toNat = w
 ·rw [if_pos h];by_cases hw : w < v.length
  ·rw [if_pos (by omega)];simp [h,hw]
  ·rw [if_neg (by omega)];simp [h,hw,List.getD_eq_getElem?_getD,List.getElem?_eq_none (show v.length ≤ w by omega)]
 ·rw [if_neg h];simp [h,List.getD_eq_getElem?_getD]
theorem BC {v : List Bool} {l : Int} {w : Nat} (h : v.getD w false = true) : (sJ v l).getD w false = true := by rw [jo,h,Bool.or_true]
theorem qR {g : Gr} {v : List Bool} {k : Nat} : uC g v (k + 1) = if (uC g v k).getD (g.first + ((g.ands.length - 1 - k : Nat) : Int)).toNat false then sJ (sJ (uC g v k) (g.ands.getD (g.ands.length - 1 - k) (0,0)).1) (g.ands.getD (g.ands.length - 1 - k) (0,0)).2 else uC g v k := rfl
theorem wG {g : Gr} {v : List Bool} {w k : Nat} : ∀ {k' : Nat},k ≤ k' → (uC g v k).getD w false = true → (uC g v k').getD w false = true
 | 0,h,hk => by rw [show k = 0 by omega] at hk;exact hk
 | k' + 1,h,hk => by
  by_cases he : k = k' + 1
  ·rw [he] at hk;exact hk
  ·have ih := wG (k' := k') (by omega) hk;rw [qR];split
   ·exact BC (BC ih)
   ·exact ih
theorem Eg {g : Gr} (hg : g.chk = 0) {v : List Bool} {w k : Nat} (hw : g.first + ((g.ands.length - 1 - k : Nat) : Int) ≤ w) : ∀ {k' : Nat},k ≤ k' → k' ≤ g.ands.length → (uC g v k').getD w false = (uC g v k).getD w false
 | 0,h,_ => by rw [show k = 0 by omega]
 | k' + 1,h,hl => by
  by_cases he : k = k' + 1
  ·rw [he]
  ·obtain ⟨_,i0,i1,i2,i3,i4,i5⟩ := bf hg;have ih := Eg hg (v := v) hw (k' := k') (by omega) (by omega);have hp : g.ands.length - 1 - k' < g.ands.length := by omega
   obtain ⟨o1,o2,o3,o4⟩ := dY i5 hp;have hf := fC i0;rw [qR,aG hp];split
   ·rw [jo,jo,ih];have d1 : ((g.ands[g.ands.length - 1 - k'].1 / 2).toNat = w) = False := by simp;omega
    have d2 : ((g.ands[g.ands.length - 1 - k'].2 / 2).toNat = w) = False := by simp;omega
    simp [d1,d2]
   ·exact ih
theorem yK {g : Gr} (hg : g.chk = 0) {i : Nat} (hi : i < g.ands.length) (h : (uf g).getD (g.first + (i : Int)).toNat false = true) :
 (uf g).getD (g.ands[i].1 / 2).toNat false = true ∧ (uf g).getD (g.ands[i].2 / 2).toNat false = true := by
 obtain ⟨_,i0,i1,i2,i3,i4,i5⟩ := bf hg;have hf := fC i0;obtain ⟨o1,o2,o3,o4⟩ := dY i5 hi;unfold uf at h ⊢;obtain ⟨v,hv⟩ : ∃ v,v = G8 g (List.replicate g.vars false) (g.next ++ g.outs).length := ⟨_,rfl⟩;have hvl : v.length = g.vars := by rw [hv,IQ,List.length_replicate]
 rw [← hv] at h ⊢;have hk : g.ands.length - 1 - (g.ands.length - 1 - i) = i := by omega
 have hkk := Eg hg (v := v) (w := (g.first + (i : Int)).toNat) (k := g.ands.length - 1 - i) (by rw [hk];omega) (k' := g.ands.length) (by omega) (Nat.le_refl _);rw [hkk] at h;have hs := qR (g := g) (v := v) (k := g.ands.length - 1 - i);rw [hk,if_pos h,aG hi] at hs;have hvv : (g.vars : Int) = g.first + g.ands.length := by
  have : g.first = 1 + g.ins + g.next.length := rfl
  unfold Gr.vars;omega
 have hl : ∀ k,(uC g v k).length = g.vars := fun k => by rw [uD,hvl]
 have m1 : (sJ (sJ (uC g v (g.ands.length - 1 - i)) g.ands[i].1) g.ands[i].2).getD (g.ands[i].1 / 2).toNat false = true :=
  BC (by rw [jo,hl];simp;left;omega)
 have m2 : (sJ (sJ (uC g v (g.ands.length - 1 - i)) g.ands[i].1) g.ands[i].2).getD (g.ands[i].2 / 2).toNat false = true := by rw [jo,mi,hl];simp;left;omega
 rw [← hs] at m1 m2;exact ⟨wG (by omega) m1,wG (by omega) m2⟩
theorem pz {w : Nat} : ∀ {l : List Int} {v : List Bool},(l.foldl sJ v).getD w false = true → v.getD w false = true ∨ ∃ a ∈ l,(a / 2).toNat = w
 | [],v,h => .inl h
 | a :: l,v,h => by
  rcases pz (l := l) h with h | ⟨b,hb,e⟩
  ·rw [jo] at h;simp only [Bool.or_eq_true,Bool.and_eq_true,decide_eq_true_eq] at h;rcases h with h | h
   ·exact .inr ⟨a,List.mem_cons_self,h.1⟩
   ·exact .inl h
  ·exact .inr ⟨b,List.mem_cons_of_mem _ hb,e⟩
theorem qU {w : Nat} : ∀ {l : List Int} {v : List Bool},v.getD w false = true → (l.foldl sJ v).getD w false = true
 | [],v,h => h
 | a :: l,v,h => qU (l := l) (BC h)
theorem qV {w : Nat} : ∀ {l : List Int} {v : List Bool} {a : Int},a ∈ l → (a / 2).toNat = w → w < v.length → (l.foldl sJ v).getD w false = true
 | b :: l,v,a,ha,hw,hl => by
  rcases List.mem_cons.1 ha with rfl | ha
  ·exact qU (l := l) (by rw [jo];simp;left;exact ⟨hw,hl⟩)
  ·exact qV (l := l) ha hw (by rw [mi];exact hl)
theorem IU {g : Gr} {v : List Bool} : G8 g v (g.next ++ g.outs).length = (g.next ++ g.outs).foldl sJ v := by unfold G8;rw [List.take_length]
theorem VI {g : Gr} (hg : g.chk = 0) {w : Nat} (h : (uf g).getD w false = true) :
 (∃ a ∈ g.next ++ g.outs,(a / 2).toNat = w) ∨ ∃ (j : Nat) (hj : j < g.ands.length),(uf g).getD (g.first + (j : Int)).toNat false = true ∧ ((g.ands[j].1 / 2).toNat = w ∨ (g.ands[j].2 / 2).toNat = w) := by
 obtain ⟨v,hv⟩ : ∃ v,v = G8 g (List.replicate g.vars false) (g.next ++ g.outs).length := ⟨_,rfl⟩;have hF : uf g = uC g v g.ands.length := by rw [hv];rfl
 rw [hF] at h ⊢;have go : ∀ k,k ≤ g.ands.length → (uC g v k).getD w false = true → (∃ a ∈ g.next ++ g.outs,(a / 2).toNat = w) ∨ ∃ (j : Nat) (hj : j < g.ands.length),(uC g v g.ands.length).getD (g.first + (j : Int)).toNat false = true ∧ ((g.ands[j].1 / 2).toNat = w ∨ (g.ands[j].2 / 2).toNat = w) := by
  intro k
  induction k with
  | zero =>
   intro _ h;have h : v.getD w false = true := h;rw [hv,IU] at h;rcases pz h with h | h
   ·rw [show (List.replicate g.vars false).getD w false = false by rw [List.getD_eq_getElem?_getD,List.getElem?_replicate];split <;> rfl] at h;cases h
   ·exact .inl h
  | succ k ih =>
   intro hk h;have hp : g.ands.length - 1 - k < g.ands.length := by omega
   rw [qR] at h;split at h
   ·rename_i hb;rw [aG hp,jo,jo] at h;simp only [Bool.or_eq_true,Bool.and_eq_true,decide_eq_true_eq] at h;have hb2 := wG (g := g) (v := v) (k' := g.ands.length) (by omega) hb;rcases h with h | h | h
    ·exact .inr ⟨_,hp,hb2,.inr h.1⟩
    ·exact .inr ⟨_,hp,hb2,.inl h.1⟩
    ·exact ih (by omega) h
   ·exact ih (by omega) h
 exact go _ (Nat.le_refl _) h
theorem Qj {g : Gr} {w : Nat} {a : Int} (ha : a ∈ g.next ++ g.outs) (hw : (a / 2).toNat = w) (hl : w < g.vars) : (uf g).getD w false = true := by unfold uf;refine wG (k := 0) (Nat.zero_le _) ?_;show (G8 g _ _).getD w false = true;rw [IU];exact qV ha hw (by rw [List.length_replicate];exact hl)
theorem wI {use : Nat → Bool} {j : Nat} (hu : use j = true) : ∀ {n : Nat},j < n → ((List.range n).filter use)[pq use j]? = some j
 | 0,h => by omega
 | n + 1,h => by
  rw [List.range_succ,List.filter_append];by_cases hj : j = n
  ·subst hj;rw [List.getElem?_append_right (show ((List.range j).filter use).length ≤ pq use j from Nat.le_refl _)];show ([j].filter use)[pq use j - pq use j]? = _;rw [Nat.sub_self];simp [hu]
  ·have hlt : j < n := by omega
   rw [List.getElem?_append_left (by show pq use j < pq use n;exact BB hlt hu)];exact wI hu hlt
theorem Eh {use : Nat → Bool} {r : Nat} : ∀ {n : Nat},r < pq use n → ∃ i,i < n ∧ use i = true ∧ pq use i = r
 | 0,h => by simp [pq] at h
 | n + 1,h => by
  by_cases hr : r < pq use n
  ·obtain ⟨i,h1,h2,h3⟩ := Eh hr;exact ⟨i,by omega,h2,h3⟩
  ·rw [qQ] at h;cases hu : use n with
   | true => rw [hu] at h;simp at h;exact ⟨n,by omega,hu,by omega⟩
   | false => rw [hu] at h;simp at h;omega
theorem Qk {g : Gr} {use : Nat → Bool} {j n : Nat} (hu : use j = true) (hj : j < n) : (xY g use n)[pq use j]? = some (reA g.first.toNat use (g.ands.getD j (0,0)).1,reA g.first.toNat use (g.ands.getD j (0,0)).2) := by unfold xY;rw [List.getElem?_map,wI hu hj];rfl
theorem sO {g : Gr} (h : 0 ≤ g.ins) : (g.vars : Int) = g.first + g.ands.length := by
 have : g.first = 1 + g.ins + g.next.length := rfl
 unfold Gr.vars;omega
def oW (x : Gr) : Nat → Bool := fun i => (uf x).getD (x.first + (i : Int)).toNat false
theorem yL {x : Gr} (hx : x.chk = 0) : YD x (oW x) := by
 obtain ⟨_,i0,i1,i2,i3,i4,i5⟩ := bf hx;have hf := fC i0;intro i hi hu;obtain ⟨h1,h2⟩ := yK hx hi hu;have key : ∀ w : Nat,(uf x).getD w false = true → UA x.first.toNat (oW x) w := fun w hw => by
  by_cases h : w < x.first.toNat
  ·exact .inl h
  ·refine .inr ?_;unfold oW;rw [show (x.first + ((w - x.first.toNat : Nat) : Int)).toNat = w by omega];exact hw
 exact ⟨key _ h1,key _ h2⟩
theorem Ql {x : Gr} {w : Nat} (h : (uf x).getD w false = true) : w < x.vars := by
 by_cases hw : w < x.vars
 ·exact hw
 ·rw [List.getD_eq_getElem?_getD,List.getElem?_eq_none (by rw [Bz];omega)] at h;cases h
theorem VJ {x : Gr} (hx : x.chk = 0) (hga : BA x.ands) : ∀ (k w : Nat),w + k = x.vars → (uf x).getD w false = true →
 (uf (jk x (bH x (oW x) x.ands.length))).getD (rH x.first.toNat (oW x) w) false = true := by
 obtain ⟨_,i0,i1,i2,i3,i4,i5⟩ := bf hx;have hf := fC i0;have hv := sO i0;have hy := eF hx (oW x);obtain ⟨e1,e2⟩ := sK hx hga (yL hx) x.ands.length (Nat.le_refl _);obtain ⟨s,hs⟩ : ∃ s,s = bH x (oW x) x.ands.length := ⟨_,rfl⟩;rw [← hs] at e1 e2 hy ⊢;have yf : (jk x s).first = x.first := by simp [jk,Gr.first]
 have yl : (jk x s).ands.length = pq (oW x) x.ands.length := by show s.1.length = _;rw [e1,wF]
 have hyv : ((jk x s).vars : Int) = x.first + (pq (oW x) x.ands.length : Nat) := by rw [sO (show 0 ≤ (jk x s).ins from i0),yf,yl]
 have live : ∀ w : Nat,(uf x).getD w false = true → UA x.first.toNat (oW x) w := fun w hw => by
  by_cases h : w < x.first.toNat
  ·exact .inl h
  ·refine .inr ?_;unfold oW;rw [show (x.first + ((w - x.first.toNat : Nat) : Int)).toNat = w by omega];exact hw
 intro k
 induction k using Nat.strongRecOn with
 | ind k ih =>
  intro w hk hw;have hwv := Ql hw;have hl := live w hw;have hnum : rH x.first.toNat (oW x) w < (jk x s).vars := by
   unfold rH;split
   ·omega
   ·rcases hl with hl | hl
    ·omega
    ·have := BB (use := oW x) (j := w - x.first.toNat) (k := x.ands.length) (by omega) hl;omega
  rcases VI hx hw with ⟨a,ha,hwa⟩ | ⟨j,hj,hjl,hop⟩
  ·have hc : dR s.2 a = reA x.first.toNat (oW x) a := uF (by rw [hwa];exact e2 w (by omega) hl)
   refine Qj (a := dR s.2 a) ?_ ?_ hnum
   ·show dR s.2 a ∈ x.next.map (dR s.2) ++ x.outs.map (dR s.2)
    rw [← List.map_append];exact List.mem_map_of_mem ha
   ·rw [hc];unfold reA;rw [hwa];omega
  ·obtain ⟨o1,o2,o3,o4⟩ := dY i5 hj;have huj : oW x j = true := hjl;have ihj := ih (x.vars - (x.first.toNat + j)) (by rcases hop with h | h <;> omega) (x.first.toNat + j) (by omega) (by rw [show x.first.toNat + j = (x.first + (j : Int)).toNat by omega];exact hjl);have hnj : rH x.first.toNat (oW x) (x.first.toNat + j) = x.first.toNat + pq (oW x) j := by unfold rH;rw [if_neg (by omega),Nat.add_sub_cancel_left]
   rw [hnj] at ihj;have hrj := BB hj huj;have hri : pq (oW x) j < (jk x s).ands.length := by rw [yl];exact hrj
   have hgt : (jk x s).ands[pq (oW x) j] = (reA x.first.toNat (oW x) x.ands[j].1,reA x.first.toNat (oW x) x.ands[j].2) := by have := Qk (g := x) huj hj;rw [← e1,aG hj] at this;exact (List.getElem?_eq_some_iff.1 this).2
   have hle := yK hy hri (by rw [yf,show (x.first + ((pq (oW x) j : Nat) : Int)).toNat = x.first.toNat + pq (oW x) j by omega];exact ihj);rw [hgt] at hle;dsimp only at hle;rcases hop with h | h
   ·have := hle.1;unfold reA at this;rw [h,show ((2 * (rH x.first.toNat (oW x) w : Int) + x.ands[j].1 % 2) / 2).toNat = rH x.first.toNat (oW x) w by omega] at this;exact this
   ·have := hle.2;unfold reA at this;rw [h,show ((2 * (rH x.first.toNat (oW x) w : Int) + x.ands[j].2 % 2) / 2).toNat = rH x.first.toNat (oW x) w by omega] at this;exact this
theorem He {x : Gr} (hx : x.chk = 0) (hga : BA x.ands) : nS (jk x (bH x (oW x) x.ands.length)) = true := by
 obtain ⟨_,i0,i1,i2,i3,i4,i5⟩ := bf hx;have hf := fC i0;have hv := sO i0;obtain ⟨e1,e2⟩ := sK hx hga (yL hx) x.ands.length (Nat.le_refl _);have hgd := oL i0 (oW x) x.ands.length;have hled := VJ hx hga;obtain ⟨s,hs⟩ : ∃ s,s = bH x (oW x) x.ands.length := ⟨_,rfl⟩;rw [← hs] at e1 hgd hled ⊢;have yl : s.1.length = pq (oW x) x.ands.length := by rw [e1,wF]
 have yf : (jk x s).first = x.first := by simp [jk,Gr.first]
 unfold nS;rw [Bool.not_eq_true',List.any_eq_false];intro r hr;rw [List.mem_range] at hr;have hr : r < s.1.length := hr;obtain ⟨a1,a2,a3⟩ := hgd.1 _ (List.getElem_mem hr);obtain ⟨i,hi,hui,hri⟩ := Eh (show r < pq (oW x) x.ands.length by rw [← yl];exact hr);have hl := hled (x.vars - (x.first.toNat + i)) (x.first.toNat + i) (by omega) (by rw [show x.first.toNat + i = (x.first + (i : Int)).toNat by omega];exact hui);have hn : rH x.first.toNat (oW x) (x.first.toNat + i) = (x.first + (r : Int)).toNat := by
  unfold rH;rw [if_neg (by omega),Nat.add_sub_cancel_left,hri];omega
 rw [hn] at hl;unfold Xv;rw [show (jk x s).ands = s.1 from rfl,yf,aG hr,hl];have d1 : decide (s.1[r].1 ≤ s.1[r].2) = false := by simp;omega
 have d2 : decide (s.1[r].2 ≤ 1) = false := by simp;omega
 have d3 : (s.1[r].1 / 2 == s.1[r].2 / 2) = false := by simpa using a3
 have d5 : ((s.1.take r).any (· == s.1[r])) = false := by
  rw [List.any_eq_false];intro p hp hpe;have hpe : p = s.1[r] := by simpa using hpe
  obtain ⟨j,hj,rfl⟩ := List.mem_iff_getElem.1 hp;rw [List.length_take] at hj;rw [List.getElem_take] at hpe;have := (List.getElem_inj hgd.2).1 hpe;omega
 dsimp only;rw [d1,d2,d3,d5];decide
theorem nT {g : Gr} (hg : g.chk = 0) : nS (fZ g) = true :=
 He (eF hg _) (oL (bf hg).i0 _ _)
def lnG : Cl → S
 | [] => [10]
 | n :: l => 32 :: (Lib.itoa n ++ lnG l)
def lnT : Cl → S
 | [] => [10]
 | n :: l => Lib.itoa n ++ lnG l
def nmT (c : UInt8) : Nat → List S → S
 | _,[] => []
 | i,s :: l => c :: (Lib.itoa i ++ 32 :: (s ++ 10 :: nmT c (i + 1) l))
def mr (m : Mo) : S := nmT 105 0 m.ins ++ (nmT 108 0 m.lat ++ nmT 111 0 m.out)
def Nk (g : Gr) (i : Nat) : Cl := 2 * (1 + g.ins + (i : Int)) :: g.next.getD i 0 :: (if g.init.getD i 0 = 0 then [] else if g.init.getD i 0 = 1 then [1] else [2 * (1 + g.ins + (i : Int))])
def cu (g : Gr) : Cl := [g.first - 1 + (g.ands.length : Int),g.ins,(g.next.length : Int),(g.outs.length : Int),(g.ands.length : Int)]
def Xw (n : Nat) : S := (List.range n).flatMap fun i : Nat => lnT [2 * ((i : Int) + 1)]
def BD (g : Gr) (n : Nat) : S := (List.range n).flatMap fun i : Nat => lnT (Nk g i)
def oZ (l : Cl) (n : Nat) : S := (List.range n).flatMap fun i : Nat => lnT [l.getD i 0]
def BF (g : Gr) (n : Nat) : S := (List.range n).flatMap fun i : Nat => lnT [2 * (g.first + (i : Int)),(g.ands.getD i (0,0)).1,(g.ands.getD i (0,0)).2]
def Ei (g : Gr) : S := [97,97,103,32] ++ (lnT (cu g) ++ (Xw g.ins.toNat ++ (BD g g.next.length ++ (oZ g.outs g.outs.length ++ BF g g.ands.length))))
def qW (m : Mo) : S := Ei m.g ++ mr m
def IV (m : Mo) : S × Int := if m.chk = 0 then (qW m.norm,0) else ([],m.chk)
abbrev RE (α : Type) := Except (Nat × Int) α
def sQ (s : S) (a : Nat) : RE (Int × Nat) := if (xX s a).2.2 = 0 then .ok ((xX s a).1,(xX s a).2.1.toNat) else .error (a,3)
def lC (s : S) (c : UInt8) (a : Nat) : RE Nat := if o9 s a c = true then .ok (a + 1) else .error (a,2)
def mX (s : S) : Nat → Nat → Cl → RE (Cl × Nat)
 | 0,a,l => .ok (l,a)
 | k + 1,a,l => if o9 s a 32 = true then (match sQ s (a + 1) with
  | .ok (n,b) => mX s k b (l ++ [n])
  | .error e => .error e) else .ok (l,a)
def hd9 (l : Cl) : Cl := l ++ List.replicate (9 - l.length) 0
def wJ (h : Cl) : Bool := decide (h.getD 0 0 ≤ 4000) && decide (h.getD 1 0 + h.getD 2 0 + h.getD 4 0 ≤ h.getD 0 0) && decide (h.getD 3 0 + h.getD 5 0 + h.getD 6 0 ≤ 4000)
def qg (s magic : S) : RE (Cl × Nat) :=
 if magic.isPrefixOf s = true then (match mX s 9 magic.length [] with
  | .ok (l,a) => if 5 ≤ l.length then (match lC s 10 a with
   | .ok b => if (hd9 l).getD 7 0 = 0 ∧ (hd9 l).getD 8 0 = 0 then if wJ (hd9 l) = true then .ok (hd9 l,b) else .error (0,8) else .error (0,9)
   | .error e => .error e) else .error (a,2)
  | .error e => .error e) else .error (0,2)
abbrev Us := Int × Nat
structure An where
 lit : Int
 pos : Nat
 p : Us
 q : Us
structure Fi where
 a : Nat
 D : Cl
 ins : Cl
 lats : Cl
 next : List Us
 init : Cl
 outs : List Us
 ands : List An
def IW (s : S) (mo : Int) (x : Fi) : RE (Int × Fi) :=
 match sQ s x.a with
 | .error e => .error e
 | .ok (n,b) => if n % 2 = 0 ∧ 2 ≤ n ∧ n ≤ mo then if n / 2 ∈ x.D then .error (x.a,5) else .ok (n,{ x with a := b,D := x.D ++ [n / 2] }) else .error (x.a,1)
def Cm (s : S) (mo : Int) (x : Fi) : RE (Us × Fi) :=
 match sQ s x.a with
 | .error e => .error e
 | .ok (n,b) => if n ≤ mo then .ok ((n,x.a),{ x with a := b }) else .error (x.a,1)
def gq (s : S) (c : UInt8) (x : Fi) : RE Fi := if o9 s x.a c = true then .ok { x with a := x.a + 1 } else .error (x.a,2)
def iI (s : S) (mo : Int) (x : Fi) : RE Fi :=
 match IW s mo x with
 | .error e => .error e
 | .ok (n,y) => gq s 10 { y with ins := y.ins ++ [n] }
def qX (s : S) (lit : Int) (x : Fi) : RE (Int × Fi) :=
 if o9 s x.a 32 = true then (match sQ s (x.a + 1) with
  | .error e => .error e
  | .ok (n,b) => if n < 2 ∨ n = lit then .ok (n,{ x with a := b }) else .error (x.a + 1,1)) else .ok (0,x)
def iJ (s : S) (mo : Int) (x : Fi) : RE Fi :=
 match IW s mo x with
 | .error e => .error e
 | .ok (lit,y) => match gq s 32 y with
  | .error e => .error e
  | .ok y => match Cm s mo y with
   | .error e => .error e
   | .ok (u,y) => match qX s lit { y with next := y.next ++ [u] } with
    | .error e => .error e
    | .ok (n,y) => gq s 10 { y with lats := y.lats ++ [lit],init := y.init ++ [min n 2] }
def eX (s : S) (mo : Int) (x : Fi) : RE Fi :=
 match Cm s mo x with
 | .error e => .error e
 | .ok (u,y) => gq s 10 { y with outs := y.outs ++ [u] }
def mY (s : S) (mo : Int) (x : Fi) : RE Fi :=
 match IW s mo x with
 | .error e => .error e
 | .ok (lit,y) => match gq s 32 y with
  | .error e => .error e
  | .ok y => match Cm s mo y with
   | .error e => .error e
   | .ok (p,y) => match gq s 32 y with
    | .error e => .error e
    | .ok y => match Cm s mo y with
     | .error e => .error e
     | .ok (q,y) => match gq s 10 y with
      | .error e => .error e
      | .ok y => .ok { y with ands := y.ands ++ [⟨lit,x.a,p,q⟩] }
def kX (f : Fi → RE Fi) : Nat → Fi → RE Fi
 | 0,x => .ok x
 | n + 1,x => match f x with
  | .error e => .error e
  | .ok y => kX f n y
def Nl (c : UInt8) : Option Nat := [(105 : UInt8),108,111,98,99].findIdx? (· == c)
def Qm (s : S) (a : Nat) : Bool := ([99,10] : S).isPrefixOf (s.drop a) || s.drop a == [99]
def sS (s : S) (L : List (List S)) (a : Nat) : RE (List (List S) × Nat) :=
 match Nl (s.getD a 0) with
 | none => .error (a,2)
 | some k => match sQ s (a + 1) with
  | .error e => .error e
  | .ok (n,b) => match lC s 32 b with
   | .error e => .error e
   | .ok b =>
    if b + ((s.drop b).takeWhile (· != 10)).length < s.length then
     if n < ((L.getD k []).length : Int) then
      if iP ((s.drop b).takeWhile (· != 10)) = true then
       if (L.getD k []).getD n.toNat [] = [] then .ok (L.set k ((L.getD k []).set n.toNat ((s.drop b).takeWhile (· != 10))),b + ((s.drop b).takeWhile (· != 10)).length + 1) else .error (a,5)
      else .error (b,4)
     else .error (a + 1,1)
    else .error (s.length,2)
def rJ (s : S) : Nat → List (List S) → Nat → RE (List (List S))
 | 0,L,_ => .ok L
 | k + 1,L,a => if a < s.length ∧ Qm s a = false then (match sS s L a with
  | .error e => .error e
  | .ok (L,b) => rJ s k L b) else .ok L
def jq (c : UInt8) : Nat → List S → List S
 | _,[] => []
 | i,x :: l => (if x = [] then c :: Lib.itoa i else x) :: jq c (i + 1) l
def Np (L : List (List S)) : List (List S) := [jq 105 0 (L.getD 0 []),jq 108 0 (L.getD 1 []),jq 111 0 (L.getD 2 []),jq 98 0 (L.getD 3 []),jq 99 0 (L.getD 4 [])]
def uq (many : Cl) : List (List S) := many.map fun n => List.replicate (min (max n 0) 4000).toNat []
def wK (s : S) (many : Cl) (a : Nat) : RE (List (List S)) :=
 match rJ s (s.length + 1) (uq many) a with
 | .error e => .error e
 | .ok L => .ok (Np L)
def fD (D : Cl) : List Us → Option (Nat × Int)
 | [] => none
 | u :: l => if u.1 / 2 ∈ D then fD D l else some (u.2,6)
def An.nil : An := ⟨0,0,(0,0),(0,0)⟩
def iq (A : List An) : Nat → Nat → Cl → List Nat → List Nat × Cl
 | 0,_,left,out => (out,left)
 | k + 1,i,left,out => if i < A.length then
  if (A.getD i .nil).lit / 2 ∈ left ∧ (A.getD i .nil).p.1 / 2 ∉ left ∧ (A.getD i .nil).q.1 / 2 ∉ left then iq A k 0 (left.erase ((A.getD i .nil).lit / 2)) (out ++ [i])
  else iq A k (i + 1) left out
  else (out,left)
def toI (D V : Cl) (n : Int) : Int := V.getD (D.idxOf n) 0
def kE (D V : Cl) (u : Us) : Int := 2 * toI D V (u.1 / 2) + u.1 % 2
def yM (D : Cl) : Cl → Int → Cl → Cl
 | V,_,[] => V
 | V,k,l :: ls => yM D (V.set (D.idxOf (l / 2)) k) (k + 1) ls
def Fi.vals (x : Fi) (o : List Nat) : Cl :=
 yM x.D (yM x.D (x.D.map fun _ => 0) 1 (x.ins ++ x.lats)) (1 + (x.ins.length : Int) + x.lats.length) (o.map fun k => (x.ands.getD k .nil).lit)
def kF (x : Fi) (o : List Nat) : Gr :=
 ⟨x.ins.length,x.next.map (kE x.D (x.vals o)),x.init,o.map fun k => (kE x.D (x.vals o) (x.ands.getD k .nil).p,kE x.D (x.vals o) (x.ands.getD k .nil).q),x.outs.map (kE x.D (x.vals o))⟩
def Fi.start (a : Nat) : Fi := ⟨a,[0],[],[],[],[],[],[]⟩
def wL (s : S) (h : Cl) (a : Nat) : RE Fi :=
 match kX (iI s (2 * h.getD 0 0 + 1)) (h.getD 1 0).toNat (.start a) with
 | .error e => .error e
 | .ok x => match kX (iJ s (2 * h.getD 0 0 + 1)) (h.getD 2 0).toNat x with
  | .error e => .error e
  | .ok x => match kX (eX s (2 * h.getD 0 0 + 1)) (h.getD 3 0 + h.getD 5 0 + h.getD 6 0).toNat x with
   | .error e => .error e
   | .ok x => kX (mY s (2 * h.getD 0 0 + 1)) (h.getD 4 0).toNat x
def Fi.left (x : Fi) : Cl := x.ands.map fun a => a.lit / 2
def Fi.uses (x : Fi) : List Us := x.ands.flatMap fun a => [a.p,a.q]
def wO (x : Fi) (N : List (List S)) : RE Mo :=
 match fD x.D x.next with
 | some e => .error e
 | none => match fD x.D x.outs with
  | some e => .error e
  | none => match fD x.D x.uses with
   | some e => .error e
   | none => match iq x.ands ((x.ands.length + 1) * (x.ands.length + 1)) 0 x.left [] with
    | (o,left) => match x.ands.find? (fun a => decide (a.lit / 2 ∈ left)) with
     | some a => .error (a.pos,7)
     | none => if Mo.chk ⟨kF x o,N.getD 0 [],N.getD 1 [],N.getD 2 [] ++ (N.getD 3 [] ++ N.getD 4 [])⟩ = 0 then .ok ⟨kF x o,N.getD 0 [],N.getD 1 [],N.getD 2 [] ++ (N.getD 3 [] ++ N.getD 4 [])⟩ else .error (0,Mo.chk ⟨kF x o,N.getD 0 [],N.getD 1 [],N.getD 2 [] ++ (N.getD 3 [] ++ N.getD 4 [])⟩)
def jO (s : S) : RE Mo :=
 match qg s [97,97,103] with
 | .error e => .error e
 | .ok (h,a) => match wL s h a with
  | .error e => .error e
  | .ok x => match wK s [h.getD 1 0,h.getD 2 0,h.getD 3 0,h.getD 5 0,h.getD 6 0] x.a with
   | .error e => .error e
   | .ok N => wO x N
theorem je {s : S} {a : Nat} {c : UInt8} {r : S} (h : s.drop a = c :: r) : o9 s a c = true ∧ s.drop (a + 1) = r ∧ a < s.length ∧ (∀ d,d ≠ c → o9 s a d = false) ∧ s.getD a 0 = c := by
 have e : s[a]? = some c := by
  have : s[a]? = (s.drop a)[0]? := by rw [List.getElem?_drop];rfl
  rw [this,h];rfl
 refine ⟨?_,?_,(List.getElem?_eq_some_iff.1 e).1,fun d hd => ?_,?_⟩
 ·unfold o9;rw [e];simp
 ·rw [← List.drop_drop,h];rfl
 ·unfold o9;rw [e];cases hx : (some c == some d) with
  | false => rfl
  | true => exact absurd (by simpa using hx) (fun hh : c = d => hd hh.symm)
 ·rw [List.getD_eq_getElem?_getD,e];rfl
theorem Qo {p : UInt8 → Bool} {l : S} {c : UInt8} {r : S} (h : ∀ x ∈ l,p x = true) (hc : p c = false) : (l ++ c :: r).takeWhile p = l := by
 induction l with
 | nil => simp [hc]
 | cons a l ih => simp only [List.cons_append,List.takeWhile_cons,h a (by simp),if_true];rw [ih fun x hx => h x (by simp [hx])]
theorem sU {s : S} {a : Nat} {n : Int} {c : UInt8} {r : S} (h : s.drop a = Lib.itoa n ++ c :: r) (h0 : 0 ≤ n) (hn : n ≤ 2147483647) (hc : bU c = false) : ∃ b,sQ s a = .ok (n,b) ∧ s.drop b = c :: r ∧ b = a + (Lib.itoa n).length := by
 obtain ⟨k,rfl⟩ : ∃ k : Nat,n = k := ⟨n.toNat,by omega⟩;rw [Bj] at h ⊢;have hl : a < s.length := by have h1 := congrArg List.length h;simp only [List.length_drop,List.length_append,List.length_cons] at h1;omega
 have htw : (s.drop a).takeWhile bU = Lib.decDigits k := by rw [h];exact Qo (Yw k) hc
 have hg : xX s a = ((k : Int),(a : Int) + ((Lib.decDigits k).length : Int),0) := by unfold xX;rw [if_neg (by omega)];show (if (s.drop a).takeWhile bU ≠ [] ∧ Xi ((s.drop a).takeWhile bU) then _ else _) = _;rw [htw,if_pos ⟨Xh k,by unfold Xi;rw [PR];exact ⟨by omega,rfl⟩⟩];show (((ng 0 ((s.drop a).takeWhile bU) : Nat) : Int),(a : Int) + (((s.drop a).takeWhile bU).length : Int),(0 : Int)) = _;rw [htw,PR]
 refine ⟨a + (Lib.decDigits k).length,?_,by rw [← List.drop_drop,h,List.drop_left],rfl⟩;unfold sQ;rw [hg,if_pos rfl];show Except.ok ((k : Int),((a : Int) + ((Lib.decDigits k).length : Int)).toNat) = _;rw [show ((a : Int) + ((Lib.decDigits k).length : Int)).toNat = a + (Lib.decDigits k).length by omega]
theorem Ej : bU 10 = false := by decide
theorem Nq : bU 32 = false := by decide
theorem Qp (l : Cl) : ∃ c r,lnG l = c :: r ∧ bU c = false := by
 cases l with
 | nil => exact ⟨10,[],rfl,Ej⟩
 | cons n l => exact ⟨32,_,rfl,Nq⟩
theorem IX {s : S} : ∀ (l : Cl) (k a : Nat) (acc : Cl) (r : S),(∀ n ∈ l,0 ≤ n ∧ n ≤ 2147483647) → l.length ≤ k → s.drop a = lnG l ++ r → ∃ b,mX s k a acc = .ok (acc ++ l,b) ∧ s.drop b = 10 :: r
 | [],k,a,acc,r,_,hk,h => by
  have h' : s.drop a = 10 :: r := h;refine ⟨a,?_,h'⟩;cases k with
  | zero => unfold mX;rw [List.append_nil]
  | succ k => unfold mX;rw [if_neg (by rw [(je h').2.2.2.1 32 (by decide)];decide),List.append_nil]
 | n :: l,k,a,acc,r,hl,hk,h => by
  obtain ⟨k,rfl⟩ : ∃ j,k = j + 1 := ⟨k - 1,by simp at hk;omega⟩;have h' : s.drop a = 32 :: (Lib.itoa n ++ (lnG l ++ r)) := by rw [h];simp [lnG]
  obtain ⟨a1,a2,_⟩ := je h';obtain ⟨c,r',e,hc⟩ := Qp l;have h2 := a2;rw [e,List.cons_append] at h2;obtain ⟨b,hb,hd,_⟩ := sU h2 (hl n (by simp)).1 (hl n (by simp)).2 hc;obtain ⟨b',hb',hd'⟩ := IX l k b (acc ++ [n]) r (fun x hx => hl x (by simp [hx])) (by simp at hk;omega) (by rw [hd,e];rfl);refine ⟨b',?_,hd'⟩;unfold mX;rw [if_pos a1,hb];dsimp only;rw [hb',List.append_assoc];rfl
theorem zam (l : Cl) (h : l ≠ []) : 32 :: lnT l = lnG l := by
 cases l with
 | nil => exact absurd rfl h
 | cons n l => rfl
theorem IY {s magic : S} {l : Cl} {r : S} (h : s = magic ++ (lnG l ++ r)) (hl : ∀ n ∈ l,0 ≤ n ∧ n ≤ 2147483647) (h5 : 5 ≤ l.length) (h7 : l.length ≤ 7) (hlim : wJ (hd9 l) = true) : ∃ b,qg s magic = .ok (hd9 l,b) ∧ s.drop b = r := by
 have hd : s.drop magic.length = lnG l ++ r := by rw [h,List.drop_left]
 obtain ⟨b,hb,hb'⟩ := IX l 9 magic.length [] r hl (by omega) hd;obtain ⟨a1,a2,_⟩ := je hb';refine ⟨b + 1,?_,a2⟩;unfold qg;rw [if_pos (by rw [List.isPrefixOf_iff_prefix,h];exact List.prefix_append _ _),hb];dsimp only;rw [List.nil_append,if_pos h5];unfold lC;rw [if_pos a1];dsimp only;have z : ∀ i,7 ≤ i → i < 9 → (hd9 l).getD i 0 = 0 := fun i h1 h2 => by unfold hd9;rw [List.getD_eq_getElem?_getD,List.getElem?_append_right (by omega),List.getElem?_replicate];split <;> rfl
 rw [if_pos ⟨z 7 (by omega) (by omega),z 8 (by omega) (by omega)⟩,if_pos hlim]
theorem Hf {s : S} {mo : Int} {x : Fi} {n : Int} {c : UInt8} {r : S} (h : s.drop x.a = Lib.itoa n ++ c :: r) (hn : n ≤ 2147483647) (hc : bU c = false) (h2 : n % 2 = 0) (h3 : 2 ≤ n) (h4 : n ≤ mo) (h5 : n / 2 ∉ x.D) : ∃ b,IW s mo x = .ok (n,{ x with a := b,D := x.D ++ [n / 2] }) ∧ s.drop b = c :: r := by obtain ⟨b,hb,hd,_⟩ := sU h (by omega) hn hc;refine ⟨b,?_,hd⟩;unfold IW;rw [hb];dsimp only;rw [if_pos ⟨h2,h3,h4⟩,if_neg h5]
theorem BG {s : S} {mo : Int} {x : Fi} {n : Int} {c : UInt8} {r : S} (h : s.drop x.a = Lib.itoa n ++ c :: r) (h0 : 0 ≤ n) (hn : n ≤ 2147483647) (hc : bU c = false) (h4 : n ≤ mo) : ∃ b,Cm s mo x = .ok ((n,x.a),{ x with a := b }) ∧ s.drop b = c :: r := by obtain ⟨b,hb,hd,_⟩ := sU h h0 hn hc;refine ⟨b,?_,hd⟩;unfold Cm;rw [hb];dsimp only;rw [if_pos h4]
theorem mD {s : S} {x : Fi} {c : UInt8} {r : S} (h : s.drop x.a = c :: r) : gq s c x = .ok { x with a := x.a + 1 } ∧ s.drop (x.a + 1) = r := by obtain ⟨a1,a2,_⟩ := je h;refine ⟨?_,a2⟩;unfold gq;rw [if_pos a1]
theorem wP {f : Fi → RE Fi} {n : Nat} {P : Nat → Fi → Prop} (step : ∀ i x,i < n → P i x → ∃ y,f x = .ok y ∧ P (i + 1) y) : ∀ (k i : Nat) (x : Fi),i + k = n → P i x → ∃ y,kX f k x = .ok y ∧ P n y
 | 0,i,x,hk,hp => ⟨x,rfl,by rw [← hk];exact hp⟩
 | k + 1,i,x,hk,hp => by obtain ⟨y,hy,hp'⟩ := step i x (by omega) hp;obtain ⟨z,hz,hq⟩ := wP step k (i + 1) y (by omega) hp';exact ⟨z,by unfold kX;rw [hy];exact hz,hq⟩
def sV (n : Nat) : Cl := (List.range n).map fun i : Nat => (i : Int)
theorem qY (n : Nat) : sV (n + 1) = sV n ++ [(n : Int)] := by unfold sV;rw [List.range_succ,List.map_append];rfl
theorem kH {n : Nat} {k : Int} : k ∈ sV n ↔ 0 ≤ k ∧ k < n := by
 unfold sV;rw [List.mem_map];constructor
 ·rintro ⟨i,hi,rfl⟩;have := List.mem_range.1 hi;omega
 ·rintro ⟨h0,h1⟩;exact ⟨k.toNat,List.mem_range.2 (by omega),by omega⟩
theorem BH (n : Nat) : (sV n).length = n := by simp [sV]
def lD (f : Nat → S) (i n : Nat) : S := (List.range' i (n - i)).flatMap f
theorem iU {f : Nat → S} {i n : Nat} (h : i < n) : lD f i n = f i ++ lD f (i + 1) n := by unfold lD;rw [show n - i = (n - (i + 1)) + 1 by omega,List.range'_succ,List.flatMap_cons]
theorem jP {f : Nat → S} {n : Nat} : lD f n n = [] := by unfold lD;simp
theorem jQ {f : Nat → S} {n : Nat} : (List.range n).flatMap f = lD f 0 n := by unfold lD;rw [List.range_eq_range',Nat.sub_zero]
theorem lF {l : Cl} {i : Nat} (h : i < l.length) : l.take (i + 1) = l.take i ++ [l.getD i 0] := by rw [List.take_add_one,List.getElem?_eq_getElem h,aG h];rfl
def PI' (s : S) (n : Nat) (r : S) (i : Nat) (x : Fi) : Prop := s.drop x.a = lD (fun i : Nat => lnT [2 * ((i : Int) + 1)]) i n ++ r ∧ x.D = sV (i + 1) ∧ x.ins = (List.range i).map (fun j : Nat => 2 * ((j : Int) + 1)) ∧ x.lats = [] ∧ x.next = [] ∧ x.init = [] ∧ x.outs = [] ∧ x.ands = []
theorem Qq {s : S} {mo : Int} {n : Nat} {r : S} (hmo : 2 * (n : Int) ≤ mo) (hm : mo ≤ 100000) {i : Nat} {x : Fi} (hi : i < n) (hp : PI' s n r i x) : ∃ y,iI s mo x = .ok y ∧ PI' s n r (i + 1) y := by
 obtain ⟨h1,h2,h3,h4,h5,h6,h7,h8⟩ := hp;rw [iU hi] at h1;have h1' : s.drop x.a = Lib.itoa (2 * ((i : Int) + 1)) ++ 10 :: (lD (fun i : Nat => lnT [2 * ((i : Int) + 1)]) (i + 1) n ++ r) := by rw [h1];simp [lnT,lnG]
 obtain ⟨b,hb,hd⟩ := Hf (mo := mo) h1' (by omega) Ej (by omega) (by omega) (by omega) (by rw [h2,kH];omega);unfold iI;rw [hb];dsimp only;obtain ⟨e1,e2⟩ := mD (x := { ({ x with a := b,D := x.D ++ [2 * ((i : Int) + 1) / 2] } : Fi) with ins := x.ins ++ [2 * ((i : Int) + 1)] }) hd;refine ⟨_,e1,e2,?_,?_,h4,h5,h6,h7,h8⟩
 ·show x.D ++ [2 * ((i : Int) + 1) / 2] = _;rw [h2,qY (i + 1)]
  congr 2
  omega
 ·show x.ins ++ [2 * ((i : Int) + 1)] = _;rw [h3,List.range_succ,List.map_append];rfl
def PL (s : S) (g : Gr) (r : S) (i : Nat) (x : Fi) : Prop := s.drop x.a = lD (fun i : Nat => lnT (Nk g i)) i g.next.length ++ r ∧ x.D = sV (1 + g.ins.toNat + i) ∧ x.ins = (List.range g.ins.toNat).map (fun j : Nat => 2 * ((j : Int) + 1)) ∧ x.lats = (List.range i).map (fun j : Nat => 2 * (1 + g.ins + (j : Int))) ∧ x.next.map Prod.fst = g.next.take i ∧ x.init = g.init.take i ∧ x.outs = [] ∧ x.ands = []
theorem VK {s : S} {mo : Int} {g : Gr} {r : S} (i0 : 0 ≤ g.ins) (hmo : 2 * (g.ins + g.next.length) ≤ mo) (hm : mo ≤ 100000) (hn : ∀ a ∈ g.next,0 ≤ a ∧ a ≤ mo) (hil : g.init.length = g.next.length) (hin : ∀ a ∈ g.init,0 ≤ a ∧ a ≤ 2) {i : Nat} {x : Fi} (hi : i < g.next.length) (hp : PL s g r i x) :
 ∃ y,iJ s mo x = .ok y ∧ PL s g r (i + 1) y := by
 obtain ⟨h1,h2,h3,h4,h5,h6,h7,h8⟩ := hp;rw [iU hi] at h1;obtain ⟨R,hR⟩ : ∃ R,R = lD (fun i : Nat => lnT (Nk g i)) (i + 1) g.next.length ++ r := ⟨_,rfl⟩
 obtain ⟨lit,hlit⟩ : ∃ lit,lit = 2 * (1 + g.ins + (i : Int)) := ⟨_,rfl⟩;obtain ⟨nx,hnx⟩ : ∃ nx,nx = g.next.getD i 0 := ⟨_,rfl⟩
 obtain ⟨ini,hini⟩ : ∃ ini,ini = g.init.getD i 0 := ⟨_,rfl⟩;obtain ⟨T,hT⟩ : ∃ T : Cl,T = (if ini = 0 then [] else if ini = 1 then [1] else [lit]) := ⟨_,rfl⟩;have bn := hn nx (by rw [hnx,aG hi];exact List.getElem_mem hi);have bi := hin ini (by rw [hini,aG (by omega)];exact List.getElem_mem _);have h1' : s.drop x.a = Lib.itoa lit ++ 32 :: (Lib.itoa nx ++ (lnG T ++ R)) := by rw [h1,hT,hR,hini,hnx,hlit];simp [lnT,lnG,Nk]
 obtain ⟨b,hb,hd⟩ := Hf (mo := mo) h1' (by omega) Nq (by omega) (by omega) (by omega) (by rw [h2,kH];omega);unfold iJ;rw [hb];dsimp only;obtain ⟨e1,e2⟩ := mD (x := { x with a := b,D := x.D ++ [lit / 2] }) hd;rw [e1];dsimp only;obtain ⟨c,r',ec,hc⟩ := Qp T;have e2' := e2;rw [ec,List.cons_append] at e2';obtain ⟨b2,hb2,hd2⟩ := BG (x := { x with a := b + 1,D := x.D ++ [lit / 2] }) (mo := mo) e2' (by omega) (by omega) hc (by omega);rw [hb2];dsimp only;have hd2' : s.drop b2 = lnG T ++ R := by rw [hd2,ec];rfl
 have hbeg : ∃ (n : Int) (b3 : Nat),qX s lit { x with a := b2,D := x.D ++ [lit / 2],next := x.next ++ [(nx,b + 1)] } = .ok (n,{ x with a := b3,D := x.D ++ [lit / 2],next := x.next ++ [(nx,b + 1)] }) ∧ min n 2 = ini ∧ s.drop b3 = 10 :: R := by
  unfold qX;by_cases z0 : ini = 0
  ·rw [if_pos z0] at hT;have hd3 : s.drop b2 = 10 :: R := by rw [hd2',hT];rfl
   refine ⟨0,b2,?_,by omega,hd3⟩;dsimp only;rw [if_neg (by rw [(je hd3).2.2.2.1 32 (by decide)];decide)]
  ·rw [if_neg z0] at hT;obtain ⟨v,hv,hv2,hv3⟩ : ∃ v,T = [v] ∧ min v 2 = ini ∧ (v < 2 ∨ v = lit) ∧ 0 ≤ v ∧ v ≤ 2147483647 := by
    by_cases z1 : ini = 1
    ·rw [if_pos z1] at hT;exact ⟨1,hT,by omega,.inl (by omega),by omega,by omega⟩
    ·rw [if_neg z1] at hT;exact ⟨lit,hT,by omega,.inr rfl,by omega,by omega⟩
   have hd3 : s.drop b2 = 32 :: (Lib.itoa v ++ 10 :: R) := by rw [hd2',hv];simp [lnG]
   obtain ⟨a1,a2,_⟩ := je hd3;obtain ⟨b3,hb3,hd4,_⟩ := sU a2 hv3.2.1 hv3.2.2 Ej;refine ⟨v,b3,?_,hv2,hd4⟩;dsimp only;rw [if_pos a1,hb3];dsimp only;rw [if_pos hv3.1]
 obtain ⟨n,b3,hb3,hmin,hd3⟩ := hbeg;rw [hb3];dsimp only;obtain ⟨f1,f2⟩ := mD (x := { x with a := b3,D := x.D ++ [lit / 2],next := x.next ++ [(nx,b + 1)],lats := x.lats ++ [lit],init := x.init ++ [min n 2] }) hd3;refine ⟨_,f1,by rw [hR] at f2;exact f2,?_,h3,?_,?_,?_,h7,h8⟩
 ·show x.D ++ [lit / 2] = _;rw [h2,show 1 + g.ins.toNat + (i + 1) = (1 + g.ins.toNat + i) + 1 by omega,qY]
  congr 2
  omega
 ·show x.lats ++ [lit] = _;rw [h4,List.range_succ,List.map_append,hlit];rfl
 ·show (x.next ++ [(nx,b + 1)]).map Prod.fst = _;rw [List.map_append,h5,lF hi,hnx];rfl
 ·show x.init ++ [min n 2] = _;rw [h6,lF (by omega),hmin,hini]
def PO (s : S) (g : Gr) (r : S) (i : Nat) (x : Fi) : Prop := s.drop x.a = lD (fun i : Nat => lnT [g.outs.getD i 0]) i g.outs.length ++ r ∧ x.D = sV (1 + g.ins.toNat + g.next.length) ∧ x.ins = (List.range g.ins.toNat).map (fun j : Nat => 2 * ((j : Int) + 1)) ∧ x.lats = (List.range g.next.length).map (fun j : Nat => 2 * (1 + g.ins + (j : Int))) ∧ x.next.map Prod.fst = g.next ∧ x.init = g.init ∧ x.outs.map Prod.fst = g.outs.take i ∧ x.ands = []
theorem Qr {s : S} {mo : Int} {g : Gr} {r : S} (hm : mo ≤ 100000) (hn : ∀ a ∈ g.outs,0 ≤ a ∧ a ≤ mo) {i : Nat} {x : Fi} (hi : i < g.outs.length) (hp : PO s g r i x) :
 ∃ y,eX s mo x = .ok y ∧ PO s g r (i + 1) y := by
 obtain ⟨h1,h2,h3,h4,h5,h6,h7,h8⟩ := hp;rw [iU hi] at h1;obtain ⟨v,hv⟩ : ∃ v,v = g.outs.getD i 0 := ⟨_,rfl⟩;have bn := hn v (by rw [hv,aG hi];exact List.getElem_mem hi);have h1' : s.drop x.a = Lib.itoa v ++ 10 :: (lD (fun i : Nat => lnT [g.outs.getD i 0]) (i + 1) g.outs.length ++ r) := by rw [h1,hv];simp [lnT,lnG]
 obtain ⟨b,hb,hd⟩ := BG (mo := mo) h1' bn.1 (by omega) Ej bn.2;unfold eX;rw [hb];dsimp only;obtain ⟨e1,e2⟩ := mD (x := { ({ x with a := b } : Fi) with outs := x.outs ++ [(v,x.a)] }) hd;refine ⟨_,e1,e2,h2,h3,h4,h5,h6,?_,h8⟩;show (x.outs ++ [(v,x.a)]).map Prod.fst = _;rw [List.map_append,h7,lF hi,hv];rfl
def PA (s : S) (g : Gr) (r : S) (i : Nat) (x : Fi) : Prop := s.drop x.a = lD (fun i : Nat => lnT [2 * (g.first + (i : Int)),(g.ands.getD i (0,0)).1,(g.ands.getD i (0,0)).2]) i g.ands.length ++ r ∧ x.D = sV (1 + g.ins.toNat + g.next.length + i) ∧ x.ins = (List.range g.ins.toNat).map (fun j : Nat => 2 * ((j : Int) + 1)) ∧ x.lats = (List.range g.next.length).map (fun j : Nat => 2 * (1 + g.ins + (j : Int))) ∧ x.next.map Prod.fst = g.next ∧ x.init = g.init ∧ x.outs.map Prod.fst = g.outs ∧ x.ands.map (fun a => (a.lit,a.p.1,a.q.1)) = (List.range i).map fun j : Nat => (2 * (g.first + (j : Int)),(g.ands.getD j (0,0)).1,(g.ands.getD j (0,0)).2)
theorem YE {s : S} {mo : Int} {g : Gr} {r : S} (i0 : 0 ≤ g.ins) (hmo : 2 * (g.first + g.ands.length) ≤ mo + 1) (hm : mo ≤ 100000) (hn : ∀ i (h : i < g.ands.length),0 ≤ g.ands[i].1 ∧ g.ands[i].1 ≤ mo ∧ 0 ≤ g.ands[i].2 ∧ g.ands[i].2 ≤ mo) {i : Nat} {x : Fi} (hi : i < g.ands.length) (hp : PA s g r i x) :
 ∃ y,mY s mo x = .ok y ∧ PA s g r (i + 1) y := by
 have wf : g.first = 1 + g.ins + g.next.length := rfl
 obtain ⟨h1,h2,h3,h4,h5,h6,h7,h8⟩ := hp;rw [iU hi] at h1;obtain ⟨lit,hlit⟩ : ∃ lit,lit = 2 * (g.first + (i : Int)) := ⟨_,rfl⟩;obtain ⟨p,hp⟩ : ∃ v,v = (g.ands.getD i (0,0)).1 := ⟨_,rfl⟩;obtain ⟨q,hq⟩ : ∃ v,v = (g.ands.getD i (0,0)).2 := ⟨_,rfl⟩;obtain ⟨R,hR⟩ : ∃ R,R = lD (fun i : Nat => lnT [2 * (g.first + (i : Int)),(g.ands.getD i (0,0)).1,(g.ands.getD i (0,0)).2]) (i + 1) g.ands.length ++ r := ⟨_,rfl⟩;have bn := hn i hi;rw [← aG (d := ((0,0) : Pr)) hi,← hp,← hq] at bn;have h1' : s.drop x.a = Lib.itoa lit ++ 32 :: (Lib.itoa p ++ 32 :: (Lib.itoa q ++ 10 :: R)) := by rw [h1,hp,hq,hlit,hR];simp [lnT,lnG]
 obtain ⟨b,hb,hd⟩ := Hf (mo := mo) h1' (by omega) Nq (by omega) (by omega) (by omega) (by rw [h2,kH];omega);unfold mY;rw [hb];dsimp only;obtain ⟨e1,e2⟩ := mD (x := { x with a := b,D := x.D ++ [lit / 2] }) hd;rw [e1];dsimp only;obtain ⟨b2,hb2,hd2⟩ := BG (x := { x with a := b + 1,D := x.D ++ [lit / 2] }) (mo := mo) e2 (by omega) (by omega) Nq (by omega);rw [hb2];dsimp only;obtain ⟨f1,f2⟩ := mD (x := { x with a := b2,D := x.D ++ [lit / 2] }) hd2;rw [f1];dsimp only;obtain ⟨b3,hb3,hd3⟩ := BG (x := { x with a := b2 + 1,D := x.D ++ [lit / 2] }) (mo := mo) f2 (by omega) (by omega) Ej (by omega);rw [hb3];dsimp only;obtain ⟨k1,k2⟩ := mD (x := { x with a := b3,D := x.D ++ [lit / 2] }) hd3;rw [k1];refine ⟨_,rfl,by rw [hR] at k2;exact k2,?_,h3,h4,h5,h6,h7,?_⟩
 ·show x.D ++ [lit / 2] = _;rw [h2,show 1 + g.ins.toNat + g.next.length + (i + 1) = (1 + g.ins.toNat + g.next.length + i) + 1 by omega,qY]
  congr 2
  omega
 ·show (x.ands ++ [(⟨lit,x.a,(p,b + 1),(q,b2 + 1)⟩ : An)]).map _ = _;rw [List.map_append,h8,List.range_succ,List.map_append,hlit,hp,hq];rfl
end Go.Proofs.YtfcpapokknfeeaaGreatDoor
