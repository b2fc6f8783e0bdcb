/- Lemmas for this claim, part A8: each holds under what it names. -/
import Derived.Test.YtfcpapokknfeeaaGreatDoorA7
import Derived.ProofKit
import Derived.SizedLaws
import Derived.JoinedCond
import Derived.RecoverIn
import Derived.RangeFuncLeaves
set_option linter.unusedVariables false
set_option linter.unusedSimpArgs false
namespace Go.Abs
open Go Go.RowKit
section
variable {e : E} {g : FuncId} {args : List V} {h : H} {R : AEnd → H → (Nat → Bool) → Prop}
def EvR (e : E) (g : FuncId) (args : List V) (S : V → Prop) : Prop :=
 ∀ ok w vs,HSim e ok (fun _ => none) [] w → VList (cx ok (fun _ => none) w) args vs →
  Calls e.P g vs.toArray w fun en w' => ∃ x r,S r ∧ en = .returned x ∧ WExt w w' ∧ VRel (cx ok (fun _ => none) w') r x
theorem EvR.run {S : V → Prop} (hv : EvR e g args S) (hd : V.dats args = true) {ok : Nat → Prop} {pl : Nat → Option Nat} {h : H} {w : World} {vs : List Value}
 (hs : HSim e ok pl h w) (hl : VList (cx ok pl w) args vs) : Calls e.P g vs.toArray w fun en w' => ∃ x r,S r ∧ en = .returned x ∧ WExt w w' ∧ VRel (cx ok pl w') r x :=
 (hv _ w vs hs.toData (VList.mono (nI ok pl w) _ _ (VList.todata _ _ hd hl))).mono fun en w' ⟨x,r,h0,h1,h2,h3⟩ =>
  ⟨x,r,h0,h1,h2,VRel.mono (yt ok pl w') _ _ h3⟩
theorem MI {S : V → Prop} (hv : EvR e g args S) (hd : V.dats args = true) (hr : ∀ r,S r → R (.ret r) h (fun _ => false)) : ah e g args h R :=
 fun ok pl w vs hs hl => (hv.run hd hs hl).mono fun en w' ⟨x,r,h0,h1,h2,h3⟩ => ⟨fun _ => false,pl,h,.ret r,hs.wext h2,h2.keeps hs,by rw [h1];exact h3,hr r h0⟩
def xP (p : Nat → Bool) : Nat → H → H
 | _,[] => []
 | i,o :: h => (if p i = true then o.drop (fun j => !p j) else .dead) :: xP p (i + 1) h
def vG (p : Nat → Bool) : Nat → H → H
 | _,[] => []
 | i,o :: h => (if p i = true then .dead else o.drop p) :: vG p (i + 1) h
theorem nM {p : Nat → Bool} : ∀ {h : H} {k i : Nat},(xP p k h)[i]? = (h[i]?).map fun o => if p (k + i) = true then o.drop (fun j => !p j) else .dead
 | [],k,i => by simp [xP]
 | o :: h,k,0 => by simp [xP]
 | o :: h,k,i + 1 => by rw [xP,List.getElem?_cons_succ,nM,List.getElem?_cons_succ,show k + 1 + i = k + (i + 1) by omega]
theorem vH {p : Nat → Bool} : ∀ {h : H} {k i : Nat},(vG p k h)[i]? = (h[i]?).map fun o => if p (k + i) = true then .dead else o.drop p
 | [],k,i => by simp [vG]
 | o :: h,k,0 => by simp [vG]
 | o :: h,k,i + 1 => by rw [vG,List.getElem?_cons_succ,vH,List.getElem?_cons_succ,show k + 1 + i = k + (i + 1) by omega]
theorem vI {o : O} {p : Nat → Bool} (h : o = .dead ∨ o = .cells []) : o.drop p = .dead ∨ o.drop p = .cells [] := by
 rcases h with rfl | rfl
 ·exact .inl rfl
 ·exact .inr (by simp [O.drop,V.drops])
theorem qF (p : Nat → Bool) (ok : Nat → Prop) (pl : Nat → Option Nat) (w : World) :
 CExt (fun j => !p j) (cx ok pl w) (cx (fun b => ok b ∧ ∀ i,p i = false → pl i ≠ some b) (fun i => if p i = true then pl i else none) w) :=
 ⟨fun b hb hok => ⟨⟨⟨hok.1,fun i _ => hok.2 i⟩,fun i hi => by
  try dsimp only at hi
  split at hi
  ·exact hok.2 i hi
  ·cases hi⟩,rfl⟩,
  fun i b hp hi => by
   have hp : p i = true := by simpa using hp
   simp only [cx,hp,if_true];exact hi,
  fun b arr el fz hb => ⟨arr,fz,hb,rfl⟩⟩
theorem HSim.sub {ok : Nat → Prop} {pl : Nat → Option Nat} {w : World} (hs : HSim e ok pl h w) (p : Nat → Bool) :
 HSim e (fun b => ok b ∧ ∀ i,p i = false → pl i ≠ some b) (fun i => if p i = true then pl i else none) (xP p 0 h) w where
 fresh b hb := ⟨hs.fresh b hb,fun i _ hi => by have := hs.lt i b hi;omega⟩
 lt i b hi := by
  try dsimp only at hi
  split at hi
  ·exact hs.lt i b hi
  ·cases hi
 okl i b hi := by
  try dsimp only at hi
  split at hi
  ·rename_i hp;refine ⟨hs.okl i b hi,fun j hj hj2 => ?_⟩;have := hs.inj i j b hi hj2;subst this;rw [hp] at hj;cases hj
  ·cases hi
 inj i j b hi hj := by
  try dsimp only at hi
  split at hi
  ·try dsimp only at hj
   split at hj
   ·exact hs.inj i j b hi hj
   ·cases hj
  ·cases hi
 obj i b hi := by
  try dsimp only at hi
  split at hi
  ·rename_i hp;obtain ⟨o,ho,hat⟩ := hs.obj i b hi;exact ⟨o.drop (fun j => !p j),by rw [nM,ho];simp [hp],uN (qF p ok pl w) rfl hat⟩
  ·cases hi
 bare i o ho hi := by
  rw [nM] at ho;cases hh : h[i]? with
  | none => rw [hh] at ho;cases ho
  | some o1 =>
   rw [hh] at ho;simp only [Option.map_some,Nat.zero_add,Option.some.injEq] at ho;subst ho;split
   ·rename_i hp;rw [if_pos hp] at hi;exact vI (hs.bare i o1 hh hi)
   ·exact .inl rfl
 glob g v hg := (hs.glob g v hg).glob_next (qF p ok pl w)
 exa g cs hg := (hs.exa g cs hg).next (qF p ok pl w)
theorem vJ {p : Nat → Bool} {ok : Nat → Prop} {pl : Nat → Option Nat} {w w' : World} (hs : HSim e ok pl h w) (x : WExt w w') :
 HSim e ok (fun i => if p i = true then none else pl i) (vG p 0 h) w' ∧ Keeps p pl w (fun i => if p i = true then none else pl i) w' := by
 have k : Keeps p pl w (fun i => if p i = true then none else pl i) w' :=
  ⟨x.os,x.tape,x.output,x.size,fun b hb _ => x.same b hb,fun i b hi => by
   try dsimp only at hi
   split at hi
   ·cases hi
   ·exact .inl ⟨i,hi⟩,
   fun i b hp hi => by rw [if_neg (by simp [hp])];exact hi,
   fun b arr el fz hb => ⟨arr,fz,(x.same b (aU hb)).trans hb,rfl⟩⟩
 refine ⟨hs.next k (fun i b hi => ?_) (fun i j b hi hj => ?_) (fun i b hi => ?_) (fun i o ho hi => ?_),k⟩
 ·try dsimp only at hi
  try dsimp only at hi
  split at hi
  ·cases hi
  ·exact Nat.lt_of_lt_of_le (hs.lt i b hi) x.size
 ·try dsimp only at hi hj
  try dsimp only at hi
  split at hi
  ·cases hi
  ·try dsimp only at hj
   split at hj
   ·cases hj
   ·exact hs.inj i j b hi hj
 ·try dsimp only at hi
  try dsimp only at hi
  split at hi
  ·cases hi
  ·rename_i hp;refine .inl ⟨hi,x.same b (hs.lt i b hi),?_⟩;rw [vH];simp [hp]
 ·rw [vH] at ho;cases hh : h[i]? with
  | none => rw [hh] at ho;cases ho
  | some o1 =>
   rw [hh] at ho;simp only [Option.map_some,Nat.zero_add,Option.some.injEq] at ho;subst ho;split
   ·exact .inl rfl
   ·rename_i hp;rw [if_neg hp] at hi;exact vI (hs.bare i o1 hh hi)
theorem U8 {n : Nat} {r : Option Nat} {c : Code} {Q : XE → Fr → H → Prop} {f : Fr} (p : Nat → Bool) (t : Nat → V) (ht : ∀ i,t i = (f.t i).drop p ∨ ((f.t i).drop (fun j => !p j) = f.t i ∧ aC e (xP p 0 h) (f.t i) (t i)))
 (hd : ∀ i ∈ f.d,p i = false) (hw : awp e n r c Q { f with t := t,k := fun i => f.k i || p i } (vG p 0 h)) : awp e n r c Q f h := by
 intro ok pl0 w0 pl w a s;obtain ⟨k1,k2⟩ := vJ (p := p) s.hs (WExt.refl w);refine hw ok pl0 w0 (fun i => if p i = true then none else pl i) w a ⟨k1,s.kp.trans k2,s.size,fun i => ?_,?_⟩
 ·rcases ht i with h1 | ⟨h1,h2⟩
  ·show VRel _ (t i) _;rw [h1];exact VRel.mdrop k2.cext _ _ (s.val i)
  ·have h3 := VRel.mdrop (qF p ok pl w) _ _ (s.val i);rw [h1] at h3;have h4 := h2 _ _ w _ (s.hs.sub p) h3;refine VRel.mono (c := cx (fun b => ok b ∧ ∀ i,p i = false → pl i ≠ some b) (fun _ => none) w) ?_ _ _ h4;refine ⟨fun b hb hok => ⟨⟨hok.1.1,fun i hi => ?_⟩,rfl⟩,fun i b _ hi => (by cases hi),fun b arr el fz hb => ⟨arr,fz,hb,rfl⟩⟩
   try dsimp only at hi
   split at hi
   ·cases hi
   ·rename_i hp;exact hok.1.2 i (by simpa using hp) hi
 ·have : ∀ (is : List Nat) (l : List Deferred),(∀ i ∈ is,p i = false) → FY (cx ok pl w) e.tl is l → FY (cx ok (fun i => if p i = true then none else pl i) w) e.tl is l := by
   intro is
   induction is with
   | nil => intro l _ hl;exact hl
   | cons i is ih => rintro l hi ⟨b,rest,h1,h2,h3⟩;exact ⟨b,rest,h1,k2.keep _ _ (hi i (by simp)) h2,ih rest (fun j hj => hi j (by simp [hj])) h3⟩
  exact this f.d _ hd s.dfr
end
section
variable {e : E} {h : H}
end
section
variable {e : E} {h : H}
def GV (e : E) (p : Nat → Bool) (h : H) (v v' : V) : Prop := v' = v.drop p ∨ (v.drop (fun j => !p j) = v ∧ aC e (xP p 0 h) v v')
def GVs (e : E) (p : Nat → Bool) (h : H) : List V → List V → Prop
 | [],[] => True
 | v :: vs,v' :: vs' => GV e p h v v' ∧ GVs e p h vs vs'
 | _,_ => False
theorem GV.rel {p : Nat → Bool} {ok : Nat → Prop} {pl : Nat → Option Nat} {w : World} (hs : HSim e ok pl h w) {v v' : V} {x : Value} (hg : GV e p h v v') (hx : VRel (cx ok pl w) v x) :
 VRel (cx ok (fun i => if p i = true then none else pl i) w) v' x := by
 obtain ⟨k1,k2⟩ := vJ (p := p) hs (WExt.refl w);rcases hg with h1 | ⟨h1,h2⟩
 ·rw [h1];exact VRel.mdrop k2.cext _ _ hx
 ·have h3 := VRel.mdrop (qF p ok pl w) _ _ hx;rw [h1] at h3;have h4 := h2 _ _ w _ (hs.sub p) h3;refine VRel.mono (c := cx (fun b => ok b ∧ ∀ i,p i = false → pl i ≠ some b) (fun _ => none) w) ?_ _ _ h4;refine ⟨fun b hb hok => ⟨⟨hok.1.1,fun i hi => ?_⟩,rfl⟩,fun i b _ hi => (by cases hi),fun b arr el fz hb => ⟨arr,fz,hb,rfl⟩⟩
  try dsimp only at hi
  split at hi
  ·cases hi
  ·rename_i hp;exact hok.1.2 i (by simpa using hp) hi
theorem GVs.rel {p : Nat → Bool} {ok : Nat → Prop} {pl : Nat → Option Nat} {w : World} (hs : HSim e ok pl h w) : ∀ {vs vs' : List V} {xs : List Value},GVs e p h vs vs' → VList (cx ok pl w) vs xs →
 VList (cx ok (fun i => if p i = true then none else pl i) w) vs' xs
 | [],[],xs,_,hx => by simp only [VList] at hx ⊢;exact hx
 | v :: vs,v' :: vs',xs,hg,hx => by simp only [VList] at hx ⊢;obtain ⟨y,ys,h1,h2,h3⟩ := hx;exact ⟨y,ys,h1,hg.1.rel hs h2,GVs.rel hs hg.2 h3⟩
 | [],v' :: vs',_,hg,_ => hg.elim
 | v :: vs,[],_,hg,_ => hg.elim
theorem GVs.length {p : Nat → Bool} : ∀ {vs vs' : List V},GVs e p h vs vs' → vs'.length = vs.length
 | [],[],_ => rfl
 | v :: vs,v' :: vs',hg => by simp [GVs.length hg.2]
 | [],v' :: vs',hg => hg.elim
 | v :: vs,[],hg => hg.elim
theorem qG {n : Nat} {r : Option Nat} {c : Code} {Q : XE → Fr → H → Prop} {f : Fr} (p : Nat → Bool) (h' : H)
 (hh : ∀ i,p i = false → h'[i]? = (h[i]?).map (O.drop p) ∨ ∃ cs cs',h[i]? = some (.cells cs) ∧ h'[i]? = some (.cells cs') ∧ GVs e p h cs cs')
 (hb : ∀ i o,p i = true → h'[i]? = some o → o = .dead)
 (hd : ∀ i ∈ f.d,p i = false) (hw : awp e n r c Q { f with t := fun i => (f.t i).drop p,k := fun i => f.k i || p i } h') : awp e n r c Q f h := by
 intro ok pl0 w0 pl w a s;obtain ⟨k1,k2⟩ := vJ (p := p) s.hs (WExt.refl w);have hs' : HSim e ok (fun i => if p i = true then none else pl i) h' w := by
  refine s.hs.next k2 k1.lt k1.inj (fun i b hi => ?_) (fun i o ho hi => ?_)
  ·try dsimp only at hi
   split at hi
   ·cases hi
   ·rename_i hp;have hp : p i = false := by simpa using hp
    rcases hh i hp with h1 | ⟨cs,cs',h1,h2,h3⟩
    ·exact .inl ⟨hi,rfl,h1⟩
    ·obtain ⟨o,h4,h5⟩ := s.hs.obj i b hi;rw [h1] at h4;cases h4;obtain ⟨arr,el,fz,g1,g2,g3,g4⟩ := h5;refine .inr ⟨_,h2,arr,el,fz,g1,g2,by rw [h3.length];exact g3,?_⟩;rw [h3.length];exact h3.rel s.hs g4
  ·by_cases hp : p i = true
   ·exact .inl (hb i o hp ho)
   ·have hp : p i = false := by simpa using hp
    have hi2 : pl i = none := by
     try dsimp only at hi
     rw [if_neg (by simp [hp])] at hi;exact hi
    rcases hh i hp with h1 | ⟨cs,cs',h1,h2,h3⟩
    ·rw [h1] at ho;cases h4 : h[i]? with
     | none => rw [h4] at ho;cases ho
     | some o1 => rw [h4] at ho;simp only [Option.map_some,Option.some.injEq] at ho;subst ho;exact vI (s.hs.bare i o1 h4 hi2)
    ·rw [h2] at ho;cases ho;rcases s.hs.bare i _ h1 hi2 with h4 | h4
     ·cases h4
     ·simp only [O.cells.injEq] at h4;subst h4;cases cs' with
      | nil => exact .inr rfl
      | cons v vs => exact h3.elim
 refine hw ok pl0 w0 (fun i => if p i = true then none else pl i) w a ⟨hs',s.kp.trans k2,s.size,fun i => VRel.mdrop k2.cext _ _ (s.val i),?_⟩;have : ∀ (is : List Nat) (l : List Deferred),(∀ i ∈ is,p i = false) → FY (cx ok pl w) e.tl is l → FY (cx ok (fun i => if p i = true then none else pl i) w) e.tl is l := by
  intro is
  induction is with
  | nil => intro l _ hl;exact hl
  | cons i is ih => rintro l hi ⟨b,rest,h1,h2,h3⟩;exact ⟨b,rest,h1,k2.keep _ _ (hi i (by simp)) h2,ih rest (fun j hj => hi j (by simp [hj])) h3⟩
 exact this f.d _ hd s.dfr
end
section
variable {e : E} {h : H}
end
open Go.ChangeShapes
section
variable {H : Type} {enc : TypeId × Value → H} {P : Program}
end
section
variable {e : E} {n : Nat} {o : Oper} {f : Fr} {h : H} {Kn : Fr → H → Prop} {Q : XE → Fr → H → Prop}
end
def OLe (o o' : O) : Prop := (∀ c b,OAt c b o → OAt c b o') ∧ ((o = .dead ∨ o = .cells []) → (o' = .dead ∨ o' = .cells []))
theorem OLe.refl (o : O) : OLe o o := ⟨fun _ _ h => h,fun h => h⟩
theorem OLe.cells {cs cs' : List V} (hl : cs'.length ≤ cs.length) (hv : dW (cs.take cs'.length) cs') : OLe (.cells cs) (.cells cs') := by
 refine ⟨fun c b ho => ?_,fun h => ?_⟩
 ·obtain ⟨arr,el,fz,h1,h2,h3,h4⟩ := ho;refine ⟨arr,el,fz,h1,h2,by omega,?_⟩;have := hv c _ (h4.take cs'.length)
  rwa [List.take_take,Nat.min_eq_left hl] at this
 ·rcases h with h | h
  ·cases h
  ·cases h;exact .inr (by rw [List.length_eq_zero_iff.1 (Nat.le_zero.1 hl)])
theorem OLe.take (cs : List V) (m : Nat) : OLe (.cells cs) (.cells (cs.take m)) := OLe.cells (by simp;omega) (by
 rw [List.length_take,show List.take (min m cs.length) cs = List.take m cs by
  rcases Nat.le_total m cs.length with h | h
  ·rw [Nat.min_eq_left h]
  ·rw [Nat.min_eq_right h,List.take_of_length_le (Nat.le_refl _),List.take_of_length_le h]]
 exact dW.refl _)
theorem VLe.cap {id k off len cap cap' : Nat} (hc : cap' ≤ cap) : VLe (.ls id k off len cap) (.ls id k off len cap') := fun c x h => by simp only [VRel] at h ⊢;obtain ⟨a,cp,h1,h2,h3⟩ := h;exact ⟨a,cp,h1,by omega,h3⟩
theorem dD {id k off : Nat} : VLe .nils (.ls id k off 0 0) := fun c x h => by simp only [VRel] at h ⊢;exact ⟨none,0,h,Nat.le_refl _,Nat.le_refl _,Nat.zero_le _,.inl rfl⟩
theorem VLe.any (v : V) : VLe v .any := fun c x h => by simp only [VRel]
theorem dW.set {vs : List V} {i : Nat} {v v' : V} (hi : vs[i]? = some v) (h : VLe v v') : dW vs (vs.set i v') := by
 induction vs generalizing i with
 | nil => simp at hi
 | cons u vs ih =>
  cases i with
  | zero => simp only [List.getElem?_cons_zero,Option.some.injEq] at hi;subst hi;exact dW.cons h (dW.refl _)
  | succ i => exact dW.cons (VLe.refl _) (ih (by simpa using hi))
def HLe (h h' : H) : Prop := h'.length = h.length ∧ ∀ (i : Nat) (o' : O),h'[i]? = some o' → ∃ o : O,h[i]? = some o ∧ OLe o o'
theorem HLe.refl (h : H) : HLe h h := ⟨rfl,fun i o ho => ⟨o,ho,OLe.refl o⟩⟩
theorem HLe.trans {a b c : H} (h : HLe a b) (k : HLe b c) : HLe a c := ⟨k.1.trans h.1,fun i o ho => by
 obtain ⟨o1,h1,h2⟩ := k.2 i o ho;obtain ⟨o2,h3,h4⟩ := h.2 i o1 h1;exact ⟨o2,h3,fun c b x => h2.1 c b (h4.1 c b x),fun x => h2.2 (h4.2 x)⟩⟩
theorem HLe.set {h : H} {i : Nat} {o o' : O} (hi : h[i]? = some o) (hl : OLe o o') : HLe h (h.set i o') := by
 have hlt := (List.getElem?_eq_some_iff.1 hi).1;refine ⟨List.length_set,fun j q hq => ?_⟩;by_cases hj : i = j
 ·subst hj;rw [List.getElem?_set_self hlt] at hq;cases hq;exact ⟨o,hi,hl⟩
 ·rw [List.getElem?_set_ne hj] at hq;exact ⟨q,hq,OLe.refl q⟩
theorem HSim.le {e : E} {ok : Nat → Prop} {pl : Nat → Option Nat} {h h' : H} {w : World} (hs : HSim e ok pl h w) (k : HLe h h') : HSim e ok pl h' w where
 fresh := hs.fresh
 lt := hs.lt
 okl := hs.okl
 inj := hs.inj
 obj i b hi := by
  obtain ⟨o,h1,h2⟩ := hs.obj i b hi;have hlt : i < h'.length := by have := (List.getElem?_eq_some_iff.1 h1).1;rw [k.1];exact this
  obtain ⟨o1,h3,h4⟩ := k.2 i _ (List.getElem?_eq_getElem hlt);rw [h1] at h3;cases h3;exact ⟨_,List.getElem?_eq_getElem hlt,h4.1 _ _ h2⟩
 bare i o ho hp := by
  obtain ⟨o1,h3,h4⟩ := k.2 i o ho;exact h4.2 (hs.bare i o1 h3 hp)
 glob := hs.glob
 exa := hs.exa
structure FLe (f f' : Fr) : Prop where
 t : ∀ i,VLe (f.t i) (f'.t i)
 d : f'.d = f.d
 k : f'.k = f.k
theorem Dt {e : E} {n : Nat} {r : Option Nat} {c : Code} {Q : XE → Fr → H → Prop} {f f' : Fr} {h h' : H} (hf : FLe f f') (hh : HLe h h') (hw : awp e n r c Q f' h') : awp e n r c Q f h := by intro ok pl0 w0 pl w a s;refine hw ok pl0 w0 pl w a ⟨s.hs.le hh,by rw [hf.k];exact s.kp,s.size,fun i => hf.t i _ _ (s.val i),by rw [hf.d];exact s.dfr⟩
theorem vK {e : E} {n : Nat} {r : Option Nat} {c : Code} {Q : XE → Fr → H → Prop} {f : Fr} {h h' : H} (hh : HLe h h') (hw : awp e n r c Q f h') : awp e n r c Q f h :=
 Dt ⟨fun _ => VLe.refl _,rfl,rfl⟩ hh hw
theorem Du {e : E} {g : FuncId} {args args' : List V} {h h' : H} {R : AEnd → H → (Nat → Bool) → Prop} (ha : dW args args') (hh : HLe h h') (hc : ah e g args' h' R) : ah e g args h R :=
 fun ok pl w vs hs hv => hc ok pl w vs (hs.le hh) (ha _ _ hv)
theorem fU {e : E} {n : Nat} {r : Option Nat} {c : Code} {Q : XE → Fr → H → Prop} {f : Fr} {h : H} (hw : awp e n r c Q f (h ++ [.cells []])) : awp e n r c Q f h := by intro ok pl0 w0 pl w a s;exact hw ok pl0 w0 pl w a ⟨nZ s.hs,s.kp,s.size,s.val,s.dfr⟩
theorem FLe.one {f : Fr} (i : Nat) {v : V} (h : VLe (f.t i) v) : FLe f { f with t := fun j => if j = i then v else f.t j } := by
 refine ⟨fun j => ?_,rfl,rfl⟩;show VLe (f.t j) (if j = i then v else f.t j);by_cases he : j = i
 ·rw [if_pos he,he];exact h
 ·rw [if_neg he];exact VLe.refl _
section
variable {e : E} {n : Nat} {o : Oper} {Kn : Fr → H → Prop} {Q : XE → Fr → H → Prop} {f : Fr} {h : H}
end
end Go.Abs
namespace Go
section
variable {F : Fence} {n : Nat} {P : Program} {Q : Exit → Act → World → Prop} {QP : List PanicEntry → Act → World → Prop} {a : Act} {w : World}
end
end Go
namespace Go.Abs
open Go Go.RowKit
section
variable {e : E} {n : Nat} {r : Option Nat} {f : Fr} {h : H} {Q : XE → Fr → H → Prop} {QP : V → Fr → H → Prop}
end
section
variable {e : E} {n : Nat} {r : Option Nat} {f : Fr} {h : H} {Q : XE → Fr → H → Prop} {ops : Array Oper}
def U9 (e : E) (n : Nat) (r : Option Nat) (ops : Array Oper) (Q : XE → Fr → H → Prop) (l : List Oper) (f : Fr) (h : H) : Prop :=
 ∀ ok pl0 w0 pl w a,SSim e n ok pl0 w0 f h pl w a → wpListIn (RF r) 0 e.P ops (iO e n ok pl0 w0 Q) l a w
theorem fB {id : Nat} {l : List Oper} (hv : U9 e n r l.toArray Q l f h) : awp e n r (.region id l.toArray false) Q f h :=
 fun ok pl0 w0 pl w a s => wpIn_region_lit (hv ok pl0 w0 pl w a s)
theorem bT (hv : Q .normal f h) : U9 e n r ops Q [] f h := fun ok pl0 w0 pl w a s => ⟨pl,f,h,.normal,s,trivial,hv⟩
theorem bW {o : Oper} {rest : List Oper} (hg : o.guard = none) (hd : jT n o.dst = true) (he : Eff e n r o f h (U9 e n r ops Q rest) Q) : U9 e n r ops Q (o :: rest) f h := fun ok pl0 w0 pl w a s => by
 have hgd : gd ops f o = some true := by unfold gd;rw [hg]
 have hw := vg s.val hgd;unfold wpListIn;rw [if_pos hw];exact Oper.wpIn_mono (fun a' w' ⟨pl',f',h',s',hk⟩ => hk ok pl0 w0 pl' w' a' s') (he ok pl0 w0 pl w a s hd)
theorem ay {o : Oper} {rest : List Oper} (hg : o.guard = none) (hd : jT n o.dst = true) (he : match kR o.op with
 | true => CW e n o f h (U9 e n r ops Q rest) Q
 | false => PV.go true (uT e.P o (f.ev e) h) o.dst (U9 e n r ops Q rest) f h) : U9 e n r ops Q (o :: rest) f h := by
 refine bW hg hd ?_;cases hi : kR o.op with
 | true => rw [hi] at he;exact Az he
 | false => rw [hi] at he;exact iy (pO (he.1 rfl)) he.2
end
theorem HSim.tl {e : E} {ok : Nat → Prop} {pl : Nat → Option Nat} {h : H} {w : World} (hs : HSim e ok pl h w) (tl : List Deferred) : HSim { e with tl := tl } ok pl h w :=
 ⟨hs.fresh,hs.lt,hs.okl,hs.inj,hs.obj,hs.bare,hs.glob,hs.exa⟩
theorem HSim.untl {e : E} {ok : Nat → Prop} {pl : Nat → Option Nat} {h : H} {w : World} {tl : List Deferred} (hs : HSim { e with tl := tl } ok pl h w) : HSim e ok pl h w :=
 ⟨hs.fresh,hs.lt,hs.okl,hs.inj,hs.obj,hs.bare,hs.glob,hs.exa⟩
theorem ah.tl {e : E} {g : FuncId} {args : List V} {h : H} {R : AEnd → H → (Nat → Bool) → Prop} (hc : ah e g args h R) (tl : List Deferred) : ah { e with tl := tl } g args h R :=
 fun ok pl w vs hs hl => (hc ok pl w vs hs.untl hl).mono fun en w' ⟨p,pl',h',ae,h1,h2⟩ => ⟨p,pl',h',ae,h1.tl tl,h2⟩
def uy : Op → Bool
 | .assign _ | .move _ | .alloc _ | .store _ _ _ | .extract _ _ | .typeAssert _ _ _ _ => true
 | _ => false
theorem MJ {P : Program} {o : Oper} (h : uy o.op = true) (ev : Operand → Value) (w : World) : (∃ x w',(execOp ev o).run P w = .ok (.value x) w') ∨ (∃ w',(execOp ev o).run P w = .ok .skip w') ∨ ∃ x w',(execOp ev o).run P w = .halt x w' := by
 cases hop : o.op <;> rw [hop] at h <;> try (cases h;done)
 all_goals
  simp only [execOp,hop,Sem.run_bind,Sem.run_pure]
 case assign x => exact .inl ⟨_,_,rfl⟩
 case move x => exact .inl ⟨_,_,rfl⟩
 case store t x y => cases hr : (Instr.storeAt t (ev x) (ev y)).run P w with
  | ok v w' => exact .inr (.inl ⟨w',rfl⟩)
  | halt x w' => exact .inr (.inr ⟨x,w',rfl⟩)
 all_goals
  generalize hs : Sem.run P _ w = r;cases r with
  | ok v w' => exact .inl ⟨v,w',rfl⟩
  | halt x w' => exact .inr (.inr ⟨x,w',rfl⟩)
section
variable {e : E} {n : Nat}
theorem nN {ops : Array Oper} {P : Program} {Q : Exit → Act → World → Prop} {cs : List Frame} : ∀ (l : List Oper) (k : Nat) (a : Act) (w : World),(∀ j,j < l.length → l[j]? = ops[k + j]?) → (∀ o ∈ l,uy o.op = true) → wpListIn (RF none) 0 P ops Q l a w →
 wpOpsSIn (RF none) 0 P ops (fun ex a cs' w => cs' = cs ∧ Q ex a w) (List.range' k l.length) a cs w
 | [],k,a,w,_,_,h => by show wpOpsSIn _ _ _ _ _ [] a cs w;exact (And.intro rfl h : cs = cs ∧ Q .normal a w)
 | o :: rest,k,a,w,hl,hs,h => by
  have ho : ops[k]? = some o := by have := hl 0 (by simp);simpa using this.symm
  have ih : ∀ a w,wpListIn (RF none) 0 P ops Q rest a w → wpOpsSIn (RF none) 0 P ops (fun ex a cs' w => cs' = cs ∧ Q ex a w) (List.range' (k + 1) rest.length) a cs w := fun a w h => nN rest (k + 1) a w (fun j hj => by
   have := hl (j + 1) (by simpa using hj);rw [List.getElem?_cons_succ] at this;rw [this];congr 1;omega) (fun o ho => hs o (List.mem_cons_of_mem _ ho)) h
  show wpOpsSIn (RF none) 0 P ops _ (k :: List.range' (k + 1) rest.length) a cs w;unfold wpListIn at h;simp only [wpOpsSIn,ho];refine ⟨fun g _ => gQ none g,?_⟩;split at h
  ·rename_i hw;rw [if_pos hw];obtain ⟨_,hu⟩ := h;rw [dN,Oper.semAt_eq none a.eval o (fun c hc => by have := hs o (by simp);rw [hc] at this;cases this)] at hu;rcases MJ (P := P) (hs o (by simp)) a.eval w with ⟨x,w',hr⟩ | ⟨w',hr⟩ | ⟨x,w',hr⟩
   ·rw [hr] at hu ⊢;exact ih _ _ hu
   ·rw [hr] at hu ⊢;exact ih _ _ hu
   ·rw [hr] at hu ⊢;cases x <;> try exact hu.elim
    exact ⟨trivial,hu⟩
  ·rename_i hw;rw [if_neg hw];exact ih _ _ h.2
theorem jG {F : Fence} {m : Nat} {P : Program} {ops : Array Oper} {Q Q' : Exit → Act → List Frame → World → Prop} (hq : ∀ ex a cs w,Q ex a cs w → Q' ex a cs w) : ∀ (l : List Nat) (a : Act) (cs : List Frame) (w : World),wpOpsSIn F m P ops Q l a cs w → wpOpsSIn F m P ops Q' l a cs w
 | [],a,cs,w,h => hq _ _ _ _ h
 | i :: rest,a,cs,w,h => by
  simp only [wpOpsSIn] at h ⊢;split at h
  ·exact jG hq rest _ _ _ h
  ·refine ⟨h.1,?_⟩;have h2 := h.2;split at h2
   ·rename_i hw;rw [if_pos hw];split at h2
    ·split at h2 <;> exact jG hq rest _ _ _ h2
    ·exact jG hq rest _ _ _ h2
    ·exact jG hq rest _ _ _ h2
    ·exact hq _ _ _ _ h2
    ·exact h2.elim
   ·rename_i hw;rw [if_neg hw];exact jG hq rest _ _ _ h2
def mf (e : E) (q : FuncId) (args : List V) (v : V) (h : H) (K : H → (Nat → Bool) → Prop) : Prop :=
 ∀ ok pl w vs x,HSim e ok pl h w → VList (cx ok pl w) args vs → VRel (cx ok pl w) v x →
  CallsDIn (RF none) (0 - 1) e.P q vs.toArray (.panicking [{ v := x,recovered := false }]) w fun en u' w' => (∃ y,en = .returned y) ∧ u' = .panicking [{ v := x,recovered := true }] ∧
   ∃ p pl' h',HSim e ok pl' h' w' ∧ Keeps p pl w pl' w' ∧ K h' p
theorem kU (htl : e.tl = []) {q : FuncId} {fn : Func} {args : List V} {v : V} {h : H} {K : H → (Nat → Bool) → Prop} {id : Nat} {o0 : Oper} {l : List Oper} {rest : Code} (hf : e.P.funcs[q]? = some fn)
 (hb : fn.body = some (.seq (.region id (o0 :: l).toArray false) rest)) (hr0 : fn.results.toList = []) (hn : args.length ≤ fn.ntmps) (hg : o0.guard = none) (ho : ∀ ev w,(execOp ev o0).run e.P w = .ok .recover w) (hd : jT fn.ntmps o0.dst = true)
 (hl : (l.all fun o => uy o.op) = true)
 (hv : U9 e fn.ntmps none (o0 :: l).toArray (XE.seq (awp e fn.ntmps none rest (fun xe f h => (xe = .normal ∨ xe = .ret) ∧ f.d = [] ∧ K h f.k)) (fun _ _ _ => False)) l ((Fr.init args).put o0.dst v) h) : mf e q args v h K := by
 intro ok pl w vs x hs hl2 hx;refine callsDIn_of_wpSIn hf hb (gQ none q) fun c0 cs hm => ?_;have s0 := SSim.init htl (n := fn.ntmps) hs hl2 hn;have s1 := s0.put hd hx;obtain ⟨c1,ec1⟩ : ∃ c1 : Frame,c1 = { c0 with mode := .panicking [{ v := x,recovered := true }] } := ⟨_,rfl⟩;have hrec : recoverD (c0 :: cs) = some (x,c1 :: cs) := by
  rw [ec1];simp [recoverD,hm]
 refine wpSIn_seq (wpSIn_region ?_);have hsz : (o0 :: l).toArray.size = (o0 :: l).length := by simp
 rw [hsz,List.range_eq_range'];show wpOpsSIn (RF none) (0 - 1) e.P _ _ (0 :: List.range' 1 l.length) _ _ _;have h00 : (o0 :: l).toArray[0]? = some o0 := by simp
 simp only [wpOpsSIn,h00];refine ⟨fun g _ => gQ none g,?_⟩;have hgd : gd (o0 :: l).toArray (Fr.init args) o0 = some true := by unfold gd;rw [hg]
 rw [if_pos (vg s0.val hgd),ho];dsimp only;rw [hrec];dsimp only;have hlist := hv ok pl w pl w _ s1;have hS := nN (P := e.P) (cs := c1 :: cs) (ops := (o0 :: l).toArray) l 1 _ w (fun j hj => by simp [Nat.add_comm]) (fun o ho => List.all_eq_true.1 hl o ho) hlist;refine jG ?_ _ _ _ _ hS;rintro ex a2 cs2 w2 ⟨rfl,pl2,f2,h2,xe,s2,hx2,hq2⟩;cases xe <;> cases ex <;> (try exact hx2.elim) <;> (try exact hq2.elim);have hq2 : awp e fn.ntmps none rest (fun xe f h => (xe = .normal ∨ xe = .ret) ∧ f.d = [] ∧ K h f.k) f2 h2 := hq2;refine wpSIn_of_wpIn (dN none) (wpIn_mono (hq2 ok pl w pl2 w2 a2 s2) ?_);rintro ex a3 w3 ⟨pl3,f3,h3,xe,s3,hx3,hxe,hd3,hk3⟩;have hdf : a3.defers = [] := by
  have := s3.dfr;rw [hd3] at this;exact Eq.trans this htl
 have hres : ∃ y,(results fn a3.tmps).run e.P w3 = .ok y w3 := by
  have hp : (vz e.P f3 h3 fn.results.toList).1 := by rw [hr0];trivial
  obtain ⟨y,h1,_⟩ := yx (f := f3) s3.hs s3.val hp;exact ⟨y,h1⟩
 obtain ⟨y,hy⟩ := hres;have fin : a3.defers = [] ∧ ∃ u',c1 :: cs = { c0 with mode := u' } :: cs ∧ ∃ v,(results fn a3.tmps).run e.P w3 = .ok v w3 ∧ ((∃ y,Ending.returned v = .returned y) ∧ u' = .panicking [{ v := x,recovered := true }] ∧
  ∃ p pl' h',HSim e ok pl' h' w3 ∧ Keeps p pl w pl' w3 ∧ K h' p) :=
  ⟨hdf,_,by rw [ec1],y,hy,⟨y,rfl⟩,rfl,f3.k,pl3,h3,s3.hs,s3.kp,hk3⟩
 rcases hxe with rfl | rfl <;> cases ex <;> (try exact hx3.elim)
 ·exact fin
 ·exact fin
end
section
variable {e : E} {n : Nat}
def endR (e : E) (ok : Nat → Prop) (pl0 : Nat → Option Nat) (w0 : World) (R : AEnd → H → (Nat → Bool) → Prop) (en : Ending) (w' : World) : Prop :=
 ∃ p pl' h' ae,HSim e ok pl' h' w' ∧ Keeps p pl0 w0 pl' w' ∧ yj (cx ok pl' w') ae en ∧ R ae h' p
def Zz (e : E) (n : Nat) (M : Exit → Act → World → Prop) (ok : Nat → Prop) (pl0 : Nat → Option Nat) (w0 : World) (c : Code) (f : Fr) (h : H) : Prop :=
 ∀ pl w a,SSim e n ok pl0 w0 f h pl w a → c.wpIn (RF none) 0 e.P M a w
theorem O7 (htl : e.tl = []) {fn : Func} {R : AEnd → H → (Nat → Bool) → Prop} {ok : Nat → Prop} {pl : Nat → Option Nat} {w : World} : ∀ ex a w',iO e fn.ntmps ok pl w (bz e.P fn.results.toList R) ex a w' → bodyPostM (RF none) 0 e.P fn (endR e ok pl w R) ex a w' := by
 rintro ex a w' ⟨pl',f',h',xe,s,hx,hq⟩;have done : AC e.P fn.results.toList (fun v => R (.ret v)) f' h' → LeavesInM (RF none) 0 e.P fn a.tmps (endR e ok pl w R) a.defers .returning w' := by
  intro hq;unfold AC at hq;split at hq
  ·rename_i h2 hsh;refine Df htl (f := f') (a := a) (v := .any) (x := undef) (by simp) f'.d a.defers h' h2 pl' w' s (by simp only [VRel]) hsh fun w2 s2 _ => ?_;obtain ⟨x,h1,h3⟩ := yx (f := f') s2.hs s2.val hq.1;exact ⟨x,h1,f'.k,pl',h2,.ret _,s2.hs,s2.kp,h3,hq.2⟩
  ·exact hq.elim
 cases xe <;> cases ex <;> (try (exact hx.elim)) <;> (try (exact hq.elim))
 case normal => exact done hq
 case ret => exact done hq
 case pan v ch =>
  simp only [bz] at hq;split at hq
  ·rename_i h2 hsh;obtain ⟨x,hch,hxr⟩ := hx;exact Df htl (f := f') (a := a) (v := v) (x := x) (by simp) f'.d a.defers h' h2 pl' w' s hxr hsh fun w2 s2 hr => ⟨f'.k,pl',h2,.pan v,s2.hs,s2.kp,⟨x,hch,hr⟩,hq⟩
  ·exact hq.elim
theorem gG (htl : e.tl = []) {g : FuncId} {fn : Func} {c : Code} {args : List V} {h : H} {R : AEnd → H → (Nat → Bool) → Prop} (hf : e.P.funcs[g]? = some fn) (hb : fn.body = some c) (hn : args.length ≤ fn.ntmps)
 (hv : ∀ ok pl0 w0,Zz e fn.ntmps (bodyPostM (RF none) 0 e.P fn (endR e ok pl0 w0 R)) ok pl0 w0 c (Fr.init args) h) : ah e g args h R := by
 intro ok pl w vs hs hl;exact nD (r := none) (n := 0) (callsIn_of_wp_marks hf hb (gQ none g) (hv ok pl w pl w _ (SSim.init htl (n := fn.ntmps) hs hl hn)) rfl)
theorem oz {M : Exit → Act → World → Prop} {ok : Nat → Prop} {pl0 : Nat → Option Nat} {w0 : World} {f : Fr} {h : H} {x y : Code} {Q : XE → Fr → H → Prop} (hx : awp e n none x (XE.seq (fun f h => Zz e n M ok pl0 w0 y f h) Q) f h)
 (hQ : ∀ ex a w,iO e n ok pl0 w0 Q ex a w → M ex a w) : Zz e n M ok pl0 w0 (.seq x y) f h := fun pl w a s => by
 refine wpIn_seq (wpIn_mono (hx ok pl0 w0 pl w a s) fun ex a w hp => ?_);have := iO.seq (K' := fun a w => y.wpIn (RF none) 0 e.P M a w) (fun pl f h a w s hk => hk pl w a s) ex a w hp;cases ex <;> first | exact this | exact hQ _ _ _ this
end
section
variable {e : E} {n : Nat} {r : Option Nat} {o : Oper} {f : Fr} {h : H} {Kn : Fr → H → Prop} {Q : XE → Fr → H → Prop}
end
section
variable {e : E} {n : Nat} {r : Option Nat} {o : Oper} {f : Fr} {h : H} {Kn : Fr → H → Prop} {Q : XE → Fr → H → Prop}
variable {ok : Nat → Prop} {pl : Nat → Option Nat} {w : World}
theorem OLe.typed {T : TypeId} {cs : List V} : OLe (.typed T cs) (.cells cs) :=
 ⟨fun c b ⟨arr,fz,h1,h2,h3,h4⟩ => ⟨arr,T,fz,h1,h2,h3,h4⟩,fun h => by rcases h with h | h <;> cases h⟩
theorem rV (hs : HSim e ok pl h w) {cs : List V} {arr : Array Value} (hl : cs.length ≤ arr.size) (hc : VList (cx ok pl w) cs (arr.toList.take cs.length)) (el : TypeId) {w1 : World} (x : WExt w w1) :
 HSim e ok (bI pl h.length w1.heap.size) (h ++ [.typed el cs]) (w1.alloc (.cells arr el)) ∧ Keeps (fun _ => false) pl w (bI pl h.length w1.heap.size) (w1.alloc (.cells arr el)) := by
 have x2 := x.trans (WExt.alloc w1 (.cells arr el));have hb : (w1.alloc (.cells arr el)).heap[w1.heap.size]? = some (.cells arr el) := by rw [World.alloc];simp
 have key : ∀ (c' : C),CExt (fun _ => false) (cx ok pl w) c' → c'.w = w1.alloc (.cells arr el) → OAt c' w1.heap.size (.typed el cs) := by intro c' hx hw;exact ⟨arr,(0,0),by rw [hw];exact hb,fun j _ => by simp,hl,VList.mono hx cs _ hc⟩
 have k : CExt (fun _ => false) (cx ok pl w) (cx ok (bI pl h.length w1.heap.size) (w1.alloc (.cells arr el))) := by
  refine ⟨fun b hb' hok => ⟨⟨hok.1,fun i hi => ?_⟩,x2.same b hb'⟩,fun i b _ hi => ?_,fun b arr' el' fz hb' => ⟨arr',fz,(x2.same b (aU hb')).trans hb',rfl⟩⟩
  ·simp only [bI] at hi;split at hi
   ·cases hi;have := x.size;simp only [cx] at hb';omega
   ·exact hok.2 i hi
  ·have := hs.pl_lt hi;simp only [cx,bI];rw [if_neg (by omega)];exact hi
 exact hs.new x2 (.cells arr el) (.typed el cs) x.size (by simp) (key _ k rfl)
theorem yA {t : TypeId} (hop : o.op = .alloc t) {q : TI} (hq : ti e.P t = some q) (hf : q.zero.fit = true)
 (hk : Kn (f.put o.dst (.lp h.length 0)) (h ++ [.typed t q.zero.vc])) : Eff e n r o f h Kn Q := by
 refine aS ?_ (fun c => by rw [hop];exact fun h => by cases h);intro ok pl w ev hs _;obtain ⟨i,d,z,hT⟩ := aJ hq;have hz : VList (cx ok pl w) q.zero.vc z.cells.toList := by
  rw [hT.zv] at hf ⊢;exact (dK _ z).vc hf
 have hzl := hz.length;simp only [Array.length_toList] at hzl;obtain ⟨h1,h2⟩ := rV hs (cs := q.zero.vc) (arr := z.cells) (by omega) (by rw [List.take_of_length_le (by simp;omega)];exact hz) t (WExt.refl w);refine ⟨fun _ => false,.lp h.length 0,_,_,_,.pointer (some ⟨w.heap.size,0,none⟩),.inl ?_,h1,h2,?_,fun _ _ => rfl,by simpa using hk⟩
 ·have : (Instr.alloc t true (.tuple #[])).run e.P w = .ok (.pointer (some ⟨w.heap.size,0,none⟩)) (w.alloc (.cells z.cells t)) := by unfold Instr.alloc;simp only [Sem.run_bind,hT.run_zero,Result.andThen];rfl
  have h3 : execOp ev o = (do pure (Next.value (← Instr.alloc t true (.tuple #[])))) := by simp [execOp,hop]
  rw [h3];exact fJ this
 ·simp only [VRel];exact ⟨w.heap.size,by simp [cx,bI],rfl⟩
theorem tN (hs : HSim e ok pl h w) {id b : Nat} (hb : pl id = some b) {off : Nat} {vs : List V} {xs : List Value} (hv : VList (cx ok pl w) vs xs) (ho : dH vs = true)
 {cs : List V} {T : TypeId} (hc : h[id]? = some (.typed T cs)) (hl : off + vs.length ≤ cs.length) :
 ∃ w',(storeCells ⟨b,off,none⟩ xs).run e.P w = .ok () w' ∧ HSim e ok pl (h.set id (.typed T (eP cs off vs))) w' ∧ Keeps (fun _ => false) pl w pl w' := by
 obtain ⟨ob,h1,hat⟩ := hs.obj id b hb;rw [hc] at h1;cases h1;obtain ⟨arr,fz,h2,h3,h4,h5⟩ := hat;have hxl := hv.length;simp only [cx] at h2;have hrun := eQ (P := e.P) (o := off) h2 h3 (by omega) (hv.oneCells ho);have hw := gB (b := b) xs off arr w h2 (by omega);refine ⟨_,hrun,hs.upd hb _ hw.os hw.tape hw.output hw.size hw.same (fun arr' el' fz' ha => ?_) fun k => ?_⟩
 ·rw [h2] at ha;cases ha;refine ⟨_,_,hw.here,?_⟩;simp;omega
 ·have hsz : (arr.toList.take off ++ xs ++ arr.toList.drop (off + xs.length)).toArray.size = arr.size := by simp;omega
  refine ⟨_,fz,hw.here,fun j hj => h3 j (by omega),?_,?_⟩
  ·have : (eP cs off vs).length = cs.length := by unfold eP;simp;omega
   rw [this,hsz];exact h4
  ·have hlen : (eP cs off vs).length = cs.length := by unfold eP;simp;omega
   rw [hlen];have e1 : (arr.toList.take off ++ xs ++ arr.toList.drop (off + xs.length)).toArray.toList.take cs.length = (arr.toList.take cs.length).take off ++ xs ++ (arr.toList.take cs.length).drop (off + xs.length) := by
    apply List.ext_getElem?;intro i;have hsz : arr.toList.length = arr.size := by simp
    simp only [List.getElem?_append,List.getElem?_take,List.getElem?_drop,List.length_append,List.length_take,List.length_drop]
    repeat' split
    all_goals first
     | rfl
     | omega
     | (congr 1;omega)
     | (exfalso;omega)
     | (simp_all;(try omega);done)
     | (rw [List.getElem?_eq_none];simp;omega)
     | (symm;rw [List.getElem?_eq_none];simp;omega)
   rw [e1];unfold eP;rw [← hxl];have h5' := VList.mono k cs _ h5;exact ((h5'.take off).append (VList.mono k vs _ hv)).append (h5'.dropN _)
theorem rW {t : TypeId} {x y : Operand} (hop : o.op = .store t x y) {id off : Nat} (hx : (f.ev e x).sv = .lp id off) (hxc : (f.ev e x).sc) (hyc : (f.ev e y).sc)
 {q : TI} (hq : ti e.P t = some q) (hf : (f.ev e y).sv.fit = true) (h1 : dH (f.ev e y).sv.vc = true) (hsz : (f.ev e y).sv.vc.length = q.size)
 {cs : List V} {T : TypeId} (hc : h[id]? = some (.typed T cs)) (hl : off + (f.ev e y).sv.vc.length ≤ cs.length)
 (hk : Kn (f.put o.dst jb) (h.set id (.typed T (eP cs off (f.ev e y).sv.vc)))) : Eff e n r o f h Kn Q := by
 refine aS ?_ (fun c => by rw [hop];exact fun h => by cases h);intro ok pl w ev hs hr;obtain ⟨i,d,z,hT⟩ := aJ hq;have hxv := (hr x (by simp [hop,Op.operands])).sv hxc;rw [hx] at hxv;simp only [VRel] at hxv;obtain ⟨b,hb,hxb⟩ := hxv;have hyv := (hr y (by simp [hop,Op.operands])).sv hyc;have hvc := hyv.vc hf;obtain ⟨w',hrun,hs',k⟩ := tN hs hb hvc h1 hc hl;refine ⟨fun _ => false,jb,_,pl,w',undef,.inr ⟨?_,rfl⟩,hs',k,nG _,fun _ _ => rfl,by simpa using hk⟩;have hlen := hvc.length;have h3 : execOp ev o = (do Instr.storeAt t (ev x) (ev y);pure .skip) := by simp [execOp,hop]
 rw [h3];have : ¬ (ev y).cells.size ≠ q.size := by
  simp only [Array.length_toList] at hlen;omega
 simp only [Sem.run_bind,Instr.storeAt,hxb,Instr.sureAddr,Sem.run_pure,Result.andThen,storeVar,hT.run_size];rw [if_neg this];simp only [hrun]
theorem rX {x y : Operand} {t xt el : TypeId} {q re : TI} (ha : IsAppend e o x y t xt el q re) (hxc : (f.ev e x).sc) (hyc : (f.ev e y).sc)
 (hex : (f.ev e x).sv = .nils) (hst : Aq e.P xt el (f.ev e y).sv = true)
 {m : Nat} {cs : List V} (hy : jA h re.size (f.ev e y).sv = some (m,cs)) (hyf : nH re.size (f.ev e y).sv = true)
 (hnz : 0 < m) (hbig : 0 + m ≤ maxLen) (hbytes : (0 + m) * re.bytes ≤ 140737488355328)
 (hk : Kn (f.put o.dst (.ls h.length re.size 0 (0 + m) (0 + m))) (h ++ [.typed el ([] ++ cs)])) : Eff e n r o f h Kn Q := by
 obtain ⟨⟨ts,hop,ht0,ht1⟩,hti,hkind,htie,hzf,hzl,hpos⟩ := ha;refine aS ?_ (fun c => by rw [hop];exact fun h => by cases h);intro ok pl w ev hs hr;obtain ⟨i,d,z,hT⟩ := aJ hti;have hd := hT.slice hkind;subst hd;obtain ⟨ie,de,ze,hE⟩ := aJ htie;obtain ⟨rx,ix,dx,zx,hX,hxi⟩ := CS hst;have hxv := (hr x (by simp [hop,Op.operands,Call.operands])).sv hxc;have hyv := (hr y (by simp [hop,Op.operands,Call.operands])).sv hyc;rw [hex] at hxv;obtain ⟨n0,hn0⟩ : ∃ n0,n0 = 0 := ⟨0,rfl⟩;obtain ⟨cs0,hcs0⟩ : ∃ cs0 : List V,cs0 = [] := ⟨[],rfl⟩;rw [← hn0] at hbig hbytes;obtain ⟨olds,ho1,ho2,ho3,ho4⟩ := lW (n := n0) (k := re.size) (cs := cs0) hs hxv (by subst hn0;subst hcs0;rfl) rfl;obtain ⟨news,hn1,hn2,hn3,hn4⟩ := lW hs hyv hy hyf;obtain ⟨base,hbase⟩ : ∃ base,ev x = .slice base n0 n0 := by simp only [VRel] at hxv;exact ⟨none,by rw [hn0];exact hxv⟩
 have hol := ho3.length;have hnl := hn3.length;have hroom : ¬ n0 + m ≤ n0 := by omega
 have hrun := gK (P := e.P) (w := w) (ty := o.type) ht0 ht1 hT hE hX hxi base n0 n0 m (ev y) olds news (fun w' => hn1 w') (by rw [← hbase];exact ho2 _ (fun _ => rfl)) (hn2 _ (fun _ => rfl)) (by omega) hbig hbytes;obtain ⟨cap,hcap⟩ : ∃ cap,grownCap w (n0 + m) n0 el = cap := ⟨_,rfl⟩;have hge := grownCap_ge w (n0 + m) n0 el;have hle := grownCap_le_maxLen w (n0 + m) n0 el hbig;rw [hcap] at hrun hge hle;obtain ⟨arr,harr⟩ : ∃ arr,olds ++ news ++ Builtin.zeroCells ze.cells (cap - (n0 + m)) = arr := ⟨_,rfl⟩;rw [harr] at hrun;have hzs : ze.cells.size = re.size := by have hzr := (dK (cx ok pl w) ze).vc (by rw [← hE.zv];exact hzf);have := hzr.length;rw [← hE.zv,hzl] at this;simpa using this
 have hasz : arr.size = cap * re.size := by rw [← harr];simp only [Array.size_append,size_zeroCells,hzs];simp only [Array.length_toList] at hol hnl;rw [hol,hnl,ho4,hn4,← Nat.add_mul,← Nat.add_mul];congr 1;omega
 have hlist : arr.toList.take (cs0 ++ cs).length = olds.toList ++ news.toList := by rw [← harr];simp only [Array.toList_append];rw [List.take_append_of_le_length (by simp only [List.length_append];omega),List.take_of_length_le (by simp only [List.length_append];omega)]
 obtain ⟨hs',kk⟩ := rV hs (cs := cs0 ++ cs) (arr := arr) (by rw [hasz,List.length_append,ho4,hn4,← Nat.add_mul];exact Nat.mul_le_mul_right _ hge) (by rw [hlist];exact ho3.append hn3) el (WExt.drew w);subst hn0;subst hcs0;refine ⟨fun _ => false,_,_,_,_,.slice (some ⟨w.heap.size,0,none⟩) (0 + m) cap,.inl ?_,hs',kk,?_,fun _ _ => rfl,by rw [Fr.drop_none];exact hk⟩
 ·rw [dE hop,hbase];exact fJ hrun
 ·simp only [VRel];refine ⟨_,cap,rfl,hge,hge,hle,.inr ⟨w.heap.size,arr,el,(0,0),by simp [cx,bI],rfl,?_,by rw [hasz];omega⟩⟩;exact World.alloc_heap_new w.drew (.cells arr el)
theorem mQ {x y : Operand} {t xt el : TypeId} {q re : TI} (ha : IsAppend e o x y t xt el q re) (hxc : (f.ev e x).sc) (hyc : (f.ev e y).sc)
 {id len cap : Nat} (hx : (f.ev e x).sv = .ls id re.size 0 len cap) {cs0 : List V} (hc : h[id]? = some (.typed el cs0)) (hcl : cs0.length = len * re.size)
 (hst : Aq e.P xt el (f.ev e y).sv = true) {m : Nat} {cs : List V} (hy : jA h re.size (f.ev e y).sv = some (m,cs)) (hyf : nH re.size (f.ev e y).sv = true) (h1 : dH cs = true)
 (hbig : len + m ≤ maxLen) (hbytes : (len + m) * re.bytes ≤ 140737488355328) (hid : ∀ i ∈ f.d,(i == id) = false)
 (hk : Kn ((f.drop (· == id)).put o.dst (.ls id re.size 0 (len + m) (len + m))) ((h.map (O.drop (· == id))).set id (.typed el (V.drops (· == id) (cs0 ++ cs))))) : Eff e n r o f h Kn Q := by
 obtain ⟨⟨ts,hop,ht0,ht1⟩,hti,hkind,htie,hzf,hzl,hpos⟩ := ha;refine aS ?_ (fun c => by rw [hop];exact fun h => by cases h);intro ok pl w ev hs hr;obtain ⟨i,d,z,hT⟩ := aJ hti;have hd := hT.slice hkind;subst hd;obtain ⟨ie,de,ze,hE⟩ := aJ htie;obtain ⟨rx,ix,dx,zx,hX,hxi⟩ := CS hst;have hxv := (hr x (by simp [hop,Op.operands,Call.operands])).sv hxc;have hyv := (hr y (by simp [hop,Op.operands,Call.operands])).sv hyc;have hx' := hxv;rw [hx] at hx';obtain ⟨olds,ho1,ho2,ho3,ho4⟩ := lW (k := re.size) (n := len) (cs := cs0) hs hx' (by
  have : eG h id = cs0 := by simp [eG,hc]
  simp only [jA,this];rw [if_pos ⟨trivial,by omega⟩];simp only [List.drop_zero];rw [List.take_of_length_le (by omega)]) rfl
 obtain ⟨news,hn1,hn2,hn3,hn4⟩ := lW hs hyv hy hyf;simp only [VRel] at hx';obtain ⟨base,cp,hbase,hcap,hlen,hmax,hpl⟩ := hx';have hol := ho3.length;have hnl := hn3.length;have hidl : id < h.length := (List.getElem?_eq_some_iff.1 hc).1;by_cases hroom : len + m ≤ cp
 ·rcases hpl with hcp | ⟨b,arr,el',fz,hb,hbs,harr,hsz⟩
  ·have hm0 : m = 0 := by omega
   have hl0 : len = 0 := by omega
   subst hm0;subst hl0;subst hcp;have hcs : cs = [] := List.length_eq_zero_iff.1 (by omega);have hcs0 : cs0 = [] := List.length_eq_zero_iff.1 (by omega);subst hcs;subst hcs0;have hnews : news.toList = [] := List.length_eq_zero_iff.1 (by omega);have hrun := dL (P := e.P) (w := w) (ty := o.type) ht0 ht1 hT hE hX hxi base 0 0 0 (ev y) news (fun w' => hn1 w') (hn2 w (fun _ => rfl)) (by omega) (w' := w) (by
    cases base with
    | none => exact .inl ⟨rfl,rfl⟩
    | some a => exact .inr ⟨a,rfl,by rw [hnews];rfl⟩)
   obtain ⟨hs',kk⟩ := hs.kill (· == id);have hset : (h.map (O.drop (· == id))).set id (.typed el (V.drops (· == id) ([] ++ []))) = h.map (O.drop (· == id)) := by
    apply List.ext_getElem?;intro j;by_cases hj : j = id
    ·subst hj;rw [List.getElem?_set_self (by simpa using hidl),List.getElem?_map,hc];simp [O.drop,V.drops]
    ·rw [List.getElem?_set_ne (Ne.symm hj)]
   rw [hset] at hk;refine ⟨(· == id),_,_,pl,w,.slice base 0 0,.inl ?_,hs',kk,?_,hid,hk⟩
   ·rw [dE hop,hbase];exact fJ hrun
   ·simp only [VRel];exact ⟨base,0,rfl,by omega,by omega,by simp [maxLen],.inl rfl⟩
  ·subst hbs;have hb' : pl id = some b := hb;obtain ⟨ob,hob,hat⟩ := hs.obj id b hb';rw [hc] at hob;cases hob;obtain ⟨arr2,fz2,g1,g2,g3,g4⟩ := hat;have harr' : w.heap[b]? = some (.cells arr el' fz) := harr;have g1' : w.heap[b]? = some (.cells arr2 el fz2) := g1;rw [harr'] at g1';cases g1';have hfit : cs0.length + news.toList.length ≤ arr.size := by
    rw [hnl,hcl,hn4,← Nat.add_mul];have := Nat.mul_le_mul_right re.size hroom;omega
   have hfit' : cs0.length + news.size ≤ arr.size := by simpa using hfit
   have hnsz : news.size = cs.length := by simpa using hnl
   have hst' := eQ (P := e.P) (o := cs0.length) harr' g2 hfit (hn3.oneCells h1);have hw := gB (b := b) news.toList cs0.length arr w harr' hfit;obtain ⟨w',hw'⟩ : ∃ w',w.setCells b cs0.length news.toList = w' := ⟨_,rfl⟩;rw [hw'] at hst' hw;have hrun := dL (P := e.P) (w := w) (ty := o.type) ht0 ht1 hT hE hX hxi (some ⟨b,0,none⟩) len cp m (ev y) news (fun w' => hn1 w') (hn2 w (fun _ => rfl)) hroom (w' := w') (.inr ⟨_,rfl,by
    rw [bV,Nat.zero_add,← hcl];exact hst'⟩)
   have hkk : Keeps (· == id) pl w (fun i => if i = id then some b else pl i) w' := by
    refine ⟨hw.os,hw.tape,hw.output,by rw [hw.size];exact Nat.le_refl _,fun b' hb1 hn' => hw.same b' (fun he => hn' id (he ▸ hb')),fun i b' hi => ?_,fun i b' hp hi => ?_,fun b' a1 e1 z1 hb1 => ?_⟩
    ·split at hi
     ·cases hi;exact .inl ⟨id,hb'⟩
     ·exact .inl ⟨i,hi⟩
    ·have : i ≠ id := by simpa using hp
     rw [if_neg this];exact hi
    ·by_cases he : b' = b
     ·subst he;rw [harr'] at hb1;cases hb1;exact ⟨_,_,hw.here,by simp;omega⟩
     ·exact ⟨a1,z1,(hw.same b' he).trans hb1,rfl⟩
   have hsize' : (arr.toList.take cs0.length ++ news.toList ++ arr.toList.drop (cs0.length + news.toList.length)).toArray.size = arr.size := by simp;omega
   have hs' := hs.replace hidl (nb := b) (w' := w') (o' := .typed el (V.drops (· == id) (cs0 ++ cs))) hkk (by rw [hw.size];exact aU harr') (fun j hj hjb => hj (hs.inj j id b hjb hb'))
    (fun j b' hj hjb => hw.same b' (fun he => hj (hs.inj j id b (he ▸ hjb) hb'))) (by
     refine ⟨_,fz,hw.here,fun j hj => g2 j (by omega),?_,?_⟩
     ·rw [bK,hsize',List.length_append];omega
     ·have hq : (V.drops (· == id) (cs0 ++ cs)).length = cs0.length + news.toList.length := by rw [bK,List.length_append];omega
      rw [hq];have e1 : (arr.toList.take cs0.length ++ news.toList ++ arr.toList.drop (cs0.length + news.toList.length)).toArray.toList.take (cs0.length + news.toList.length) = arr.toList.take cs0.length ++ news.toList := by
       have e2 : (arr.toList.take cs0.length ++ news.toList).length = cs0.length + news.toList.length := by simp only [List.length_append,List.length_take,Array.length_toList];omega
       show (arr.toList.take cs0.length ++ news.toList ++ arr.toList.drop (cs0.length + news.toList.length)).take (cs0.length + news.toList.length) = _;rw [List.take_append_of_le_length (by omega),List.take_of_length_le (by omega)]
      rw [e1];exact VList.mdrop hkk.cext _ _ (g4.append hn3))
   refine ⟨(· == id),_,_,_,w',.slice (some ⟨b,0,none⟩) (len + m) cp,.inl ?_,hs',hkk,?_,hid,hk⟩
   ·rw [dE hop,hbase];exact fJ hrun
   ·simp only [VRel];exact ⟨_,cp,rfl,hroom,hroom,hmax,.inr ⟨b,_,el,fz,by simp [cx],rfl,hw.here,by rw [hsize'];omega⟩⟩
 ·have hrun := gK (P := e.P) (w := w) (ty := o.type) ht0 ht1 hT hE hX hxi base len cp m (ev y) olds news (fun w' => hn1 w') (by rw [← hbase];exact ho2 _ (fun _ => rfl)) (hn2 _ (fun _ => rfl)) (by omega) hbig hbytes;obtain ⟨cap',hcap'⟩ : ∃ cap',grownCap w (len + m) cp el = cap' := ⟨_,rfl⟩;have hge := grownCap_ge w (len + m) cp el;have hle := grownCap_le_maxLen w (len + m) cp el hbig;rw [hcap'] at hrun hge hle;obtain ⟨arr,harr⟩ : ∃ arr,olds ++ news ++ Builtin.zeroCells ze.cells (cap' - (len + m)) = arr := ⟨_,rfl⟩;rw [harr] at hrun;have hzs : ze.cells.size = re.size := by have hzr := (dK (cx ok pl w) ze).vc (by rw [← hE.zv];exact hzf);have := hzr.length;rw [← hE.zv,hzl] at this;simpa using this
  have hasz : arr.size = cap' * re.size := by rw [← harr];simp only [Array.size_append,size_zeroCells,hzs];simp only [Array.length_toList] at hol hnl;rw [hol,hnl,ho4,hn4,← Nat.add_mul,← Nat.add_mul];congr 1;omega
  have hlist : arr.toList.take (cs0 ++ cs).length = olds.toList ++ news.toList := by rw [← harr];simp only [Array.toList_append];rw [List.take_append_of_le_length (by simp only [List.length_append];omega),List.take_of_length_le (by simp only [List.length_append];omega)]
  have x2 := (WExt.drew w).trans (WExt.alloc w.drew (.cells arr el));have hhere : (w.drew.alloc (.cells arr el)).heap[w.heap.size]? = some (.cells arr el) := World.alloc_heap_new w.drew (.cells arr el);have hkk : Keeps (· == id) pl w (fun i => if i = id then some w.heap.size else pl i) (w.drew.alloc (.cells arr el)) := by
   refine ⟨rfl,rfl,rfl,x2.size,fun b' hb1 _ => x2.same b' hb1,fun i b' hi => ?_,fun i b' hp hi => ?_,fun b' a1 e1 z1 hb1 => ⟨a1,z1,(x2.same b' (aU hb1)).trans hb1,rfl⟩⟩
   ·split at hi
    ·cases hi;exact .inr (Nat.le_refl _)
    ·exact .inl ⟨i,hi⟩
   ·have : i ≠ id := by simpa using hp
    rw [if_neg this];exact hi
  have hs' := hs.replace hidl (nb := w.heap.size) (o' := .typed el (V.drops (· == id) (cs0 ++ cs))) hkk (by simp) (fun j hj hjb => by have := hs.lt j _ hjb;omega)
   (fun j b' hj hjb => x2.same b' (hs.lt j b' hjb)) (by
    refine ⟨arr,(0,0),hhere,fun j _ => by simp,?_,?_⟩
    ·rw [bK,hasz,List.length_append,ho4,hn4,← Nat.add_mul];exact Nat.mul_le_mul_right _ hge
    ·rw [bK,hlist];exact VList.mdrop hkk.cext _ _ (ho3.append hn3))
  refine ⟨(· == id),_,_,_,_,.slice (some ⟨w.heap.size,0,none⟩) (len + m) cap',.inl ?_,hs',hkk,?_,hid,hk⟩
  ·rw [dE hop,hbase];exact fJ hrun
  ·simp only [VRel];exact ⟨_,cap',rfl,hge,hge,hle,.inr ⟨w.heap.size,arr,el,(0,0),by simp [cx],rfl,hhere,by rw [hasz];omega⟩⟩
theorem HSim.burn (hs : HSim e ok pl h w) {id b : Nat} (hid : pl id = some b) {w' : World} (os : w'.os = w.os) (tape : w'.tape = w.tape) (output : w'.output = w.output) (size : w'.heap.size = w.heap.size)
 (same : ∀ i,i ≠ b → w'.heap[i]? = w.heap[i]?)
 (row : ∀ arr el fz,w.heap[b]? = some (.cells arr el fz) → ∃ arr' fz',w'.heap[b]? = some (.cells arr' el fz') ∧ arr'.size = arr.size) :
 HSim e ok (fun i => if i = id then none else pl i) ((h.map (O.drop (· == id))).set id .dead) w' ∧ Keeps (· == id) pl w (fun i => if i = id then none else pl i) w' := by
 have k : Keeps (· == id) pl w (fun i => if i = id then none else pl i) w' := by
  refine ⟨os,tape,output,by omega,fun b' hb hn => same b' (fun he => hn id (he ▸ hid)),fun i b hi => ?_,fun i b hp hi => ?_,fun b' arr el fz hb => ?_⟩
  ·split at hi
   ·cases hi
   ·exact .inl ⟨i,hi⟩
  ·have : i ≠ id := by simpa using hp
   rw [if_neg this];exact hi
  ·by_cases he : b' = b
   ·subst he;exact row arr el fz hb
   ·exact ⟨arr,fz,(same b' he).trans hb,rfl⟩
 refine ⟨hs.next k (fun i b hi => ?_) (fun i j b hi hj => ?_) (fun i b' hi => ?_) (fun i o ho hi => ?_),k⟩
 ·split at hi
  ·cases hi
  ·have := hs.lt i b hi;omega
 ·split at hi <;> split at hj <;> first | cases hi | cases hj | exact hs.inj i j b hi hj
  all_goals (first | (cases hi;done) | (cases hj;done))
 ·split at hi
  ·cases hi
  ·rename_i hne;refine .inl ⟨hi,same b' (fun he => hne (hs.inj i id b' hi (he ▸ hid))),?_⟩;rw [List.getElem?_set_ne (Ne.symm hne),List.getElem?_map]
 ·by_cases hii : i = id
  ·subst hii;have hlt : i < h.length := by
    have := (List.getElem?_eq_some_iff.1 ho).1;simpa using this
   left;have : ((h.map (O.drop (· == i))).set i .dead)[i]? = some .dead := by simp [hlt]
   exact Option.some.inj (ho.symm.trans this)
  ·rw [List.getElem?_set_ne (Ne.symm hii),List.getElem?_map] at ho;rw [if_neg hii] at hi;cases hh : h[i]? with
   | none => rw [hh] at ho;cases ho
   | some o' =>
    rw [hh] at ho;have ho : o'.drop (· == id) = o := by simpa using ho
    rcases hs.bare i o' hh hi with rfl | rfl <;> subst ho <;> simp [O.drop,V.drops]
end
section
variable {P : Program} {w : World}
theorem vM {ts : Array TypeId} {t xt ty el : TypeId} {r re rx : TI} {i ie ix : TypeInfo} {de : TypeDesc} {z ze zx : Value} {kx : IntKind} (h0 : ts[0]? = some t) (h1 : ts[1]? = some xt)
 (hT : TIs P t r i (.slice el) z) (hE : TIs P el re ie de ze) (hX : TIs P xt rx ix (.int kx) zx)
 (m : Nat) (hm : 0 < m) (hm1 : m ≤ 1000000000000) (hb : m * re.bytes ≤ 140737488355328) (hsz : re.size = 1) :
 (Builtin.append_ ts ty #[.slice none 0 0,.int .i64 m]).run P w =
  .ok (.slice (some ⟨w.heap.size,0,none⟩) m (grownCap w m 0 el))
   (w.drew.alloc (.cells (Builtin.zeroCells ze.cells m ++ Builtin.zeroCells ze.cells (grownCap w m 0 el - m)) el)) := by
 have h48' : ¬ (281474976710656 < Builtin.nextslicecap m 0 * re.bytes) := by have := growslice_fits (need := m) (old := 0) hm hb;omega
 have hw : IntKind.i64.wrap (m : Int) = m := jY (by omega) (by omega);have hbytes : (typeInfo el).run P w = .ok ie w := by simp [typeInfo,hE.info]
 have hneg : ¬ ((m : Int) < 0) := by omega
 have hbig : ¬ ((281474976710656 : Int) < (m : Int) * ie.bytes) := by
  have h2 : ((m * re.bytes : Nat) : Int) ≤ 140737488355328 := by omega
  rw [← hE.bytes];rw [Int.natCast_mul] at h2;omega
 have hns : m * 1 ≠ 0 := by omega
 have h63 : ¬ (9223372036854775807 < (m : Int)) := by omega
 unfold Builtin.append_;simp only [h0,h1,List.getElem?_toArray,List.getElem?_cons_zero,List.getElem?_cons_succ,Sem.run_bind,hT.run_und,Result.andThen,hE.run_size,hX.run_und,Sem.run_pure];simp [asInt,asIntOf,hw,hneg,hbig,hbytes,Result.andThen,h63,hE.bytes ▸ h48',Question.forced,hE.run_zero,newRow,grownCap,typeInfo,hE.info,Builtin.firstCells,hsz,show m ≠ 0 by omega]
end
section
variable {e : E} {n : Nat} {r : Option Nat} {o : Oper} {f : Fr} {h : H} {Kn : Fr → H → Prop} {Q : XE → Fr → H → Prop}
theorem nO {x y : Operand} {t xt el : TypeId} {q re : TI} (ha : IsAppend e o x y t xt el q re) (hxc : (f.ev e x).sc) (hyc : (f.ev e y).sc)
 (hx : (f.ev e x).sv = .nils) {m : Nat} (hy : (f.ev e y).sv = .int .i64 m) {rx : TI} {kx : IntKind} (hxt : Abs.ti e.P xt = some rx) (hkx : rx.kind = .int kx)
 (hm : 0 < m) (hm1 : m ≤ 1000000000000) (hb : m * re.bytes ≤ 140737488355328) (hsz : re.size = 1) {zv : V} (hzv : re.zero.vc = [zv])
 (hk : Kn (f.put o.dst (.ls h.length 1 0 m m)) (h ++ [.cells (List.replicate m zv)])) : Eff e n r o f h Kn Q := by
 obtain ⟨⟨ts,hop,ht0,ht1⟩,hti,hkind,htie,hzf,hzl,hpos⟩ := ha;refine aS ?_ (fun c => by rw [hop];exact fun h => by cases h);intro ok pl w ev hs hr;obtain ⟨i,d,z,hT⟩ := aJ hti;have hd := hT.slice hkind;subst hd;obtain ⟨ie,de,ze,hE⟩ := aJ htie;obtain ⟨ix,dx,zx,hX⟩ := aJ hxt;have hdx := hX.int hkx;subst hdx;have hxv := (hr x (by simp [hop,Op.operands,Call.operands])).sv hxc;have hyv := (hr y (by simp [hop,Op.operands,Call.operands])).sv hyc;rw [hx] at hxv;rw [hy] at hyv;simp only [VRel] at hxv hyv;have hrun := vM (P := e.P) (w := w) (ty := o.type) ht0 ht1 hT hE hX m hm hm1 hb hsz;obtain ⟨cap,hcap⟩ : ∃ cap,grownCap w m 0 el = cap := ⟨_,rfl⟩;have hge := grownCap_ge w m 0 el;have hle := grownCap_le_maxLen w m 0 el (by simp only [maxLen];omega);rw [hcap] at hrun hge hle;have hzr := (dK (cx ok pl w) ze).vc (by rw [← hE.zv];exact hzf);rw [← hE.zv,hzv] at hzr;have hzl1 := hzr.length;simp only [List.length_singleton,Array.length_toList] at hzl1;have hz1 : ze.cells.size = 1 := by omega
 obtain ⟨arr,harr⟩ : ∃ arr,Builtin.zeroCells ze.cells m ++ Builtin.zeroCells ze.cells (cap - m) = arr := ⟨_,rfl⟩;rw [harr] at hrun;obtain ⟨zc,hzc,hzrel⟩ : ∃ zc,ze.cells.toList = [zc] ∧ VRel (cx ok pl w) zv zc := by simp only [VList] at hzr;obtain ⟨y,ys,h1,h2,rfl⟩ := hzr;exact ⟨y,h1,h2⟩
 have hasz : arr.size = cap := by rw [← harr];simp only [Array.size_append,size_zeroCells,hz1];omega
 have hlist : arr.toList.take (List.replicate m zv).length = List.replicate m zc := by
  rw [← harr,List.length_replicate,Array.toList_append,List.take_append_of_le_length (by simp [size_zeroCells,hz1]),List.take_of_length_le (by simp [size_zeroCells,hz1])];have : ze.cells = #[zc] := Array.toList_inj.1 hzc;apply List.ext_getElem?;intro j;simp [Builtin.zeroCells,this,List.getElem?_replicate];by_cases hj : j < m
  ·rw [List.getElem?_range hj,if_pos hj];simp [Nat.mod_one]
  ·rw [List.getElem?_eq_none (by simp;omega),if_neg hj];rfl
 have hv : ∀ k,VList (cx ok pl w) (List.replicate k zv) (List.replicate k zc) := by
  intro k
  induction k with
  | zero => simp [VList]
  | succ k ih => simp only [List.replicate_succ,VList];exact ⟨_,_,rfl,hzrel,ih⟩
 obtain ⟨hs',kk⟩ := rQ hs (cs := List.replicate m zv) (arr := arr) (by rw [hasz];simpa using hge) (by rw [hlist];exact hv m) el (WExt.drew w);refine ⟨fun _ => false,_,_,_,_,.slice (some ⟨w.heap.size,0,none⟩) m cap,.inl ?_,hs',kk,?_,fun _ _ => rfl,by rw [Fr.drop_none];exact hk⟩
 ·rw [dE hop,hxv,hyv];exact fJ hrun
 ·simp only [VRel];refine ⟨_,cap,rfl,hge,hge,hle,.inr ⟨w.heap.size,arr,el,(0,0),by simp [cx,bI],rfl,?_,by rw [hasz];omega⟩⟩;exact World.alloc_heap_new w.drew (.cells arr el)
end
end Go.Abs
