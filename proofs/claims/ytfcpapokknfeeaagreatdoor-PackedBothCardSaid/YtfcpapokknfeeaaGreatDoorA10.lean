/- Lemmas for this claim, part A10: each holds under what it names. -/
import Derived.Test.YtfcpapokknfeeaaGreatDoorA9
set_option linter.unusedVariables false
set_option linter.unusedSimpArgs false
namespace Go.Abs
open Go Go.RowKit
section
variable {e : E} {n : Nat} {r : Option Nat} {ops : Array Oper} {Q : XE → Fr → H → Prop} {ok : Nat → Prop} {pl0 : Nat → Option Nat} {w0 : World} {h : H}
def ZA (ops : Array Oper) (last : Nat) : List Nat → Array Bool → Bool
 | [],listed => Region.ready .any ops listed == [last]
 | k :: ks,listed => (Region.ready .any ops listed).contains k && k != last && Region.free .any ops listed k && ZA ops last ks (listed.setIfInBounds k true)
def Gv (ops : Array Oper) (ks : List Nat) : List Oper := ks.filterMap fun k => ops[k]?
theorem vN {last : Nat} {Q : Fr → Prop} : ∀ (ks : List Nat) (listed : Array Bool) (f : Fr),ZA ops last ks listed = true → AU e n ops h Q (Gv ops ks) f → Dw e n ops h last Q ks.length listed f
 | [],_,_,hB,h => ⟨by simpa [ZA] using hB,h⟩
 | k :: ks,listed,f,hB,hh => by
  simp only [ZA,Bool.and_eq_true] at hB;obtain ⟨⟨⟨hr,hne⟩,hf⟩,hB'⟩ := hB;obtain ⟨_,o,h0,_⟩ := mem_ready.1 (show k ∈ Region.ready .any ops listed by simpa using hr);have e1 : Gv ops (k :: ks) = o :: Gv ops ks := by simp [Gv,h0]
  rw [e1] at hh;obtain ⟨v,hy,hK⟩ := hh;exact Dx h0 (by simpa using hne) ks.length listed f (Region.free_spec h0 hf) (by simpa using hr) hy (vN ks _ _ hB' hK)
def dep (ops : Array Oper) (i j : Nat) : Bool := match ops[i]? with
 | some o => o.after.any fun e => Region.binds .any e && e.on == j
 | none => false
theorem AV {i j : Nat} (h : dep ops i j = true) : ∃ o,ops[i]? = some o ∧ ∃ e ∈ o.after,Region.binds .any e = true ∧ e.on = j := by
 unfold dep at h;split at h
 ·rename_i o ho;rw [Array.any_eq_true] at h;obtain ⟨q,hq,h3⟩ := h;rw [Bool.and_eq_true,beq_iff_eq] at h3;exact ⟨o,ho,_,Array.getElem_mem hq,h3.1,h3.2⟩
 ·cases h
def AX (ops : Array Oper) (tk pre : List Nat) (last : Nat) : Bool :=
 (pre.all fun i => (last :: pre).any fun j => decide (i < j) && dep ops j i) && (List.range ops.size).all fun i => tk.contains i || pre.contains i || i == last || dep ops i last
structure LI (ops : Array Oper) (tk pre : List Nat) (last : Nat) (listed : Array Bool) : Prop where
 clos : Dy ops listed
 size : listed.size = ops.size
 took : ∀ i ∈ tk,i < ops.size → listed.getD i false = true
 tail : ∀ i,i ∉ tk → i ∉ pre → listed.getD i false = false
theorem LI.all {tk pre : List Nat} {last : Nat} {listed : Array Bool} (k : LI ops tk pre last listed) (hB : AX ops tk pre last = true) (hr : last ∈ Region.ready .any ops listed) : ∀ (m i : Nat),m = ops.size - i → i ∈ pre → listed.getD i false = true := by
 intro m
 induction m using Nat.strongRecOn with
 | _ m ih =>
  intro i hm hi;unfold AX at hB;rw [Bool.and_eq_true] at hB;have h1 := List.all_eq_true.1 hB.1 i hi;obtain ⟨j,hj,h2⟩ := List.any_eq_true.1 h1;rw [Bool.and_eq_true,decide_eq_true_eq] at h2;obtain ⟨hij,h2⟩ := h2;obtain ⟨o,ho,e,he,hb,hon⟩ := AV h2;have hjs := (Array.getElem?_eq_some_iff.1 ho).1;rw [← hon];rcases List.mem_cons.1 hj with rfl | hj
  ·obtain ⟨_,o',ho',hall⟩ := mem_ready.1 hr;rw [ho] at ho';cases ho';exact hall e he hb
  ·exact k.clos j o ho (ih (ops.size - j) (by omega) j rfl hj) e he hb
theorem Pg {listed : Array Bool} {i : Nat} (hi : i < listed.size) (d d' : Bool) : listed.getD i d = listed.getD i d' := by simp [hi]
theorem LI.one {tk pre : List Nat} {last : Nat} {listed : Array Bool} (k : LI ops tk pre last listed) (hB : AX ops tk pre last = true) (hl : last ∉ tk ∧ last ∉ pre) (hr : last ∈ Region.ready .any ops listed) : Region.ready .any ops listed = [last] := by
 have hall : ∀ j ∈ Region.ready .any ops listed,j = last := by
  intro j hj;obtain ⟨h0,o,ho,hdep⟩ := mem_ready.1 hj;have hlt := (Array.getElem?_eq_some_iff.1 ho).1;have hun : listed.getD j false = false := by rw [Pg (by rw [k.size];exact hlt) false true];exact h0
  have hB2 := hB;unfold AX at hB2;rw [Bool.and_eq_true] at hB2;have h2 := List.all_eq_true.1 hB2.2 j (by simpa using hlt);simp only [Bool.or_eq_true,List.contains_iff_mem,beq_iff_eq] at h2;rcases h2 with ((h2 | h2) | h2) | h2
  ·rw [k.took j h2 hlt] at hun;cases hun
  ·rw [k.all hB hr _ j rfl h2] at hun;cases hun
  ·exact h2
  ·obtain ⟨o',ho',e,he,hb,hon⟩ := AV h2;rw [ho] at ho';cases ho';have := hdep e he hb;rw [hon,k.tail last hl.1 hl.2] at this;cases this
 have hnd : (Region.ready .any ops listed).Nodup := by unfold Region.ready;exact List.Pairwise.filter _ List.nodup_range
 match hm : Region.ready .any ops listed with
 | [] => rw [hm] at hr;cases hr
 | [x] => rw [hall x (by rw [hm];simp)]
 | x :: y :: l => exfalso;rw [hm] at hnd;have h1 := hall x (by rw [hm];simp);have h2 := hall y (by rw [hm];simp);simp [h1,h2] at hnd
def Y9 (ops : Array Oper) (tk pre : List Nat) : Array Bool := ((List.range ops.size).map fun i => tk.contains i || pre.contains i).toArray
theorem LI.mid {tk pre : List Nat} {last : Nat} {listed : Array Bool} (k : LI ops tk pre last listed) (hB : AX ops tk pre last = true) (hr : last ∈ Region.ready .any ops listed) : listed = Y9 ops tk pre := by
 apply Array.ext
 ·simp [Y9,k.size]
 ·intro i h1 h2;have hi : i < ops.size := by rw [← k.size];exact h1
  have e1 : (Y9 ops tk pre)[i] = (tk.contains i || pre.contains i) := by simp [Y9]
  have e2 : listed[i] = listed.getD i false := by simp [h1]
  rw [e1,e2];by_cases ht : i ∈ tk
  ·rw [k.took i ht hi];simp [ht]
  ·by_cases hp : i ∈ pre
   ·rw [k.all hB hr _ i rfl hp];simp [hp]
   ·rw [k.tail i ht hp];simp [ht,hp]
theorem fQ {P : Program} : ∀ (p : Plan) (fuel k : Nat) (listed : Array Bool),(ai P ops p fuel listed = true → ai P ops p (fuel + k) listed = true) ∧ (ai.planAlts P ops p fuel listed = true → ai.planAlts P ops p (fuel + k) listed = true)
 | .fin,fuel,k,listed => by
  refine ⟨fun h => ?_,fun h => ?_⟩
  ·simpa [ai] using h
  ·simp [ai.planAlts] at h
 | .take i p,fuel,k,listed => by
  refine ⟨fun h => ?_,fun h => ?_⟩
  ·cases fuel with
   | zero => simp [ai] at h
   | succ fuel =>
    rw [show fuel + 1 + k = (fuel + k) + 1 by omega];simp only [ai] at h ⊢;cases ho : ops[i]? with
    | none => rw [ho] at h;simp at h
    | some o => rw [ho] at h;dsimp only at h ⊢;rw [Bool.and_eq_true] at h ⊢;exact ⟨h.1,(fQ p fuel k _).1 h.2⟩
  ·simp [ai.planAlts] at h
 | .one i p,fuel,k,listed => by
  refine ⟨fun h => ?_,fun h => ?_⟩
  ·cases fuel with
   | zero => simp [ai] at h
   | succ fuel => rw [show fuel + 1 + k = (fuel + k) + 1 by omega];simp only [ai] at h ⊢;rw [Bool.and_eq_true] at h ⊢;exact ⟨h.1,(fQ p fuel k _).1 h.2⟩
  ·simp only [ai.planAlts] at h ⊢;exact (fQ p fuel k _).1 h
 | .alt i p q,fuel,k,listed => by
  refine ⟨fun h => ?_,fun h => ?_⟩
  ·cases fuel with
   | zero => simp [ai] at h
   | succ fuel => rw [show fuel + 1 + k = (fuel + k) + 1 by omega];simp only [ai] at h ⊢;rw [Bool.and_eq_true,Bool.and_eq_true] at h ⊢;exact ⟨⟨h.1.1,(fQ p fuel k _).1 h.1.2⟩,(fQ q fuel k _).2 h.2⟩
  ·simp only [ai.planAlts] at h ⊢;rw [Bool.and_eq_true] at h ⊢;exact ⟨(fQ p fuel k _).1 h.1,(fQ q fuel k _).2 h.2⟩
theorem LI.step {tk pre : List Nat} {last : Nat} {listed : Array Bool} (k : LI ops tk pre last listed) (hB : AX ops tk pre last = true) (hl : last ∉ tk ∧ last ∉ pre) {i : Nat} (hi : i ∈ Region.ready .any ops listed) (hil : i ≠ last) : LI ops tk pre last (listed.setIfInBounds i true) := by
 obtain ⟨h0,o,ho,hdep⟩ := mem_ready.1 hi;have hlt := (Array.getElem?_eq_some_iff.1 ho).1;refine ⟨k.clos.set hi,by simpa using k.size,fun j hj hjs => getD_set_true (k.took j hj hjs),fun j h1 h2 => ?_⟩;by_cases hji : i = j
 ·subst hji;exfalso;have hB2 := hB;unfold AX at hB2;rw [Bool.and_eq_true] at hB2;have h3 := List.all_eq_true.1 hB2.2 i (by simpa using hlt);simp only [Bool.or_eq_true,List.contains_iff_mem,beq_iff_eq] at h3;rcases h3 with ((h3 | h3) | h3) | h3
  ·exact h1 h3
  ·exact h2 h3
  ·exact hil h3
  ·obtain ⟨o',ho',e,he,hb,hon⟩ := AV h3;rw [ho] at ho';cases ho';have := hdep e he hb;rw [hon,k.tail last hl.1 hl.2] at this;cases this
 ·rw [getD_set_ne false hji];exact k.tail j h1 h2
theorem ZB (hna : ∀ (j : Nat) (o : Oper),ops[j]? = some o → mg o = false) (hQ : ∀ v f h,¬ Q (.pan v) f h) (hpl : jm ops = true) {tk pre : List Nat} {last fp : Nat} {p : Plan} (hB : AX ops tk pre last = true) (hl : last ∉ tk ∧ last ∉ pre) (hp : ai e.P ops p fp (Y9 ops tk pre) = true) : ∀ (fuel : Nat) (listed : Array Bool) (f : Fr),
 Dw e n ops h last (fun f1 => gm e n ops Q p f1 h) fuel listed f → LI ops tk pre last listed → ∀ pl w a,SSim e n ok pl0 w0 f h pl w a → wpAnyIn (RF r) 0 e.P .any ops (iO e n ok pl0 w0 Q) (fp + fuel) listed a w := by
 have lastly : ∀ (fuel : Nat) (listed : Array Bool) (f : Fr),gm e n ops Q p f h → LI ops tk pre last listed → last ∈ Region.ready .any ops listed → ∀ pl w a,SSim e n ok pl0 w0 f h pl w a → wpAnyIn (RF r) 0 e.P .any ops (iO e n ok pl0 w0 Q) (fp + fuel) listed a w := by intro fuel listed f hv k hr pl w a s;have e1 := k.mid hB hr;subst e1;exact (iC hQ hpl p).1 (fp + fuel) _ f h ((fQ p fp fuel _).1 hp) hv pl w a s
 intro fuel
 induction fuel with
 | zero => intro listed f hL k pl w a s;exact lastly 0 listed f hL.2 k (by rw [hL.1];simp) pl w a s
 | succ fuel ih =>
  intro listed f hL k pl w a s;by_cases hlr : last ∈ Region.ready .any ops listed
  ·exact lastly (fuel + 1) listed f (hL.2.1 (k.one hB hl hlr)) k hlr pl w a s
  ·rw [show fp + (fuel + 1) = (fp + fuel) + 1 by omega];refine ⟨fun h0 => absurd h0 hL.1,fun i hi => ?_⟩;have hil : i ≠ last := fun hh => hlr (hh ▸ hi);have h1 := hL.2.2 i hi hil;obtain ⟨hun,o,ho,_⟩ := mem_ready.1 hi;unfold xQ at h1;rw [ho] at h1;obtain ⟨v,hy,hn⟩ := h1;have k' := k.step hB hl hi hil;rcases hy with ⟨h2,_⟩ | ⟨_,hd,g,v',hg,hv,rfl⟩
   ·rw [hna i o ho] at h2;cases h2
   ·unfold wpOpIn;rw [ho];dsimp only;have hw := vg s.val hg;cases g with
    | true => rw [if_pos hw];exact (hv rfl).wpIn s fun x w' hx hr => ih _ _ hn k' pl w' _ ((s.next0 (s.hs.wext hx) (hx.keeps s.hs)).put hd hr)
    | false => rw [if_neg (by rw [hw];simp)];exact ⟨fun g _ => gQ r g,ih _ _ hn k' pl w _ (s.put hd (jB (fun hf => by cases hf) (fun _ => rfl)))⟩
def rZ (P : Program) (ops : Array Oper) : List Nat → Array Bool → Bool
 | [],_ => true
 | i :: is,listed => (match ops[i]? with | some o => mP P o.op | none => false) && (Region.ready .any ops listed).contains i && Region.free .any ops listed i && rZ P ops is (listed.setIfInBounds i true)
def qI (listed : Array Bool) : List Nat → Array Bool
 | [] => listed
 | i :: is => qI (listed.setIfInBounds i true) is
def AY (e : E) (n : Nat) (ops : Array Oper) (Q : XE → Fr → H → Prop) (K : Fr → H → Prop) : List Nat → Fr → H → Prop
 | [],f,h => K f h
 | i :: is,f,h => Gn e n ops i (AY e n ops Q K is) Q f h
theorem Iu (hQ : ∀ v f h,¬ Q (.pan v) f h) (hpl : jm ops = true) {K : Fr → H → Prop} {fuel : Nat} : ∀ (tk : List Nat) (listed : Array Bool) (f : Fr) (h : H),rZ e.P ops tk listed = true → AY e n ops Q K tk f h →
 (∀ f h pl w a,K f h → SSim e n ok pl0 w0 f h pl w a → wpAnyIn (RF r) 0 e.P .any ops (iO e n ok pl0 w0 Q) fuel (qI listed tk) a w) → ∀ pl w a,SSim e n ok pl0 w0 f h pl w a → wpAnyIn (RF r) 0 e.P .any ops (iO e n ok pl0 w0 Q) (fuel + tk.length) listed a w
 | [],listed,f,h,_,hv,hk,pl,w,a,s => hk f h pl w a hv s
 | i :: is,listed,f,h,ht,hv,hk,pl,w,a,s => by
  simp only [rZ,Bool.and_eq_true] at ht;obtain ⟨⟨⟨h1,h2⟩,h3⟩,h4⟩ := ht;cases ho : ops[i]? with
  | none => rw [ho] at h1;cases h1
  | some o => rw [ho] at h1;obtain ⟨x,f',hy,s',hk'⟩ := pY ho h1 hv s;refine kT h1 ho hpl ?_ (fuel + is.length) listed a w (Region.free_spec ho h3) (by simpa using h2) hy (Iu hQ hpl is _ f' h h4 hk' hk pl w _ s');rintro c a w ⟨pl',f',h',xe,_,hx,hq⟩;cases xe <;> first | exact hx.elim | exact (hQ _ _ _ hq).elim
def AZ (P : Program) (ops : Array Oper) (tk pre : List Nat) (last : Nat) (p : Plan) : Bool :=
 (ops.all fun o => !mg o) && jm ops && rZ P ops tk (Array.replicate ops.size false) && ZA ops last pre (qI (Array.replicate ops.size false) tk) && AX ops tk pre last &&
 (!tk.contains last && !pre.contains last) && ai P ops p (ops.size - tk.length - pre.length) (Y9 ops tk pre) && decide (tk.length + pre.length ≤ ops.size)
theorem Dz {tk : List Nat} {P : Program} : ∀ (is : List Nat) (listed : Array Bool),rZ P ops is listed = true → Dy ops listed → listed.size = ops.size → (∀ i ∈ tk,i ∉ is → i < ops.size → listed.getD i false = true) → (∀ i,i ∉ tk → listed.getD i false = false) → (∀ i ∈ is,i ∈ tk) →
 Dy ops (qI listed is) ∧ (qI listed is).size = ops.size ∧ (∀ i ∈ tk,i < ops.size → (qI listed is).getD i false = true) ∧ (∀ i,i ∉ tk → (qI listed is).getD i false = false)
 | [],listed,_,hc,hs,ht,hn,_ => ⟨hc,hs,fun i hi hl => ht i hi (by simp) hl,hn⟩
 | i :: is,listed,hk,hc,hs,ht,hn,hm => by
  simp only [rZ,Bool.and_eq_true] at hk;obtain ⟨⟨⟨_,h2⟩,_⟩,h4⟩ := hk;refine Dz is _ h4 (hc.set (by simpa using h2)) (by simpa using hs) (fun j hj hji hjs => ?_) (fun j hj => ?_) (fun j hj => hm j (by simp [hj]))
  ·by_cases hij : i = j
   ·subst hij;have : i < listed.size := by omega
    simp [this]
   ·exact getD_set_true (ht j hj (by simp [hji,Ne.symm hij]) hjs)
  ·have hij : i ≠ j := fun hh => by subst hh;exact hj (hm i (by simp))
   rw [getD_set_ne false hij];exact hn j hj
theorem Ph (hm : e.P.follows .mixedOrders = true) {id : Nat} {f : Fr} (tk pre : List Nat) (last : Nat) (p : Plan) (R : Fr → H → Prop) (hB : AZ e.P ops tk pre last p = true)
 (hv : AY e n ops (xN R) (fun f h => ku e n ops h (fun f1 => gm e n ops (xN R) p f1 h) (Gv ops pre) f) tk f h) (hk : ∀ f h,R f h → Q .normal f h) : awp e n r (.region id ops true) Q f h := by
 intro ok pl0 w0 pl w a s;unfold AZ at hB;simp only [Bool.and_eq_true,Bool.not_eq_true',decide_eq_true_eq] at hB;obtain ⟨⟨⟨⟨⟨⟨⟨b1,b2⟩,b3⟩,b4⟩,b5⟩,b6⟩,b7⟩,b8⟩ := hB;have hna : ∀ (j : Nat) (o : Oper),ops[j]? = some o → mg o = false := fun j o ho => by
  have h1 := Array.all_eq_true.1 b1;obtain ⟨hl,rfl⟩ := Array.getElem?_eq_some_iff.1 ho;simpa using h1 j hl
 have hl : last ∉ tk ∧ last ∉ pre := ⟨by simpa using b6.1,by simpa using b6.2⟩;have x : WExt w { w with drawn := w.drawn + 1 } := WExt.drew w;obtain ⟨c1,c2,c3,c4⟩ := Dz (ops := ops) (tk := tk) tk (Array.replicate ops.size false) b3 Dy.none (by simp) (fun i hi hni => absurd hi hni) (fun i hi => by
  rcases Nat.lt_or_ge i ops.size with h' | h' <;> simp [h']) (fun i hi => hi)
 have li : LI ops tk pre last (qI (Array.replicate ops.size false) tk) := ⟨c1,c2,c3,fun i h1 _ => c4 i h1⟩;have hQ : ∀ v f h,¬ xN R (.pan v) f h := fun v f h hh => hh;have := Iu (r := r) (ok := ok) (pl0 := pl0) (w0 := w0) (n := n) (e := e) (Q := xN R) (fuel := ops.size - tk.length - pre.length + pre.length) hQ b2 tk (Array.replicate ops.size false) f h b3 hv (fun f h pl w a hK s => by
  have hL := vN (e := e) (n := n) (h := h) pre (qI (Array.replicate ops.size false) tk) f b4 (iZ _ _ hK);exact ZB (r := r) hna hQ b2 b5 hl b7 _ _ _ hL li pl w a s) pl _ a (s.next0 (s.hs.wext x) (x.keeps s.hs))
 rw [show ops.size - tk.length - pre.length + pre.length + tk.length = ops.size by omega] at this;refine wpIn_mono (wpIn_region_any hm this) ?_;rintro ex a' w' ⟨pl',f',h',xe,s',hx,hq⟩;cases xe <;> first
  | exact ⟨pl',f',h',_,s',hx,hk _ _ hq⟩
  | exact hq.elim
end
section
variable {e : E} {n : Nat} {r : Option Nat} {ops : Array Oper} {h : H} {Q : XE → Fr → H → Prop}
theorem vO (ops : Array Oper) : ∀ k : Nat,Gv ops (List.range k) = ops.toList.take k
 | 0 => rfl
 | k + 1 => by
  have ih := vO ops k;unfold Gv at ih ⊢;rw [List.range_succ,List.filterMap_append,ih,List.take_add_one]
  congr 1
  rw [List.filterMap_cons,List.filterMap_nil,Array.getElem?_toList];cases ops[k]? <;> rfl
theorem vP {K : Fr → Prop} : ∀ (l : List Oper) (f : Fr),(∀ o ∈ l,mg o = false) → fO e n ops h K l f → ku e n ops h K l f
 | [],_,_,hv => hv
 | o :: rest,f,ha,hv => by
  have h0 := ha o (by simp);have hr := fun f' => vP (K := K) rest f' fun o' ho' => ha o' (by simp [ho']);simp only [ku,h0];simp only [fO] at hv;cases hg : gd ops f o with
  | none => rw [hg] at hv;exact hv.elim
  | some g =>
   rw [hg] at hv;refine ⟨hv.1,?_⟩;have hv := hv.2;cases he : kR o.op with
   | false => rw [he] at hv;exact ⟨hv.1,hr _ hv.2⟩
   | true =>
    rw [he] at hv;simp only at hv ⊢;split at hv
    ·rename_i fx args ats heq;split at hv
     ·rename_i q vs hc;obtain ⟨rv,h1,h2⟩ := hv;simp only [heq,hc];exact ⟨rv,h1,hr _ h2⟩
     ·exact hv.elim
    ·exact hv.elim
theorem DC (hm : e.P.follows .mixedOrders = true) {id : Nat} {f : Fr} (k : Nat) (p : Plan) (R : Fr → H → Prop) (hB : AZ e.P ops [] (List.range k) k p = true)
 (hv : ∀ K : Fr → Prop,(∀ f1,gm e n ops (xN R) p f1 h → K f1) → fO e n ops h K (ops.toList.take k) f) (hk : ∀ f h,R f h → Q .normal f h) : awp e n r (.region id ops true) Q f h := by
 refine Ph hm [] (List.range k) k p R hB ?_ hk;simp only [AY];rw [vO];refine vP _ _ (fun o ho => ?_) (hv _ fun f1 h => h);unfold AZ at hB;simp only [Bool.and_eq_true] at hB;have b1 := Array.all_eq_true.1 hB.1.1.1.1.1.1.1;obtain ⟨i,hi,rfl⟩ := List.getElem_of_mem (List.mem_of_mem_take ho);have := b1 i (by simpa using hi);simpa using this
end
section
variable {e : E} {h : H}
theorem ah.fresh {g : FuncId} {args : List V} {R : AEnd → H → (Nat → Bool) → Prop} (hc : ah e g args h fun ae h' p => (∀ i,i < h.length → p i = false) ∧ R ae h' (fun _ => false)) : ah e g args h R :=
 fun ok pl w vs hs hl => (hc ok pl w vs hs hl).mono fun en w' ⟨p,pl',h',ae,h1,h2,h3,h4,h5⟩ =>
  ⟨fun _ => false,pl',h',ae,h1,⟨h2.os,h2.tape,h2.output,h2.size,h2.same,h2.loc,fun i b _ hi => h2.keep i b (h4 i (hs.pl_lt hi)) hi,h2.row⟩,h3,h5⟩
end
section
variable {e : E} {n : Nat} {r : Option Nat} {o : Oper} {f : Fr} {h : H} {Kn : Fr → H → Prop} {Q : XE → Fr → H → Prop}
theorem MM {t : TypeId} {m k x : Operand} (hop : o.op = .insert t m k x) {id : Nat} (hm : (f.ev e m).sv = .lm id) (hmc : (f.ev e m).sc) (hkc : (f.ev e k).sc) (hxc : (f.ev e x).sc)
 {q : TI} (hq : ti e.P t = some q) {kt et : TypeId} (hkd : q.kind = .map kt et) {rk : TI} (hrk : ti e.P kt = some rk) (hko : rk.kind.keyOk (f.ev e k).sv = true)
 {ks vs : List V} (hc : h[id]? = some (.map ks vs)) {ks' vs' : List V} (hp : NW rk.kind (f.ev e k).sv (f.ev e x).sv ks vs = some (ks',vs'))
 (hK : Kn (f.put o.dst jb) (h.set id (.map ks' vs'))) : Eff e n r o f h Kn Q := by
 have h1 : Eff e n r { o with op := .mapUpdate t m k x } f h Kn Q := qx rfl hm hmc hkc hxc hq hkd hrk hko hc hp hK;intro ok pl0 w0 pl w a s hd;have h2 := h1 ok pl0 w0 pl w a s hd;refine ⟨fun g _ => gQ r g,?_⟩;have h3 := h2.2;rw [dN,Oper.semAt_eq r a.eval _ (fun c => by simp)] at h3;rw [dN,Oper.semAt_eq r a.eval _ (fun c => by rw [hop];exact fun hh => by cases hh)];have e1 : execOp a.eval o = execOp a.eval { o with op := .mapUpdate t m k x } := by simp [execOp,hop]
 rw [e1];exact h3
def za1 (kd : K) (key : V) (ks vs : List V) : Option (List V × List V) :=
 match iQ kd key ks with
 | some (some n) => some (ks.eraseIdx n,vs.eraseIdx n)
 | some none => some (ks,vs)
 | none => none
theorem fV {α β : Type} (g : α → β) : ∀ (l : List α) (i : Nat),(l.eraseIdx i).map g = (l.map g).eraseIdx i
 | [],i => rfl
 | a :: l,0 => rfl
 | a :: l,i + 1 => by simp only [List.eraseIdx_cons_succ,List.map_cons,fV g l i]
theorem MN {t kt' : TypeId} {m k : Operand} {ts : Array TypeId} (hop : o.op = .call { callee := .builtin .delete,args := #[m,k],argTypes := ts }) (h0 : ts[0]? = some t) {id : Nat} (hm : (f.ev e m).sv = .lm id) (hmc : (f.ev e m).sc) (hkc : (f.ev e k).sc)
 {q : TI} (hq : ti e.P t = some q) {kt et : TypeId} (hkd : q.kind = .map kt et) {rk : TI} (hrk : ti e.P kt = some rk) (hko : rk.kind.keyOk (f.ev e k).sv = true)
 {ks vs : List V} (hc : h[id]? = some (.map ks vs)) {ks' vs' : List V} (hp : za1 rk.kind (f.ev e k).sv ks vs = some (ks',vs'))
 (hK : Kn (f.put o.dst jb) (h.set id (.map ks' vs'))) : Eff e n r o f h Kn Q := by
 refine aS ?_ (fun c => by rw [hop];exact fun h => by cases h);intro ok pl w ev hs hr;obtain ⟨i,d,z,hT⟩ := aJ hq;obtain ⟨ik,dk,zk,hKT⟩ := aJ hrk;have hd := hT.map hkd;subst hd;have hmv := (hr m (by simp [hop,Op.operands,Call.operands])).sv hmc;rw [hm] at hmv;simp only [VRel] at hmv;obtain ⟨b,hb,hmb⟩ := hmv;have hkv := (hr k (by simp [hop,Op.operands,Call.operands])).sv hkc;obtain ⟨ob,ho',hat⟩ := hs.obj id b hb;rw [hc] at ho';cases ho';obtain ⟨es,clk,h2,h3,h4,hmo⟩ := hat;simp only [cx] at h2;have fin : ∀ (es' : Array MapEntry) (clk' : Nat) ,(Builtin.delete_ ts o.type #[ev m,ev k]).run e.P w = .ok (.tuple #[]) { w with heap := w.heap.setIfInBounds b (.map es' clk') } →
  VList (cx ok pl w) ks' (es'.toList.map (·.key)) → VList (cx ok pl w) vs' (es'.toList.map (·.val)) → LG es' clk' →
  ∃ p v h' pl' w' x,((execOp ev o).run e.P w = .ok (.value x) w' ∨ ((execOp ev o).run e.P w = .ok .skip w' ∧ x = undef)) ∧
   HSim e ok pl' h' w' ∧ Keeps p pl w pl' w' ∧ VRel (cx ok pl' w') v x ∧ (∀ i ∈ f.d,p i = false) ∧ Kn ((f.drop p).put o.dst v) h' := by
  intro es' clk' hrun g1 g2 g3;have hlt := aU h2;have hh : ({ w with heap := w.heap.setIfInBounds b (.map es' clk') } : World).heap[b]? = some (.map es' clk') := by simp [hlt]
  obtain ⟨hs',kk⟩ := hs.upd hb (.map ks' vs') (w' := { w with heap := w.heap.setIfInBounds b (.map es' clk') }) rfl rfl rfl (by simp) (fun i hi => by simp [Ne.symm hi]) (fun arr el fz ha => by rw [h2] at ha;cases ha)
   (fun kx => ⟨es',clk',hh,VList.mono kx _ _ g1,VList.mono kx _ _ g2,g3⟩)
  refine ⟨fun _ => false,jb,_,pl,_,undef,.inl ?_,hs',kk,nG _,fun _ _ => rfl,by simpa using hK⟩;have h5 : execOp ev o = (do pure (Next.value (← Builtin.delete_ ts o.type #[ev m,ev k]))) := by
   simp [execOp,hop,resolve,invoke,builtin]
  rw [h5];simp only [Sem.run_bind,hrun,Result.andThen];rfl
 have hck := kZ hKT hkv hko es.isEmpty w;unfold za1 at hp;split at hp
 ·rename_i j hj;cases hp;obtain ⟨a,h5,en,h6,rfl⟩ := nY (w := w) hKT hkv ks es.toList _ h3 hj;have hje : es[j]? = some en := by simpa using h6
  have hjl : j < es.size := (Array.getElem?_eq_some_iff.1 hje).1;have hel : (es.eraseIdxIfInBounds j).toList = es.toList.eraseIdx j := by rw [Array.eraseIdxIfInBounds,dif_pos hjl,Array.toList_eraseIdx]
  refine fin (es.eraseIdxIfInBounds j) clk ?_ ?_ ?_ ?_
  ·simp only [Builtin.delete_,h0,show (#[Value.map (some b),ev k] : Array Value)[0]? = some (Value.map (some b)) from rfl,show (#[Value.map (some b),ev k] : Array Value)[1]? = some (ev k) from rfl,Sem.run_bind,hT.run_und,Result.andThen,hmb,MapKept.run_getObj_map h2,hck,h5,Nat.zero_add];rw [MapKept.run_setObj_map _ h2];rfl
  ·rw [hel,fV];exact h3.eraseIdx j
  ·rw [hel,fV];exact h4.eraseIdx j
  ·refine ⟨fun y hy => hmo.1 y ?_,?_⟩
   ·rw [hel] at hy;exact List.mem_of_mem_eraseIdx hy
   ·rw [hel,fV];exact hmo.2.sublist (List.eraseIdx_sublist _ _)
 ·rename_i hj;cases hp;obtain ⟨a,h5,rfl⟩ := nY (w := w) hKT hkv ks es.toList _ h3 hj;refine fin es clk ?_ h3 h4 hmo;simp only [Builtin.delete_,h0,show (#[Value.map (some b),ev k] : Array Value)[0]? = some (Value.map (some b)) from rfl,show (#[Value.map (some b),ev k] : Array Value)[1]? = some (ev k) from rfl,Sem.run_bind,hT.run_und,Result.andThen,hmb,MapKept.run_getObj_map h2,hck,h5];rw [MapKept.run_setObj_map _ h2];simp only [Sem.run_pure,World.mk.injEq,Result.ok.injEq,and_true,true_and]
 ·cases hp
end
section
variable {e : E} {n : Nat}
def DRs (c : C) : List Deferred → List (FuncId × List V) → Prop
 | [],[] => True
 | d :: ds,x :: l => (∃ (cs azs : Array Value),d = { target := .fn (.func x.1) cs,args := azs } ∧ VList c x.2 (azs ++ cs).toList) ∧ DRs c ds l
 | _,_ => False
theorem DRs.keeps {ok : Nat → Prop} {p : Nat → Bool} {pl pl' : Nat → Option Nat} {w w' : World} (k : Keeps p pl w pl' w') : ∀ {ds : List Deferred} {l : List (FuncId × List V)},DRs (cx ok pl w) ds l → (∀ x ∈ l,V.drops p x.2 = x.2) → DRs (cx ok pl' w') ds l
 | [],[],_,_ => trivial
 | [],_ :: _,h,_ => h.elim
 | _ :: _,[],h,_ => h.elim
 | d :: ds,x :: l,⟨⟨cs,azs,h1,h2⟩,h3⟩,hd => by
  refine ⟨⟨cs,azs,h1,?_⟩,h3.keeps k fun y hy => hd y (by simp [hy])⟩;have := VList.mdrop k.cext _ _ h2
  rwa [hd x (by simp)] at this
def LVr (e : E) (fn : Func) (R : AEnd → H → (Nat → Bool) → Prop) : List (FuncId × List V) → Fr → H → Prop
 | [],f,h => AC e.P fn.results.toList (fun v h k => R (.ret v) h k) f h
 | x :: l,f,h => iR e x.1 x.2 h fun h' p => (∀ y ∈ l,V.drops p y.2 = y.2) ∧ LVr e fn R l (f.drop p) h'
def LVp (e : E) (fn : Func) (R : AEnd → H → (Nat → Bool) → Prop) (v : V) : List (FuncId × List V) → Fr → H → Prop
 | [],_,_ => False
 | x :: l,f,h => mf e x.1 x.2 v h fun h' p => (∀ y ∈ l,V.drops p y.2 = y.2) ∧ LVr e fn R l (f.drop p) h'
theorem Pi {T : List Deferred} {fn : Func} {R : AEnd → H → (Nat → Bool) → Prop} {ok : Nat → Prop} {pl0 : Nat → Option Nat} {w0 : World} {a : Act} : ∀ {l : List (FuncId × List V)} {ds : List Deferred} {f : Fr} {h : H} {pl : Nat → Option Nat} {w : World},SSim { e with tl := T } fn.ntmps ok pl0 w0 f h pl w a → (∀ x ∈ l,aj e.P x.1 = true) → f.d = [] → DRs (cx ok pl w) ds l → LVr e fn R l f h →
 LeavesInM (RF none) 0 e.P fn a.tmps (endR e ok pl0 w0 R) ds .returning w
 | [],d :: ds,f,h,pl,w,s,hen,hd,hD,hL => hD.elim
 | x :: l,[],f,h,pl,w,s,hen,hd,hD,hL => hD.elim
 | [],[],f,h,pl,w,s,hen,hd,hD,hL => by unfold LVr AC at hL;rw [hd] at hL;simp only [jD] at hL;obtain ⟨u,hu1,hu2⟩ := yx (f := f) (e := e) s.hs.untl s.val hL.1;exact ⟨u,hu1,f.k,pl,h,.ret _,s.hs.untl,s.kp,hu2,hL.2⟩
 | x :: l,d :: ds,f,h,pl,w,s,hen,hd,⟨⟨cs,azs,ed,hv⟩,hD⟩,hL => by
  have hinv : (invoke d.target d.args).run e.P w = .ok (.enter x.1 (azs ++ cs)) w := by rw [ed];simp only [invoke];exact og (hen x (by simp)) _ _
  refine ⟨by simp,.inr ⟨(fun hh => by rw [lV] at hh;cases hh),Fn.func x.1,cs,x.1,azs ++ cs,(by rw [ed]),hinv,(fun g _ => gQ none g),?_⟩⟩;refine CallsDIn.mono (hL ok pl w (azs ++ cs).toList s.hs.untl hv) ?_;rintro en u' w4 ⟨⟨z,rfl⟩,rfl,p,pl4,h4',hs4,k4,hdr,hK⟩;have s4 := s.next (hs4.tl _) k4 (p := p) (by rw [hd];intro i hi;cases hi)
  exact Pi s4 (fun y hy => hen y (by simp [hy])) hd (hD.keeps k4 hdr) hK
theorem ZC {T : List Deferred} {fn : Func} {R : AEnd → H → (Nat → Bool) → Prop} {ok : Nat → Prop} {pl0 : Nat → Option Nat} {w0 : World} {a : Act} {v : V} {y : Value} {l : List (FuncId × List V)} {ds : List Deferred} {f : Fr} {h : H} {pl : Nat → Option Nat} {w : World} (s : SSim { e with tl := T } fn.ntmps ok pl0 w0 f h pl w a) (hen : ∀ x ∈ l,aj e.P x.1 = true) (hd : f.d = []) (hD : DRs (cx ok pl w) ds l) (hy : VRel (cx ok pl w) v y) (hL : LVp e fn R v l f h) :
 LeavesInM (RF none) 0 e.P fn a.tmps (endR e ok pl0 w0 R) ds (.panicking [{ v := y,recovered := false }]) w := by
 cases l with
 | nil => exact hL.elim
 | cons x l =>
  cases ds with
  | nil => exact hD.elim
  | cons d ds =>
   obtain ⟨⟨cs,azs,ed,hv⟩,hD⟩ := hD;have hinv : (invoke d.target d.args).run e.P w = .ok (.enter x.1 (azs ++ cs)) w := by rw [ed];simp only [invoke];exact og (hen x (by simp)) _ _
   refine ⟨by simp,.inr ⟨(fun hh => by rw [lV] at hh;cases hh),Fn.func x.1,cs,x.1,azs ++ cs,(by rw [ed]),hinv,(fun g _ => gQ none g),?_⟩⟩;refine CallsDIn.mono (hL ok pl w (azs ++ cs).toList y s.hs.untl hv hy) ?_;rintro en u' w4 ⟨⟨z,rfl⟩,rfl,p,pl4,h4',hs4,k4,hdr,hK⟩;have s4 := s.next (hs4.tl _) k4 (p := p) (by rw [hd];intro i hi;cases hi)
   exact Pi s4 (fun y hy => hen y (by simp [hy])) hd (hD.keeps k4 hdr) hK
structure DefOk (e : E) (n : Nat) (mk df : Oper) (f F1 : Fr) (h : H) (q : FuncId) (avs : List V) : Prop where
 hmg : mk.guard = none
 hmd : jT n mk.dst = true
 hmp : (uT e.P mk (f.ev e) h).1
 hmf : f.put mk.dst (uT e.P mk (f.ev e) h).2 = F1
 hdg : df.guard = none
 hdd : df.dst = none
 hdop : ∃ (fx : Operand) (args : Array Operand) (ts : Array TypeId) (caps : List V),df.op = .defer { callee := .value fx,args := args,argTypes := ts } ∧ (F1.ev e fx).sv = .fn (.func q) [] caps ∧ (F1.ev e fx).sc ∧ (∀ x ∈ args,(F1.ev e x).sc) ∧ avs = args.toList.map (fun x => (F1.ev e x).sv) ++ caps
 hfd : f.d = []
theorem VList.app {c : C} : ∀ {l m : List V} {x y : List Value},VList c l x → VList c m y → VList c (l ++ m) (x ++ y) := fun h1 h2 => VList.append h1 h2
theorem Ba {e' : E} {ok : Nat → Prop} {pl0 : Nat → Option Nat} {w0 : World} {f F1 : Fr} {h : H} {id : Nat} {mk df : Oper} {rest : Code} {q : FuncId} {avs : List V} {M : Exit → Act → World → Prop} (hd : DefOk e' n mk df f F1 h q avs)
 {pl : Nat → Option Nat} {w : World} {a : Act} (s : SSim e' n ok pl0 w0 f h pl w a)
 (hrest : ∀ d w1 a1,(∃ (cs azs : Array Value),d = { target := .fn (.func q) cs,args := azs } ∧ VList (cx ok pl w1) avs (azs ++ cs).toList) → Keeps (fun _ => false) pl w pl w1 → a1.defers = d :: e'.tl →
  SSim { e' with tl := d :: e'.tl } n ok pl w1 { F1 with k := fun _ => false } h pl w1 a1 → rest.wpIn (RF none) 0 e'.P M a1 w1) :
 (Code.seq (.region id [mk,df].toArray false) rest).wpIn (RF none) 0 e'.P M a w := by
 obtain ⟨hmg,hmd,hmp,hmf,hdg,hdd,⟨fx,args,ts,caps,hdop,hfx,hsc,hasc,havs⟩,hfd⟩ := hd;refine wpIn_seq (wpIn_region_lit ?_);have hgd : gd [mk,df].toArray f mk = some true := by unfold gd;rw [hmg]
 unfold wpListIn;rw [if_pos (vg s.val hgd)];refine ⟨fun g _ => gQ none g,?_⟩;have hq := pO (e := e') hmp ok pl w a.eval s.hs s.evs;have hnd : mk.semAt (RF none).round a.eval = execOp a.eval mk := by rw [dN,Oper.semAt_none]
 rw [hnd];have hF1d : F1.d = [] := by
  rw [← hmf];cases mk.dst with
  | none => exact hfd
  | some i => exact hfd
 have fin : ∀ x w1,WExt w w1 ∧ VRel (cx ok pl w1) (uT e'.P mk (f.ev e') h).2 x → wpListIn (RF none) 0 e'.P [mk,df].toArray (Exit.then (rest.wpIn (RF none) 0 e'.P M) M) [df] (a.put mk.dst x) w1 := by
  rintro x w1 ⟨hx,hv⟩;have kx := hx.keeps s.hs;have s1 := (s.next0 (s.hs.wext hx) kx).put hmd hv;rw [hmf] at s1;generalize ha1 : a.put mk.dst x = a1 at s1 ⊢;have hgd1 : gd [mk,df].toArray F1 df = some true := by unfold gd;rw [hdg]
  unfold wpListIn;rw [if_pos (vg s1.val hgd1)];refine ⟨fun g _ => gQ none g,?_⟩;have h1 := (s1.ev fx).sv hsc;rw [hfx] at h1;simp only [VRel] at h1;obtain ⟨fs,cs,h2,h3,h4⟩ := h1;have hfs : fs = #[] := by
   simp only [VList] at h3;exact Array.toList_eq_nil_iff.1 h3
  subst hfs;obtain ⟨d,ed⟩ : ∃ d : Deferred,d = { target := .fn (.func q) cs,args := args.map a1.eval } := ⟨_,rfl⟩;have hrun : (execOp a1.eval df).run e'.P w1 = .ok (.defer d) w1 := by
   rw [ed];simp [execOp,hdop,resolve,h2,Deferred.ofValue,Result.andThen]
  rw [dN,Oper.semAt_none,hrun,Oper.uponIn_defer,hdd];have hdf1 : a1.defers = e'.tl := by
   have := s1.dfr;rw [hF1d] at this;exact this
  have s2 : SSim { e' with tl := d :: e'.tl } n ok pl w1 { F1 with k := fun _ => false } h pl w1 { a1 with defers := d :: a1.defers } :=
   ⟨s1.hs.tl _,Keeps.refl pl w1,s1.size,s1.val,by
    show FY _ (d :: e'.tl) F1.d (d :: a1.defers);rw [hF1d,hdf1];rfl⟩
  have hargs : ∀ (l : List Operand),(∀ x ∈ l,(F1.ev e' x).sc) → VList (cx ok pl w1) (l.map fun x => (F1.ev e' x).sv) (l.map a1.eval) := by
   intro l
   induction l with
   | nil => intro _;simp [VList]
   | cons b l ih => intro hb;simp only [List.map_cons,VList];exact ⟨_,_,rfl,(s1.ev b).sv (hb b (by simp)),ih fun x hx => hb x (by simp [hx])⟩
  refine hrest d w1 { a1 with defers := d :: a1.defers } ⟨cs,_,ed,?_⟩ kx (by show d :: a1.defers = _;rw [hdf1]) s2;rw [havs,Array.toList_append,Array.toList_map];exact VList.app (hargs _ fun x hx => hasc x (by simpa using hx)) h4
 revert hq
 cases hrun : (execOp a.eval mk).run e'.P w with
 | halt x w' => intro hq;exact hq.elim
 | ok nx w' =>
  intro hq;cases nx <;> try exact hq.elim
  case value x => exact fin x w' hq
  case skip => exact fin undef w' hq
  case enter g args =>
   refine ⟨fun hh => (by rw [lV] at hh;cases hh),fM (Calls.mono hq ?_)⟩;rintro en w'' ⟨x,rfl,hx⟩;exact fin x w'' hx
def LV (e : E) (fn : Func) (R : AEnd → H → (Nat → Bool) → Prop) (l : List (FuncId × List V)) (xe : XE) (f : Fr) (h : H) : Prop :=
 f.d = [] ∧ (∀ x ∈ l,V.drops f.k x.2 = x.2) ∧ match xe with
  | .pan v => LVp e fn R v l f h
  | .ret => LVr e fn R l f h
  | _ => False
theorem LV.leaves {T : List Deferred} {fn : Func} {R : AEnd → H → (Nat → Bool) → Prop} {ok : Nat → Prop} {pl0 : Nat → Option Nat} {w0 : World} {l : List (FuncId × List V)} (hen : ∀ x ∈ l,aj e.P x.1 = true) (hT : DRs (cx ok pl0 w0) T l) {ex : Exit} {a : Act} {w : World}
 (hp : iO { e with tl := T } fn.ntmps ok pl0 w0 (LV e fn R l) ex a w) : bodyPostM (RF none) 0 e.P fn (endR e ok pl0 w0 R) ex a w := by
 obtain ⟨pl3,f3,h3,xe,s3,hx3,hd3,hcap,hq⟩ := hp;have hdf3 : a.defers = T := by have := s3.dfr;rw [hd3] at this;exact this
 have hD := hT.keeps s3.kp hcap;cases xe <;> cases ex <;> (try exact hx3.elim) <;> (try exact hq.elim)
 case ret.ret =>
  show LeavesInM (RF none) 0 e.P fn a.tmps _ a.defers .returning w;rw [hdf3];exact Pi s3 hen hd3 hD hq
 case pan.panic =>
  obtain ⟨y,rfl,hy⟩ := hx3;show LeavesInM (RF none) 0 e.P fn a.tmps _ a.defers (.panicking _) w;rw [hdf3];exact ZC s3 hen hd3 hD hy hq
theorem DD {R : AEnd → H → (Nat → Bool) → Prop} {ok : Nat → Prop} {pl0 pl1 : Nat → Option Nat} {w0 w1 : World} (k : Keeps (fun _ => false) pl0 w0 pl1 w1) {en : Ending} {w : World} (h : endR e ok pl1 w1 R en w) : endR e ok pl0 w0 R en w := by obtain ⟨p,pl',h',ae,h1,h2,h3,h4⟩ := h;exact ⟨p,pl',h',ae,h1,(k.trans h2).weaken (q := p) (fun i hi => by simpa using hi),h3,h4⟩
theorem ig {fn : Func} {tmps : Array Value} {R R' : Ending → World → Prop} (hr : ∀ en w,R en w → R' en w) : ∀ {ds : List Deferred} {u : FrameMode} {w : World},LeavesInM (RF none) 0 e.P fn tmps R ds u w → LeavesInM (RF none) 0 e.P fn tmps R' ds u w
 | [],.returning,w,⟨v,h1,h2⟩ => ⟨v,h1,hr _ _ h2⟩
 | [],.panicking ch,w,h => hr _ _ h
 | [],.run,w,h => h
 | d :: ds,u,w,⟨h0,h⟩ => by
  refine ⟨h0,?_⟩;rcases h with ⟨r,w',h1,h2,h3⟩ | ⟨hn,fv,cap,f,args,h1,h2,h3,h4⟩
  ·exact .inl ⟨r,w',h1,h2,ig hr h3⟩
  ·refine .inr ⟨hn,fv,cap,f,args,h1,h2,h3,CallsDIn.mono h4 ?_⟩;intro en u' w' h5;cases en with
   | returned v => exact ig hr h5
   | panicked ch => exact ig hr h5
   | outgrown => exact hr _ _ h5
theorem o7 {fn : Func} {R R' : Ending → World → Prop} (hr : ∀ en w,R en w → R' en w) {ex : Exit} {a : Act} {w : World} (h : bodyPostM (RF none) 0 e.P fn R ex a w) : bodyPostM (RF none) 0 e.P fn R' ex a w := by
 cases ex with
 | normal => exact ig hr h
 | ret => exact ig hr h
 | panic ch => exact ig hr h
 | exit id => exact h
 | goto l => exact h
 | outgrown => exact hr _ _ h
theorem qJ (htl : e.tl = []) {fn : Func} {R : AEnd → H → (Nat → Bool) → Prop} {ok : Nat → Prop} {pl0 : Nat → Option Nat} {w0 : World} {f F1 : Fr} {h : H} {id : Nat} {mk df : Oper} {rest : Code} {q : FuncId} {avs : List V}
 (hd : DefOk e fn.ntmps mk df f F1 h q avs) (hen : aj e.P q = true) (hfk : f.k = fun _ => false)
 (hrest : ∀ d,awp { e with tl := [d] } fn.ntmps none rest (LV e fn R [(q,avs)]) { F1 with k := fun _ => false } h) :
 Zz e fn.ntmps (bodyPostM (RF none) 0 e.P fn (endR e ok pl0 w0 R)) ok pl0 w0 (.seq (.region id [mk,df].toArray false) rest) f h := by
 intro pl w a s;refine Ba hd s fun d w1 a1 hdd kx hdf s2 => ?_;rw [htl] at s2;have kk : Keeps (fun _ => false) pl0 w0 pl w1 := ((hfk ▸ s.kp).trans kx).weaken (q := fun _ => false) (fun i hi => by simp at hi);refine wpIn_mono (hrest d ok pl w1 pl w1 _ s2) fun ex a3 w3 hp => ?_;exact o7 (fun en w he => DD kk he) (LV.leaves (T := [d]) (fun x hx => by simp at hx;subst hx;exact hen) (show DRs _ [d] [(q,avs)] from ⟨hdd,trivial⟩) hp)
theorem Pj (htl : e.tl = []) {fn : Func} {R : AEnd → H → (Nat → Bool) → Prop} {ok : Nat → Prop} {pl0 : Nat → Option Nat} {w0 : World} {f F1 F2 : Fr} {h : H} {id id2 : Nat} {mk df mk2 df2 : Oper} {rest : Code} {q q2 : FuncId} {avs avs2 : List V}
 (hd : DefOk e fn.ntmps mk df f F1 h q avs) (hen : aj e.P q = true) (hfk : f.k = fun _ => false)
 (hd2 : ∀ tl,DefOk { e with tl := tl } fn.ntmps mk2 df2 { F1 with k := fun _ => false } F2 h q2 avs2) (hen2 : aj e.P q2 = true)
 (hrest : ∀ d d2,awp { e with tl := [d2,d] } fn.ntmps none rest (LV e fn R [(q2,avs2),(q,avs)]) { F2 with k := fun _ => false } h) :
 Zz e fn.ntmps (bodyPostM (RF none) 0 e.P fn (endR e ok pl0 w0 R)) ok pl0 w0 (.seq (.region id [mk,df].toArray false) (.seq (.region id2 [mk2,df2].toArray false) rest)) f h := by
 intro pl w a s;refine Ba hd s fun d w1 a1 hdd kx hdf s2 => ?_;rw [htl] at s2;have kk : Keeps (fun _ => false) pl0 w0 pl w1 := ((hfk ▸ s.kp).trans kx).weaken (q := fun _ => false) (fun i hi => by simp at hi);refine Ba (hd2 [d]) s2 fun d2 w2 a2 hdd2 kx2 hdf2 s3 => ?_;have kk2 : Keeps (fun _ => false) pl0 w0 pl w2 := (kk.trans kx2).weaken (q := fun _ => false) (fun i hi => by simp at hi);have hD1 : DRs (cx ok pl w2) [d] [(q,avs)] := DRs.keeps kx2 (ds := [d]) (l := [(q,avs)]) ⟨hdd,trivial⟩ (fun x _ => V.drop_none.V.drops_none _);refine wpIn_mono (hrest d d2 ok pl w2 pl w2 _ s3) fun ex a3 w3 hp => ?_;exact o7 (fun en w he => DD kk2 he) (LV.leaves (T := [d2,d]) (fun x hx => by
  simp only [List.mem_cons,List.not_mem_nil,or_false] at hx;rcases hx with rfl | rfl
  ·exact hen2
  ·exact hen) (show DRs _ [d2,d] [(q2,avs2),(q,avs)] from ⟨hdd2,hD1⟩) hp)
end
section
variable {e : E} {n : Nat} {r : Option Nat} {o : Oper} {f : Fr} {h : H} {K : Fr → H → Prop} {Q : XE → Fr → H → Prop}
theorem Iw {t : TypeId} {x : Operand} (hop : o.op = .box t x) (hsc : (f.ev e x).sc) (hf : (f.ev e x).sv.fit = true)
 (hk : K (f.put o.dst (.lp h.length 0)) (h ++ [.typed t (f.ev e x).sv.vc])) : Eff e n r o f h K Q := by
 refine aS ?_ (fun c => by rw [hop];exact fun h => by cases h);intro ok pl w ev hs hr;have h0 := ((hr x (by simp [hop,Op.operands])).sv hsc).vc hf;have hzl := h0.length;simp only [Array.length_toList] at hzl;obtain ⟨h1,h2⟩ := rV hs (cs := (f.ev e x).sv.vc) (arr := (ev x).cells) (by omega) (by rw [List.take_of_length_le (by simp;omega)];exact h0) t (WExt.refl w);refine ⟨fun _ => false,.lp h.length 0,_,_,_,.pointer (some ⟨w.heap.size,0,none⟩),.inl ?_,h1,h2,?_,fun _ _ => rfl,by simpa using hk⟩
 ·have h3 : execOp ev o = (do pure (Next.value (← Instr.box t (ev x)))) := by simp [execOp,hop]
  rw [h3];exact fJ rfl
 ·simp only [VRel];exact ⟨w.heap.size,by simp [cx,bI],rfl⟩
end
def bl (n k : Nat) : Array Bool := ((List.range n).map fun i => k.testBit i).toArray
noncomputable def Bc : Code → Nat → List (Array Oper)
 | .region i ops _,k => if i == k then [ops] else []
 | .seq a b,k => Bc a k ++ Bc b k
 | .cond _ a b,k => Bc a k ++ Bc b k
 | .loop a,k => Bc a k
 | .block _ a,k => Bc a k
 | _,_ => []
noncomputable def aI (f : Func) (k : Nat) : Array Oper := match f.body with
 | some c => (Bc c k).headD #[]
 | none => #[]
section
variable {P : Program} {ops : Array Oper} {i k : Nat} {p q : Plan} {L L' : Array Bool}
theorem Yf (h0 : (match ops[i]? with | some o => mP P o.op && (Region.ready .any ops L).contains i && Region.free .any ops L i | none => false) = true) (hL : L.setIfInBounds i true = L') (hp : ai P ops p k L' = true) : ai P ops (.take i p) (k + 1) L = true := by
 unfold ai;cases ho : ops[i]? with
 | none => rw [ho] at h0;cases h0
 | some o => rw [ho] at h0;dsimp only at h0 ⊢;rw [h0,hL,hp];rfl
theorem ZE (h0 : (Region.ready .any ops L == [i]) = true) (hL : L.setIfInBounds i true = L') (hp : ai P ops p k L' = true) : ai P ops (.one i p) (k + 1) L = true := by unfold ai;dsimp only;rw [h0,hL,hp];rfl
theorem ZF (h0 : (Region.ready .any ops L == i :: q.heads) = true) (hL : L.setIfInBounds i true = L') (hp : ai P ops p k L' = true) (hq : ai.planAlts P ops q k L = true) : ai P ops (.alt i p q) (k + 1) L = true := by unfold ai;dsimp only;rw [h0,hL,hp,hq];rfl
theorem ZG (hL : L.setIfInBounds i true = L') (hp : ai P ops p k L' = true) : ai.planAlts P ops (.one i p) k L = true := by unfold ai.planAlts;rw [hL,hp]
theorem ZH (hL : L.setIfInBounds i true = L') (hp : ai P ops p k L' = true) (hq : ai.planAlts P ops q k L = true) : ai.planAlts P ops (.alt i p q) k L = true := by unfold ai.planAlts;rw [hL,hp,hq];rfl
theorem okT (hp : ai P ops p k L' = true) (h0 : (match ops[i]? with | some o => mP P o.op && (Region.ready .any ops L).contains i && Region.free .any ops L i | none => false) = true := by decide +kernel) (hL : L.setIfInBounds i true = L' := by decide +kernel) : ai P ops (.take i p) (k + 1) L = true := Yf h0 hL hp
theorem okO (hp : ai P ops p k L' = true) (h0 : (Region.ready .any ops L == [i]) = true := by decide +kernel) (hL : L.setIfInBounds i true = L' := by decide +kernel) : ai P ops (.one i p) (k + 1) L = true := ZE h0 hL hp
theorem okA (hp : ai P ops p k L' = true) (hq : ai.planAlts P ops q k L = true) (h0 : (Region.ready .any ops L == i :: q.heads) = true := by decide +kernel) (hL : L.setIfInBounds i true = L' := by decide +kernel) : ai P ops (.alt i p q) (k + 1) L = true := ZF h0 hL hp hq
theorem alO (hp : ai P ops p k L' = true) (hL : L.setIfInBounds i true = L' := by decide +kernel) : ai.planAlts P ops (.one i p) k L = true := ZG hL hp
theorem alA (hp : ai P ops p k L' = true) (hq : ai.planAlts P ops q k L = true) (hL : L.setIfInBounds i true = L' := by decide +kernel) : ai.planAlts P ops (.alt i p q) k L = true := ZH hL hp hq
end
section
variable {e : E} {n : Nat}
theorem ul (htl : e.tl = []) {q : FuncId} {fn : Func} {args : List V} {h : H} {K : H → (Nat → Bool) → Prop} {c : Code} (hf : e.P.funcs[q]? = some fn)
 (hb : fn.body = some c) (hr0 : fn.results.toList = []) (hn : args.length ≤ fn.ntmps)
 (hv : awp e fn.ntmps none c (fun xe f h => (xe = .normal ∨ xe = .ret) ∧ f.d = [] ∧ K h f.k) (Fr.init args) h) : iR e q args h K := by
 intro ok pl w vs hs hl;refine CallsDIn.mono (R := fun en u' w' => u' = .returning ∧ ((∃ y,en = .returned y) ∧ ∃ p pl' h',HSim e ok pl' h' w' ∧ Keeps p pl w pl' w' ∧ K h' p)) (callsDIn_of_wp hf hb (gQ none q) ?_ rfl) (fun en u' w' hq => ⟨hq.2.1,hq.1,hq.2.2⟩);have s0 := SSim.init htl (n := fn.ntmps) hs hl hn;refine wpIn_mono (hv ok pl w pl w _ s0) ?_;rintro ex a w' ⟨pl3,f3,h3,xe,s3,hx3,hxe,hd3,hk3⟩;have hdf : a.defers = [] := by
  have := s3.dfr;rw [hd3] at this;exact Eq.trans this htl
 have hres : ∃ y,(results fn a.tmps).run e.P w' = .ok y w' := by
  have hp : (vz e.P f3 h3 fn.results.toList).1 := by rw [hr0];trivial
  obtain ⟨y,h1,_⟩ := yx (f := f3) s3.hs s3.val hp;exact ⟨y,h1⟩
 obtain ⟨y,hy⟩ := hres;have fin : a.defers = [] ∧ ∃ v,(results fn a.tmps).run e.P w' = .ok v w' ∧ ((∃ y,Ending.returned v = .returned y) ∧ ∃ p pl' h',HSim e ok pl' h' w' ∧ Keeps p pl w pl' w' ∧ K h' p) :=
  ⟨hdf,y,hy,⟨y,rfl⟩,f3.k,pl3,h3,s3.hs,s3.kp,hk3⟩
 rcases hxe with rfl | rfl <;> cases ex <;> (try exact hx3.elim)
 ·exact fin
 ·exact fin
end
def Yg (ops : Array Oper) : Bool := (List.range ops.size).all fun i => match ops[i]? with
 | some o => o.after.all fun q => !(Region.binds .any q) || decide (q.on < i)
 | none => true
section
variable {e : E} {n : Nat} {r : Option Nat} {ops : Array Oper} {Q : XE → Fr → H → Prop} {ok : Nat → Prop} {pl0 : Nat → Option Nat} {w0 : World}
theorem DF (hB : Yg ops = true) {listed : Array Bool} (hs : listed.size = ops.size) (hr : Region.ready .any ops listed = []) : ∀ (k i : Nat),i < k → i < ops.size → listed.getD i false = true := by
 intro k
 induction k with
 | zero => intro i hi;exact absurd hi (Nat.not_lt_zero _)
 | succ k ih =>
  intro i hik hi;apply Classical.byContradiction;intro hn;have hn : listed.getD i false = false := by simpa using hn
  have : i ∈ Region.ready .any ops listed := by
   refine mem_ready.2 ⟨?_,ops[i],by simp [hi],fun q hq hb => ?_⟩
   ·have : i < listed.size := by omega
    simpa [Array.getD,this] using hn
   ·have h1 := List.all_eq_true.1 hB i (by simpa using hi);have hio : ops[i]? = some ops[i] := by simp [hi]
    rw [hio] at h1;dsimp only at h1;have h2 := (Array.all_eq_true_iff_forall_mem.1 h1) q hq;rw [hb] at h2;simp only [Bool.not_true,Bool.false_or,decide_eq_true_eq] at h2;exact ih q.on (by omega) (by omega)
  rw [hr] at this;cases this
def yD (L : Array Bool) : Nat := L.toList.countP (!·)
theorem yE {L : Array Bool} {i : Nat} (h : i < L.size) (hl : L.getD i true = false) : yD L = yD (L.setIfInBounds i true) + 1 := by
 have hi : i < L.toList.length := by simpa using h
 have hg : L.toList[i] = false := by simpa [Array.getD,h] using hl
 unfold yD;rw [Array.toList_setIfInBounds,List.countP_set hi,hg];have : 0 < L.toList.countP (!·) := List.countP_pos_iff.2 ⟨L.toList[i],List.getElem_mem hi,by rw [hg];rfl⟩;rw [if_pos (show (!false) = true from rfl),if_neg (show ¬ (!true) = true by decide)];omega
theorem Xc (I : Array Bool → Fr → H → Prop)
 (hstep : ∀ L f h i,Dy ops L → I L f h → i ∈ Region.ready .any ops L → Gn e n ops i (fun f' h' => I (L.setIfInBounds i true) f' h') Q f h)
 (hend : ∀ L f h,L.size = ops.size → I L f h → Region.ready .any ops L = [] → Q .normal f h) :
 ∀ (fuel : Nat) (L : Array Bool) (f : Fr) (h : H),L.size = ops.size → Dy ops L → yD L ≤ fuel → I L f h → ∀ pl w a,SSim e n ok pl0 w0 f h pl w a → wpAnyIn (RF r) 0 e.P .any ops (iO e n ok pl0 w0 Q) fuel L a w := by
 intro fuel
 induction fuel with
 | zero =>
  intro L f h hs hc hu hI pl w a s;have hr : Region.ready .any ops L = [] := by
   match hm : Region.ready .any ops L with
   | [] => rfl
   | i :: _ => obtain ⟨h0,o,ho,_⟩ := mem_ready.1 (show i ∈ Region.ready .any ops L by rw [hm];simp);have hlt := (Array.getElem?_eq_some_iff.1 ho).1;have := yE (L := L) (i := i) (by omega) h0;omega
  exact wpAnyIn_done hr ⟨pl,f,h,.normal,s,trivial,hend L f h hs hI hr⟩ 0
 | succ fuel ih =>
  intro L f h hs hc hu hI pl w a s;by_cases hr : Region.ready .any ops L = []
  ·exact wpAnyIn_done hr ⟨pl,f,h,.normal,s,trivial,hend L f h hs hI hr⟩ (fuel + 1)
  ·refine ⟨fun h0 => absurd h0 hr,fun i hi => ?_⟩;obtain ⟨h0,o,ho,_⟩ := mem_ready.1 hi;have hlt := (Array.getElem?_eq_some_iff.1 ho).1;have hun := yE (L := L) (i := i) (by omega) h0;exact l9 (hstep L f h i hc hI hi) (fun f h pl w a s hk => ih _ f h (by simpa using hs) (hc.set hi) (by omega) hk pl w a s) s
theorem Yh (hm : e.P.follows .mixedOrders = true) {id : Nat} (I : Array Bool → Fr → H → Prop) (R : Fr → H → Prop) {f : Fr} {h : H} (hB : Yg ops = true)
 (h0 : I (Array.replicate ops.size false) f h)
 (hstep : ∀ L f h i,Dy ops L → I L f h → i ∈ Region.ready .any ops L → Gn e n ops i (fun f' h' => I (L.setIfInBounds i true) f' h') (xN R) f h)
 (hend : ∀ L f h,(∀ i,i < ops.size → L.getD i false = true) → I L f h → R f h)
 (hk : ∀ f h,R f h → Q .normal f h) : awp e n r (.region id ops true) Q f h := by
 intro ok pl0 w0 pl w a s;have x : WExt w { w with drawn := w.drawn + 1 } := WExt.drew w;have := Xc (e := e) (n := n) (r := r) (ops := ops) (Q := xN R) (ok := ok) (pl0 := pl0) (w0 := w0) I hstep
  (fun L f h hs hI hr => hend L f h (fun i hi => DF hB hs hr (i + 1) i (Nat.lt_succ_self i) hi) hI)
  ops.size (Array.replicate ops.size false) f h (by simp) Dy.none (by unfold yD;exact Nat.le_trans (List.countP_le_length) (by simp)) h0 pl _ a (s.next0 (s.hs.wext x) (x.keeps s.hs))
 refine wpIn_mono (wpIn_region_any hm this) ?_;rintro ex a' w' ⟨pl',f',h',xe,s',hx,hq⟩;cases xe <;> first
  | exact hq.elim
  | exact ⟨pl',f',h',_,s',hx,hk _ _ hq⟩
def ZI (ops : Array Oper) (i : Nat) (l : List Nat) : Bool := match ops[i]? with
 | some o => l.all fun j => o.after.any fun q => Region.binds .any q && (q.on == j)
 | none => false
theorem aW {L : Array Bool} {i : Nat} (hi : i ∈ Region.ready .any ops L) {l : List Nat} (hl : ZI ops i l = true) : ∀ j ∈ l,L.getD j false = true := by intro j hj;obtain ⟨_,o,ho,hall⟩ := mem_ready.1 hi;unfold ZI at hl;rw [ho] at hl;have h1 := List.all_eq_true.1 hl j hj;rw [Array.any_eq_true] at h1;obtain ⟨q,hq,h3⟩ := h1;rw [Bool.and_eq_true,beq_iff_eq] at h3;rw [← h3.2];have hmem : o.after[q] ∈ o.after := Array.getElem_mem hq;have := hall _ hmem h3.1;simpa using this
theorem jJ {L : Array Bool} {i : Nat} (hi : i ∈ Region.ready .any ops L) : L.getD i false = false := by
 obtain ⟨h0,o,ho,_⟩ := mem_ready.1 hi;rcases Nat.lt_or_ge i L.size with h | h
 ·simpa [Array.getD,h] using h0
 ·simp [Array.getD,Nat.not_lt.2 h]
theorem Iy {L : Array Bool} {i : Nat} (hi : i ∈ Region.ready .any ops L) : i < ops.size := by obtain ⟨_,o,ho,_⟩ := mem_ready.1 hi;exact (Array.getElem?_eq_some_iff.1 ho).1
theorem oD {L : Array Bool} {i : Nat} (hi : i ∈ Region.ready .any ops L) : i < L.size := by
 obtain ⟨h0,o,ho,_⟩ := mem_ready.1 hi;rcases Nat.lt_or_ge i L.size with h | h
 ·exact h
 ·simp [Array.getD,Nat.not_lt.2 h] at h0
theorem Va (hm : e.P.follows .mixedOrders = true) {id : Nat} (I : Array Bool → Fr → H → Prop) {f : Fr} {h : H} (hB : Yg ops = true)
 (h0 : I (Array.replicate ops.size false) f h)
 (hstep : ∀ L f h i,Dy ops L → I L f h → i ∈ Region.ready .any ops L → Gn e n ops i (fun f' h' => I (L.setIfInBounds i true) f' h') Q f h)
 (hend : ∀ L f h,(∀ i,i < ops.size → L.getD i false = true) → I L f h → Q .normal f h) : awp e n r (.region id ops true) Q f h := by
 intro ok pl0 w0 pl w a s;have x : WExt w { w with drawn := w.drawn + 1 } := WExt.drew w;have := Xc (e := e) (n := n) (r := r) (ops := ops) (Q := Q) (ok := ok) (pl0 := pl0) (w0 := w0) I hstep
  (fun L f h hs hI hr => hend L f h (fun i hi => DF hB hs hr (i + 1) i (Nat.lt_succ_self i) hi) hI)
  ops.size (Array.replicate ops.size false) f h (by simp) Dy.none (by unfold yD;exact Nat.le_trans (List.countP_le_length) (by simp)) h0 pl _ a (s.next0 (s.hs.wext x) (x.keeps s.hs))
 exact wpIn_region_any hm this
def FA (L : Array Bool) (f : Fr) (l : List (Nat × Nat × V)) : Prop := ∀ q ∈ l,L.getD q.1 false = true → f.t q.2.1 = q.2.2
theorem FA.put {L : Array Bool} {f : Fr} {l : List (Nat × Nat × V)} {i d : Nat} {v : V} (hf : FA L f l)
 (h1 : ∀ q ∈ l,q.1 = i → q.2.1 = d ∧ q.2.2 = v) (h2 : ∀ q ∈ l,q.2.1 = d → q.1 = i) : FA (L.setIfInBounds i true) (f.put (some d) v) l := by
 intro q hq hl;by_cases hqi : q.1 = i
 ·obtain ⟨e1,e2⟩ := h1 q hq hqi;rw [e1,e2];simp [Fr.put]
 ·have hqd : q.2.1 ≠ d := fun h => hqi (h2 q hq h);rw [getD_set_ne false (Ne.symm hqi)] at hl;have := hf q hq hl;simpa [Fr.put,hqd] using this
theorem FA.skip {L : Array Bool} {f : Fr} {l : List (Nat × Nat × V)} {i : Nat} (hf : FA L f l) (h1 : ∀ q ∈ l,q.1 ≠ i) : FA (L.setIfInBounds i true) f l := by intro q hq hl;rw [getD_set_ne false (Ne.symm (h1 q hq))] at hl;exact hf q hq hl
theorem FA.none {m : Nat} {f : Fr} {l : List (Nat × Nat × V)} : FA (Array.replicate m false) f l := by
 intro q _ hl;exfalso;rcases Nat.lt_or_ge q.1 m with h | h
 ·simp [h] at hl
 ·simp [h] at hl
end
section
variable {e : E} {n : Nat} {r : Option Nat} {o : Oper} {f : Fr} {h : H} {Kn : Fr → H → Prop} {Q : XE → Fr → H → Prop}
theorem Bd {x : Operand} {t el m : Nat} {q re : TI} {qq : Option IntKind} (hop : o.op = .slice t x none none none) (hti : Abs.ti e.P t = some q) (hkind : q.kind = .arr m el qq) (hre : Abs.ti e.P el = some re)
 (hc : (f.ev e x).sc) {id off : Nat} (hx : (f.ev e x).sv = .lp id off) {cs : List V} (hid : h[id]? = some (.cells cs)) (hl : off + m * re.size ≤ cs.length) (hm : m ≤ maxLen) (hk : Kn (f.put o.dst (.ls id re.size off m m)) h) : Eff e n r o f h Kn Q := by
 refine iy (v := .ls id re.size off m m) (fA fun ok pl w ev hs hr => ?_) hk;obtain ⟨i,d,z,hT⟩ := aJ hti;obtain ⟨i',d',z',hT'⟩ := aJ hre;have hd := hT.arr hkind;subst hd;have h1 := (hr x (by simp [hop,Op.operands])).sv hc;rw [hx] at h1;simp only [VRel] at h1;obtain ⟨b,hb,hev⟩ := h1;obtain ⟨o',ho',hat⟩ := hs.obj id b hb;rw [hid] at ho';cases ho';obtain ⟨arr,el',fz,hw,_,hsz,_⟩ := hat;refine ⟨.slice (some ⟨b,off,none⟩) m m,?_,?_⟩
 ·have hex : execOp ev o = (do pure (Next.value (← Instr.sliceAt t (ev x) none none none))) := by simp [execOp,hop]
  rw [hex,hev];refine fJ ?_;have hbd : (Instr.sliceBounds false m m none none none).run e.P w = .ok (0,m,m) w := by
   have := fF (P := e.P) (w := w) false m m .i64 none none none none none none 0 m m (.inl ⟨rfl,rfl⟩) (.inl ⟨rfl,rfl,rfl⟩) (.inl ⟨rfl,rfl⟩) (Int.le_refl _) (by omega) (Int.le_refl _) (Int.le_refl _);simpa using this
  simp [Instr.sliceAt,hT.run_und,Result.andThen,Instr.sureAddr,hbd,hT'.run_size,bV]
 ·simp only [VRel];exact ⟨_,m,rfl,Nat.le_refl _,Nat.le_refl _,hm,.inr ⟨b,arr,el',fz,hb,rfl,hw,by omega⟩⟩
end
section
variable {e : E} {n : Nat} {r : Option Nat} {o : Oper} {f : Fr} {h : H} {Kn : Fr → H → Prop} {Q : XE → Fr → H → Prop}
theorem xR {x hi mx : Operand} {t el m : Nat} {q re : TI} {qq : Option IntKind} (hop : o.op = .slice t x none (some hi) (some mx)) (hti : Abs.ti e.P t = some q) (hkind : q.kind = .arr m el qq) (hre : Abs.ti e.P el = some re)
 (hc : (f.ev e x).sc) {id off : Nat} (hx : (f.ev e x).sv = .lp id off) {cs : List V} (hid : h[id]? = some (.cells cs)) (hl : off + m * re.size ≤ cs.length) (hm : m ≤ maxLen)
 {a b : Nat} (hhc : (f.ev e hi).sc) (hhv : (f.ev e hi).sv = .int .i64 a) (hmc : (f.ev e mx).sc) (hmv : (f.ev e mx).sv = .int .i64 b) (hab : a ≤ b) (hbm : b ≤ m)
 (hk : Kn (f.put o.dst (.ls id re.size off a b)) h) : Eff e n r o f h Kn Q := by
 refine iy (v := .ls id re.size off a b) (fA fun ok pl w ev hs hr => ?_) hk;obtain ⟨i,d,z,hT⟩ := aJ hti;obtain ⟨i',d',z',hT'⟩ := aJ hre;have hd := hT.arr hkind;subst hd;have h1 := (hr x (by simp [hop,Op.operands])).sv hc;rw [hx] at h1;simp only [VRel] at h1;obtain ⟨bb,hb,hev⟩ := h1;have h2 := (hr hi (by simp [hop,Op.operands])).sv hhc;rw [hhv] at h2;simp only [VRel] at h2;have h3 := (hr mx (by simp [hop,Op.operands])).sv hmc;rw [hmv] at h3;simp only [VRel] at h3;obtain ⟨o',ho',hat⟩ := hs.obj id bb hb;rw [hid] at ho';cases ho';obtain ⟨arr,el',fz,hw,_,hsz,_⟩ := hat;refine ⟨.slice (some ⟨bb,off,none⟩) a b,?_,?_⟩
 ·have hex : execOp ev o = (do pure (Next.value (← Instr.sliceAt t (ev x) none (some (ev hi)) (some (ev mx))))) := by simp [execOp,hop]
  rw [hex,hev,h2,h3];refine fJ ?_;have hbd : (Instr.sliceBounds false m m none (some (.int .i64 (a : Int))) (some (.int .i64 (b : Int)))).run e.P w = .ok (0,a,b) w := by
   have := fF (P := e.P) (w := w) false m m .i64 none none none none (some (.int .i64 (a : Int))) (some (.int .i64 (b : Int))) 0 a b (.inl ⟨rfl,rfl⟩) (.inr ⟨_,rfl⟩) (.inr ⟨_,rfl⟩) (Int.le_refl _) (by omega) (by omega) (by omega);simpa using this
  simp [Instr.sliceAt,hT.run_und,Result.andThen,Instr.sureAddr,hbd,hT'.run_size,bV]
 ·simp only [VRel];refine ⟨_,b,rfl,Nat.le_refl _,hab,by omega,.inr ⟨bb,arr,el',fz,hb,rfl,hw,?_⟩⟩;have : b * re.size ≤ m * re.size := Nat.mul_le_mul_right _ hbm;omega
theorem _root_.Go.Abs.Be {id k len cap : Nat} {cs ex cs' es : List V} (hc : h[id]? = some (.cells (cs ++ ex))) (hr : aB e h cs cs') (hf : fG k es = true) (hflat : es.flatMap V.vc = cs') (hlen : len = es.length) :
 aC e h (.ls id k 0 len cap) (.is false k es) := by
 intro ok pl w x hs hv;simp only [VRel] at hv ⊢;obtain ⟨a,cp,rfl,h1,h2,h3,h4⟩ := hv;refine ⟨a,cp,by rw [hlen],by omega,h3,fun hf => (by cases hf),?_⟩;rcases h4 with h4 | ⟨b,arr,el,fz,h5,h6,h7,h8⟩
 ·exact .inl (List.length_eq_zero_iff.1 (by omega))
 ·refine .inr ⟨b,0,h6,?_⟩;obtain ⟨o,ho,hat⟩ := hs.obj id b h5;rw [hc] at ho;cases ho;obtain ⟨arr',el',fz',h9,h10,h11,h12⟩ := hat;have h13 : w.heap[b]? = some (.cells arr' el' fz') := h9;have h14 := h12.take cs.length;rw [List.take_left] at h14;have := hr ok pl w _ hs h14;rw [← hflat] at this;exact lY (hs.okl id b h5) h13 es 0 _ hf this fun j y hy => by
   rw [List.getElem?_take] at hy;split at hy
   ·rw [List.getElem?_take] at hy;split at hy
    ·simpa using hy
    ·cases hy
   ·cases hy
end
section
variable {e : E} {n : Nat} {r : Option Nat} {ops : Array Oper} {h : H} {Q : XE → Fr → H → Prop}
theorem AQ.lend {o : Oper} {fx : Operand} {args : Array Operand} {ts : Array TypeId} (hop : o.op = .call { callee := .value fx,args := args,argTypes := ts }) {ρ : Operand → V} {g : FuncId} {vs vs' : List V} {rv : V}
 (hon : mO e ρ fx args = some (g,vs)) (hsc : lg ρ fx args) (hen : aj e.P g = true) (hr : aB e h vs vs') (hv : Ev e g vs' rv) (hp : rv.plain = true) : AQ e o ρ h rv := by
 intro ok pl w ev hs hre;obtain ⟨xs,hrun,hl⟩ := ve (e := e) hop hre hon hsc hen;rw [hrun];exact (hv ok w xs hs.lend (hr ok pl w xs hs hl)).mono fun en w' ⟨x,h1,h2,h3⟩ => ⟨x,h1,h2,h3.plain hp⟩
def ZJ (e : E) (h : H) (g : Bool) (q : FuncId) (vs : List V) (sc : Prop) (dst : Option Tmp) (Kn : Fr → Prop) (f : Fr) : Prop :=
 ∃ rv,(g = true → sc ∧ aj e.P q = true ∧ ((V.dats vs = true ∧ Ev e q vs rv) ∨ ∃ vs',aB e h vs vs' ∧ Ev e q vs' rv ∧ rv.plain = true)) ∧ Kn (f.put dst (V.guard g rv))
theorem ZJ.mk {q : FuncId} {vs vs' : List V} {dst : Option Tmp} {Kn : Fr → Prop} {f : Fr} {rv : V} (hv : Ev e q vs' rv) (h2 : aj e.P q = true) (hr : aB e h vs vs') (hp : rv.plain = true) (hk : Kn (f.put dst rv)) : ZJ e h true q vs True dst Kn f :=
 ⟨rv,fun _ => ⟨trivial,h2,.inr ⟨vs',hr,hv,hp⟩⟩,hk⟩
end
section
variable {P : Program} {w : World}
end
section
variable {e : E} {n : Nat} {r : Option Nat} {o : Oper} {f : Fr} {h : H} {Kn : Fr → H → Prop} {Q : XE → Fr → H → Prop}
end
end Go.Abs
