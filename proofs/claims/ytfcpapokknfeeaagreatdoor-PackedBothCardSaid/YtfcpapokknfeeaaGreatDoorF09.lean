/- Lemmas for this claim, part F09: each holds under what it names. -/
import Derived.Test.YtfcpapokknfeeaaGreatDoorF08
import Derived.Test.YtfcpapokknfeeaaGreatDoorA10
set_option linter.unusedVariables false
set_option linter.unusedSimpArgs false
set_option linter.unnecessarySimpa false
set_option maxRecDepth 20000
namespace Go.Proofs.YtfcpapokknfeeaaGreatDoor
open Go Go.Proofs Go.Abs
theorem mF {D : Cl} : ∀ {l : List Us},(∀ u ∈ l,u.1 / 2 ∈ D) → fD D l = none
 | [],_ => rfl
 | u :: l,h => by unfold fD;rw [if_pos (h u (by simp))];exact mF fun v hv => h v (by simp [hv])
def qh (f : Int) (j n : Nat) : Cl := (List.range' j (n - j)).map fun t : Nat => f + (t : Int)
theorem qZ {f k : Int} {j n : Nat} : k ∈ qh f j n ↔ f + j ≤ k ∧ k < f + n := by
 unfold qh;rw [List.mem_map];constructor
 ·rintro ⟨i,hi,rfl⟩;have := List.mem_range'_1.1 hi;omega
 ·rintro ⟨h0,h1⟩;exact ⟨(k - f).toNat,List.mem_range'_1.2 (by omega),by omega⟩
theorem Nr {f : Int} {j n : Nat} (h : j < n) : qh f j n = (f + (j : Int)) :: qh f (j + 1) n := by unfold qh;rw [show n - j = (n - (j + 1)) + 1 by omega,List.range'_succ];rfl
theorem Hg {A : List An} {f : Int} (hl : ∀ i (h : i < A.length),A[i].lit = 2 * (f + (i : Int)) ∧ A[i].p.1 < 2 * (f + (i : Int)) ∧ A[i].q.1 < 2 * (f + (i : Int))) : ∀ k j i : Nat,i ≤ j → j ≤ A.length → (A.length - j) * (A.length + 1) + (A.length + 1 - i) ≤ k → iq A k i (qh f j A.length) (List.range j) = (List.range A.length,[])
 | 0,j,i,h1,h2,h3 => by omega
 | k + 1,j,i,h1,h2,h3 => by
  unfold iq;by_cases hi : i < A.length
  ·rw [if_pos hi,aG hi];obtain ⟨a1,a2,a3⟩ := hl i hi;by_cases hij : i = j
   ·subst hij;have e1 : A[i].lit / 2 ∈ qh f i A.length := by rw [qZ,a1];omega
    have e2 : A[i].p.1 / 2 ∉ qh f i A.length := by rw [qZ];omega
    have e3 : A[i].q.1 / 2 ∉ qh f i A.length := by rw [qZ];omega
    have e4 : (qh f i A.length).erase (A[i].lit / 2) = qh f (i + 1) A.length := by rw [Nr hi,show A[i].lit / 2 = f + (i : Int) by rw [a1];omega,List.erase_cons_head]
    rw [if_pos ⟨e1,e2,e3⟩,e4,show List.range i ++ [i] = List.range (i + 1) from List.range_succ.symm];refine Hg hl k (i + 1) 0 (Nat.zero_le _) hi ?_;have hmul : (A.length - i) * (A.length + 1) = (A.length - (i + 1)) * (A.length + 1) + (A.length + 1) := by
     rw [show A.length - i = (A.length - (i + 1)) + 1 by omega,Nat.add_mul,Nat.one_mul]
    omega
   ·have e1 : A[i].lit / 2 ∉ qh f j A.length := by rw [qZ,a1];omega
    rw [if_neg fun h => e1 h.1];exact Hg hl k j (i + 1) (by omega) h2 (by omega)
  ·rw [if_neg hi];have : j = A.length := by omega
   subst this;simp [qh]
theorem IZ {n k : Nat} (h : k < n) : (sV n).idxOf (k : Int) = k := by
 induction n with
 | zero => omega
 | succ n ih =>
  rw [qY];by_cases hk : k < n
  ·rw [List.idxOf_append,if_pos (by rw [kH];omega)];exact ih hk
  ·have : k = n := by omega
   subst this;rw [List.idxOf_append,if_neg (by rw [kH];omega),BH];simp
theorem uG {D : Cl} : ∀ {ls V : Cl} {k : Int},(yM D V k ls).length = V.length
 | [],V,k => rfl
 | l :: ls,V,k => by unfold yM;rw [uG,List.length_set]
theorem BI {N : Nat} : ∀ {ls V : Cl} {k : Nat},V.length = N → k + ls.length ≤ N → (∀ j (h : j < ls.length),ls[j] / 2 = ((k + j : Nat) : Int)) → ∀ v : Nat,(yM (sV N) V (k : Int) ls).getD v 0 = if k ≤ v ∧ v < k + ls.length then (v : Int) else V.getD v 0
 | [],V,k,hV,hk,hl,v => by unfold yM;rw [if_neg (by simp)]
 | l :: ls,V,k,hV,hk,hl,v => by
  unfold yM;have h0 : l / 2 = (k : Int) := by have := hl 0 (by simp);simpa using this
  rw [List.length_cons] at hk;rw [h0,IZ (by omega)];have := BI (N := N) (ls := ls) (V := V.set k k) (k := k + 1) (by simpa using hV) (by omega) (fun j hj => by
   have := hl (j + 1) (by simpa using hj);simp only [List.getElem_cons_succ] at this;rw [this];omega) v
  rw [show ((k : Int) + 1) = ((k + 1 : Nat) : Int) by omega,this,List.length_cons];by_cases hv : v = k
  ·subst hv;rw [if_neg (by omega),if_pos (by omega),List.getD_eq_getElem?_getD,List.getElem?_set_self (by omega)];rfl
  ·rw [List.getD_eq_getElem?_getD (l := V.set k k),List.getElem?_set_ne (Ne.symm hv),← List.getD_eq_getElem?_getD];by_cases hc : k + 1 ≤ v ∧ v < k + 1 + ls.length
   ·rw [if_pos hc,if_pos (by omega)]
   ·rw [if_neg hc,if_neg (by omega)]
theorem BJ {N : Nat} {V : Cl} (hV : ∀ v,v < N → V.getD v 0 = (v : Int)) {u : Us} (h0 : 0 ≤ u.1) (h1 : u.1 < 2 * N) : kE (sV N) V u = u.1 := by obtain ⟨k,hk⟩ : ∃ k : Nat,u.1 / 2 = k := ⟨(u.1 / 2).toNat,by omega⟩;unfold kE toI;rw [hk,IZ (by omega),hV k (by omega)];omega
theorem yN {D V : Cl} {l : List Us} {m : Cl} (h : l.map Prod.fst = m) (hh : ∀ u ∈ l,kE D V u = u.1) : l.map (kE D V) = m := by rw [← h];exact List.map_congr_left hh
theorem VL {s : S} {g : Gr} (hg : g.chk = 0) {r : S} {a : Nat} (h : s.drop a = Xw g.ins.toNat ++ (BD g g.next.length ++ (oZ g.outs g.outs.length ++ (BF g g.ands.length ++ r)))) : ∃ x,wL s (hd9 (cu g)) a = .ok x ∧ PA s g r g.ands.length x := by
 obtain ⟨_,i0,i1,i2,i3,i4,i5⟩ := bf hg;obtain ⟨r1,r2,r3,r4⟩ := dB i4;have wf : g.first = 1 + g.ins + g.next.length := rfl
 have wa : g.all = 2 * (g.first + g.ands.length) := rfl;have h0 : (hd9 (cu g)).getD 0 0 = g.first - 1 + (g.ands.length : Int) := rfl
 have h1 : (hd9 (cu g)).getD 1 0 = g.ins := rfl;have h2 : (hd9 (cu g)).getD 2 0 = (g.next.length : Int) := rfl;have h3 : (hd9 (cu g)).getD 3 0 = (g.outs.length : Int) := rfl;have h4 : (hd9 (cu g)).getD 4 0 = (g.ands.length : Int) := rfl;have h5 : (hd9 (cu g)).getD 5 0 = 0 := rfl;have h6 : (hd9 (cu g)).getD 6 0 = 0 := rfl;unfold wL;rw [h0,h1,h2,h3,h4,h5,h6];obtain ⟨mo,hmo⟩ : ∃ mo,mo = 2 * (g.first - 1 + (g.ands.length : Int)) + 1 := ⟨_,rfl⟩;rw [← hmo];obtain ⟨x1,e1,p1⟩ := wP (f := iI s mo) (n := g.ins.toNat) (P := PI' s g.ins.toNat _) (fun i x hi hp => Qq (by omega) (by omega) hi hp) g.ins.toNat 0 (.start a) (by omega) ⟨by rw [← jQ];exact h,rfl,rfl,rfl,rfl,rfl,rfl,rfl⟩;rw [e1];dsimp only;obtain ⟨q1,q2,q3,q4,q5,q6,q7,q8⟩ := p1;rw [jP,List.nil_append] at q1;obtain ⟨x2,e2,p2⟩ := wP (f := iJ s mo) (n := g.next.length) (P := PL s g _) (fun i x hi hp => VK i0 (by omega) (by omega) (fun a ha => by have := r3 a ha;omega) (by omega) (fun a ha => r2 a ha) hi hp) g.next.length 0 x1 (by omega) ⟨by rw [← jQ];exact q1,by rw [q2];congr 1;omega,q3,q4,by rw [q5];rfl,by rw [q6];rfl,q7,q8⟩
 rw [Int.toNat_natCast,e2];dsimp only;obtain ⟨q1,q2,q3,q4,q5,q6,q7,q8⟩ := p2;rw [jP,List.nil_append] at q1;rw [List.take_length] at q5;rw [List.take_of_length_le (by omega)] at q6;obtain ⟨x3,e3,p3⟩ := wP (f := eX s mo) (n := g.outs.length) (P := PO s g _) (fun i x hi hp => Qr (by omega) (fun a ha => by have := r4 a ha;omega) hi hp) g.outs.length 0 x2 (by omega) ⟨by rw [← jQ];exact q1,q2,q3,q4,q5,q6,by rw [q7];rfl,q8⟩;rw [show ((g.outs.length : Int) + 0 + 0).toNat = g.outs.length by omega,e3];dsimp only;obtain ⟨q1,q2,q3,q4,q5,q6,q7,q8⟩ := p3;rw [jP,List.nil_append] at q1;rw [List.take_length] at q7;obtain ⟨x4,e4,p4⟩ := wP (f := mY s mo) (n := g.ands.length) (P := PA s g r) (fun i x hi hp => YE i0 (by omega) (by omega) (fun k hk => by obtain ⟨o1,o2,o3,o4⟩ := dY i5 hk;omega) hi hp) g.ands.length 0 x3 (by omega) ⟨by rw [← jQ];exact q1,by rw [q2];rfl,q3,q4,q5,q6,q7,by rw [q8];rfl⟩;rw [Int.toNat_natCast,e4];exact ⟨x4,rfl,p4⟩
theorem zan {s : S} {g : Gr} {r : S} {x : Fi} (hp : PA s g r g.ands.length x) : x.ands.length = g.ands.length ∧ ∀ i (h : i < x.ands.length) (h' : i < g.ands.length),x.ands[i].lit = 2 * (g.first + (i : Int)) ∧ x.ands[i].p.1 = g.ands[i].1 ∧ x.ands[i].q.1 = g.ands[i].2 := by
 obtain ⟨h1,h2,h3,h4,h5,h6,h7,h8⟩ := hp;have hl : x.ands.length = g.ands.length := by have := congrArg List.length h8;simpa using this
 refine ⟨hl,fun i h h' => ?_⟩;have := congrArg (fun l => l[i]?) h8;simp only [List.getElem?_map,List.getElem?_eq_getElem h,List.getElem?_range h',Option.map_some,Option.some.injEq,Prod.mk.injEq,aG h'] at this;exact this
theorem VM {s : S} {g : Gr} (hg : g.chk = 0) {r : S} {x : Fi} (hp : PA s g r g.ands.length x) : (∀ u ∈ x.next,u.1 / 2 ∈ x.D) ∧ (∀ u ∈ x.outs,u.1 / 2 ∈ x.D) ∧ (∀ u ∈ x.uses,u.1 / 2 ∈ x.D) ∧ iq x.ands ((x.ands.length + 1) * (x.ands.length + 1)) 0 x.left [] = (List.range g.ands.length,[]) ∧ kF x (List.range g.ands.length) = g := by
 obtain ⟨_,i0,i1,i2,i3,i4,i5⟩ := bf hg;obtain ⟨r1,r2,r3,r4⟩ := dB i4;have wf : g.first = 1 + g.ins + g.next.length := rfl
 have wa : g.all = 2 * (g.first + g.ands.length) := rfl;obtain ⟨hl,hA⟩ := zan hp;obtain ⟨h1,h2,h3,h4,h5,h6,h7,h8⟩ := hp;obtain ⟨N,hN⟩ : ∃ N,N = 1 + g.ins.toNat + g.next.length + g.ands.length := ⟨_,rfl⟩
 rw [← hN] at h2;have bx : ∀ u ∈ x.next,0 ≤ u.1 ∧ u.1 < 2 * N := fun u hu => by
  have := r3 u.1 (by rw [← h5];exact List.mem_map_of_mem hu);omega
 have bo : ∀ u ∈ x.outs,0 ≤ u.1 ∧ u.1 < 2 * N := fun u hu => by have := r4 u.1 (by rw [← h7];exact List.mem_map_of_mem hu);omega
 have ba : ∀ i (h : i < x.ands.length),0 ≤ x.ands[i].p.1 ∧ x.ands[i].p.1 < 2 * N ∧ 0 ≤ x.ands[i].q.1 ∧ x.ands[i].q.1 < 2 * N := fun i h => by obtain ⟨a1,a2,a3⟩ := hA i h (by omega);obtain ⟨o1,o2,o3,o4⟩ := dY i5 (show i < g.ands.length by omega);omega
 have il : x.ins.length = g.ins.toNat := by rw [h3];simp
 have ll : x.lats.length = g.next.length := by rw [h4];simp
 have hV : ∀ v,v < N → (x.vals (List.range g.ands.length)).getD v 0 = (v : Int) := by
  intro v hv;have z1 : (yM (sV N) ((sV N).map fun _ => 0) ((1 : Nat) : Int) (x.ins ++ x.lats)).getD v 0 = if 1 ≤ v ∧ v < 1 + (x.ins ++ x.lats).length then (v : Int) else ((sV N).map fun _ => (0 : Int)).getD v 0 := by
   refine BI (by rw [List.length_map,BH]) (by rw [List.length_append];omega) (fun j hj => ?_) v;rw [List.length_append] at hj;by_cases hj' : j < x.ins.length
   ·rw [List.getElem_append_left hj'];simp only [h3,List.getElem_map,List.getElem_range];omega
   ·rw [List.getElem_append_right (by omega)];simp only [h4,List.getElem_map,List.getElem_range];omega
  have z2 : (yM (sV N) (yM (sV N) ((sV N).map fun _ => 0) ((1 : Nat) : Int) (x.ins ++ x.lats)) ((1 + x.ins.length + x.lats.length : Nat) : Int) ((List.range g.ands.length).map fun k => (x.ands.getD k .nil).lit)).getD v 0 = if 1 + x.ins.length + x.lats.length ≤ v ∧ v < 1 + x.ins.length + x.lats.length + ((List.range g.ands.length).map fun k => (x.ands.getD k .nil).lit).length then (v : Int) else (yM (sV N) ((sV N).map fun _ => 0) ((1 : Nat) : Int) (x.ins ++ x.lats)).getD v 0 := by refine BI (by rw [uG,List.length_map,BH]) (by rw [List.length_map,List.length_range];omega) (fun j hj => ?_) v;rw [List.length_map,List.length_range] at hj;rw [List.getElem_map,List.getElem_range,aG (by omega),(hA j (by omega) hj).1];omega
  unfold Fi.vals;rw [h2];rw [z1] at z2;rw [show (1 + (x.ins.length : Int) + x.lats.length) = ((1 + x.ins.length + x.lats.length : Nat) : Int) by omega];refine Eq.trans z2 ?_;simp only [List.length_map,List.length_range,List.length_append];split
  ·rfl
  ·split
   ·rfl
   ·have : v = 0 := by omega
    subst this;rw [List.getD_eq_getElem?_getD,List.getElem?_map];cases (sV N)[0]? <;> rfl
 refine ⟨fun u hu => ?_,fun u hu => ?_,fun u hu => ?_,?_,?_⟩
 ·have := bx u hu;rw [h2,kH];omega
 ·have := bo u hu;rw [h2,kH];omega
 ·unfold Fi.uses at hu;obtain ⟨y,hy,hu⟩ := List.mem_flatMap.1 hu;obtain ⟨i,hi,rfl⟩ := List.mem_iff_getElem.1 hy;have := ba i hi;rw [h2,kH];simp only [List.mem_cons,List.not_mem_nil,or_false] at hu;rcases hu with rfl | rfl <;> omega
 ·have hleft : x.left = qh g.first 0 x.ands.length := by unfold Fi.left qh;refine List.ext_getElem (by simp) fun i h1 h2 => ?_;rw [List.length_map] at h1;rw [List.getElem_map,List.getElem_map,(hA i h1 (by omega)).1];simp only [List.getElem_range'];omega
  rw [hleft];have := Hg (A := x.ands) (f := g.first) (fun i h => by
   obtain ⟨a1,a2,a3⟩ := hA i h (by omega);obtain ⟨o1,o2,o3,o4⟩ := dY i5 (show i < g.ands.length by omega);omega) ((x.ands.length + 1) * (x.ands.length + 1)) 0 0 (Nat.le_refl _) (Nat.zero_le _) (by
    rw [Nat.add_mul (x.ands.length) 1,Nat.one_mul,Nat.sub_zero,Nat.sub_zero];exact Nat.le_refl _)
  rw [List.range_zero] at this;rw [this,hl]
 ·unfold kF;have e1 : x.next.map (kE (sV N) (x.vals (List.range g.ands.length))) = g.next := yN h5 fun u hu => BJ hV (bx u hu).1 (bx u hu).2
  have e2 : x.outs.map (kE (sV N) (x.vals (List.range g.ands.length))) = g.outs := yN h7 fun u hu => BJ hV (bo u hu).1 (bo u hu).2;have e3 : ((List.range g.ands.length).map fun k => (kE (sV N) (x.vals (List.range g.ands.length)) (x.ands.getD k .nil).p,kE (sV N) (x.vals (List.range g.ands.length)) (x.ands.getD k .nil).q)) = g.ands := by
   refine List.ext_getElem (by simp) fun i h1 h2 => ?_;have hi : i < x.ands.length := by omega
   obtain ⟨a1,a2,a3⟩ := hA i hi h2;have b := ba i hi;rw [List.getElem_map,List.getElem_range,aG hi,BJ hV b.1 b.2.1,BJ hV b.2.2.1 b.2.2.2,a2,a3]
  rw [h2,e1,e2,e3,h6,il,Int.toNat_of_nonneg i0]
theorem wQ {s : S} (h : iP s = true) : s ≠ [] ∧ ∀ c ∈ s,(c != 10) = true := by
 unfold iP at h;simp only [Bool.and_eq_true,decide_eq_true_eq,List.all_eq_true] at h;refine ⟨fun e => by rw [e] at h;simp at h,fun c hc => ?_⟩;have := h.1 c hc;cases hx : c != 10 with
 | true => rfl
 | false =>
  have hx : c = 10 := by simpa using hx
  subst hx;exact absurd this (by decide)
theorem VN {s : S} {a : Nat} {c : UInt8} {k i : Nat} {x r : S} {L : List (List S)} (h : s.drop a = c :: (Lib.itoa (i : Int) ++ 32 :: (x ++ 10 :: r))) (hc : Nl c = some k) (hi : i < (L.getD k []).length) (hin : i ≤ 100000) (hx : iP x = true) (he : (L.getD k []).getD i [] = []) : ∃ b,sS s L a = .ok (L.set k ((L.getD k []).set i x),b) ∧ s.drop b = r ∧ a < b := by
 obtain ⟨a1,a2,a3,a4,a5⟩ := je h;obtain ⟨b,hb,hd,hbe⟩ := sU a2 (by omega) (by omega) Nq;obtain ⟨b1,b2,_⟩ := je hd;have htw : (s.drop (b + 1)).takeWhile (· != 10) = x := by rw [b2];exact Qo (wQ hx).2 (by decide)
 have hlen : b + 1 + x.length < s.length := by have := congrArg List.length b2;simp only [List.length_drop,List.length_append,List.length_cons] at this;omega
 refine ⟨b + 1 + x.length + 1,?_,?_,by omega⟩
 ·unfold sS;rw [a5,hc];dsimp only;rw [hb];dsimp only;unfold lC;rw [if_pos b1];dsimp only;rw [htw,if_pos hlen,if_pos (by omega),if_pos hx,Int.toNat_natCast,if_pos he]
 ·rw [Nat.add_assoc,← List.drop_drop,b2,show x ++ 10 :: r = (x ++ [10]) ++ r by simp,show x.length + 1 = (x ++ [10]).length by simp,List.drop_left]
theorem zao {s : S} {a : Nat} {c : UInt8} {r : S} (h : s.drop a = c :: r) (hc : c ≠ 99) : Qm s a = false := by
 unfold Qm;rw [h];have : (99 == c) = false := by simpa using fun e : (99 : UInt8) = c => hc e.symm
 have h2 : ((c :: r) == ([99] : S)) = false := by
  cases hh : ((c :: r) == ([99] : S)) with
  | false => rfl
  | true => have := eq_of_beq hh;simp only [List.cons.injEq] at this;exact absurd this.1 hc
 rw [h2,Bool.or_false];simp [List.isPrefixOf,this]
theorem BK {s : S} {c : UInt8} {k : Nat} (hc : Nl c = some k) (h99 : c ≠ 99) : ∀ (l pre : List S) (f a : Nat) (L : List (List S)) (r : S),k < L.length → L.getD k [] = pre ++ List.replicate l.length [] → pre.length + l.length ≤ 100000 → (∀ x ∈ l,iP x = true) → l.length ≤ f → s.drop a = nmT c pre.length l ++ r →
 ∃ b,rJ s f L a = rJ s (f - l.length) (L.set k (pre ++ l)) b ∧ s.drop b = r ∧ a + l.length ≤ b
 | [],pre,f,a,L,r,hk,hL,hn,ho,hf,h => by
  refine ⟨a,?_,h,Nat.le_refl _⟩;have : L.set k (pre ++ []) = L := by
   rw [List.append_nil];simp only [List.length_nil,List.replicate_zero,List.append_nil] at hL;rw [← hL,aG hk,List.set_getElem_self]
  rw [this,List.length_nil,Nat.sub_zero]
 | x :: l,pre,f,a,L,r,hk,hL,hn,ho,hf,h => by
  obtain ⟨f,rfl⟩ : ∃ j,f = j + 1 := ⟨f - 1,by simp at hf;omega⟩;rw [List.length_cons] at hn hf hL;have h' : s.drop a = c :: (Lib.itoa (pre.length : Int) ++ 32 :: (x ++ 10 :: (nmT c (pre.length + 1) l ++ r))) := by rw [h];simp [nmT]
  have hll : (L.getD k []).length = pre.length + (l.length + 1) := by rw [hL];simp
  obtain ⟨b,hb,hd,hab⟩ := VN (L := L) (k := k) (i := pre.length) (x := x) h' hc (by omega) (by omega) (ho x (by simp)) (by
   rw [hL,List.getD_eq_getElem?_getD,List.getElem?_append_right (Nat.le_refl _),Nat.sub_self,List.replicate_succ];rfl)
  have hset : (L.getD k []).set pre.length x = (pre ++ [x]) ++ List.replicate l.length [] := by rw [hL,List.set_append_right _ _ (Nat.le_refl _),Nat.sub_self,List.replicate_succ,List.set_cons_zero,List.append_assoc];rfl
  rw [hset] at hb;have hk2 : k < (L.set k ((pre ++ [x]) ++ List.replicate l.length [])).length := by simpa using hk
  obtain ⟨b2,e2,e3,e4⟩ := BK hc h99 l (pre ++ [x]) f b (L.set k ((pre ++ [x]) ++ List.replicate l.length [])) r hk2 (by
   rw [aG hk2,List.getElem_set_self]) (by simp;omega) (fun y hy => ho y (by simp [hy])) (by omega) (by rw [hd];simp)
  refine ⟨b2,?_,e3,by rw [List.length_cons];omega⟩;have a3 := (je h').2.2.1;rw [show rJ s (f + 1) L a = rJ s f (L.set k ((pre ++ [x]) ++ List.replicate l.length [])) b by
   show (if a < s.length ∧ Qm s a = false then _ else _) = _;rw [if_pos ⟨a3,zao h' h99⟩,hb],e2,List.set_set,List.length_cons]
  congr 1
  ·omega
  ·congr 1;simp
theorem zap : Nl 105 = some 0 := by decide +kernel
theorem zaq : Nl 108 = some 1 := by decide +kernel
theorem zar : Nl 111 = some 2 := by decide +kernel
theorem uH {c : UInt8} : ∀ {l : List S} {i : Nat},(∀ x ∈ l,iP x = true) → jq c i l = l
 | [],i,_ => rfl
 | x :: l,i,h => by unfold jq;rw [if_neg (wQ (h x (by simp))).1,uH fun y hy => h y (by simp [hy])]
theorem BL {c : UInt8} : ∀ {l : List S} {i : Nat},l.length ≤ (nmT c i l).length
 | [],i => Nat.le_refl _
 | x :: l,i => by have := BL (c := c) (l := l) (i := i + 1);simp only [nmT,List.length_cons,List.length_append];omega
def za3 (r : S) : Prop := r = [] ∨ ∃ t,r = 99 :: 10 :: t
theorem YF {s : S} {f a : Nat} {L : List (List S)} {r : S} (h : s.drop a = r) (hr : za3 r) : rJ s f L a = .ok L := by
 cases f with
 | zero => rfl
 | succ f =>
  unfold rJ;rw [if_neg];rintro ⟨h1,h2⟩;rcases hr with rfl | ⟨t,rfl⟩
  ·rw [List.drop_eq_nil_iff] at h;omega
  ·unfold Qm at h2;rw [h] at h2;simp [List.isPrefixOf] at h2
theorem I4 {s : S} {m : Mo} {n3 n4 : Nat} {a : Nat} {r : S} (hn : ∀ x,x ∈ m.ins ∨ x ∈ m.lat ∨ x ∈ m.out → iP x = true) (li : m.ins.length ≤ 4000) (ll : m.lat.length ≤ 4000) (lo : m.out.length ≤ 4000) (h : s.drop a = mr m ++ r) (hr : za3 r) :
 wK s [(m.ins.length : Int),(m.lat.length : Int),(m.out.length : Int),0,0] a = .ok [m.ins,m.lat,m.out,[],[]] := by
 have hm : uq [(m.ins.length : Int),(m.lat.length : Int),(m.out.length : Int),0,0] = [List.replicate m.ins.length [],List.replicate m.lat.length [],List.replicate m.out.length [],[],[]] := by
  unfold uq;have e : ∀ n : Nat,n ≤ 4000 → (min (max (n : Int) 0) 4000).toNat = n := fun n hn => by omega
  simp only [List.map_cons,List.map_nil,e _ li,e _ ll,e _ lo];rfl
 unfold wK;rw [hm];have hlen := congrArg List.length h;have q1 := BL (c := 105) (l := m.ins) (i := 0);have q2 := BL (c := 108) (l := m.lat) (i := 0);have q3 := BL (c := 111) (l := m.out) (i := 0);simp only [List.length_drop,mr,List.length_append] at hlen;obtain ⟨b1,e1,d1,_⟩ := BK (s := s) zap (by decide) m.ins [] (s.length + 1) a [List.replicate m.ins.length [],List.replicate m.lat.length [],List.replicate m.out.length [],[],[]] (nmT 108 0 m.lat ++ (nmT 111 0 m.out ++ r)) (by simp) rfl (by simp;omega) (fun x hx => hn x (.inl hx)) (by omega) (by rw [h];simp [mr]);obtain ⟨b2,e2,d2,_⟩ := BK (s := s) zaq (by decide) m.lat [] (s.length + 1 - m.ins.length) b1 [m.ins,List.replicate m.lat.length [],List.replicate m.out.length [],[],[]] (nmT 111 0 m.out ++ r) (by simp) rfl (by simp;omega) (fun x hx => hn x (.inr (.inl hx))) (by omega) d1;obtain ⟨b3,e3,d3,_⟩ := BK (s := s) zar (by decide) m.out [] (s.length + 1 - m.ins.length - m.lat.length) b2 [m.ins,m.lat,List.replicate m.out.length [],[],[]] r (by simp) rfl (by simp;omega) (fun x hx => hn x (.inr (.inr hx))) (by omega) d2;have e1' : rJ s (s.length + 1) [List.replicate m.ins.length [],List.replicate m.lat.length [],List.replicate m.out.length [],[],[]] a = rJ s (s.length + 1 - m.ins.length) [m.ins,List.replicate m.lat.length [],List.replicate m.out.length [],[],[]] b1 := e1;have e2' : rJ s (s.length + 1 - m.ins.length) [m.ins,List.replicate m.lat.length [],List.replicate m.out.length [],[],[]] b1 = rJ s (s.length + 1 - m.ins.length - m.lat.length) [m.ins,m.lat,List.replicate m.out.length [],[],[]] b2 := e2;have e3' : rJ s (s.length + 1 - m.ins.length - m.lat.length) [m.ins,m.lat,List.replicate m.out.length [],[],[]] b2 = rJ s (s.length + 1 - m.ins.length - m.lat.length - m.out.length) [m.ins,m.lat,m.out,[],[]] b3 := e3;rw [e1',e2',e3',YF d3 hr];dsimp only;have f1 := uH (c := 105) (l := m.ins) (i := 0) fun x hx => hn x (.inl hx);have f2 := uH (c := 108) (l := m.lat) (i := 0) fun x hx => hn x (.inr (.inl hx));have f3 := uH (c := 111) (l := m.out) (i := 0) fun x hx => hn x (.inr (.inr hx));show Except.ok [jq 105 0 m.ins,jq 108 0 m.lat,jq 111 0 m.out,[],[]] = _;rw [f1,f2,f3]
def YG (g : Gr) : RE (List (List S)) → RE Mo
 | .error e => .error e
 | .ok N => if Mo.chk ⟨g,N.getD 0 [],N.getD 1 [],N.getD 2 [] ++ (N.getD 3 [] ++ N.getD 4 [])⟩ = 0 then .ok ⟨g,N.getD 0 [],N.getD 1 [],N.getD 2 [] ++ (N.getD 3 [] ++ N.getD 4 [])⟩ else .error (0,Mo.chk ⟨g,N.getD 0 [],N.getD 1 [],N.getD 2 [] ++ (N.getD 3 [] ++ N.getD 4 [])⟩)
theorem Ns {s : S} {g : Gr} (hg : g.chk = 0) {r : S} (h : s = Ei g ++ r) : ∃ a,s.drop a = r ∧ jO s = YG g (wK s [g.ins,(g.next.length : Int),(g.outs.length : Int),0,0] a) := by
 obtain ⟨_,i0,i1,i2,i3,i4,i5⟩ := bf hg;have wf : g.first = 1 + g.ins + g.next.length := rfl
 obtain ⟨b,hb,hd⟩ := IY (s := s) (magic := [97,97,103]) (l := cu g) (r := Xw g.ins.toNat ++ (BD g g.next.length ++ (oZ g.outs g.outs.length ++ (BF g g.ands.length ++ r)))) (by
  rw [h,← zam (cu g) (by simp [cu])];simp [Ei]) (fun n hn => by
  simp only [cu,List.mem_cons,List.not_mem_nil,or_false] at hn;omega) (by simp [cu]) (by simp [cu]) (by
  have h0 : (hd9 (cu g)).getD 0 0 = g.first - 1 + (g.ands.length : Int) := rfl
  have h1 : (hd9 (cu g)).getD 1 0 = g.ins := rfl;have h2 : (hd9 (cu g)).getD 2 0 = (g.next.length : Int) := rfl;have h3 : (hd9 (cu g)).getD 3 0 = (g.outs.length : Int) := rfl;have h4 : (hd9 (cu g)).getD 4 0 = (g.ands.length : Int) := rfl;have h5 : (hd9 (cu g)).getD 5 0 = 0 := rfl;have h6 : (hd9 (cu g)).getD 6 0 = 0 := rfl;unfold wJ;rw [h0,h1,h2,h3,h4,h5,h6];simp only [Bool.and_eq_true,decide_eq_true_eq];omega)
 obtain ⟨x,hx,hp⟩ := VL hg hd;obtain ⟨k1,k2,k3,k4,k5⟩ := VM hg hp;have hxa : s.drop x.a = r := by have := hp.1;rwa [jP,List.nil_append] at this
 refine ⟨x.a,hxa,?_⟩;unfold jO;rw [hb];dsimp only;rw [hx];dsimp only;show (match wK s [g.ins,(g.next.length : Int),(g.outs.length : Int),0,0] x.a with
  | .error e => (.error e : RE Mo)
  | .ok N => wO x N) = _
 unfold YG;cases wK s [g.ins,(g.next.length : Int),(g.outs.length : Int),0,0] x.a with
 | error e => rfl
 | ok N =>
 dsimp only;unfold wO;rw [mF k1];dsimp only;rw [mF k2];dsimp only;rw [mF k3];dsimp only;rw [k4];dsimp only;rw [show x.ands.find? (fun a => decide (a.lit / 2 ∈ ([] : Cl))) = none by simp,k5]
theorem jd {m : Mo} (h : m.chk = 0) : ∀ x,x ∈ m.ins ∨ x ∈ m.lat ∨ x ∈ m.out → iP x = true := by
 have hn := (dP h).2.2.1;unfold Mo.names at hn;simp only [Bool.or_eq_false_iff,List.any_eq_false,o8,Bool.not_eq_true',Bool.not_eq_true,Bool.not_eq_false',Bool.not_eq_false] at hn;rintro x (hx | hx | hx)
 ·exact hn.1.1 x hx
 ·exact hn.1.2 x hx
 ·exact hn.2 x hx
theorem Nu {m : Mo} (h : m.chk = 0) {r : S} (hr : za3 r) : jO (qW m ++ r) = .ok m := by
 obtain ⟨hg,hl,hn,ht,ho⟩ := dP h;obtain ⟨_,i0,i1,i2,i3,i4,i5⟩ := bf hg;have hls : (m.ins.length : Int) = m.g.ins ∧ (m.lat.length : Int) = m.g.next.length ∧ (m.out.length : Int) = m.g.outs.length := by simpa [Mo.lens,Bool.or_eq_false_iff,and_assoc] using hl
 obtain ⟨l1,l2,l3⟩ := hls;obtain ⟨a,ha,he⟩ := Ns (s := qW m ++ r) hg (r := mr m ++ r) (by simp [qW]);rw [he];unfold YG;rw [← l1,← l2,← l3,I4 (m := m) (n3 := 0) (n4 := 0) (jd h) (by omega) (by omega) (by omega) ha hr];dsimp only;show (if Mo.chk ⟨m.g,m.ins,m.lat,m.out ++ ([] ++ [])⟩ = 0 then Except.ok (⟨m.g,m.ins,m.lat,m.out ++ ([] ++ [])⟩ : Mo) else _) = _;rw [List.append_nil,List.append_nil];show (if m.chk = 0 then Except.ok m else _) = _;rw [if_pos h]
abbrev rdT (s : S) (a : Nat) (T : List V) : O := .cells (.str s :: vi a :: T)
abbrev gV (a e : Int) : V := .iface 153 (.agg [vi a,vi e])
theorem aO {h : H} {R : AEnd → H → (Nat → Bool) → Prop} (b : Bool) (a e : Int)
 (h1 : b = true → R (.ret (.tup [])) h (fun _ => false)) (h2 : b = false → R (.pan (gV a e)) h (fun _ => false)) : ah TE 60 [.bool b,vi a,vi e] h R := by
 refine au Tryz.func60 rfl (by simp [nts]) (vm ?_);cases b with
 | true => simp only [wq.1,seval,Tryz.results60];exact h1 rfl
 | false => simp only [wq.1,seval,Tryz.results60];exact ⟨nofun,h2 rfl⟩
theorem wR {k a : Nat} {s : S} {T : List V} {h : H} {R : AEnd → H → (Nat → Bool) → Prop} (c : UInt8) (hk : h[k]? = some (rdT s a T))
 (hr : R (.ret (.bool (o9 s a c))) h (fun _ => false)) : ah TE 100 [.lp k 0,vb c] h R := by
 refine au Tryz.func100 rfl (by simp [nts]) (vm ?_);unfold o9 at hr;by_cases hlt : a < s.length
 ·have e1 : decide ((a : Int) < (s.length : Int)) = true := by simpa using hlt
  have e2 : s.getD a 0 = s[a] := aG hlt;rw [List.getElem?_eq_getElem hlt] at hr;simp only [wq.1,seval,Tryz.results100,hk,e1,e2,Z9];refine ⟨by decide +kernel,⟨by omega,by omega⟩,hr⟩
 ·have e1 : decide ((a : Int) < (s.length : Int)) = false := by simpa using hlt
  rw [List.getElem?_eq_none (by omega)] at hr;simp only [wq.1,seval,Tryz.results100,hk,e1];exact ⟨by decide +kernel,hr⟩
theorem iK {k a : Nat} {s : S} {T : List V} {h : H} {R : AEnd → H → (Nat → Bool) → Prop} (hs : s.length ≤ 100000) (hk : h[k]? = some (rdT s a T))
 (h1 : ∀ n b,sQ s a = .ok (n,b) → R (.ret (vi n)) (h.set k (rdT s b T)) (fun _ => false)) (h2 : sQ s a = .error (a,3) → R (.pan (gV a 3)) h (fun _ => false)) : ah TE 101 [.lp k 0] h R := by
 have hG := Xk s a hs;have hend : 0 ≤ (xX s a).2.1 := by
  unfold xX;split
  ·exact Int.natCast_nonneg _
  ·split
   ·show 0 ≤ (a : Int) + _;omega
   ·exact Int.natCast_nonneg _
 obtain ⟨r,hr⟩ : ∃ r,r = xX s a := ⟨_,rfl⟩;unfold sQ at h1 h2;rw [← hr] at hG h1 h2 hend;obtain ⟨b,hb⟩ : ∃ b : Nat,r.2.1 = b := ⟨r.2.1.toNat,by omega⟩;refine au Tryz.func101 rfl (by simp [nts]) (vm ?_);simp only [wq.1,seval,Tryz.results101,hk];refine ⟨by decide +kernel,yw.mk hG rfl rfl ?_⟩;simp only [wq.1,seval,hk,hb];by_cases he : r.2.2 = 0
 ·rw [if_pos he] at h1;have hd : (r.2.2 == 0) = true := by simpa using he
  simp only [wq.1,hd];refine aO true a 3 (fun _ => ?_) (fun h => by cases h);have := h1 _ _ rfl;rw [hb,Int.toNat_natCast] at this;simp only [wq.1,seval,hk];exact this
 ·rw [if_neg he] at h2;have hd : (r.2.2 == 0) = false := by simpa using he
  simp only [wq.1,hd];refine aO false a 3 (fun h => by cases h) (fun _ => ?_);simp only [wq.1,aX];exact h2 rfl
def Xx : Plan := .take 0 <| .take 1 <| .take 3 <| .take 4 <| .take 5 <| .alt 2 (.one 6 <| .one 7 <| .fin) (.one 6 (.one 2 <| .one 7 <| .fin))
theorem wS {k a : Nat} {s : S} {T : List V} {h : H} {R : AEnd → H → (Nat → Bool) → Prop} (c : UInt8) (ha : s.length ≤ 1000000000) (hk : h[k]? = some (rdT s a T))
 (h1 : o9 s a c = true → R (.ret (.tup [])) (h.set k (rdT s (a + 1) T)) (fun _ => false)) (h2 : o9 s a c = false → R (.pan (gV a 2)) h (fun _ => false)) : ah TE 143 [.lp k 0,vb c] h R := by
 have hM : maxLen = 9223372036854775807 := rfl;refine au Tryz.func143 rfl (by simp [nts]) ?_;refine ag (bY mixed Xx (fun f' h' => o9 s a c = true ∧ f'.t 0 = .lp k 0 ∧ f'.d = [] ∧ (∀ j,f'.k j = false) ∧ h' = h) [] (fun v d kk t h' => d = [] ∧ (∀ j,kk j = false) ∧ o9 s a c = false ∧ v = gV a 2 ∧ h' = h) (by decide +kernel) (by decide +kernel) ?_ ?_ ?_)
 ·simp only [wq.1,seval,Xx,hk]
  repeat' apply And.intro
  all_goals
   refine wR c hk ?_;simp only [wq.1,seval,hk];refine aO _ _ 2 (fun hb => ?_) (fun hb => ?_)
   ·simp only [wq.1,seval,dw];exact hb
   ·simp only [wq.1,aX,gI];exact hb
 ·rintro f h' ⟨hb,h0,hd,hkf,rfl⟩;have hl := sG hb;have hw := ax (show a < maxLen by omega);refine vm ?_;simp only [wq.1,seval,Tryz.results143,h0,hd,hk,hw];rw [show f.k = fun _ => false from funext hkf];exact h1 hb
 ·rintro v f h' ⟨hd,hkf,hb,rfl,rfl⟩;simp only [XE.seq,bz];simp only [wq.1,hd];rw [show f.k = fun _ => false from funext hkf];exact h2 hb
theorem lG {k a : Nat} {s : S} {T : List V} {h : H} {R : AEnd → H → (Nat → Bool) → Prop} (ha : s.length ≤ 1000000000) (hk : h[k]? = some (rdT s a T))
 (h1 : o9 s a 10 = true → R (.ret (.tup [])) (h.set k (rdT s (a + 1) T)) (fun _ => false)) (h2 : o9 s a 10 = false → R (.pan (gV a 2)) h (fun _ => false)) : ah TE 102 [.lp k 0] h R := by
 refine au Tryz.func102 rfl (by simp [nts]) (vm ?_);simp only [wq.1,seval,Tryz.results102];refine wS 10 ha hk (fun hb => ?_) (fun hb => ?_)
 ·simp only [wq.1];exact h1 hb
 ·simp only [wq.1,aX];exact h2 hb
theorem kJ {k a : Nat} {s : S} {T : List V} {h : H} {R : AEnd → H → (Nat → Bool) → Prop} (ha : s.length ≤ 1000000000) (hk : h[k]? = some (rdT s a T))
 (h1 : o9 s a 32 = true → R (.ret (.tup [])) (h.set k (rdT s (a + 1) T)) (fun _ => false)) (h2 : o9 s a 32 = false → R (.pan (gV a 2)) h (fun _ => false)) : ah TE 104 [.lp k 0] h R := by
 refine au Tryz.func104 rfl (by simp [nts]) (vm ?_);simp only [wq.1,seval,Tryz.results104];refine wS 32 ha hk (fun hb => ?_) (fun hb => ?_)
 ·simp only [wq.1];exact h1 hb
 ·simp only [wq.1,aX];exact h2 hb
theorem ug (a : Int) : ∀ (ks : Cl),iQ (.int .i64) (vi a) (ks.map vi) = some (ks.findIdx? (· == a))
 | [] => rfl
 | k :: ks => by
  simp only [List.map_cons,iQ,keq,List.findIdx?_cons];by_cases h : k = a
  ·subst h;simp
  ·have h1 : (a == k) = false := by simpa using fun h' => h h'.symm
   have h2 : (k == a) = false := by simpa using h
   have h3 : (if True then some (a == k) else none) = some false := by rw [if_pos trivial,h1]
   simp only [h3,ug a ks,h2];cases ks.findIdx? (· == a) <;> rfl
theorem zas {a : Int} (h0 : 0 ≤ a) (h1 : a ≤ 1000000000000) : IntKind.i64.wrap ((BitVec.ofInt IntKind.i64.bits a &&& BitVec.ofInt IntKind.i64.bits 1).toNat : Int) = a % 2 := by
 obtain ⟨n,rfl⟩ : ∃ n : Nat,a = n := ⟨a.toNat,by omega⟩;have e1 : (BitVec.ofInt IntKind.i64.bits (n : Int) &&& BitVec.ofInt IntKind.i64.bits 1).toNat = n % 2 := by
  show (BitVec.ofInt 64 (n : Int) &&& BitVec.ofInt 64 1).toNat = n % 2;rw [BitVec.toNat_and];have : (BitVec.ofInt 64 (n : Int)).toNat = n := by simp;omega
  rw [this];show n &&& 1 = n % 2;exact Nat.and_one_is_mod n
 rw [e1,aZ (by omega) (by omega)];omega
abbrev usV (l : List Us) : List V := l.flatMap fun u => [vi u.1,vi u.2]
abbrev anV (l : List An) : List V := l.flatMap fun a => [vi a.lit,vi a.pos,vi a.p.1,vi a.p.2,vi a.q.1,vi a.q.2]
abbrev fiT (x : Fi) (mo : Int) : List V := [vi mo,.lm 2,.ls 4 1 0 x.ins.length x.ins.length,.ls 5 1 0 x.lats.length x.lats.length,.ls 6 2 0 x.next.length x.next.length,.ls 7 1 0 x.init.length x.init.length,.ls 8 2 0 x.outs.length x.outs.length,.ls 9 6 0 x.ands.length x.ands.length]
abbrev hF (b0 b1 : O) (s : S) (mo : Int) (x : Fi) (W : Cl) (Y : H) : H :=
 b0 :: b1 :: .map (x.D.map vi) (W.map vi) :: rdT s x.a (fiT x mo) :: .cells (x.ins.map vi) :: .cells (x.lats.map vi) :: .cells (usV x.next) :: .cells (x.init.map vi) :: .cells (usV x.outs) :: .cells (anV x.ands) :: Y
def aQ (x : Fi) : Cl := x.D.map fun _ => 0
theorem qi {s : S} {a b : Nat} {n : Int} (h : sQ s a = .ok (n,b)) : 0 ≤ n ∧ n ≤ 2147483647 := by
 unfold sQ at h;split at h
 ·rename_i h1;simp only [Except.ok.injEq,Prod.mk.injEq] at h;rw [← h.1]
  revert h1
  unfold xX;split
  ·intro h1;cases h1
  ·split
   ·rename_i h2;intro _;have := h2.2.1;show 0 ≤ ((ng 0 ((s.drop (a : Int).toNat).takeWhile bU) : Nat) : Int) ∧ ((ng 0 ((s.drop (a : Int).toNat).takeWhile bU) : Nat) : Int) ≤ 2147483647;omega
   ·intro h1;cases h1
 ·cases h
theorem wU {D : Cl} {a : Int} : (D.findIdx? (· == a)).isSome = decide (a ∈ D) := by rw [Bool.eq_iff_iff,List.findIdx?_isSome];simp
theorem kK {b0 b1 : O} {s : S} {mo : Int} {x : Fi} {Y : H} (hs : s.length ≤ 100000) {R : AEnd → H → (Nat → Bool) → Prop}
 (h1 : ∀ n y,IW s mo x = .ok (n,y) → R (.ret (vi n)) (hF b0 b1 s mo y (aQ y) Y) (fun _ => false))
 (h2 : ∀ (w : Nat) (e : Int) (y : Fi),IW s mo x = .error (w,e) → R (.pan (gV w e)) (hF b0 b1 s mo y (aQ y) Y) (fun _ => false)) :
 ah TE 103 [.lp 3 0] (hF b0 b1 s mo x (aQ x) Y) R := by
 have hM : maxLen = 9223372036854775807 := rfl;unfold IW at h1 h2;refine au Tryz.func103 rfl (by simp [nts]) ?_;refine ag (vm ?_);simp only [wq.1,Nat.reduceLT,Tryz.results103];refine ag (vm ?_);simp only [wq.1,seval];refine ag (vm ?_);simp only [wq.1,seval];refine iK (k := 3) (a := x.a) (s := s) (T := fiT x mo) hs rfl (fun n b hn => ?_) (fun hn => ?_)
 ·rw [hn] at h1 h2;dsimp only at h1 h2;obtain ⟨n0,n1⟩ := qi hn;have ha := zas n0 (show n ≤ 1000000000000 by omega);simp only [wq.1,seval];have hsh := NY n;have hfi := ug (n / 2) x.D;refine ag (vm ?_);simp only [wq.1,seval,ha];refine aO _ _ 1 (fun hb => ?_) (fun hb => ?_)
  ·have hb' : n % 2 = 0 ∧ 2 ≤ n ∧ n ≤ mo := by simp only [Bool.and_eq_true,beq_iff_eq,decide_eq_true_eq] at hb;omega
   rw [if_pos hb'] at h1 h2;simp only [wq.1];cases hfx : x.D.findIdx? (· == n / 2) with
   | some i =>
    have hin : n / 2 ∈ x.D := by have := wU (D := x.D) (a := n / 2);rw [hfx] at this;simpa using this.symm
    rw [hfx] at hfi;rw [if_pos hin] at h2;refine ag (vm ?_);simp only [wq.1,seval,xJ,hfi,K.keyOk,hsh];refine ag (vm ?_);simp only [wq.1,seval];refine aO false _ 5 (fun h => by cases h) (fun _ => ?_);simp only [wq.1,aX];simp only [XE.seq,bz];simp only [wq.1];exact h2 _ _ { x with a := b } rfl
   | none =>
    have hin : n / 2 ∉ x.D := by have := wU (D := x.D) (a := n / 2);rw [hfx] at this;simpa using this.symm
    rw [hfx] at hfi;rw [if_neg hin] at h1;refine ag (vm ?_);simp only [wq.1,seval,xJ,hfi,K.keyOk,hsh];refine ag (vm ?_);simp only [wq.1,seval];refine aO true _ 5 (fun _ => ?_) (fun h => by cases h);simp only [wq.1];refine ag (vm ?_);simp only [wq.1,seval,NW,hfi,K.keyOk,hsh];refine vm ?_;simp only [wq.1,seval];have hz : aQ { x with a := b,D := x.D ++ [n / 2] } = aQ x ++ [0] := by simp [aQ]
    have := h1 _ _ rfl;rw [hz] at this;simp only [hF,List.map_append,List.map_cons,List.map_nil] at this;exact this
  ·have hb' : ¬ (n % 2 = 0 ∧ 2 ≤ n ∧ n ≤ mo) := by rintro ⟨c1,c2,c3⟩;simp [c1,c2,c3] at hb
   rw [if_neg hb'] at h2;simp only [wq.1,aX];simp only [XE.seq,bz];simp only [wq.1];exact h2 _ _ { x with a := b } rfl
 ·rw [hn] at h1 h2;dsimp only at h1 h2;simp only [wq.1,aX];simp only [XE.seq,bz];simp only [wq.1];exact h2 _ _ x rfl
theorem lH {b0 b1 : O} {s : S} {mo : Int} {x : Fi} {W : Cl} {Y : H} (hs : s.length ≤ 100000) {R : AEnd → H → (Nat → Bool) → Prop}
 (h1 : ∀ u y,Cm s mo x = .ok (u,y) → ∀ X,R (.ret (.agg [vi u.1,vi u.2])) (hF b0 b1 s mo y W (Y ++ X)) (fun _ => false))
 (h2 : ∀ (w : Nat) (e : Int) (y : Fi),Cm s mo x = .error (w,e) → ∀ X,R (.pan (gV w e)) (hF b0 b1 s mo y W (Y ++ X)) (fun _ => false)) :
 ah TE 105 [.lp 3 0] (hF b0 b1 s mo x W Y) R := by
 have hM : maxLen = 9223372036854775807 := rfl;unfold Cm at h1 h2;refine au Tryz.func105 rfl (by simp [nts]) ?_;refine ag (vm ?_);simp only [wq.1,Nat.reduceLT,Tryz.results105];refine ag (vm ?_);simp only [wq.1,seval];refine ag (vm ?_);simp only [wq.1,seval];refine iK (k := 3) (a := x.a) (s := s) (T := fiT x mo) hs rfl (fun n b hn => ?_) (fun hn => ?_)
 ·rw [hn] at h1 h2;dsimp only at h1 h2;simp only [wq.1,seval];refine ag (vm ?_);simp only [wq.1,seval];refine aO _ _ 1 (fun hb => ?_) (fun hb => ?_)
  ·have hb' : n ≤ mo := by simpa using hb
   rw [if_pos hb'] at h1;simp only [wq.1];refine vm ?_;simp only [wq.1,seval,gE0,gS0];exact h1 _ _ rfl _
  ·have hb' : ¬ n ≤ mo := by simpa using hb
   rw [if_neg hb'] at h2;simp only [wq.1,aX];simp only [XE.seq,bz];simp only [wq.1];exact h2 _ _ { x with a := b } rfl _
 ·rw [hn] at h1 h2;dsimp only at h1 h2;simp only [wq.1,aX];simp only [XE.seq,bz];simp only [wq.1];exact h2 _ _ x rfl _
structure Qt (b0 b1 : O) (Y : H) : Prop where
 q0 : ∀ j,4 ≤ j → j ≤ 9 → b0.drop (fun x => x == j) = b0
 q1 : ∀ j,4 ≤ j → j ≤ 9 → b1.drop (fun x => x == j) = b1
 q2 : ∀ j,4 ≤ j → j ≤ 9 → Y.map (O.drop (fun x => x == j)) = Y
def mZ : Nat → Bool := fun j => decide (4 ≤ j) && decide (j ≤ 9)
theorem sW {s : S} {mo : Int} {x y : Fi} {n : Int} (h : IW s mo x = .ok (n,y)) : (∃ b,y = { x with a := b,D := x.D ++ [n / 2] }) ∧ 0 ≤ n ∧ n ≤ 2147483647 ∧ n % 2 = 0 ∧ 2 ≤ n ∧ n ≤ mo ∧ n / 2 ∉ x.D := by
 unfold IW at h;cases hn : sQ s x.a with
 | error e => rw [hn] at h;cases h
 | ok v =>
  obtain ⟨m,b⟩ := v;rw [hn] at h;dsimp only at h;have := qi hn;split at h
  ·rename_i hc;split at h
   ·cases h
   ·rename_i hd;simp only [Except.ok.injEq,Prod.mk.injEq] at h;obtain ⟨rfl,rfl⟩ := h;exact ⟨⟨b,rfl⟩,this.1,this.2,hc.1,hc.2.1,hc.2.2,hd⟩
  ·cases h
theorem mG {s : S} {mo : Int} {x y : Fi} {u : Us} (h : Cm s mo x = .ok (u,y)) : (∃ b,y = { x with a := b }) ∧ 0 ≤ u.1 ∧ u.1 ≤ 2147483647 ∧ u.1 ≤ mo ∧ u.2 = x.a := by
 unfold Cm at h;cases hn : sQ s x.a with
 | error e => rw [hn] at h;cases h
 | ok v =>
  obtain ⟨m,b⟩ := v;rw [hn] at h;dsimp only at h;have := qi hn;split at h
  ·rename_i hc;simp only [Except.ok.injEq,Prod.mk.injEq] at h;obtain ⟨rfl,rfl⟩ := h;exact ⟨⟨b,rfl⟩,this.1,this.2,hc,rfl⟩
  ·cases h
theorem jr {p : Nat → Bool} : ∀ {l : List Us},V.drops p (usV l) = usV l
 | [] => rfl
 | u :: l => by show V.drop p (vi u.1) :: V.drop p (vi u.2) :: V.drops p (usV l) = _;rw [jr];rfl
theorem kL {p : Nat → Bool} : ∀ {l : List An},V.drops p (anV l) = anV l
 | [] => rfl
 | a :: l => by show V.drop p (vi a.lit) :: V.drop p (vi a.pos) :: V.drop p (vi a.p.1) :: V.drop p (vi a.p.2) :: V.drop p (vi a.q.1) :: V.drop p (vi a.q.2) :: V.drops p (anV l) = _;rw [kL];rfl
theorem yO : ∀ l : List Us,(usV l).length = l.length * 2
 | [] => rfl
 | a :: l => by show (usV l).length + 1 + 1 = _;rw [yO l,List.length_cons];omega
theorem yP : ∀ l : List An,(anV l).length = l.length * 6
 | [] => rfl
 | a :: l => by show (anV l).length + 1 + 1 + 1 + 1 + 1 + 1 = _;rw [yP l,List.length_cons];omega
def mW : Plan := .take 0 <| .take 1 <| .take 2 <| .take 3 <| .take 5 <| .alt 4 (.one 6 <| .one 7 <| .one 8 <| .take 9 <| .take 10 <| .one 11 <| .fin) (.one 6 (.alt 4 (.one 7 <| .one 8 <| .take 9 <| .take 10 <| .one 11 <| .fin) (.one 7 (.one 4 <| .one 8 <| .take 9 <| .take 10 <| .one 11 <| .fin))))
theorem Hl {b0 b1 : O} {s : S} {mo : Int} {x : Fi} {Y : H} (hq : Qt b0 b1 Y) (hs : s.length ≤ 100000) (hl : x.ins.length ≤ 4000) {R : AEnd → H → (Nat → Bool) → Prop}
 (h1 : ∀ y,iI s mo x = .ok y → R (.ret (.tup [])) (hF b0 b1 s mo y (aQ y) Y) mZ)
 (h2 : ∀ (w : Nat) (e : Int) (y : Fi),iI s mo x = .error (w,e) → R (.pan (gV w e)) (hF b0 b1 s mo y (aQ y) Y) mZ) :
 ah TE 54 [.lp 3 0] (hF b0 b1 s mo x (aQ x) Y) R := by
 have hM : maxLen = 9223372036854775807 := rfl;have e0 := hq.q0 4 (by decide) (by decide);have e1 := hq.q1 4 (by decide) (by decide);have e2 := hq.q2 4 (by decide) (by decide);have dI : ∀ (p : Nat → Bool) (l : Cl),V.drops p (l.map vi) = l.map vi := fun p l => aP _;have dU : ∀ (p : Nat → Bool) (l : List Us),V.drops p (usV l) = usV l := fun p l => jr;have dA : ∀ (p : Nat → Bool) (l : List An),V.drops p (anV l) = anV l := fun p l => kL;unfold iI at h1 h2;refine ah.kp mZ ?_;refine au Tryz.func54 rfl (by simp [nts]) ?_;cases hdef : IW s mo x with
 | error er =>
  obtain ⟨w,e⟩ := er;rw [hdef] at h2;refine ag (bY mixed mW (fun f' h' => False) [] (fun v d kk t h' => d = [] ∧ (∀ j,kk j = true → j = 4) ∧ v = gV w e ∧ ∃ y,h' = hF b0 b1 s mo y (aQ y) Y) (by decide +kernel) (by decide +kernel) ?_ (fun _ _ h => h.elim) ?_)
  ·simp only [wq.1,seval,mW]
   repeat' apply And.intro
   all_goals
    refine kK hs (fun n y hn => by rw [hdef] at hn;cases hn) (fun w' e' y hn => ?_);rw [hdef] at hn;cases hn;simp only [wq.1,aX,gI];exact ⟨y,rfl⟩
  ·rintro v f' h' ⟨kd,kk,rfl,y,rfl⟩;simp only [XE.seq,bz];simp only [wq.1,kd];refine ⟨fun i hi => ?_,h2 w e y rfl⟩;have := kk i hi;subst this;rfl
 | ok ny =>
  obtain ⟨n,y⟩ := ny;rw [hdef] at h1 h2;dsimp only at h1 h2;obtain ⟨⟨b,rfl⟩,n0,n1,n2,n3,n4,n5⟩ := sW hdef;refine ag (bY mixed mW (fun f' h' => f'.t 0 = .lp 3 0 ∧ f'.d = [] ∧ (∀ j,f'.k j = true → j = 4) ∧ h' = hF b0 b1 s mo { x with a := b,D := x.D ++ [n / 2],ins := x.ins ++ [n] } (aQ { x with D := x.D ++ [n / 2] }) Y) [] (fun _ _ _ _ _ => False) (by decide +kernel) (by decide +kernel) ?_ ?_ (fun _ _ _ h => h.elim))
  ·simp only [wq.1,seval,mW]
   repeat' apply And.intro
   all_goals
    refine kK hs (fun n' y hn => ?_) (fun w' e' y hn => by rw [hdef] at hn;cases hn);rw [hdef] at hn;cases hn;simp only [wq.1,seval,dI,dU,dA,e0,e1,e2,dw]
    repeat' apply And.intro
    all_goals first
     | rfl
     | decide
     | omega
     | exact fun j hj => by simpa using hj
     | simp only [hF,aQ,rdT,fiT,List.map_append,List.map_cons,List.map_nil,List.length_append,List.length_singleton]
  ·rintro f' h' ⟨k0,kd,kk,rfl⟩;have kr : ∀ j,(f'.k j || false) = true → mZ j = true := fun j hj => by
    have := kk j (by simpa using hj);subst this;rfl
   refine vm ?_;simp only [wq.1,seval,Tryz.results54,k0];refine lG (s := s) (a := b) (T := fiT { x with ins := x.ins ++ [n] } mo) (by omega) rfl (fun hb => ?_) (fun hb => ?_)
   ·simp only [wq.1,kd];refine ⟨fun i hi => kr i (by simpa using hi),?_⟩;have h1' := h1 { x with a := b + 1,D := x.D ++ [n / 2],ins := x.ins ++ [n] } (by unfold gq;rw [if_pos hb]);simp only [hF,aQ,rdT,fiT,List.map_append,List.map_cons,List.map_nil,List.length_append,List.length_singleton,List.append_assoc] at h1' ⊢;exact h1'
   ·simp only [wq.1,aX,kd];refine ⟨fun i hi => kr i (by simpa using hi),?_⟩;exact h2 b 2 { x with a := b,D := x.D ++ [n / 2],ins := x.ins ++ [n] } (by unfold gq;rw [if_neg (by rw [hb];decide)])
theorem Em {b0 b1 : O} {s : S} {mo : Int} {x : Fi} {W : Cl} {Y : H} (hq : Qt b0 b1 Y) (hs : s.length ≤ 100000) (hl : x.outs.length ≤ 4000) {R : AEnd → H → (Nat → Bool) → Prop}
 (h1 : ∀ y,eX s mo x = .ok y → ∀ X,R (.ret (.tup [])) (hF b0 b1 s mo y W (Y ++ X)) mZ)
 (h2 : ∀ (w : Nat) (e : Int) (y : Fi),eX s mo x = .error (w,e) → ∀ X,R (.pan (gV w e)) (hF b0 b1 s mo y W (Y ++ X)) mZ) :
 ah TE 56 [.lp 3 0] (hF b0 b1 s mo x W Y) R := by
 have hM : maxLen = 9223372036854775807 := rfl;have e0 := hq.q0 8 (by decide) (by decide);have e1 := hq.q1 8 (by decide) (by decide);have e2 := hq.q2 8 (by decide) (by decide);have dI : ∀ (p : Nat → Bool) (l : Cl),V.drops p (l.map vi) = l.map vi := fun p l => aP _;have dU : ∀ (p : Nat → Bool) (l : List Us),V.drops p (usV l) = usV l := fun p l => jr;have dA : ∀ (p : Nat → Bool) (l : List An),V.drops p (anV l) = anV l := fun p l => kL;have hul := yO x.outs;unfold eX at h1 h2;refine ah.kp mZ ?_;refine au Tryz.func56 rfl (by simp [nts]) ?_;cases hdef : Cm s mo x with
 | error er =>
  obtain ⟨w,e⟩ := er;rw [hdef] at h2;refine ag (bY mixed mW (fun f' h' => False) [] (fun v d kk t h' => d = [] ∧ (∀ j,kk j = true → j = 8) ∧ v = gV w e ∧ ∃ y X,h' = hF b0 b1 s mo y W (Y ++ X)) (by decide +kernel) (by decide +kernel) ?_ (fun _ _ h => h.elim) ?_)
  ·simp only [wq.1,seval,mW]
   repeat' apply And.intro
   all_goals
    refine lH hs (fun n y hn => by rw [hdef] at hn;cases hn) (fun w' e' y hn X => ?_);rw [hdef] at hn;cases hn;simp only [wq.1,aX,gI];exact ⟨y,X,rfl⟩
  ·rintro v f' h' ⟨kd,kk,rfl,y,X,rfl⟩;simp only [XE.seq,bz];simp only [wq.1,kd];refine ⟨fun i hi => ?_,h2 w e y rfl X⟩;have := kk i hi;subst this;rfl
 | ok ny =>
  obtain ⟨u,y⟩ := ny;rw [hdef] at h1 h2;dsimp only at h1 h2;obtain ⟨⟨b,rfl⟩,n0,n1,n2,n3⟩ := mG hdef;refine ag (bY mixed mW (fun f' h' => f'.t 0 = .lp 3 0 ∧ f'.d = [] ∧ (∀ j,f'.k j = true → j = 8) ∧ ∃ X,h' = hF b0 b1 s mo { x with a := b,outs := x.outs ++ [u] } W (Y ++ X)) [] (fun _ _ _ _ _ => False) (by decide +kernel) (by decide +kernel) ?_ ?_ (fun _ _ _ h => h.elim))
  ·simp only [wq.1,seval,mW]
   repeat' apply And.intro
   all_goals
    refine lH hs (fun n' y hn X => ?_) (fun w' e' y hn => by rw [hdef] at hn;cases hn);rw [hdef] at hn;cases hn;simp only [wq.1,seval,dI,dU,dA,e0,e1,e2,dw]
    repeat' apply And.intro
    all_goals first
     | rfl
     | decide
     | omega
     | exact fun j hj => by simpa using hj
     | skip
    all_goals
     have eu : usV (x.outs ++ [u]) = usV x.outs ++ [vi u.1,vi u.2] := by simp [usV]
     refine ⟨X.map (O.drop fun x => x == 8),?_⟩;simp only [hF,rdT,fiT,eu,List.length_append,List.length_singleton];rfl
  ·rintro f' h' ⟨k0,kd,kk,X,rfl⟩;have kr : ∀ j,(f'.k j || false) = true → mZ j = true := fun j hj => by
    have := kk j (by simpa using hj);subst this;rfl
   refine vm ?_;simp only [wq.1,seval,Tryz.results56,k0];refine lG (s := s) (a := b) (T := fiT { x with outs := x.outs ++ [u] } mo) (by omega) rfl (fun hb => ?_) (fun hb => ?_)
   ·simp only [wq.1,kd];refine ⟨fun i hi => kr i (by simpa using hi),?_⟩;have h1' := h1 { x with a := b + 1,outs := x.outs ++ [u] } (by unfold gq;rw [if_pos hb]) X;exact h1'
   ·simp only [wq.1,aX,kd];refine ⟨fun i hi => kr i (by simpa using hi),?_⟩;exact h2 b 2 { x with a := b,outs := x.outs ++ [u] } (by unfold gq;rw [if_neg (by rw [hb];decide)]) X
end Go.Proofs.YtfcpapokknfeeaaGreatDoor
