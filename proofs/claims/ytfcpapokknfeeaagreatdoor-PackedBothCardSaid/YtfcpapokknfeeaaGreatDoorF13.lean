/- Lemmas for this claim, part F13: each holds under what it names. -/
import Derived.Test.YtfcpapokknfeeaaGreatDoorF11
import Derived.Test.YtfcpapokknfeeaaGreatDoorF12
import Derived.Test.YtfcpapokknfeeaaGreatDoorA10
set_option linter.unusedVariables false
set_option linter.unusedSimpArgs false
set_option linter.unnecessarySimpa false
set_option maxRecDepth 20000
set_option maxHeartbeats 4000000
namespace Go.Proofs.YtfcpapokknfeeaaGreatDoor
open Go Go.Proofs Go.Abs
def fH (s : S) (a : Nat) (a1 a2 a3 a5 a6 : Int) (u w : V) : List (Nat × Nat × V) := [(0,69,.str s),(1,70,.lp 3 0),(2,71,.lp 3 0),(3,72,.lp 3 0),(4,73,.lp 3 1),(5,74,vi a),(6,75,.lp 11 1),(7,76,vi a1),(8,77,.lp 11 2),(9,78,vi a2),(10,79,.lp 11 3),(11,80,vi a3),(12,81,.lp 11 5),(13,82,vi a5),(14,83,.lp 11 6),(15,84,vi a6),(16,85,.agg [vi a1,vi a2,vi a3,vi a5,vi a6]),(17,86,.tup [u,w]),(18,68,.tup [u,w]),(19,87,u),(20,88,w)]
structure G13 (s : S) (f f0 : Fr) : Prop where
 t0 : f.t 0 = .str s
 t2 : f.t 2 = f0.t 2
 t3 : f.t 3 = f0.t 3
 t4 : f.t 4 = .lp 3 0
 t5 : f.t 5 = .lp 11 0
 d : f.d = f0.d
 k : f.k = f0.k
theorem G13.put {s : S} {f f0 : Fr} (g : G13 s f f0) {d : Nat} {v : V} (hd : d ∉ [0,2,3,4,5]) : G13 s (f.put (some d) v) f0 := by simp only [List.mem_cons,List.not_mem_nil,or_false,not_or] at hd;obtain ⟨h0,h2,h3,h4,h5⟩ := hd;exact ⟨by simpa [Fr.put,Ne.symm h0] using g.t0,by simpa [Fr.put,Ne.symm h2] using g.t2,by simpa [Fr.put,Ne.symm h3] using g.t3,by simpa [Fr.put,Ne.symm h4] using g.t4,by simpa [Fr.put,Ne.symm h5] using g.t5,g.d,g.k⟩
def N13 (L : Array Bool) (B X : H) (f : Fr) (ia is d p : Nat) (zc uc : List V) : Prop := L.getD ia false = true → f.t d = .lp p 0 ∧ B.length ≤ p ∧ (B ++ X)[p]? = some (.cells (if L.getD is false = true then uc else zc))
theorem N13.put {L : Array Bool} {B X : H} {f : Fr} {ia is d p i d' : Nat} {v : V} {zc uc : List V} (hn : N13 L B X f ia is d p zc uc) (h1 : i ≠ ia) (h2 : i ≠ is) (h3 : d' ≠ d) : N13 (L.setIfInBounds i true) B X (f.put (some d') v) ia is d p zc uc := by intro hl;rw [getD_set_ne false h1] at hl;rw [getD_set_ne false h2];obtain ⟨q1,q2,q3⟩ := hn hl;exact ⟨by simpa [Fr.put,Ne.symm h3] using q1,q2,q3⟩
theorem N13.more {L : Array Bool} {B X Z : H} {f : Fr} {ia is d p i d' : Nat} {v : V} {zc uc : List V} (hn : N13 L B X f ia is d p zc uc) (h1 : i ≠ ia) (h2 : i ≠ is) (h3 : d' ≠ d) : N13 (L.setIfInBounds i true) B (X ++ Z) (f.put (some d') v) ia is d p zc uc := by intro hl;rw [getD_set_ne false h1] at hl;rw [getD_set_ne false h2];obtain ⟨q1,q2,q3⟩ := hn hl;refine ⟨by simpa [Fr.put,Ne.symm h3] using q1,q2,?_⟩;rw [← List.append_assoc,List.getElem?_append_left (List.getElem?_eq_some_iff.1 q3).1];exact q3
theorem N13.lt {L : Array Bool} {B X : H} {f : Fr} {ia is d p : Nat} {zc uc : List V} (hn : N13 L B X f ia is d p zc uc) (hl : L.getD ia false = true) : p < B.length + X.length := by have := (List.getElem?_eq_some_iff.1 (hn hl).2.2).1;simpa using this
theorem N13.new {L : Array Bool} {B X : H} {f : Fr} {ia is d : Nat} {zc uc : List V} (h : L.getD is false = false) (hne : ia ≠ is) : N13 (L.setIfInBounds ia true) B (X ++ [.cells zc]) (f.put (some d) (.lp (B.length + X.length) 0)) ia is d (B.length + X.length) zc uc := by intro _;refine ⟨by simp [Fr.put],Nat.le_add_right _ _,?_⟩;rw [getD_set_ne false hne,h,if_neg (by decide),← List.append_assoc,← List.length_append];simp
theorem N13.store {L : Array Bool} {B X : H} {f : Fr} {ia is d p : Nat} {zc uc : List V} (hn : N13 L B X f ia is d p zc uc) (hl : L.getD ia false = true) (hs : is < L.size) : N13 (L.setIfInBounds is true) B (X.set (p - B.length) (.cells uc)) f ia is d p zc uc := by intro _;obtain ⟨q1,q2,q3⟩ := hn hl;refine ⟨q1,q2,?_⟩;have hp := (List.getElem?_eq_some_iff.1 q3).1;rw [if_pos (by simp [Array.getD,hs]),← List.set_append_right _ _ q2,List.getElem?_set_self hp]
theorem N13.other {L : Array Bool} {B X : H} {f : Fr} {ia is d p p' i : Nat} {o : O} {zc uc : List V} (hn : N13 L B X f ia is d p zc uc) (h1 : i ≠ ia) (h2 : i ≠ is) (hb : B.length ≤ p') (hp : L.getD ia false = true → p ≠ p') : N13 (L.setIfInBounds i true) B (X.set (p' - B.length) o) f ia is d p zc uc := by intro hl;rw [getD_set_ne false h1] at hl;rw [getD_set_ne false h2];obtain ⟨q1,q2,q3⟩ := hn hl;refine ⟨q1,q2,?_⟩;rw [← List.set_append_right _ _ hb,List.getElem?_set_ne (Ne.symm (hp hl))];exact q3
theorem Wp {ops : Array Oper} {L : Array Bool} (hc : Dy ops L) {i : Nat} (hi : L.getD i false = true) {l : List Nat} (hl : ZI ops i l = true) : ∀ j ∈ l,L.getD j false = true := by
 intro j hj;unfold ZI at hl;split at hl
 ·rename_i o ho;have h1 := List.all_eq_true.1 hl j hj;rw [Array.any_eq_true] at h1;obtain ⟨q,hq,h3⟩ := h1;rw [Bool.and_eq_true,beq_iff_eq] at h3;rw [← h3.2];exact hc i o ho hi _ (Array.getElem_mem hq) h3.1
 ·cases hl
theorem BZ {ops : Array Oper} {L : Array Bool} (hc : Dy ops L) {i j : Nat} (hj : L.getD j false = false) (hl : ZI ops i [j] = true) : L.getD i false = false := by
 cases h : L.getD i false with
 | false => rfl
 | true => rw [Wp hc h hl j (by simp)] at hj;cases hj
theorem Wq {ee : E} (hP : ee.P = P) (hT : ∀ {g : FuncId} {args : List V} {h : H} {R : AEnd → H → (Nat → Bool) → Prop},ah TE g args h R → ah ee g args h R)
 {r : Option Nat} {Q : XE → Fr → H → Prop} {f0 : Fr} {B : H} {s : S} {a : Nat} {a0 a1 a2 a3 a4 a5 a6 : Int} {T : List V} {n0 n1 n2 n3 n4 : List S} {w0 w1 w2 : Int} (hs : s.length ≤ 100000)
 (g3 : B[3]? = some (rdT s a T)) (g11 : B[11]? = some (.cells [vi a0,vi a1,vi a2,vi a3,vi a4,vi a5,vi a6,vi 0,vi 0]))
 (hy : NE s [a1,a2,a3,a5,a6] a = .tup [.agg [aT n0,aT n1,aT n2,aT n3,aT n4],.agg [vi w0,vi w1,vi w2]])
 (t0 : f0.t 0 = .str s) (t4 : f0.t 4 = .lp 3 0) (t5 : f0.t 5 = .lp 11 0)
 (hk : ∀ f p q X,(∀ o ∈ X,∀ c : Nat → Bool,o.drop c = o) → G13 s f f0 → f.t 8 = .lp p 0 → f.t 9 = .lp q 0 → B.length ≤ p → B.length ≤ q → p ≠ q → (B ++ X)[p]? = some (.cells [aT n0,aT n1,aT n2,aT n3,aT n4]) → (B ++ X)[q]? = some (.cells [vi w0,vi w1,vi w2]) → Q .normal f (B ++ X)) :
 awp ee 143 r (.region 13 (aI Tryz.f18 13) true) Q f0 B := by
 simp only [aI,Tryz.f18,Bc,List.nil_append,List.append_nil,List.headD_cons,Nat.reduceBEq,Bool.false_eq_true,if_false,if_true,List.cons_append];have hmix : ee.P.follows .mixedOrders = true := by rw [hP];exact mixed
 obtain ⟨u,hu⟩ : ∃ u : V,u = .agg [aT n0,aT n1,aT n2,aT n3,aT n4] := ⟨_,rfl⟩;obtain ⟨w,hw⟩ : ∃ w : V,w = .agg [vi w0,vi w1,vi w2] := ⟨_,rfl⟩;have l3 : 3 < B.length := (List.getElem?_eq_some_iff.1 g3).1;have l11 : 11 < B.length := (List.getElem?_eq_some_iff.1 g11).1;have b3 : ∀ X,(B ++ X)[3]? = some (rdT s a T) := fun X => by rw [List.getElem?_append_left l3];exact g3
 have b11 : ∀ X,(B ++ X)[11]? = some (.cells [vi a0,vi a1,vi a2,vi a3,vi a4,vi a5,vi a6,vi 0,vi 0]) := fun X => by rw [List.getElem?_append_left l11];exact g11
 obtain ⟨I,hI⟩ : ∃ I : Array Bool → Fr → H → Prop,∀ L f h,I L f h ↔ ∃ X p q,h = B ++ X ∧ FA L f (fH s a a1 a2 a3 a5 a6 u w) ∧ G13 s f f0 ∧ N13 L B X f 21 23 8 p [.nils,.nils,.nils,.nils,.nils] [aT n0,aT n1,aT n2,aT n3,aT n4] ∧ N13 L B X f 22 24 9 q [vi 0,vi 0,vi 0] [vi w0,vi w1,vi w2] ∧ (L.getD 21 false = true → L.getD 22 false = true → p ≠ q) ∧ (∀ o ∈ X,∀ c : Nat → Bool,o.drop c = o) := ⟨_,fun _ _ _ => Iff.rfl⟩;refine Yh hmix I (fun f h => ∃ X p q,h = B ++ X ∧ (∀ o ∈ X,∀ c : Nat → Bool,o.drop c = o) ∧ G13 s f f0 ∧ f.t 8 = .lp p 0 ∧ f.t 9 = .lp q 0 ∧ B.length ≤ p ∧ B.length ≤ q ∧ p ≠ q ∧ (B ++ X)[p]? = some (.cells [aT n0,aT n1,aT n2,aT n3,aT n4]) ∧ (B ++ X)[q]? = some (.cells [vi w0,vi w1,vi w2])) (by decide +kernel) ?_ ?_ ?_ (fun f h ⟨X,p,q,e,dX,g,a1,a2,a3,a4,a5,a6,a7⟩ => by subst e;exact hk f p q X dX g a1 a2 a3 a4 a5 a6 a7)
 ·refine (hI _ _ _).2 ⟨[],0,0,by simp,FA.none,⟨t0,rfl,rfl,t4,t5,rfl,rfl⟩,fun h => ?_,fun h => ?_,fun h => ?_,fun o ho => (by cases ho)⟩
  all_goals (exfalso;revert h;decide +kernel)
 ·intro L f h i hcl hII hi;obtain ⟨X,p,q,rfl,hfa,hg,hn8,hn9,hpq,hXd⟩ := (hI _ _ _).1 hII;have t0 := hg.t0;have t4 := hg.t4;have t5 := hg.t5;have pu : ∀ (d : Nat) (v : V),(∀ x ∈ fH s a a1 a2 a3 a5 a6 u w,x.1 = i → x.2.1 = d ∧ x.2.2 = v) → (∀ x ∈ fH s a a1 a2 a3 a5 a6 u w,x.2.1 = d → x.1 = i) → (decide (d ∉ [0,2,3,4,5,8,9]) && decide (i < 21)) = true → I (L.setIfInBounds i true) (f.put (some d) v) (B ++ X) := by
   intro d v h1 h2 h3;rw [Bool.and_eq_true,decide_eq_true_eq,decide_eq_true_eq] at h3;simp only [List.mem_cons,List.not_mem_nil,or_false,not_or] at h3;obtain ⟨⟨d0,d2,d3,d4,d5,d8,d9⟩,hlt⟩ := h3;refine (hI _ _ _).2 ⟨X,p,q,rfl,hfa.put h1 h2,hg.put ?_,hn8.put (by omega) (by omega) d8,hn9.put (by omega) (by omega) d9,?_,hXd⟩
   ·simp only [List.mem_cons,List.not_mem_nil,or_false,not_or];exact ⟨d0,d2,d3,d4,d5⟩
   ·rw [getD_set_ne false (by omega),getD_set_ne false (by omega)];exact hpq
  have hlt : i < 25 := Iy hi
  match i,hlt with
  | 0,_ => have pu := pu 69 (.str s) (by simp [fH]) (by simp [fH]) (by decide);simp only [wq.1,Nat.reduceLT,hP,t0];exact pu
  | 1,_ => have pu := pu 70 (.lp 3 0) (by simp [fH]) (by simp [fH]) (by decide);simp only [wq.1,Nat.reduceLT,hP,t4];exact pu
  | 2,_ => have dp := aW hi (l := [1]) (by decide +kernel);have e70 : f.t 70 = .lp 3 0 := hfa (1,70,.lp 3 0) (by simp [fH]) (dp 1 (by simp));have pu := pu 71 (.lp 3 0) (by simp [fH]) (by simp [fH]) (by decide);simp only [wq.1,Nat.reduceLT,hP,e70];exact pu
  | 3,_ => have dp := aW hi (l := [2]) (by decide +kernel);have e71 : f.t 71 = .lp 3 0 := hfa (2,71,.lp 3 0) (by simp [fH]) (dp 2 (by simp));have pu := pu 72 (.lp 3 0) (by simp [fH]) (by simp [fH]) (by decide);simp only [wq.1,Nat.reduceLT,hP,e71];exact pu
  | 4,_ => have dp := aW hi (l := [3]) (by decide +kernel);have e72 : f.t 72 = .lp 3 0 := hfa (3,72,.lp 3 0) (by simp [fH]) (dp 3 (by simp));have pu := pu 73 (.lp 3 1) (by simp [fH]) (by simp [fH]) (by decide);simp only [wq.1,Nat.reduceLT,hP,e72];exact pu
  | 5,_ => have dp := aW hi (l := [4]) (by decide +kernel);have e73 : f.t 73 = .lp 3 1 := hfa (4,73,.lp 3 1) (by simp [fH]) (dp 4 (by simp));have pu := pu 74 (vi a) (by simp [fH]) (by simp [fH]) (by decide);simp only [wq.1,Nat.reduceLT,Nat.reduceLeDiff,Nat.reduceAdd,hP,b3,e73];exact pu
  | 6,_ => have pu := pu 75 (.lp 11 1) (by simp [fH]) (by simp [fH]) (by decide);simp only [wq.1,Nat.reduceLT,Int.reduceToNat,Int.reduceLE,Nat.reduceMul,hP,t5];exact ⟨by decide,pu⟩
  | 7,_ => have dp := aW hi (l := [6]) (by decide +kernel);have e75 : f.t 75 = .lp 11 1 := hfa (6,75,.lp 11 1) (by simp [fH]) (dp 6 (by simp));have pu := pu 76 (vi a1) (by simp [fH]) (by simp [fH]) (by decide);simp only [wq.1,Nat.reduceLT,Nat.reduceLeDiff,Nat.reduceAdd,hP,b11,e75];exact pu
  | 8,_ => have pu := pu 77 (.lp 11 2) (by simp [fH]) (by simp [fH]) (by decide);simp only [wq.1,Nat.reduceLT,Int.reduceToNat,Int.reduceLE,Nat.reduceMul,hP,t5];exact ⟨by decide,pu⟩
  | 9,_ => have dp := aW hi (l := [8]) (by decide +kernel);have e77 : f.t 77 = .lp 11 2 := hfa (8,77,.lp 11 2) (by simp [fH]) (dp 8 (by simp));have pu := pu 78 (vi a2) (by simp [fH]) (by simp [fH]) (by decide);simp only [wq.1,Nat.reduceLT,Nat.reduceLeDiff,Nat.reduceAdd,hP,b11,e77];exact pu
  | 10,_ => have pu := pu 79 (.lp 11 3) (by simp [fH]) (by simp [fH]) (by decide);simp only [wq.1,Nat.reduceLT,Int.reduceToNat,Int.reduceLE,Nat.reduceMul,hP,t5];exact ⟨by decide,pu⟩
  | 11,_ => have dp := aW hi (l := [10]) (by decide +kernel);have e79 : f.t 79 = .lp 11 3 := hfa (10,79,.lp 11 3) (by simp [fH]) (dp 10 (by simp));have pu := pu 80 (vi a3) (by simp [fH]) (by simp [fH]) (by decide);simp only [wq.1,Nat.reduceLT,Nat.reduceLeDiff,Nat.reduceAdd,hP,b11,e79];exact pu
  | 12,_ => have pu := pu 81 (.lp 11 5) (by simp [fH]) (by simp [fH]) (by decide);simp only [wq.1,Nat.reduceLT,Int.reduceToNat,Int.reduceLE,Nat.reduceMul,hP,t5];exact ⟨by decide,pu⟩
  | 13,_ => have dp := aW hi (l := [12]) (by decide +kernel);have e81 : f.t 81 = .lp 11 5 := hfa (12,81,.lp 11 5) (by simp [fH]) (dp 12 (by simp));have pu := pu 82 (vi a5) (by simp [fH]) (by simp [fH]) (by decide);simp only [wq.1,Nat.reduceLT,Nat.reduceLeDiff,Nat.reduceAdd,hP,b11,e81];exact pu
  | 14,_ => have pu := pu 83 (.lp 11 6) (by simp [fH]) (by simp [fH]) (by decide);simp only [wq.1,Nat.reduceLT,Int.reduceToNat,Int.reduceLE,Nat.reduceMul,hP,t5];exact ⟨by decide,pu⟩
  | 15,_ => have dp := aW hi (l := [14]) (by decide +kernel);have e83 : f.t 83 = .lp 11 6 := hfa (14,83,.lp 11 6) (by simp [fH]) (dp 14 (by simp));have pu := pu 84 (vi a6) (by simp [fH]) (by simp [fH]) (by decide);simp only [wq.1,seval,hP,b11,e83];exact pu
  | 16,_ => have dp := aW hi (l := [7,9,11,13,15]) (by decide +kernel);have e76 : f.t 76 = vi a1 := hfa (7,76,vi a1) (by simp [fH]) (dp 7 (by simp));have e78 : f.t 78 = vi a2 := hfa (9,78,vi a2) (by simp [fH]) (dp 9 (by simp));have e80 : f.t 80 = vi a3 := hfa (11,80,vi a3) (by simp [fH]) (dp 11 (by simp));have e82 : f.t 82 = vi a5 := hfa (13,82,vi a5) (by simp [fH]) (dp 13 (by simp));have e84 : f.t 84 = vi a6 := hfa (15,84,vi a6) (by simp [fH]) (dp 15 (by simp));have pu := pu 85 (.agg [vi a1,vi a2,vi a3,vi a5,vi a6]) (by simp [fH]) (by simp [fH]) (by decide);simp only [wq.1,seval,hP,e76,e78,e80,e82,e84];exact pu
  | 17,_ => have dp := aW hi (l := [0,5,16]) (by decide +kernel);have e69 : f.t 69 = .str s := hfa (0,69,.str s) (by simp [fH]) (dp 0 (by simp));have e74 : f.t 74 = vi a := hfa (5,74,vi a) (by simp [fH]) (dp 5 (by simp));have e85 : f.t 85 = .agg [vi a1,vi a2,vi a3,vi a5,vi a6] := hfa (16,85,.agg [vi a1,vi a2,vi a3,vi a5,vi a6]) (by simp [fH]) (dp 16 (by simp));have pu := pu 86 (.tup [u,w]) (by simp [fH]) (by simp [fH]) (by decide);simp only [wq.1,Nat.reduceLT,hP,e69,e74,e85];refine hT (ah.ev (y7 s [a1,a2,a3,a5,a6] a rfl hs) rfl ?_);rw [hy,← hu,← hw];simp only [wq.1];exact pu
  | 18,_ => have dp := aW hi (l := [17]) (by decide +kernel);have e86 : f.t 86 = .tup [u,w] := hfa (17,86,.tup [u,w]) (by simp [fH]) (dp 17 (by simp));have pu := pu 68 (.tup [u,w]) (by simp [fH]) (by simp [fH]) (by decide);simp only [wq.1,Nat.reduceLT,hP,e86];exact pu
  | 19,_ => have dp := aW hi (l := [18]) (by decide +kernel);have e68 : f.t 68 = .tup [u,w] := hfa (18,68,.tup [u,w]) (by simp [fH]) (dp 18 (by simp));have pu := pu 87 (u) (by simp [fH]) (by simp [fH]) (by decide);simp only [wq.1,seval,hP,e68];exact pu
  | 20,_ => have dp := aW hi (l := [18]) (by decide +kernel);have e68 : f.t 68 = .tup [u,w] := hfa (18,68,.tup [u,w]) (by simp [fH]) (dp 18 (by simp));have pu := pu 88 (w) (by simp [fH]) (by simp [fH]) (by decide);simp only [wq.1,seval,hP,e68];exact pu
  | 21,_ => have no := jJ hi;have n3 : L.getD 23 false = false := BZ hcl no (by decide +kernel);simp only [wq.1,Nat.reduceLT,hP];refine (hI _ _ _).2 ⟨X ++ [.cells [.nils,.nils,.nils,.nils,.nils]],B.length + X.length,q,by rw [List.append_assoc],hfa.put (by simp [fH]) (by simp [fH]),hg.put (by decide),N13.new n3 (by decide),hn9.more (by decide) (by decide) (by decide),fun _ h => ?_,fun o ho c => by rcases List.mem_append.1 ho with h | h;exact hXd o h c;rw [List.mem_singleton.1 h];rfl⟩;rw [getD_set_ne false (by decide)] at h;have := hn9.lt h;omega
  | 22,_ => have no := jJ hi;have n3 : L.getD 24 false = false := BZ hcl no (by decide +kernel);simp only [wq.1,Nat.reduceLT,hP];refine (hI _ _ _).2 ⟨X ++ [.cells [vi 0,vi 0,vi 0]],p,B.length + X.length,by rw [List.append_assoc],hfa.put (by simp [fH]) (by simp [fH]),hg.put (by decide),hn8.more (by decide) (by decide) (by decide),N13.new n3 (by decide),fun h _ => ?_,fun o ho c => by rcases List.mem_append.1 ho with h | h;exact hXd o h c;rw [List.mem_singleton.1 h];rfl⟩;rw [getD_set_ne false (by decide)] at h;have := hn8.lt h;omega
  | 23,_ => have dp := aW hi (l := [19,21]) (by decide +kernel);have e87 : f.t 87 = u := hfa (19,87,u) (by simp [fH]) (dp 19 (by simp));rw [hu] at e87;have n8 := hn8.store (dp 21 (by simp)) (oD hi);obtain ⟨z1,z2,z3⟩ := hn8 (dp 21 (by simp));rw [if_neg (by rw [jJ hi];decide)] at z3;simp only [wq.1,Nat.reduceAdd,hP,e87,z1,z3];rw [List.set_append_right _ _ z2];refine (hI _ _ _).2 ⟨_,p,q,rfl,hfa.skip (by simp [fH]),hg,n8,hn9.other (by decide) (by decide) z2 (fun h => Ne.symm (hpq (dp 21 (by simp)) h)),?_,fun o ho c => by rcases List.mem_or_eq_of_mem_set ho with h | h;exact hXd o h c;rw [h];rfl⟩;rw [getD_set_ne false (by decide),getD_set_ne false (by decide)];exact hpq
  | 24,_ => have dp := aW hi (l := [20,22]) (by decide +kernel);have e88 : f.t 88 = w := hfa (20,88,w) (by simp [fH]) (dp 20 (by simp));rw [hw] at e88;have n9 := hn9.store (dp 22 (by simp)) (oD hi);obtain ⟨z1,z2,z3⟩ := hn9 (dp 22 (by simp));rw [if_neg (by rw [jJ hi];decide)] at z3;simp only [wq.1,Nat.reduceAdd,hP,e88,z1,z3];rw [List.set_append_right _ _ z2];refine (hI _ _ _).2 ⟨_,p,q,rfl,hfa.skip (by simp [fH]),hg,hn8.other (by decide) (by decide) z2 (fun h => hpq h (dp 22 (by simp))),n9,?_,fun o ho c => by rcases List.mem_or_eq_of_mem_set ho with h | h;exact hXd o h c;rw [h];rfl⟩;rw [getD_set_ne false (by decide),getD_set_ne false (by decide)];exact hpq
  | n + 25,h => exact absurd h (by omega)
 ·intro L f h hall hII;obtain ⟨X,p,q,rfl,hfa,hg,hn8,hn9,hpq,hXd⟩ := (hI _ _ _).1 hII;obtain ⟨x1,x2,x3⟩ := hn8 (hall 21 (by decide +kernel));obtain ⟨y1,y2,y3⟩ := hn9 (hall 22 (by decide +kernel));rw [if_pos (hall 23 (by decide +kernel))] at x3;rw [if_pos (hall 24 (by decide +kernel))] at y3;exact ⟨X,p,q,rfl,hXd,hg,x1,y1,x2,y2,hpq (hall 21 (by decide +kernel)) (hall 22 (by decide +kernel)),x3,y3⟩
def jf (p8 : Nat) (n0 n1 n2 n3 n4 : List S) (gv mv : V) : List (Nat × Nat × V) := [(0,120,.lp 3 0),(1,121,gv),(2,122,.lp p8 0),(3,123,aT n0),(4,124,.lp p8 1),(5,125,aT n1),(6,126,.lp p8 2),(7,127,aT n2),(8,128,.lp p8 3),(9,129,aT n3),(10,130,.lp p8 4),(11,131,aT n4),(12,132,.is true 1 [aT n2,aT n3,aT n4]),(13,133,aT (n2 ++ (n3 ++ n4))),(14,134,mv)]
structure G23 (p8 : Nat) (f f0 : Fr) : Prop where
 t2 : f.t 2 = f0.t 2
 t3 : f.t 3 = f0.t 3
 t4 : f.t 4 = .lp 3 0
 t8 : f.t 8 = .lp p8 0
 d : f.d = f0.d
 k : f.k = f0.k
theorem G23.put {p8 : Nat} {f f0 : Fr} (g : G23 p8 f f0) {d : Nat} {v : V} (hd : d ∉ [2,3,4,8]) : G23 p8 (f.put (some d) v) f0 := by simp only [List.mem_cons,List.not_mem_nil,or_false,not_or] at hd;obtain ⟨h2,h3,h4,h8⟩ := hd;exact ⟨by simpa [Fr.put,Ne.symm h2] using g.t2,by simpa [Fr.put,Ne.symm h3] using g.t3,by simpa [Fr.put,Ne.symm h4] using g.t4,by simpa [Fr.put,Ne.symm h8] using g.t8,g.d,g.k⟩
theorem N13.base {L : Array Bool} {B B' X X' : H} {f : Fr} {ia is d p : Nat} {zc uc : List V} (hn : N13 L B X f ia is d p zc uc) (hb : B'.length = B.length) (hx : L.getD ia false = true → (B' ++ X')[p]? = (B ++ X)[p]?) : N13 L B' X' f ia is d p zc uc := fun hl => by obtain ⟨q1,q2,q3⟩ := hn hl;exact ⟨q1,by omega,by rw [hx hl];exact q3⟩
theorem Ws {ee : E} (hP : ee.P = P) (hT : ∀ {g : FuncId} {args : List V} {h : H} {R : AEnd → H → (Nat → Bool) → Prop},ah TE g args h R → ah ee g args h R)
 {r : Option Nat} {Q : XE → Fr → H → Prop} {f0 : Fr} {b0 b1 : O} {s : S} {mo : Int} {x : Fi} {Y : H} {p8 : Nat} {n0 n1 n2 n3 n4 : List S}
 (hx : x.ins.length + x.lats.length + x.ands.length ≤ 8000) (hfo : FOk x) (hl1 : x.ands.length ≤ 4000) (hl2 : x.next.length ≤ 4000) (hl3 : x.outs.length ≤ 4000) (hcl : ∀ W Z,(∀ o ∈ Z,∀ c : Nat → Bool,o.drop c = o) → dO (hG b0 b1 s mo x W (Y ++ Z)))
 (hn : (n2 ++ (n3 ++ n4)).length ≤ 1000000000)
 (g8 : ∀ W Z,(hG b0 b1 s mo x W (Y ++ Z))[p8]? = some (.cells [aT n0,aT n1,aT n2,aT n3,aT n4]))
 (t4 : f0.t 4 = .lp 3 0) (t8 : f0.t 8 = .lp p8 0) (hd : f0.d = [])
 (h1 : ∀ o left,iq x.ands ((x.ands.length + 1) * (x.ands.length + 1)) 0 x.left [] = (o,left) → x.ands.find? (fun a => decide (a.lit / 2 ∈ left)) = none → ∀ f W Z p,G23 p8 f f0 → f.t 12 = .lp p 0 → Y.length + 10 ≤ p → (hG b0 b1 s mo x W (Y ++ Z))[p]? = some (.cells (Mo.v ⟨kF x o,n0,n1,n2 ++ (n3 ++ n4)⟩).vc) → Q .normal f (hG b0 b1 s mo x W (Y ++ Z)))
 (h2 : ∀ o left a,iq x.ands ((x.ands.length + 1) * (x.ands.length + 1)) 0 x.left [] = (o,left) → x.ands.find? (fun a => decide (a.lit / 2 ∈ left)) = some a → ∀ f W Z,G23 p8 f f0 → Q (.pan (gV a.pos 7)) f (hG b0 b1 s mo x W (Y ++ Z))) :
 awp ee 143 r (.region 23 (aI Tryz.f18 23) true) Q f0 (hG b0 b1 s mo x (aQ x) Y) := by
 simp only [aI,Tryz.f18,Bc,List.nil_append,List.append_nil,List.headD_cons,Nat.reduceBEq,Bool.false_eq_true,if_false,if_true,List.cons_append];have hmix : ee.P.follows .mixedOrders = true := by rw [hP];exact mixed
 obtain ⟨B,hB⟩ : ∃ B : Cl → H,∀ W,B W = hG b0 b1 s mo x W Y := ⟨_,fun _ => rfl⟩;have hBX : ∀ W X,hG b0 b1 s mo x W (Y ++ X) = B W ++ X := fun W X => by rw [hB];rfl
 have hBl : ∀ W,(B W).length = Y.length + 10 := fun W => by rw [hB];rfl
 have hB0 : hG b0 b1 s mo x (aQ x) Y = B (aQ x) ++ [] := by rw [hB,List.append_nil]
 rw [hB0];simp only [hBX] at g8 h1 h2;obtain ⟨o,left,hso⟩ : ∃ o left,iq x.ands ((x.ands.length + 1) * (x.ands.length + 1)) 0 x.left [] = (o,left) := ⟨_,_,rfl⟩;obtain ⟨m,hm⟩ : ∃ m : Mo,m = ⟨kF x o,n0,n1,n2 ++ (n3 ++ n4)⟩ := ⟨_,rfl⟩;obtain ⟨gv,hgv⟩ : ∃ gv : V,gv = (kF x o).v := ⟨_,rfl⟩;obtain ⟨I,hI⟩ : ∃ I : Array Bool → Fr → H → Prop,∀ L f h,I L f h ↔ ∃ W X p,h = B W ++ X ∧ FA L f (jf p8 n0 n1 n2 n3 n4 gv m.v) ∧ G23 p8 f f0 ∧ N13 L (B W) X f 15 16 12 p [vi 0,.nils,.nils,.nils,.nils,.nils,.nils,.nils] m.v.vc ∧ (L.getD 1 false = false → W = aQ x ∧ ∀ o ∈ X,∀ c : Nat → Bool,o.drop c = o) ∧ (L.getD 1 false = true → x.ands.find? (fun a => decide (a.lit / 2 ∈ left)) = none) := ⟨_,fun _ _ _ => Iff.rfl⟩;refine Va hmix I (by decide +kernel) ?_ ?_ ?_
 ·refine (hI _ _ _).2 ⟨aQ x,[],0,rfl,FA.none,⟨rfl,rfl,t4,t8,rfl,rfl⟩,fun h => ?_,fun _ => ⟨rfl,fun o ho => (by cases ho)⟩,fun h => ?_⟩
  all_goals (exfalso;revert h;decide +kernel)
 ·intro L f h i hcl' hII hi;obtain ⟨W,X,p,rfl,hfa,hg,hn12,hW,hF⟩ := (hI _ _ _).1 hII;have t4 := hg.t4;have t8 := hg.t8;have td : f.d = [] := by rw [hg.d,hd]
  have pu : ∀ (d : Nat) (v : V),(∀ x ∈ jf p8 n0 n1 n2 n3 n4 gv m.v,x.1 = i → x.2.1 = d ∧ x.2.2 = v) → (∀ x ∈ jf p8 n0 n1 n2 n3 n4 gv m.v,x.2.1 = d → x.1 = i) → (decide (d ∉ [2,3,4,8,12]) && decide (i ∉ [1,15,16])) = true → I (L.setIfInBounds i true) (f.put (some d) v) (B W ++ X) := by
   intro d v h1 h2 h3;rw [Bool.and_eq_true,decide_eq_true_eq,decide_eq_true_eq] at h3;simp only [List.mem_cons,List.not_mem_nil,or_false,not_or] at h3;obtain ⟨⟨d2,d3,d4,d8,d12⟩,i1,i15,i16⟩ := h3;refine (hI _ _ _).2 ⟨W,X,p,rfl,hfa.put h1 h2,hg.put ?_,hn12.put i15 i16 d12,?_⟩
   ·simp only [List.mem_cons,List.not_mem_nil,or_false,not_or];exact ⟨d2,d3,d4,d8⟩
   ·rw [getD_set_ne false i1];exact ⟨hW,hF⟩
  have hlt : i < 17 := Iy hi
  match i,hlt with
  | 0,_ =>
   have pu := pu 120 (.lp 3 0) (by simp [jf]) (by simp [jf]) (by decide);simp only [wq.1,Nat.reduceLT,hP,t4]
   first | exact pu | exact ⟨by decide,pu⟩ | exact ⟨⟨by decide,by decide⟩,pu⟩
  | 1,_ =>
   have dp := aW hi (l := [0]) (by decide +kernel);have e120 : f.t 120 = .lp 3 0 := hfa (0,120,.lp 3 0) (by simp [jf]) (dp 0 (by simp));simp only [wq.1,Nat.reduceLT,hP,e120];obtain ⟨rfl,hXd⟩ := hW (jJ hi);rw [← hBX];refine hT (Ho hx hfo.lin hfo.nd hfo.an hl1 hl2 hl3 hfo.nx hfo.ou (fun W => hcl W X hXd) (fun o' left' hs' hf' W' X' => ?_) (fun o' left' a hs' hf' W' X' => ?_))
   ·rw [hso] at hs';cases hs';rw [← hgv,List.append_assoc,hBX];simp only [wq.1];refine (hI _ _ _).2 ⟨W',X ++ X',p,rfl,hfa.put (by simp [jf]) (by simp [jf]),hg.put (by decide),?_,fun h => ?_,fun _ => hf'⟩
    ·refine (hn12.put (i := 1) (d' := 121) (v := gv) (by decide) (by decide) (by decide)).base (by rw [hBl,hBl]) (fun h => ?_);rw [getD_set_ne false (by decide)] at h;have q1 := hn12.lt h;have q2 := (hn12 h).2.1;rw [← List.append_assoc,List.getElem?_append_left (by rw [List.length_append,hBl];rw [hBl] at q1;exact q1),List.getElem?_append_right (by rw [hBl];rw [hBl] at q2;exact q2),List.getElem?_append_right q2,hBl,hBl]
    ·exfalso;rw [show (L.setIfInBounds 1 true).getD 1 false = true by simp [Array.getD,oD hi]] at h;cases h
   ·rw [hso] at hs';cases hs';rw [List.append_assoc,hBX];simp only [wq.1,aX,td];have e1 : (f.drop fun _ => false) = f := by simp
    rw [e1];exact h2 o left a hso hf' _ _ _ hg
  | 2,_ =>
   have pu := pu 122 (.lp p8 0) (by simp [jf]) (by simp [jf]) (by decide);simp only [wq.1,seval,hP,t8]
   first | exact pu | exact ⟨by decide,pu⟩ | exact ⟨⟨by decide,by decide⟩,pu⟩
  | 3,_ =>
   have dp := aW hi (l := [2]) (by decide +kernel);have e122 : f.t 122 = .lp p8 0 := hfa (2,122,.lp p8 0) (by simp [jf]) (dp 2 (by simp));have pu := pu 123 (aT n0) (by simp [jf]) (by simp [jf]) (by decide);simp only [wq.1,seval,hP,g8,e122]
   first | exact pu | exact ⟨by decide,pu⟩ | exact ⟨⟨by decide,by decide⟩,pu⟩
  | 4,_ =>
   have pu := pu 124 (.lp p8 1) (by simp [jf]) (by simp [jf]) (by decide);simp only [wq.1,seval,hP,t8]
   first | exact pu | exact ⟨by decide,pu⟩ | exact ⟨⟨by decide,by decide⟩,pu⟩
  | 5,_ =>
   have dp := aW hi (l := [4]) (by decide +kernel);have e124 : f.t 124 = .lp p8 1 := hfa (4,124,.lp p8 1) (by simp [jf]) (dp 4 (by simp));have pu := pu 125 (aT n1) (by simp [jf]) (by simp [jf]) (by decide);simp only [wq.1,seval,hP,g8,e124]
   first | exact pu | exact ⟨by decide,pu⟩ | exact ⟨⟨by decide,by decide⟩,pu⟩
  | 6,_ =>
   have pu := pu 126 (.lp p8 2) (by simp [jf]) (by simp [jf]) (by decide);simp only [wq.1,seval,hP,t8]
   first | exact pu | exact ⟨by decide,pu⟩ | exact ⟨⟨by decide,by decide⟩,pu⟩
  | 7,_ =>
   have dp := aW hi (l := [6]) (by decide +kernel);have e126 : f.t 126 = .lp p8 2 := hfa (6,126,.lp p8 2) (by simp [jf]) (dp 6 (by simp));have pu := pu 127 (aT n2) (by simp [jf]) (by simp [jf]) (by decide);simp only [wq.1,seval,hP,g8,e126]
   first | exact pu | exact ⟨by decide,pu⟩ | exact ⟨⟨by decide,by decide⟩,pu⟩
  | 8,_ =>
   have pu := pu 128 (.lp p8 3) (by simp [jf]) (by simp [jf]) (by decide);simp only [wq.1,seval,hP,t8]
   first | exact pu | exact ⟨by decide,pu⟩ | exact ⟨⟨by decide,by decide⟩,pu⟩
  | 9,_ =>
   have dp := aW hi (l := [8]) (by decide +kernel);have e128 : f.t 128 = .lp p8 3 := hfa (8,128,.lp p8 3) (by simp [jf]) (dp 8 (by simp));have pu := pu 129 (aT n3) (by simp [jf]) (by simp [jf]) (by decide);simp only [wq.1,seval,hP,g8,e128]
   first | exact pu | exact ⟨by decide,pu⟩ | exact ⟨⟨by decide,by decide⟩,pu⟩
  | 10,_ =>
   have pu := pu 130 (.lp p8 4) (by simp [jf]) (by simp [jf]) (by decide);simp only [wq.1,seval,hP,t8]
   first | exact pu | exact ⟨by decide,pu⟩ | exact ⟨⟨by decide,by decide⟩,pu⟩
  | 11,_ =>
   have dp := aW hi (l := [10]) (by decide +kernel);have e130 : f.t 130 = .lp p8 4 := hfa (10,130,.lp p8 4) (by simp [jf]) (dp 10 (by simp));have pu := pu 131 (aT n4) (by simp [jf]) (by simp [jf]) (by decide);simp only [wq.1,seval,hP,g8,e130]
   first | exact pu | exact ⟨by decide,pu⟩ | exact ⟨⟨by decide,by decide⟩,pu⟩
  | 12,_ =>
   have dp := aW hi (l := [7,9,11]) (by decide +kernel);have e127 : f.t 127 = aT n2 := hfa (7,127,aT n2) (by simp [jf]) (dp 7 (by simp));have e129 : f.t 129 = aT n3 := hfa (9,129,aT n3) (by simp [jf]) (dp 9 (by simp));have e131 : f.t 131 = aT n4 := hfa (11,131,aT n4) (by simp [jf]) (dp 11 (by simp));have pu := pu 132 (.is true 1 [aT n2,aT n3,aT n4]) (by simp [jf]) (by simp [jf]) (by decide);simp only [wq.1,seval,hP,e127,e129,e131]
   first | exact pu | exact ⟨by decide,pu⟩ | exact ⟨⟨by decide,by decide⟩,pu⟩
  | 13,_ => have dp := aW hi (l := [12]) (by decide +kernel);have e132 : f.t 132 = .is true 1 [aT n2,aT n3,aT n4] := hfa (12,132,.is true 1 [aT n2,aT n3,aT n4]) (by simp [jf]) (dp 12 (by simp));have pu := pu 133 (aT (n2 ++ (n3 ++ n4))) (by simp [jf]) (by simp [jf]) (by decide);simp only [wq.1,Nat.reduceLT,hP,e132];refine hT (ah.ev (oH [n2,n3,n4] (by simpa using hn) (by show 3 ≤ 1000000000;omega)) rfl ?_);simp only [wq.1];rw [show [n2,n3,n4].flatten = n2 ++ (n3 ++ n4) by simp];exact pu
  | 14,_ =>
   have dp := aW hi (l := [1,3,5,13]) (by decide +kernel);have e121 : f.t 121 = gv := hfa (1,121,gv) (by simp [jf]) (dp 1 (by simp));have e123 : f.t 123 = aT n0 := hfa (3,123,aT n0) (by simp [jf]) (dp 3 (by simp));have e125 : f.t 125 = aT n1 := hfa (5,125,aT n1) (by simp [jf]) (dp 5 (by simp));have e133 : f.t 133 = aT (n2 ++ (n3 ++ n4)) := hfa (13,133,aT (n2 ++ (n3 ++ n4))) (by simp [jf]) (dp 13 (by simp));have pu := pu 134 (m.v) (by simp [jf]) (by simp [jf]) (by decide);rw [hgv] at e121;rw [hm] at pu;simp only [wq.1,seval,hP,e121,e123,e125,e133]
   first | exact pu | exact ⟨by decide,pu⟩ | exact ⟨⟨by decide,by decide⟩,pu⟩
  | 15,_ =>
   have no := jJ hi;have n3 : L.getD 16 false = false := BZ hcl' no (by decide +kernel);simp only [wq.1,Nat.reduceLT,hP];refine (hI _ _ _).2 ⟨W,X ++ [.cells [vi 0,.nils,.nils,.nils,.nils,.nils,.nils,.nils]],(B W).length + X.length,by rw [List.append_assoc],hfa.put (by simp [jf]) (by simp [jf]),hg.put (by decide),N13.new n3 (by decide),fun h => ?_,fun h => ?_⟩
   ·rw [getD_set_ne false (by decide)] at h;refine ⟨(hW h).1,fun o ho c => ?_⟩;rcases List.mem_append.1 ho with h' | h'
    ·exact (hW h).2 o h' c
    ·rw [List.mem_singleton.1 h'];rfl
   ·rw [getD_set_ne false (by decide)] at h;exact hF h
  | 16,_ =>
   have dp := aW hi (l := [1,14,15]) (by decide +kernel);have e134 : f.t 134 = m.v := hfa (14,134,m.v) (by simp [jf]) (dp 14 (by simp));have n12 := hn12.store (dp 15 (by simp)) (oD hi);obtain ⟨z1,z2,z3⟩ := hn12 (dp 15 (by simp));rw [if_neg (by rw [jJ hi];decide)] at z3;rw [hm] at e134;simp only [wq.1,Nat.reduceAdd,hP,e134,z1,z3,Mo.v];rw [List.set_append_right _ _ z2];rw [hm] at n12;refine (hI _ _ _).2 ⟨W,_,p,rfl,hfa.skip (by simp [jf]),hg,by rw [hm];exact n12,fun h => ?_,fun h => ?_⟩
   ·rw [getD_set_ne false (by decide),dp 1 (by simp)] at h;cases h
   ·exact hF (dp 1 (by simp))
  | n + 17,h => exact absurd h (by omega)
 ·intro L f h hall hII;obtain ⟨W,X,p,rfl,hfa,hg,hn12,hW,hF⟩ := (hI _ _ _).1 hII;obtain ⟨x1,x2,x3⟩ := hn12 (hall 15 (by decide +kernel));rw [if_pos (hall 16 (by decide +kernel)),hm] at x3;rw [hBl] at x2;exact h1 o left hso (hF (hall 1 (by decide +kernel))) f W X p hg x1 x2 x3
def ry : V := .agg [vi 0,aH [],aH [],prs [],aH [],aT [],aT [],aT []]
def iV (s : S) : V := match jO s with
 | .error (w,e) => .tup [ry,bD s w e]
 | .ok m => .tup [m.v,.agg [vi 0,vi 0,vi 0]]
abbrev bM : O := .cells [vi 0,.nils,.nils,.nils,.nils,.nils,.nils,.nils]
abbrev bF : O := .cells [vi 0,vi 0,vi 0]
theorem Fv {s : S} {mo : Int} {x : Fi} {W : Cl} {z : Cl} : dO (hF (.cells [vi 0,.nils,.nils,.nils,.nils,.nils,.nils,.nils]) (.cells [vi 0,vi 0,vi 0]) s mo x W [.cells (z.map vi),.cells (z.map vi)]) := fun p hp => by have p2 := hp 2 (by show 2 < 12;decide);have p4 := hp 4 (by show 4 < 12;decide);have p5 := hp 5 (by show 5 < 12;decide);have p6 := hp 6 (by show 6 < 12;decide);have p7 := hp 7 (by show 7 < 12;decide);have p8 := hp 8 (by show 8 < 12;decide);have p9 := hp 9 (by show 9 < 12;decide);have dI : ∀ (l : Cl),V.drops p (l.map vi) = l.map vi := fun l => aP _;have dU : ∀ (l : List Us),V.drops p (usV l) = usV l := fun l => jr;have dA : ∀ (l : List An),V.drops p (anV l) = anV l := fun l => kL;simp only [wq.1,↓reduceIte,hF,O.drop,V.drops,V.drop,p2,p4,p5,p6,p7,p8,p9,dI,dU,dA]
theorem Fz {s : S} {mo : Int} {x : Fi} {W : Cl} {Z : H} (hZ : ∀ o ∈ Z,∀ c : Nat → Bool,o.drop c = o) : dO (hG bM bF s mo x W Z) := fun p hp => by
 have hl : ∀ i,i < 10 → p i = false := fun i hi => hp i (by show i < Z.length + 10;omega);have p2 := hl 2 (by decide);have p6 := hl 6 (by decide);have p8 := hl 8 (by decide);have p9 := hl 9 (by decide);have dI : ∀ (l : Cl),V.drops p (l.map vi) = l.map vi := fun l => aP _;have dU : ∀ (l : List Us),V.drops p (usV l) = usV l := fun l => jr;have dA : ∀ (l : List An),V.drops p (anV l) = anV l := fun l => kL;have dZ : List.map (O.drop p) Z = Z := by
  conv => rhs;rw [← List.map_id Z]
  exact List.map_congr_left fun o ho => hZ o ho p
 simp only [wq.1,↓reduceIte,hG,O.drop,V.drops,V.drop,p2,p6,p8,p9,dI,dU,dA,dZ]
theorem TR {s : S} {many : Cl} {a : Nat} {N : List (List S)} (h : wK s many a = .ok N) : NE s many a = .tup [.agg [aT (N.getD 0 []),aT (N.getD 1 []),aT (N.getD 2 []),aT (N.getD 3 []),aT (N.getD 4 [])],.agg [vi 0,vi 0,vi 0]] := by unfold NE;rw [h]
theorem TS {s : S} {many : Cl} {a w : Nat} {e : Int} (h : wK s many a = .error (w,e)) : NE s many a = .tup [.agg [aT [],aT [],aT [],aT [],aT []],bD s w e] := by unfold NE;rw [h]
theorem KR {s : S} : ∀ {k : Nat} {L : List (List S)} {a w : Nat} {e : Int},rJ s k L a = .error (w,e) → e ≠ 0
 | 0,L,a,w,e,h => by cases h
 | k + 1,L,a,w,e,h => by
  unfold rJ at h;split at h
  ·cases hn : sS s L a with
   | error er => rw [hn] at h;cases h;exact Fp hn
   | ok r => rw [hn] at h;exact KR h
  ·cases h
theorem KT {s : S} {many : Cl} {a w : Nat} {e : Int} (h : wK s many a = .error (w,e)) : e ≠ 0 := by
 unfold wK at h;split at h
 ·rename_i heq;cases h;exact KR heq
 ·cases h
theorem KU {s : S} : ∀ {k : Nat} {L L' : List (List S)} {a : Nat},rJ s k L a = .ok L' → L.length = 5 → (∀ l ∈ L,l.length ≤ 4000) → ∀ l ∈ L',l.length ≤ 4000
 | 0,L,L',a,h,h5,hb => by cases h;exact hb
 | k + 1,L,L',a,h,h5,hb => by
  unfold rJ at h;split at h
  ·cases hn : sS s L a with
   | error er => rw [hn] at h;cases h
   | ok r => rw [hn] at h;obtain ⟨_,_,h1,h2⟩ := KN hn h5 hb;exact KU h h1 h2
  ·cases h;exact hb
theorem KW {s : S} {many : Cl} {a : Nat} {N : List (List S)} (hm : many.length = 5) (h : wK s many a = .ok N) : ∀ i,(N.getD i []).length ≤ 4000 := by
 unfold wK at h;split at h
 ·cases h
 ·rename_i L heq;cases h;have hb := KU heq (by unfold uq;simpa using hm) (fun l hl => by
   unfold uq at hl;obtain ⟨n,_,rfl⟩ := List.mem_map.1 hl;rw [List.length_replicate];omega)
  have hg : ∀ j,(L.getD j []).length ≤ 4000 := fun j => by
   rw [List.getD_eq_getElem?_getD];cases hj : L[j]? with
   | none => simp
   | some l => exact hb l (List.mem_of_getElem? hj)
  intro i;unfold Np;rcases i with _|_|_|_|_|i
  ·show (jq _ _ _).length ≤ _;rw [dQ];exact hg _
  ·show (jq _ _ _).length ≤ _;rw [dQ];exact hg _
  ·show (jq _ _ _).length ≤ _;rw [dQ];exact hg _
  ·show (jq _ _ _).length ≤ _;rw [dQ];exact hg _
  ·show (jq _ _ _).length ≤ _;rw [dQ];exact hg _
  ·show ([] : List S).length ≤ _;simp
theorem rC {D : Cl} : ∀ {l l' : List Us},fD D (l ++ l') = (match fD D l with
 | some e => some e
 | none => fD D l')
 | [],l' => rfl
 | u :: l,l' => by
  simp only [List.cons_append,fD];split
  ·exact rC
  ·rfl
theorem TT {x : Fi} {N : List (List S)} {o : List Nat} {left : Cl} (hk1 : fD x.D x.next = none) (hk2 : fD x.D x.outs = none) (hk3 : fD x.D x.uses = none) (hso : iq x.ands ((x.ands.length + 1) * (x.ands.length + 1)) 0 x.left [] = (o,left)) :
 wO x N = (match x.ands.find? (fun a => decide (a.lit / 2 ∈ left)) with
  | some a => .error (a.pos,7)
  | none => if Mo.chk ⟨kF x o,N.getD 0 [],N.getD 1 [],N.getD 2 [] ++ (N.getD 3 [] ++ N.getD 4 [])⟩ = 0 then .ok ⟨kF x o,N.getD 0 [],N.getD 1 [],N.getD 2 [] ++ (N.getD 3 [] ++ N.getD 4 [])⟩ else .error (0,Mo.chk ⟨kF x o,N.getD 0 [],N.getD 1 [],N.getD 2 [] ++ (N.getD 3 [] ++ N.getD 4 [])⟩)) := by
 unfold wO;rw [hk1,hk2,hk3,hso];rfl
theorem xy {A : List An} : ∀ {k i : Nat} {left : Cl} {out : List Nat},(iq A k i left out).1.length ≤ out.length + k
 | 0,i,left,out => by simp [iq]
 | k + 1,i,left,out => by
  unfold iq;split
  ·split
   ·refine Nat.le_trans xy ?_;simp only [List.length_append,List.length_singleton];omega
   ·refine Nat.le_trans xy ?_;omega
  ·simp
noncomputable def YU : Nat → Code → Code
 | 0,c => c
 | k + 1,.seq _ b => YU k b
 | _,c => c
noncomputable def XG (f : Func) (k : Nat) : Code := match f.body with
 | some c => YU k c
 | none => .skip
theorem NF {ee : E} (hP : ee.P = P) (hT : ∀ {g : FuncId} {args : List V} {h : H} {R : AEnd → H → (Nat → Bool) → Prop},ah TE g args h R → ah ee g args h R)
 {QP : XE → Fr → H → Prop} {f : Fr} {s : S} {mo : Int} {x : Fi} {X : H} {a0 a1 a2 a3 a4 a5 a6 : Int} {hc : O} {N1 N2 N3 N4 : Nat} (hs : s.length ≤ 100000) (ehc : hc = .cells [vi a0,vi a1,vi a2,vi a3,vi a4,vi a5,vi a6,vi 0,vi 0])
 (hfo : FOk x) (hfl : FLn x N1 N2 N3 N4) (hN : N1 + N2 + N4 ≤ 4000) (hN3 : N3 ≤ 4000)
 (t0 : f.t 0 = .str s) (t2 : f.t 2 = .lp 0 0) (t3 : f.t 3 = .lp 1 0) (t4 : f.t 4 = .lp 3 0) (t5 : f.t 5 = .lp 11 0) (hd : f.d = []) (hk : ∀ j,f.k j = true → 4 ≤ j)
 (hpA : jO s = (match wK s [a1,a2,a3,a5,a6] x.a with
  | .error e => .error e
  | .ok N => wO x N))
 (hpan : ∀ {w : Nat} {e : Int} {f' : Fr} {h : H},jO s = .error (w,e) → f'.d = [] → (∀ j,f'.k j = true → 4 ≤ j) → f'.t 2 = .lp 0 0 → f'.t 3 = .lp 1 0 → h[0]? = some bM → h[1]? = some bF → QP (.pan (gV w e)) f' h)
 (hret : ∀ {v w : V} {c1 c2 : List V} {f' : Fr} {h : H},iV s = .tup [v,w] → v = .agg c1 → w = .agg c2 → V.dats c1 = true → V.dats c2 = true → f'.d = [] → (∀ j,f'.k j = true → 4 ≤ j) → f'.t 2 = .lp 0 0 → f'.t 3 = .lp 1 0 → h[0]? = some (.cells c1) → c1.length = 8 → h[1]? = some (.cells c2) → c2.length = 3 → QP .ret f' h)
 (hretE : ∀ {e1 e2 e3 : Int} {f' : Fr} {h : H},iV s = .tup [ry,.agg [vi e1,vi e2,vi e3]] → f'.d = [] → (∀ j,f'.k j = true → 4 ≤ j) → f'.t 2 = .lp 0 0 → f'.t 3 = .lp 1 0 → h[0]? = some bM → h[1]? = some (.cells [vi e1,vi e2,vi e3]) → QP .ret f' h) :
 awp ee 143 none (XG Tryz.f18 6) QP f (hF bM bF s mo x (aQ x) [hc,hc] ++ X) := by
 have hM : maxLen = 9223372036854775807 := rfl;have hmix : ee.P.follows .mixedOrders = true := by rw [hP];exact mixed
 have hYd : ∀ x W,dO (hF bM bF s mo x W [hc,hc]) := fun x W => by rw [ehc];exact Fv (z := [a0,a1,a2,a3,a4,a5,a6,0,0])
 have hcd : ∀ c : Nat → Bool,hc.drop c = hc := fun c => by rw [ehc];rfl
 simp only [XG,Tryz.f18,YU];refine eU (by rw [hd];simp) ?_;rw [(hYd _ _).from_];obtain ⟨p,hp⟩ : ∃ p : Nat → Bool,p = fun i => i == 4 || i == 5 || i == 7 := ⟨_,rfl⟩;refine qG p (hG bM bF s mo x (aQ x) [hc,hc]) (fun i hi => ?_) (fun i o hi ho => ?_) (fun i hi => ?_) ?_
 ·rcases i with _|_|_|_|_|_|_|_|_|_|_|_|i
  ·exact .inl rfl
  ·exact .inl rfl
  ·exact .inl (by show _ = some (O.map (V.drops _ _) (V.drops _ _));rw [aP,aP];rfl)
  ·refine .inr ⟨_,_,rfl,rfl,?_⟩;refine ⟨.inl rfl,.inl rfl,.inl rfl,.inl (by rw [hp];rfl),.inr ⟨?_,dh ?_ ?_⟩,.inr ⟨?_,dh ?_ ?_⟩,.inl (by rw [hp];rfl),.inr ⟨?_,dh ?_ ?_⟩,.inl (by rw [hp];rfl),.inl (by rw [hp];rfl),trivial⟩
   ·rw [hp];rfl
   ·rw [hp];show some (O.cells (V.drops _ _)) = _;rw [aP]
   ·simp
   ·rw [hp];rfl
   ·rw [hp];show some (O.cells (V.drops _ _)) = _;rw [aP]
   ·simp
   ·rw [hp];rfl
   ·rw [hp];show some (O.cells (V.drops _ _)) = _;rw [aP]
   ·simp
  ·rw [hp] at hi;cases hi
  ·rw [hp] at hi;cases hi
  ·exact .inl (by show _ = some (O.cells (V.drops _ _));rw [jr];rfl)
  ·rw [hp] at hi;cases hi
  ·exact .inl (by show _ = some (O.cells (V.drops _ _));rw [jr];rfl)
  ·exact .inl (by show _ = some (O.cells (V.drops _ _));rw [kL];rfl)
  ·exact .inl (by show _ = some (hc.drop p);rw [hcd];rfl)
  ·exact .inl (by show _ = some (hc.drop p);rw [hcd];rfl)
  ·exact .inl rfl
 ·rw [hp] at hi;simp only [Bool.or_eq_true,beq_iff_eq] at hi;rcases hi with (rfl | rfl) | rfl
  all_goals (cases ho;rfl)
 ·have hi : i ∈ f.d := hi;rw [hd] at hi;cases hi
 ·obtain ⟨f',hf'⟩ : ∃ f' : Fr,f' = { t := fun i => V.drop p ((f.drop (Abs.bC (hF bM bF s mo x (aQ x) [hc,hc]).length)).t i),d := (f.drop (Abs.bC (hF bM bF s mo x (aQ x) [hc,hc]).length)).d,k := fun i => (f.drop (Abs.bC (hF bM bF s mo x (aQ x) [hc,hc]).length)).k i || p i } := ⟨_,rfl⟩;have dr : ∀ i v,f.t i = v → f'.t i = V.drop p (v.drop (Abs.bC 12)) := fun i v h => by rw [hf',← h];rfl
  have u0 : f'.t 0 = .str s := by rw [dr 0 _ t0];rfl
  have u2 : f'.t 2 = .lp 0 0 := by rw [dr 2 _ t2,hp];rfl
  have u3 : f'.t 3 = .lp 1 0 := by rw [dr 3 _ t3,hp];rfl
  have u4 : f'.t 4 = .lp 3 0 := by rw [dr 4 _ t4,hp];rfl
  have u5 : f'.t 5 = .lp 11 0 := by rw [dr 5 _ t5,hp];rfl
  have ud : f'.d = [] := by rw [hf'];exact hd
  have uk : ∀ j,f'.k j = true → 4 ≤ j := fun j hj => by
   rw [hf'] at hj;have hj2 : ((f.k j || Abs.bC 12 j) || p j) = true := hj;rcases Bool.or_eq_true_iff.1 hj2 with h | h
   ·rcases Bool.or_eq_true_iff.1 h with h | h
    ·exact hk j h
    ·have : 12 ≤ j := by simpa [Abs.bC] using h
     omega
   ·rw [hp] at h;simp only [Bool.or_eq_true,beq_iff_eq] at h;omega
  rw [← hf'];clear hf' dr hd hk t0 t2 t3 t4 t5 X;obtain ⟨B,hB⟩ : ∃ B,B = hG bM bF s mo x (aQ x) [hc,hc] := ⟨_,rfl⟩;rw [← hB];refine ag ?_;obtain ⟨n0,n1,n2,n3,n4,w0,w1,w2,hsy,hcase⟩ : ∃ (n0 n1 n2 n3 n4 : List S) (w0 w1 w2 : Int),NE s [a1,a2,a3,a5,a6] x.a = .tup [.agg [aT n0,aT n1,aT n2,aT n3,aT n4],.agg [vi w0,vi w1,vi w2]] ∧ ((w0 ≠ 0 ∧ iV s = .tup [ry,.agg [vi w0,vi w1,vi w2]]) ∨ (w0 = 0 ∧ w1 = 0 ∧ w2 = 0 ∧ jO s = wO x [n0,n1,n2,n3,n4] ∧ n0.length ≤ 4000 ∧ n1.length ≤ 4000 ∧ n2.length ≤ 4000 ∧ n3.length ≤ 4000 ∧ n4.length ≤ 4000)) := by
   cases hsr : wK s [a1,a2,a3,a5,a6] x.a with
   | error er =>
    obtain ⟨w,e⟩ := er;have he := KT hsr;rw [hsr] at hpA;have hf : bD s w e = .agg [vi e,vi (bZ s w).1,vi (bZ s w).2] := by unfold bD;rw [if_neg he]
    refine ⟨[],[],[],[],[],e,_,_,by rw [TS hsr,hf],.inl ⟨he,?_⟩⟩;unfold iV;rw [hpA];show V.tup [ry,bD s w e] = _;rw [hf]
   | ok N => rw [hsr] at hpA;have hl := KW rfl hsr;refine ⟨_,_,_,_,_,0,0,0,TR hsr,.inr ⟨rfl,rfl,rfl,?_,hl 0,hl 1,hl 2,hl 3,hl 4⟩⟩;rw [hpA];rfl
  refine Wq (B := B) (T := fiG x mo) (a0 := a0) (a4 := a4) hP hT hs (by rw [hB];rfl) (by rw [hB,ehc];rfl) hsy u0 u4 u5 (fun f p q X hX g t8 t9 hp8 hq8 hpq hc8 hc9 => ?_);have t0 := g.t0;have t2 := g.t2;have t3 := g.t3;have t4 := g.t4;have gd := g.d;have gk := g.k;rw [u2] at t2;rw [u3] at t3;rw [ud] at gd;rw [← gk] at uk;clear u0 u2 u3 u4 u5 ud gk g f';refine ag (ag (aN hmix _ _ _ _ ?_));simp only [wq.1,seval,hP,t9,hc9];have B0 : ∀ X,(B ++ X)[0]? = some bM := fun X => by rw [hB];rfl
  have B1 : ∀ X,(B ++ X)[1]? = some bF := fun X => by rw [hB];rfl
  have hBl : B.length = 12 := by rw [hB];rfl
  refine bQ (b := decide (w0 ≠ 0)) (by simp only [wq.1,↓reduceIte]) (by simp only [wq.1,↓reduceIte,bne,BEq.beq];try simp) (fun hb => ?_) (fun hb => ?_)
  ·rcases hcase with ⟨hw,hv⟩ | ⟨hw,_⟩
   ·refine ag ?_;have l0 : 0 < (B ++ X).length := (List.getElem?_eq_some_iff.1 (B0 X)).1;have l1 : 1 < (B ++ X).length := (List.getElem?_eq_some_iff.1 (B1 X)).1;have q0 : q ≠ 0 := by omega
    have q1 : q ≠ 1 := by omega
    obtain ⟨HH,hHH⟩ : ∃ HH,HH = B ++ X := ⟨_,rfl⟩;have e0 := B0 X;have e1 := B1 X;rw [← hHH] at l0 l1 e0 e1 hc9 ⊢;have z1 : (HH.set 0 bM)[1]? = some bF := by rw [List.getElem?_set_ne (by decide)];exact e1
    have zq : (HH.set 0 bM)[q]? = some (.cells [vi w0,vi w1,vi w2]) := by rw [List.getElem?_set_ne (Ne.symm q0)];exact hc9
    have z0 : ((HH.set 0 bM).set 1 (.cells [vi w0,vi w1,vi w2]))[0]? = some bM := by rw [List.getElem?_set_ne (by decide),List.getElem?_set_self l0]
    have z3 : ((HH.set 0 bM).set 1 (.cells [vi w0,vi w1,vi w2]))[1]? = some (.cells [vi w0,vi w1,vi w2]) := by rw [List.getElem?_set_self (by rw [List.length_set];exact l1)]
    refine bu hmix (.alt 0 (.alt 1 (.one 2 <| .one 3 <| .fin) (.one 2 (.one 1 <| .one 3 <| .fin))) (.one 1 (.one 0 <| .one 2 <| .one 3 <| .fin))) (fun f h => f.t 2 = .lp 0 0 ∧ f.t 3 = .lp 1 0 ∧ f.d = [] ∧ (∀ j,f.k j = true → 4 ≤ j) ∧ h[0]? = some bM ∧ h[1]? = some (.cells [vi w0,vi w1,vi w2])) (by rw [hP];decide +kernel) (by decide +kernel) ?_ ?_
    ·simp only [wq.1,seval,hP,t2,t3,t9,gd,hc9,e0,z1,zq,z0,z3];exact uk
    ·rintro f h ⟨t2,t3,gd,uk,g0,g1⟩;show awp _ _ _ _ _ _ _;refine aN hmix _ _ _ _ ?_;simp only [wq.1];exact hretE hv gd uk t2 t3 g0 g1
   ·exact absurd hb (by simp [hw])
  ·rcases hcase with ⟨hw,hv⟩ | ⟨rfl,rfl,rfl,hpE,ln0,ln1,ln2,ln3,ln4⟩
   ·exact absurd hb (by simp [hw])
   clear hc9 hq8 hpq hb;obtain ⟨SF,hSF⟩ : ∃ SF : Fr → Prop,∀ f,SF f ↔ f.t 2 = .lp 0 0 ∧ f.t 3 = .lp 1 0 ∧ f.t 4 = .lp 3 0 ∧ f.t 8 = .lp p 0 ∧ f.d = [] ∧ (∀ j,f.k j = true → 4 ≤ j) := ⟨_,fun _ => Iff.rfl⟩;have hpl : p < (B ++ X).length := (List.getElem?_eq_some_iff.1 hc8).1;have hXc : ∀ o ∈ [hc,hc] ++ X,∀ c : Nat → Bool,o.drop c = o := fun o ho c => by
    rcases List.mem_append.1 ho with h | h
    ·simp only [List.mem_cons,List.not_mem_nil,or_false,or_self] at h;rw [h];exact hcd c
    ·exact hX o h c
   have hBX : ∀ Z,(B ++ X) ++ Z = hG bM bF s mo x (aQ x) (([hc,hc] ++ X) ++ Z) := fun Z => by rw [hB];simp only [List.append_assoc,List.cons_append,List.nil_append]
   have hBXl : (B ++ X).length = X.length + 12 := by rw [List.length_append,hBl];omega
   have hcut : ∀ {c : Code} {Q : XE → Fr → H → Prop} {f : Fr} {Z : H},SF f → (∀ f',(∀ i,f'.t i = (f.t i).drop (Abs.bC (X.length + 12))) → SF f' → awp ee 143 none c Q f' (B ++ X)) → awp ee 143 none c Q f ((B ++ X) ++ Z) := by
    intro c Q f Z hf hw;obtain ⟨q2,q3,q4,q8,qd,qk⟩ := (hSF _).1 hf;refine eU (by rw [qd];simp) ?_;have hcl : dO (B ++ X) := by
     have := Fz (s := s) (mo := mo) (x := x) (W := aQ x) hXc;rw [show hG bM bF s mo x (aQ x) ([hc,hc] ++ X) = B ++ X by rw [hB];rfl] at this;exact this
    rw [hcl.from_,hBXl];refine hw _ (fun i => rfl) ((hSF _).2 ⟨?_,?_,?_,?_,qd,fun j hj => ?_⟩)
    ·show (f.t 2).drop _ = _;rw [q2];simp [V.drop,Abs.bC]
    ·show (f.t 3).drop _ = _;rw [q3];simp [V.drop,Abs.bC]
    ·show (f.t 4).drop _ = _;rw [q4];simp [V.drop,Abs.bC]
    ·show (f.t 8).drop _ = _;rw [q8];rw [hBXl] at hpl;simp [V.drop,Abs.bC];omega
    ·have hj2 : (f.k j || Abs.bC (X.length + 12) j) = true := hj;rcases Bool.or_eq_true_iff.1 hj2 with h | h
     ·exact qk j h
     ·have : X.length + 12 ≤ j := by simpa [Abs.bC] using h
      omega
   have zau : ∀ (l : List Us) (i : Nat) (h : i < l.length),((usV l).drop (0 + i * 2)).take 2 = [vi l[i].1,vi l[i].2] := by
    intro l
    induction l with
    | nil => intro i h;cases h
    | cons u l ih =>
     intro i h;cases i with
     | zero => rfl
     | succ i => have := ih i (by simpa using h);rw [show 0 + (i + 1) * 2 = (0 + i * 2) + 2 by omega];simpa [usV] using this
   have yO : ∀ (l : List Us),(usV l).length = l.length * 2 := by
    intro l
    induction l with
    | nil => rfl
    | cons u l ih => show (vi u.1 :: vi u.2 :: usV l).length = _;simp only [List.length_cons,ih];omega
   simp only [wq.1,Int.reduceBNe];have hkn : ∀ {id : Nat} {l : List Us} {cap : Nat} {R : AEnd → H → (Nat → Bool) → Prop},(B ++ X)[id]? = some (.cells (usV l)) → l.length ≤ 4000 → (∀ u ∈ l,0 ≤ u.1 ∧ u.1 ≤ 2147483647) → (fD x.D l = none → ∀ Z,R (.ret (.tup [])) ((B ++ X) ++ Z) (fun _ => false)) → (∀ (w : Nat) (e : Int),fD x.D l = some (w,e) → ∀ Z,R (.pan (gV w e)) ((B ++ X) ++ Z) (fun _ => false)) → ah ee 58 [.lp 3 0,.ls id 2 0 l.length cap] (B ++ X) R := by
    intro id l cap R hid hl hu h1 h2;have e0 := hBX [];rw [List.append_nil,List.append_nil] at e0;rw [e0] at hid ⊢;refine hT (xk (by simp [aQ]) hid (zau l) (by rw [yO];omega) hl hu (fun hk Z => ?_) (fun w e hk Z => ?_))
    ·rw [← hBX];exact h1 hk Z
    ·rw [← hBX];exact h2 w e hk Z
   have b6 : (B ++ X)[6]? = some (.cells (usV x.next)) := by rw [hB];rfl
   have b8 : (B ++ X)[8]? = some (.cells (usV x.outs)) := by rw [hB];rfl
   have b3 : (B ++ X)[3]? = some (rdT s x.a (fiG x mo)) := by rw [hB];rfl
   have hSF0 : SF (((f.put (some 89) (V.lp q 0)).put (some 90) (vi 0)).put (some 91) (V.bool false)) := (hSF _).2 ⟨by simp only [wq.1,seval,t2],by simp only [wq.1,seval,t3],by simp only [wq.1,seval,t4],by simp only [wq.1,seval,t8],by simp only [wq.1,gd],uk⟩;generalize hf1 : ((f.put (some 89) (V.lp q 0)).put (some 90) (vi 0)).put (some 91) (V.bool false) = f1 at hSF0 ⊢;clear hf1 t0 t2 t3 t4 t8 t9 gd uk f;have hpk : ∀ {w : Nat} {e : Int} {f : Fr} {Z : H},jO s = .error (w,e) → SF f → QP (.pan (gV w e)) f ((B ++ X) ++ Z) := fun hp hf => by obtain ⟨t2,t3,t4,t8,gd,uk⟩ := (hSF _).1 hf;exact hpan hp gd uk t2 t3 (by rw [List.append_assoc];exact B0 _) (by rw [List.append_assoc];exact B1 _)
   have hSFp : ∀ {f : Fr} {d : Nat} {v : V},SF f → d ∉ [2,3,4,8] → SF (f.put (some d) v) := fun {f d v} hf hd => by obtain ⟨t2,t3,t4,t8,gd,uk⟩ := (hSF _).1 hf;simp only [List.mem_cons,List.not_mem_nil,or_false,not_or] at hd;exact (hSF _).2 ⟨by simpa [Fr.put,Ne.symm hd.1] using t2,by simpa [Fr.put,Ne.symm hd.2.1] using t3,by simpa [Fr.put,Ne.symm hd.2.2.1] using t4,by simpa [Fr.put,Ne.symm hd.2.2.2] using t8,gd,uk⟩
   refine aN hmix _ _ _ _ ?_;simp only [wq.1];obtain ⟨t2,t3,t4,t8,gd,uk⟩ := (hSF _).1 hSF0;refine ag (aN hmix _ _ _ _ ?_);simp only [wq.1,seval,hP,t4,b3];refine hkn b6 (by have := hfl.l3;omega) hfo.nx (fun hk1 Z => ?_) (fun w e hk1 Z => ?_)
   ·simp only [wq.1];refine hcut (by (try simp only [Fr.drop_none]);repeat (first | exact hSF0 | refine hSFp ?_ (by decide))) (fun f2 _ hSF2 => ?_);clear t2 t3 t4 t8 gd uk;obtain ⟨t2,t3,t4,t8,gd,uk⟩ := (hSF _).1 hSF2;refine ag (aN hmix _ _ _ _ ?_);simp only [wq.1,seval,hP,t4,b3];refine hkn b8 (by have := hfl.l5;omega) hfo.ou (fun hk2 Z => ?_) (fun w e hk2 Z => ?_)
    ·simp only [wq.1];refine hcut (by (try simp only [Fr.drop_none]);repeat (first | exact hSF2 | refine hSFp ?_ (by decide))) (fun f3 _ hSF3 => ?_);clear t2 t3 t4 t8 gd uk;obtain ⟨t2,t3,t4,t8,gd,uk⟩ := (hSF _).1 hSF3;refine ag (ag (aN hmix _ _ _ _ ?_));simp only [wq.1,seval,hP,t4,b3];have lA : x.ands.length = N4 := hfl.l6;refine bG (Q := fun xe f h' => (xe = .normal ∧ fD x.D x.uses = none ∧ SF f ∧ h' = B ++ X) ∨ (xe ≠ .normal ∧ QP xe f h')) ?_ ?_
     ·rintro xe f h' (⟨rfl,hk3,hSF4,rfl⟩ | ⟨hx,hq⟩)
      ·show awp _ _ _ _ _ _ _;obtain ⟨t2,t3,t4,t8,gd,uk⟩ := (hSF _).1 hSF4;have hX8 : X[p - 12]? = some (.cells [aT n0,aT n1,aT n2,aT n3,aT n4]) := by rw [List.getElem?_append_right hp8,hBl] at hc8;exact hc8
       have g8 : ∀ W Z,(hG bM bF s mo x W (([hc,hc] ++ X) ++ Z))[p]? = some (.cells [aT n0,aT n1,aT n2,aT n3,aT n4]) := fun W Z => by rw [show hG bM bF s mo x W (([hc,hc] ++ X) ++ Z) = hG bM bF s mo x W [hc,hc] ++ (X ++ Z) by simp only [List.append_assoc,List.cons_append,List.nil_append],List.getElem?_append_right (by rw [hBl] at hp8;exact hp8)];show (X ++ Z)[p - 12]? = _;rw [List.getElem?_append_left (List.getElem?_eq_some_iff.1 hX8).1];exact hX8
       have e0 := hBX [];rw [List.append_nil,List.append_nil] at e0;rw [e0];have l1 := hfl.l1;have l2 := hfl.l2;have l3 := hfl.l3;have l5 := hfl.l5;refine ag (Ws hP hT (by omega) hfo (by omega) (by omega) (by omega) (fun W Z hZ => Fz (fun o ho c => by
        rcases List.mem_append.1 ho with h | h
        ·exact hXc o h c
        ·exact hZ o h c)) (by simp only [List.length_append];omega) g8 t4 t8 gd (fun o left hso hfi f' W Z p' hg t12 hp' hcell => ?_) (fun o left a hso hfi f' W Z hg => ?_))
       ·have t2 := hg.t2.trans t2;have t3 := hg.t3.trans t3;have gd' := hg.d.trans gd;have uk' : ∀ j,f'.k j = true → 4 ≤ j := fun j hj => by rw [hg.k] at hj;exact uk j hj
        obtain ⟨m,hm⟩ : ∃ m : Mo,m = ⟨kF x o,n0,n1,n2 ++ (n3 ++ n4)⟩ := ⟨_,rfl⟩;rw [← hm] at hcell;obtain ⟨HH,hHH⟩ : ∃ HH,HH = hG bM bF s mo x W (([hc,hc] ++ X) ++ Z) := ⟨_,rfl⟩;have g0 : HH[0]? = some bM := by rw [hHH];rfl
        have g1 : HH[1]? = some bF := by rw [hHH];rfl
        rw [← hHH] at hcell ⊢;have hpE' : jO s = if Mo.chk m = 0 then .ok m else .error (0,Mo.chk m) := by
         rw [hpE,TT hk1 hk2 hk3 hso,hfi,hm];rfl
        show awp _ _ _ _ _ _ _;refine ag (aN hmix _ _ _ _ ?_);have hsm : m.g.Sm := by
         have hol := xy (A := x.ands) (k := (x.ands.length + 1) * (x.ands.length + 1)) (i := 0) (left := x.left) (out := []);rw [hso,List.length_nil,Nat.zero_add] at hol;have hq : (x.ands.length + 1) * (x.ands.length + 1) ≤ 4001 * 4001 := Nat.mul_le_mul (by omega) (by omega);have hol : o.length ≤ (x.ands.length + 1) * (x.ands.length + 1) := hol;rw [hm];refine ⟨?_,?_⟩
         ·show (x.next.map _).length ≤ _;rw [List.length_map];omega
         ·show (o.map _).length ≤ _;rw [List.length_map];omega
        have hlc := vU m hsm;have hdm : V.dats [m.v] = true := by simp only [Mo.v,V.dats,V.dat,Bool.and_self]
        unfold Mo.v at hlc hdm;simp only [wq.1,seval,hP,t12,hcell,Mo.v];refine hT (ah.ev hlc hdm ?_);simp only [wq.1,seval];refine ag (aN hmix _ _ _ _ ?_);simp only [wq.1,seval,hP];refine hT (aO (decide (m.chk = 0)) 0 m.chk (fun hc0 => ?_) (fun hc0 => ?_))
        ·have hc0 : m.chk = 0 := of_decide_eq_true hc0;rw [if_pos hc0] at hpE';have hv : iV s = .tup [m.v,.agg [vi 0,vi 0,vi 0]] := by unfold iV;rw [hpE']
         have z1 : ∀ C : O,(HH.set 0 C)[1]? = some bF := fun C => by rw [List.getElem?_set_ne (by decide)];exact g1
         have hl0 : 0 < HH.length := (List.getElem?_eq_some_iff.1 g0).1;have hl1 : 1 < HH.length := (List.getElem?_eq_some_iff.1 g1).1;have z0 : ∀ C D : O,((HH.set 0 C).set 1 D)[0]? = some C := fun C D => by rw [List.getElem?_set_ne (by decide),List.getElem?_set_self hl0]
         have z3 : ∀ C D : O,((HH.set 0 C).set 1 D)[1]? = some D := fun C D => by rw [List.getElem?_set_self (by rw [List.length_set];exact hl1)]
         simp only [wq.1];refine ag (aN hmix _ _ _ _ ?_);simp only [wq.1,seval,hP,t12,hcell,Mo.v,t2,t3,g0,z1];refine aN hmix _ _ _ _ ?_;simp only [wq.1];refine hret hv (show m.v = .agg _ from rfl) rfl (by simp only [V.dats,V.dat,Bool.and_self]) rfl (by simp only [wq.1,gd']) uk' (by simp only [wq.1,seval,t2]) (by simp only [wq.1,seval,t3]) (z0 _ _) rfl (z3 _ _) rfl
        ·have hc0 : m.chk ≠ 0 := of_decide_eq_false hc0;rw [if_neg hc0] at hpE';simp only [wq.1,aX,gd'];simp only [XE.seq];exact hpan (w := 0) hpE' (by simp only [wq.1,gd']) (fun j hj => uk' j (by simpa [Fr.put,Fr.drop_none] using hj)) (by simp only [wq.1,seval,t2]) (by simp only [wq.1,seval,t3]) g0 g1
       ·refine hpan ?_ (hg.d.trans gd) (fun j hj => by rw [hg.k] at hj;exact uk j hj) (hg.t2.trans t2) (hg.t3.trans t3) rfl rfl;rw [hpE,TT hk1 hk2 hk3 hso,hfi]
      ·cases xe with
       | normal => exact absurd rfl hx
       | _ => exact hq
     ·refine az ?_;refine aF (fun mm f h' => ∃ i Z,mm + i = x.ands.length ∧ fD x.D ((x.ands.take i).flatMap fun a => [a.p,a.q]) = none ∧ SF f ∧ f.t 109 = .ls 9 6 0 x.ands.length x.ands.length ∧ f.t 110 = vi x.ands.length ∧ f.t 111 = vi i ∧ h' = (B ++ X) ++ Z) x.ands.length ⟨0,[],by simp,by simp [fD],by (try simp only [Fr.drop_none]);repeat (first | exact hSF3 | refine hSFp ?_ (by decide)),by simp only [wq.1,seval],by simp only [wq.1,seval],rfl,by simp⟩ ?_;rintro mm f h' ⟨i,Z,hm,hkn1,hSFf,t109,t110,t111,rfl⟩;refine hcut hSFf (fun f' hf' hSF4 => ?_);have u109 : f'.t 109 = .ls 9 6 0 x.ands.length x.ands.length := by rw [hf',t109];simp [V.drop,Abs.bC]
      have u110 : f'.t 110 = vi x.ands.length := by rw [hf',t110];rfl
      have u111 : f'.t 111 = vi i := by rw [hf',t111];rfl
      clear t2 t3 t4 t8 gd uk t109 t110 t111 hf' hSFf;obtain ⟨t2,t3,t4,t8,gd,uk⟩ := (hSF _).1 hSF4;have b9 : (B ++ X)[9]? = some (.cells (anV x.ands)) := by rw [hB];rfl
      refine ag (aN hmix _ _ _ _ ?_);simp only [wq.1,Nat.reduceLT,hP,u110,u111];refine ag (aN hmix _ _ _ _ ?_);simp only [wq.1,↓reduceIte];refine vcB.mk (fun hlt => ?_) (fun hlt => ?_)
      ·have hlt : i < x.ands.length := by have := of_decide_eq_true hlt;omega
       have hce := oM hlt;have hanl := yP x.ands;refine ag (az ?_);refine ag (aN hmix _ _ _ _ ?_);have gx : ∀ o : O,(B ++ X ++ [o])[B.length + X.length]? = some o := fun o => by rw [← List.length_append];simp
       have sx : ∀ o o' : O,(B ++ X ++ [o]).set (B.length + X.length) o' = B ++ X ++ [o'] := fun o o' => by rw [← List.length_append];simp
       simp only [wq.1,seval,hP,u109,u111,b9,hce,gx,sx];refine ⟨⟨by omega,by omega⟩,by omega,?_⟩;have hma : x.ands[i] ∈ x.ands := List.getElem_mem hlt;obtain ⟨a1,a2,a3,a4,a5,a6,a7⟩ := hfo.an _ hma;have huse : x.uses = (x.ands.take i).flatMap (fun a => [a.p,a.q]) ++ ([x.ands[i].p,x.ands[i].q] ++ (x.ands.drop (i + 1)).flatMap (fun a => [a.p,a.q])) := by
        unfold Fi.uses
        conv => lhs;rw [show x.ands = x.ands.take i ++ (x.ands[i] :: x.ands.drop (i + 1)) by rw [← List.drop_eq_getElem_cons hlt,List.take_append_drop]]
        simp only [List.flatMap_append,List.flatMap_cons]
       have hq : ti ee.P 112 = some ⟨.arr 2 111 none,4,32,.agg [vi 0,vi 0,vi 0,vi 0]⟩ := by rw [hP];simp only [wq.1]
       obtain ⟨re,hre,hre2⟩ : ∃ re,ti ee.P 111 = some re ∧ re.size = 2 := by rw [hP];refine ⟨_,by simp only [wq.1];rfl,rfl⟩
       refine fB ?_;refine ay rfl rfl ?_;simp only [wq.1,seval,hP,t4];refine ay rfl rfl ?_;simp only [wq.1,seval,hP];refine bW rfl rfl ?_;refine Bd (t := 112) rfl hq rfl hre (by simp only [wq.1,↓reduceIte]) (id := B.length + X.length) (off := 2) (by simp only [wq.1,↓reduceIte]) (gx _) (by rw [hre2];simp) (by omega) ?_;rw [hre2];refine ay rfl rfl ?_;simp only [wq.1,seval,hP];rw [hBX];refine hT (xk (l := [x.ands[i].p,x.ands[i].q]) (cs := [vi x.ands[i].lit,vi x.ands[i].pos,vi x.ands[i].p.1,vi x.ands[i].p.2,vi x.ands[i].q.1,vi x.ands[i].q.2]) (by simp [aQ]) (by rw [← hBX];exact gx _) (fun j hj => ?_) (by simp) (by simp) (fun u hu => ?_) (fun hk Z => ?_) (fun w e hk Z => ?_))
       ·rcases j with _|_|j
        ·rfl
        ·rfl
        ·exact absurd hj (by simp)
       ·simp only [List.mem_cons,List.not_mem_nil,or_false] at hu;rcases hu with rfl | rfl
        ·exact ⟨a3,a4⟩
        ·exact ⟨a5,a6⟩
       ·have ht : (x.ands.take (i + 1)).flatMap (fun a => [a.p,a.q]) = (x.ands.take i).flatMap (fun a => [a.p,a.q]) ++ [x.ands[i].p,x.ands[i].q] := by rw [List.take_add_one,List.getElem?_eq_getElem hlt];simp only [Option.toList_some,List.flatMap_append,List.flatMap_cons,List.flatMap_nil,List.append_nil]
        rw [List.append_assoc,← hBX];simp only [wq.1];refine bT ?_;simp only [XE.seq,XE.block];have hw := ax (show i < maxLen by omega);refine aN hmix _ _ _ _ ?_;simp only [wq.1,seval,hP,u111,hw];refine .inl ⟨mm - 1,by omega,i + 1,_,by omega,by rw [ht,rC,hkn1];exact hk,?_,by simp only [wq.1,seval,u109],by simp only [wq.1,seval,u110],rfl,rfl⟩
        (try simp only [Fr.drop_none]);repeat (first | exact hSF4 | refine hSFp ?_ (by decide))
       ·rw [List.append_assoc,← hBX];simp only [wq.1,aX,gd];simp only [XE.seq,XE.block];refine .inr ⟨fun h => (by cases h),hpk ?_ ?_⟩
        ·rw [hpE];unfold wO;rw [hk1,hk2,huse,rC,hkn1];show (match fD x.D ([x.ands[i].p,x.ands[i].q] ++ _) with | some e => _ | none => _) = _;rw [rC,hk]
        ·(try simp only [Fr.drop_none]);repeat (first | exact hSF4 | refine hSFp ?_ (by decide))
      ·have hiN : i = x.ands.length := by have := of_decide_eq_false hlt;omega
       subst hiN;rw [List.take_length] at hkn1;simp only [wq.1];refine .inl ⟨hkn1,?_⟩
       (try simp only [Fr.drop_none]);repeat (first | exact hSF4 | refine hSFp ?_ (by decide))
    ·simp only [wq.1,aX,gd];simp only [XE.seq];exact hpk (by rw [hpE];unfold wO;rw [hk1,hk2]) (by (try simp only [Fr.drop_none]);repeat (first | exact hSF2 | refine hSFp ?_ (by decide)))
   ·simp only [wq.1,aX,gd];simp only [XE.seq];exact hpk (by rw [hpE];unfold wO;rw [hk1]) (by (try simp only [Fr.drop_none]);repeat (first | exact hSF0 | refine hSFp ?_ (by decide)))
end Go.Proofs.YtfcpapokknfeeaaGreatDoor
